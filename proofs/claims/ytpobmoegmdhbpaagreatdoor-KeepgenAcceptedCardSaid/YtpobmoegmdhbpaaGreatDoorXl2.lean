/- Contracts and plain lemmas (LslE, PLawA, PLawB): no statement of the seat is proved here. -/
import Derived.Test.YtpobmoegmdhbpaaGreatDoorXl1
import Derived.Test.YtpobmoegmdhbpaaGreatDoorXs1
import Derived.Test.YtpobmoegmdhbpaaGreatDoorXc1
import Derived.Test.YtpobmoegmdhbpaaGreatDoorXq28
set_option linter.unusedSimpArgs false
set_option linter.unusedVariables false
set_option linter.unusedSectionVars false
set_option maxRecDepth 100000
set_option maxHeartbeats 1600000
namespace Go.Proofs.YtpobmoegmdhbpaaGreatDoor
open Go.RowKit
def copyPrc:Prc:=⟨lcopyS,[dclN aS true,dclN bS true],copyB⟩
def spillPrc:Prc:=⟨lspillS,[dclN aS true,dclN gS true],spillB⟩
def libPrcs:List Prc:=[copyPrc,spillPrc]
theorem zos {α:Type} [Inhabited α] {E:Elem α} {A:Nat→Prop} {w:World} {g:Nat} {cs:Array Value} {e:Nat} {x y:α} (h:w.heap[g]?=some (.cells cs e (0,0))) (hA:A g) (hs:cs.size=E.size+E.size) (hx:E.C A w (fun i=>cs.getD i undef) x) (hy:E.C A w (fun i=>cs.getD (E.size+i) undef) y):
 RowsAt E A w (.slice (some ⟨g,0,none⟩) 2 2) [x,y]:=by
 have hgl:g < w.heap.size:=by rw [Array.getElem?_eq_some_iff] at h;exact h.1
 refine ⟨fun j i=>cs.getD (j * E.size+i) undef,⟨by unfold maxLen;simp,_,_,rfl,Nat.le_refl _,nofun,fun _=>⟨g,0,rfl,hgl,hA,fun j hj i hi=>?_⟩⟩,fun j hj=>?_⟩
 · have hj2:j < 2:=hj
   have hlt:j * E.size+i < cs.size:=by
    match j,hj2 with
    | 0,_=>omega
    | 1,_=>omega
   simp only [World.cell?,h,Nat.zero_add]
   rw [Array.getElem?_eq_getElem hlt,Array.getD_eq_getD_getElem?,Array.getElem?_eq_getElem hlt];rfl
 · have hj2:j < 2:=hj
   match j,hj2 with
   | 0,_=>
     show E.C A w (fun i=>cs.getD (0 * E.size+i) undef) x
     simp only [Nat.zero_mul,Nat.zero_add]
     exact hx
   | 1,_=>
     show E.C A w (fun i=>cs.getD (1 * E.size+i) undef) y
     simp only [Nat.one_mul]
     exact hy
theorem ziE {A:Nat→Prop} {w:World} {g:Nat} {s t:ByteArray} (h:w.heap[g]?=some (.cells #[.string s,.string t] 9 (0,0))) (hA:A g) (hs:s.size≤maxLen) (ht:t.size≤maxLen):StrsAt A w (.slice (some ⟨g,0,none⟩) 2 2) [s,t]:=
 zhk.2 (zos (E:=StrE) h hA rfl ⟨rfl,hs⟩ ⟨rfl,ht⟩)
theorem zmC (l:List ByteArray) (h10:l.length≤1000) (ka:Option Addr) (kc:Nat) (A:Nat→Prop) (w:World) (hl:StrsAt A w (.slice ka l.length kc) l):
 Calls Tryz.prog 69 #[.slice ka l.length kc] w fun e w'=>∃ a c,e=.returned (.slice a l.length c)∧RowsAt DclE (Up w.heap.size) w' (.slice a l.length c) (l.map (fun s=>dclN s true))∧Below w.heap.size w w':=by
 have HL:=Lib.hid hl
 clear hl
 go_enter Tryz.func69,Tryz.ntmps69
 go_wp2
 go_loopw [8,3] (fun i v wr=>∃ k:Nat,i=.int .i64 k∧k≤l.length∧Below w.heap.size w wr∧RowsOwn DclE 100 (Up w.heap.size) w.heap.size wr v ((l.take k).map (fun s=>dclN s true))) (fun i _ _=>l.length - (intOf i).toNat)
 case atStart=>exact ⟨0,rfl,Nat.zero_le _,Below.refl _ _,by rw [List.take_zero];exact RowsOwn.nil _ _ _ _ _⟩
 case round=>
  obtain ⟨k,rfl,hk,hbl,hown⟩:=hrel
  have hlk:((l.take k).map (fun s=>dclN s true)).length=k:=by simp;omega
  obtain ⟨va,vc,hv⟩:=hown.form
  rw [hlk] at hv
  subst hv
  have HOWN:=Lib.hid hown
  have HLK:=Lib.hid hlk
  have HBL:=Lib.hid hbl
  clear hown hlk
  by_cases hlt:k < l.length
  · obtain ⟨b,off,cap,he,hb,_,_,c0,hsz⟩:=(HL.out.stays (Stays.of_below hbl)).at hlt
    simp only [Value.slice.injEq] at he
    obtain ⟨rfl,-,rfl⟩:=he
    have i0:(0:Int)≤(k:Int):=by omega
    have i1:(k:Int) < (l.length:Int):=by omega
    have HTK:Hid ((l.take (k+1)).map (fun s=>dclN s true)=(l.take k).map (fun s=>dclN s true) ++ [dclN (at' l k) true]):=Lib.hid (by rw [List.take_add_one,List.getElem?_eq_getElem hlt,zax hlt,List.map_append];rfl)
    have hBa:Below wr.heap.size wr (wr.alloc (.cells #[.string (at' l k),.int .u8 3,.int .i64 0] 100)):=zaa (Below.refl _ _)
    have HK1:=Lib.hid (zfp (E:=DclE) (A:=fun j=>j=wr.heap.size) (x:=dclN (at' l k) true) (heap_alloc_new wr (.cells #[.string (at' l k),.int .u8 3,.int .i64 0] 100)) rfl rfl ⟨rfl,rfl,rfl,hsz⟩)
    have HO1:=Lib.hid (HOWN.out.below hBa)
    have HD:Hid (∀ b,b < (wr.alloc (.cells #[.string (at' l k),.int .u8 3,.int .i64 0] 100)).heap.size→b=wr.heap.size→Up w.heap.size b∧(Value.slice va k vc).ownBlock≠some b):=Lib.hid (fun b _ e=>⟨by have:=hbl.size;unfold Up;omega,fun e2=>by have:=(HOWN.out.lt e2).2;omega⟩)
    have hbase:w.heap.size≤(wr.alloc (.cells #[.string (at' l k),.int .u8 3,.int .i64 0] 100)).heap.size:=Nat.le_trans hbl.size hBa.size
    have HBA:=Lib.hid hBa
    clear hBa hbl
    go_wp2_with (at_builtin;refine zaF TDcl rfl (by decide) rfl (.tmp 12) (.tmp 15) rfl rfl rfl HO1.out HK1.out HD.out (by rw [HLK.out];unfold maxLen;simp;omega) (by rw [HLK.out];simp;omega) hbase ?_;intro a' c' w3 h3 hg3 hn3;have H3:=Lib.hid h3;have HG3:Hid (World.grownBy _ w3 (Value.slice va k vc).ownBlock):=Lib.hid hg3;clear h3 hg3 hn3)
    refine ⟨⟨k+1,by go_num,by omega,?_,by rw [HTK.out];have h3:=H3.out;rw [HLK.out] at h3;exact h3⟩,by simp [intOf];omega⟩
    exact (HBL.out.trans (HBA.out.mono HBL.out.size)).grown HG3.out hbase (fun j e=>(HOWN.out.lt e).1)
  · obtain rfl:k=l.length:=by omega
    have hlt':¬ (l.length:Int) < (l.length:Int):=by omega
    have HTA:Hid (l.take l.length=l):=Lib.hid (List.take_length)
    clear hbl
    go_wp2
    go_ret
    have h3:=HOWN.out
    rw [HTA.out] at h3
    have hls:(l.map (fun s=>dclN s true)).length=l.length:=by simp
    have h4:=h3.shut (A:=Up w.heap.size) (fun j a=>a) (fun j e=>(h3.lt e).1) (by unfold maxLen;simp;omega)
    exact ⟨va,vc,rfl,h4,HBL.out⟩
end Go.Proofs.YtpobmoegmdhbpaaGreatDoor
namespace Go.Proofs.YtpobmoegmdhbpaaGreatDoor
open Go.RowKit
theorem zfL {α:Type} [Inhabited α] {l:List α} (h:l.Nodup) {i j:Nat} (hij:i < j) (hj:j < l.length):at' l i≠at' l j:=by
 rw [zax hj,zax (Nat.lt_trans hij hj)]
 exact List.pairwise_iff_getElem.1 h i j (Nat.lt_trans hij hj) hj hij
def DeclsOk (l:List Dcl):Prop:=(∀ d ∈ l,DclOk d)∧(l.map Dcl.name).Nodup
theorem DeclsOk.names {l:List Dcl} (h:DeclsOk l) {i j:Nat} (hij:i < j) (hj:j < l.length):(at' l i).name≠(at' l j).name:=by
 have:=zfL h.2 hij (by simpa using hj)
 rwa [zbE _ (Nat.lt_trans hij hj),zbE _ hj] at this
theorem DeclsOk.fresh {l:List Dcl} (h:DeclsOk l) {i:Nat} (hi:i < l.length):findD (l.take i) (at' l i).name=none:=zcF (fun d hd e=>by
 obtain ⟨j,hj,rfl⟩:=List.getElem_of_mem hd
 rw [List.length_take] at hj
 have:=h.names (show j < i by omega) hi
 rw [zax (show j < l.length by omega)] at this
 rw [List.getElem_take] at e
 exact this e)
theorem DeclsOk.dcls {l:List Dcl} (h:DeclsOk l):DclsOk l:=fun d hd=>(h.1 d hd).2
theorem zlt {l:List Dcl} {s:ByteArray} {d:Dcl} (h:findD l s=some d):d ∈ l∧d.name=s:=by
 induction l with
 | nil=>cases h
 | cons e l ih=>
   rw [findD] at h
   cases hg:findD l s with
   | some x=>rw [hg] at h;cases h;exact ⟨List.mem_cons_of_mem _ (ih hg).1,(ih hg).2⟩
   | none=>
     rw [hg] at h
     simp only at h
     split at h
     · next e2=>cases h;exact ⟨List.mem_cons_self ..,e2⟩
     · cases h
theorem DeclsOk.vis {l:List Dcl} (h:DeclsOk l):∀ s b,visD l s=some b→NmOk s:=fun s b hv=>by
 obtain ⟨d,hd,_⟩:=zcs h.dcls hv
 obtain ⟨h1,rfl⟩:=zlt hd
 exact (h.1 d h1).1
theorem DeclsOk.look {l:List Dcl} (h:DeclsOk l) {d:Dcl} (hd:d ∈ l):visD l d.name=some (decide (d.kind=3)):=by
 obtain ⟨k,hk,rfl⟩:=List.getElem_of_mem hd
 rw [← zax hk]
 rw [visD,zfo hk rfl (fun j h1 h2=>(h.names h1 h2).symm)];rfl
theorem zgd {l:List Dcl} {s:ByteArray} (h:∀ d ∈ l,d.name≠s):visD l s=none:=by rw [visD,zcF h];rfl
theorem IdxP.uniq {l:List Prc} {s:ByteArray} {i j:Nat} (h:IdxP l s i) (k:IdxP l s j):i=j:=by
 rcases Nat.lt_trichotomy i j with e|e|e
 · exact absurd h.at_ (k.no i e)
 · exact e
 · exact absurd k.at_ (h.no j e)
theorem zob {l:List Prc} {s:ByteArray} {i:Nat} (h:IdxP l s i):prcT l s=some ((at' l i).params.map (fun d=>decide (d.kind=3))):=by
 have hlt:idxP l s < l.length:=List.findIdx_lt_length.2 ⟨_,zaT h.lt,by simp [h.at_]⟩
 rw [prcT,if_pos hlt,(znc hlt).uniq h]
theorem zmY {l:List Prc} (h:(l.map Prc.name).Nodup) {i:Nat} (hi:i < l.length):IdxP l (at' l i).name i:=⟨hi,rfl,fun j hj e=>by
 have:=zfL h hj (by simpa using hi)
 rw [zbE _ (Nat.lt_trans hj hi),zbE _ hi] at this
 exact this e⟩
theorem zek {l:List Prc} (h:(l.map Prc.name).Nodup) {q:Prc} (hq:q ∈ l):prcT l q.name=some (q.params.map (fun d=>decide (d.kind=3))):=by
 obtain ⟨i,hi,rfl⟩:=List.getElem_of_mem hq
 rw [← zax hi]
 exact zob (zmY h hi)
structure PrcB (ps:List Prc) (q:Prc):Prop where
 name:NmOk q.name
 plen:q.params.length≤8
 params:DeclsOk q.params
 depth:depthN q.body≤80
 size:sizeN q.body≤2000
 body:BOk (prcT ps) (visD q.params) q.body
structure ProgOk (p:Prg):Prop where
 prg:PrgOk p
 vfresh:∀ i,i < p.vars.length→findD (p.vars.take i) (at' p.vars i).name=none
 idx:∀ i,i < p.procs.length→IdxP p.procs (at' p.procs i).name i
 pfresh:∀ i,i < p.procs.length→∀ j,j < (at' p.procs i).params.length→findD ((at' p.procs i).params.take j) (at' (at' p.procs i).params j).name=none
 pvis:∀ i,i < p.procs.length→VisOk p (at' p.procs i).params (at' p.procs i).body
 mvis:VisOk p p.vars p.main
 prej:∀ i,i < p.procs.length→∀ m ∈ preN (at' p.procs i).body,RejOk m
 mrej:∀ m ∈ preN p.main,RejOk m
theorem zno {p:Prg} (h32:p.vars.length≤32) (h64:p.procs.length≤64) (hv:DeclsOk p.vars) (hn:(p.procs.map Prc.name).Nodup) (hp:∀ q ∈ p.procs,PrcB p.procs q) (hm:BOk (prcT p.procs) (visD p.vars) p.main) (hd:depthN p.main≤80) (hs:sizeN p.main≤2000):ProgOk p:=by
 have hP:∀ s ks,prcT p.procs s=some ks→NmOk s:=fun s ks h=>by
  obtain ⟨q,hq,_⟩:=zgK h
  rw [← hq.at_]
  exact (hp _ (zaT hq.lt)).name
 have hD:∀ q ∈ p.procs,DclsOk q.params:=fun q hq=>(hp q hq).params.dcls
 exact ⟨⟨h32,h64,hv.1,fun q hq=>⟨(hp q hq).name,(hp q hq).plen,(hp q hq).params.1,(hp q hq).depth,(hp q hq).size,zii hP (hp q hq).params.vis (hp q hq).body⟩,hd,hs,zii hP hv.vis hm⟩,
  fun i hi=>hv.fresh hi,fun i hi=>zmY hn hi,fun i hi j hj=>(hp _ (zaT hi)).params.fresh hj,fun i hi=>zkx hD (hp _ (zaT hi)).params.dcls (hp _ (zaT hi)).body,zkx hD hv.dcls hm,
  fun i hi=>zkS (hp _ (zaT hi)).params.vis (hp _ (zaT hi)).body,zkS hv.vis hm⟩
/- the list library -/
theorem zeA {l:List UInt8} (h0:0 < l.length) (h16:l.length≤16) (hl:∀ c ∈ l,97≤c.toNat∧c.toNat≤122) (hk:keyB (bstr l)=false):NmOk (bstr l):=by
 have hs:(bstr l).size=l.length:=by simp [bstr,ByteArray.size]
 have hat:∀ j (h:j < (bstr l).size),(bstr l)[j]=l[j]'(by rwa [hs] at h):=fun j h=>by simp [bstr,ByteArray.getElem_eq_getElem_data]
 exact ⟨by omega,by omega,fun h=>by rw [hat 0 h];exact hl _ (List.getElem_mem _),fun j hj=>by rw [hat j hj];exact .inl (hl _ (List.getElem_mem _)),hk⟩
theorem zdW {c:UInt8} (h1:97≤c.toNat) (h2:c.toNat≤122):NmOk (bstr [c]):=by
 refine zeA (by simp) (by simp) (fun d hd=>by rw [List.mem_singleton.1 hd];exact ⟨h1,h2⟩) ?_
 have key:∀ x ∈ keywords,x.size≠1:=by decide
 unfold keyB inB
 rw [List.any_eq_false]
 intro x hx he
 simp only [decide_eq_true_eq] at he
 subst he
 exact key _ hx rfl
theorem zod:NmOk lcopyS:=zeA (by decide) (by decide) (by decide) (by decide)
theorem zmL:NmOk lspillS:=zeA (by decide) (by decide) (by decide) (by decide)
def noV:Vis:=fun _=>none
theorem zkQ (s t:ByteArray):visD [dclN s true,dclN t true]=((noV.put s true).put t true):=by
 have e0:visD []=noV:=rfl
 rw [← e0,← zdb,← zdb];rfl
theorem ziR {P:ByteArray→Option (List Bool)} {V:Vis} {x y:ByteArray} (hx:V x=some true) (hy:V y=some true) (h0:V xS=none):SOk P V (moveS x y):=by
 have n1:x≠xS:=fun e=>by rw [e,h0] at hx;cases hx
 have n2:y≠xS:=fun e=>by rw [e,h0] at hy;cases hy
 refine .loc xS _ _ _ (zdW (by decide) (by decide)) h0 (.num 0 (by omega)) (.num 0 (by omega)) (fun s hs=>?_)
 simp only [List.mem_cons,List.not_mem_nil,or_false] at hs
 rcases hs with rfl|rfl
 · exact .stk 45 x xS (.inr rfl) (by simp [Vis.put,n1,hx]) (by simp [Vis.put])
 · exact .stk 44 y xS (.inl rfl) (by simp [Vis.put,n2,hy]) (by simp [Vis.put])
theorem zfG {P:ByteArray→Option (List Bool)} {V:Vis} {x:ByteArray} {c d:Nd} {l:List Nd} (hx:V x=some true) (hc:EOk V c) (hl:isLeaf c) (hd:EOk V d) (h:∀ s ∈ l,SOk P V s):SOk P V (loopS (eqS (sizeS x) c) d l):=.from_ c d x l hx hc hl hd h
theorem zeF {V:Vis} {x:ByteArray} (hx:V x=some true):EOk V (eqS (sizeS x) (numN 0)):=.op 16 _ _ (by omega) (.stk 5 x (.inr rfl) hx) (.num 0 (by omega))
theorem zmm (P:ByteArray→Option (List Bool)):BOk P (visD [dclN aS true,dclN bS true]) copyB:=by
 rw [zkQ]
 refine ⟨_,rfl,fun s hs=>?_⟩
 rw [List.mem_singleton.1 hs]
 refine .locs tS _ (zdW (by decide) (by decide)) (by simp [Vis.put,noV,aS,bS,tS,zay]) (fun s hs=>?_)
 generalize hV:((noV.put aS true).put bS true).put tS true=V
 have va:V aS=some true:=by subst hV;simp [Vis.put,noV,aS,bS,tS,zay]
 have vb:V bS=some true:=by subst hV;simp [Vis.put,noV,aS,bS,tS,zay]
 have vt:V tS=some true:=by subst hV;simp [Vis.put,noV,aS,bS,tS,zay]
 have vx:V xS=none:=by subst hV;simp [Vis.put,noV,aS,bS,tS,xS,zay]
 have vy:V yS=none:=by subst hV;simp [Vis.put,noV,aS,bS,tS,yS,zay]
 simp only [List.mem_cons,List.not_mem_nil,or_false] at hs
 rcases hs with rfl|rfl
 · exact zfG vt (.num 0 (by omega)) (.inl ⟨0,rfl⟩) (zeF va) (fun s hs=>by rw [List.mem_singleton.1 hs];exact ziR va vt vx)
 · refine zfG va (.num 0 (by omega)) (.inl ⟨0,rfl⟩) (zeF vt) (fun s hs=>?_)
   rw [List.mem_singleton.1 hs]
   have px:∀ {s:ByteArray} {b:Bool},V s=some b→(V.put xS false) s=some b:=fun {s b} h=>by
    have:s≠xS:=fun e=>by rw [e,vx] at h;cases h
    simp [Vis.put,this,h]
   have pxx:(V.put xS false) xS=some false:=by simp [Vis.put]
   have pxy:(V.put xS false) yS=none:=by
    have:yS≠xS:=by simp [xS,yS,zay]
    simp [Vis.put,this,vy]
   refine .loc xS _ _ _ (zdW (by decide) (by decide)) vx (.num 0 (by omega)) (.num 0 (by omega)) (fun s hs=>?_)
   simp only [List.mem_cons,List.not_mem_nil,or_false] at hs
   rcases hs with rfl|rfl|rfl
   · exact .stk 45 tS xS (.inr rfl) (px vt) pxx
   · refine .loc yS _ _ _ (zdW (by decide) (by decide)) pxy (.var xS pxx) (.num 0 (by omega)) (fun s hs=>?_)
     rw [List.mem_singleton.1 hs]
     have nb:bS≠yS:=by simp [bS,yS,zay]
     exact .stk 44 bS yS (.inl rfl) (by have:=px vb;simp [Vis.put,nb] at this ⊢;exact this) (by simp [Vis.put])
   · exact .stk 44 aS xS (.inl rfl) (px va) pxx
theorem zlA (P:ByteArray→Option (List Bool)):BOk P (visD [dclN aS true,dclN gS true]) spillB:=by
 rw [zkQ]
 refine ⟨_,rfl,fun s hs=>?_⟩
 rw [List.mem_singleton.1 hs]
 generalize hV:(noV.put aS true).put gS true=V
 have va:V aS=some true:=by subst hV;simp [Vis.put,noV,aS,gS,zay]
 have vg:V gS=some true:=by subst hV;simp [Vis.put,noV,aS,gS,zay]
 have vn:V nS=none:=by subst hV;simp [Vis.put,noV,aS,gS,nS,zay]
 have vx:V xS=none:=by subst hV;simp [Vis.put,noV,aS,gS,xS,zay]
 refine .loc nS _ _ _ (zdW (by decide) (by decide)) vn (.stk 5 aS (.inr rfl) va) (.num 0 (by omega)) (fun s hs=>?_)
 have pa:(V.put nS false) aS=some true:=by
  have:aS≠nS:=by simp [aS,nS,zay]
  simp [Vis.put,this,va]
 have pg:(V.put nS false) gS=some true:=by
  have:gS≠nS:=by simp [gS,nS,zay]
  simp [Vis.put,this,vg]
 have px:(V.put nS false) xS=none:=by
  have:xS≠nS:=by simp [xS,nS,zay]
  simp [Vis.put,this,vx]
 have pn:(V.put nS false) nS=some false:=by simp [Vis.put]
 simp only [List.mem_cons,List.not_mem_nil,or_false] at hs
 rcases hs with rfl|rfl
 · exact zfG pa (.var nS pn) (.inr ⟨nS,rfl⟩) (zeF pa) (fun s hs=>by rw [List.mem_singleton.1 hs];exact ziR pa pg px)
 · exact .stk 44 gS nS (.inl rfl) pg pn
theorem zlV (ps:List Prc):∀ q ∈ libPrcs,PrcB ps q:=by
 intro q hq
 simp only [libPrcs,List.mem_cons,List.not_mem_nil,or_false] at hq
 have two:∀ s t:ByteArray,NmOk s→NmOk t→s≠t→DeclsOk [dclN s true,dclN t true]:=fun s t hs ht hne=>⟨fun d hd=>by
  simp only [List.mem_cons,List.not_mem_nil,or_false] at hd
  rcases hd with rfl|rfl
  · exact ⟨hs,.inr rfl⟩
  · exact ⟨ht,.inr rfl⟩,by simp [dclN,hne]⟩
 have na:NmOk aS:=zdW (by decide) (by decide)
 have nb:NmOk bS:=zdW (by decide) (by decide)
 have ng:NmOk gS:=zdW (by decide) (by decide)
 rcases hq with rfl|rfl
 · exact ⟨zod,by decide,two aS bS na nb (by simp [aS,bS,zay]),by decide,by decide,zmm _⟩
 · exact ⟨zmL,by decide,two aS gS na ng (by simp [aS,gS,zay]),by decide,by decide,zlA _⟩
end Go.Proofs.YtpobmoegmdhbpaaGreatDoor
namespace Go.Proofs.YtpobmoegmdhbpaaGreatDoor
open Go.RowKit
theorem zfc {s:ByteArray} (h:nameB s=true):s≠headS∧s≠outS∧s≠lcopyS∧s≠lspillS∧s≠gS:=by
 have k:∀ t,nameB t=false→s≠t:=fun t ht e=>by rw [← e,h] at ht;cases ht
 exact ⟨k _ (by decide),k _ (by decide),k _ (by decide),k _ (by decide),k _ (by decide)⟩
theorem zfA (i:Nat):tname i≠outS:=by
 intro h
 have h2:(tname i).data.toList=outS.data.toList:=by rw [h]
 simp [tname,outS,bstr] at h2
theorem ziK (i:Nat):tname i≠gS:=by
 intro h
 have h2:(tname i).data.toList=gS.data.toList:=by rw [h]
 simp [tname,gS,bstr] at h2
theorem zbN:∀ (ts:List Par) (V:Vis) (s:ByteArray),(∀ t ∈ ts,t.name≠s)→putAll V ts s=V s
 | [],_,_,_=>rfl
 | t :: r,V,s,h=>by
   rw [putAll,zbN r _ s (fun x hx=>h x (List.mem_cons_of_mem _ hx))]
   have:=h t (List.mem_cons_self ..)
   simp [Vis.put,Ne.symm this]
theorem zhe:∀ (ts:List Par) (V:Vis) (j:Nat),j < ts.length→(∀ i,j < i→i < ts.length→(at' ts i).name≠(at' ts j).name)→putAll V ts (at' ts j).name=some (at' ts j).list
 | [],_,j,h,_=>by simp at h
 | t :: r,V,0,h,hd=>by
   have h0:at' (t :: r) 0=t:=rfl
   rw [putAll,h0,zbN r _ t.name (fun x hx=>by
    obtain ⟨i,hi,rfl⟩:=List.getElem_of_mem hx
    have:=hd (i+1) (by omega) (by simpa using hi)
    rw [← zax hi];exact this)]
   simp [Vis.put]
 | t :: r,V,j+1,h,hd=>by
   have e:∀ i,at' (t :: r) (i+1)=at' r i:=fun i=>by simp [at',List.getD_eq_getElem?_getD]
   rw [putAll,e]
   exact zhe r _ j (by simpa using h) (fun i h1 h2=>by
    have:=hd (i+1) (by omega) (by simpa using h2)
    rwa [e,e] at this)
theorem zgE {ts:List Par} (h:TNamed ts) {i j:Nat} (hij:i < j) (hj:j < ts.length):(at' ts i).name≠(at' ts j).name:=by
 rw [h i (Nat.lt_trans hij hj),h j hj]
 intro e
 have:=zbO e
 omega
theorem zcG {ts:List Par} (h:TNamed ts) {t:Par} (ht:t ∈ ts):∃ i,i < ts.length∧t.name=tname i:=by
 obtain ⟨i,hi,rfl⟩:=List.getElem_of_mem ht
 exact ⟨i,hi,by rw [← zax hi];exact h i hi⟩
theorem zlo {s:ByteArray} {p:Par}:∀ (l:List Par) (v:Env),(l.foldl (fun v p=>v.put p.name p) v) s=some p→p ∈ l∨v s=some p
 | [],v,h=>.inr h
 | q :: r,v,h=>by
   rcases zlo r _ h with h|h
   · exact .inl (List.mem_cons_of_mem _ h)
   · by_cases e:s=q.name
     · simp only [Env.put,if_pos e,Option.some.injEq] at h
       subst h;exact .inl (List.mem_cons_self ..)
     · simp only [Env.put,if_neg e] at h
       exact .inr h
theorem zhT {l:List Par} {s:ByteArray} {p:Par} (h:parsEnv l s=some p):p ∈ l:=by
 rcases zlo l _ h with h|h
 · exact h
 · cases h
theorem zjH {l:List Par} (h:parsE l=0):(l.map Par.name).Nodup:=by
 unfold parsE at h
 by_cases h8:8 < l.length
 · rw [if_pos h8] at h;omega
 rw [if_neg h8] at h
 by_cases ha:(l.all fun p=>nameB p.name)=true
 · rw [if_pos ha] at h
   by_cases hn:(l.map Par.name).Nodup
   · exact hn
   · rw [if_neg hn] at h;omega
 · rw [if_neg ha] at h;omega
def ParT (l:List Par) (s:ByteArray) (b:Bool):Prop:=∃ p ∈ l,p.name=s∧p.list=b
theorem zef {lib:List Fn} (h:(validE lib).2=0) {i:Nat} (hi:i < lib.length):
 TyBs lib (ExtT (ParT (at' lib i).params) 0 (normF lib (at' lib i)).temps) (normF lib (at' lib i)).body∧ExtT (ParT (at' lib i).params) 0 (normF lib (at' lib i)).temps (normF lib (at' lib i)).result (at' lib i).list:=by
 have hv:=zaR h hi
 have hn:=zbB hv.pars
 have hl:PLen lib:=fun j hj=>zfQ (zaR h hj).pars
 have hr:Rdy lib (at' lib i).body (parsV (at' lib i).params) (parsEnv (at' lib i).params) []:=⟨hv.form,hv.check,zfu _ hn,fun j hj=>by simp at hj,by have:=hv.size;simp;omega⟩
 obtain ⟨h1,h2,_⟩:=znL hl _ (at' lib i).body _ (parsEnv (at' lib i).params) [] (ParT (at' lib i).params) (Nat.le_refl _) hr (fun s p hs=>⟨p,zhT hs,rfl,rfl⟩) (fun s b hb=>by
  obtain ⟨p,hp,rfl,_⟩:=hb
  exact zfI (hn p hp) _)
 have e:(exprN lib (at' lib i).body (parsEnv (at' lib i).params) []).par.list=(at' lib i).list:=(hr.good hl).list.trans hv.list
 rw [e] at h2
 exact ⟨h1,h2⟩
theorem zgo (g:AFn):(paramsN g).map Dcl.name=g.params.map Par.name ++ [outS]:=by simp [paramsN,dclN,Function.comp_def]
theorem zbl {lib:List Fn} (h:(validE lib).2=0) {i:Nat} (hi:i < lib.length):DeclsOk (paramsN (normF lib (at' lib i))):=by
 have hv:=zaR h hi
 have hn:=zbB hv.pars
 have nmo:NmOk outS:=zeA (by decide) (by decide) (by decide) (by decide)
 refine ⟨fun d hd=>?_,?_⟩
 · unfold paramsN at hd
   rcases List.mem_append.1 hd with hd|hd
   · obtain ⟨p,hp,rfl⟩:=List.mem_map.1 hd
     exact ⟨zeG (hn p hp),by cases p.list <;> simp [dclN]⟩
   · rw [List.mem_singleton.1 hd]
     exact ⟨nmo,by cases (normF lib (at' lib i)).list <;> simp [dclN]⟩
 · rw [zgo]
   refine List.nodup_append.2 ⟨zjH hv.pars,by simp,fun a ha b hb e=>?_⟩
   rw [List.mem_singleton.1 hb] at e
   obtain ⟨p,hp,rfl⟩:=List.mem_map.1 ha
   exact (zfc (hn p hp)).2.1 e
def visF (g:AFn) (L:List Dcl):Vis:=putAll (visD L) g.temps
theorem zkd {lib:List Fn} (h:(validE lib).2=0) {i:Nat} (hi:i < lib.length) {cf:CallF} {P:ByteArray→Option (List Bool)} {L:List Dcl} (hL:DeclsOk L) (hsub:∀ d ∈ paramsN (normF lib (at' lib i)),d ∈ L) (hh:∀ d ∈ L,d.name≠headS)
 (hc:P lcopyS=some [true,true]) (hfn:∀ nm,0≤findF lib nm→P (cf nm).1=some ((fnAt lib (findF lib nm)).params.map Par.list ++ [(fnAt lib (findF lib nm)).list] ++ (cf nm).2.map (fun _=>true))∧(fnAt lib (findF lib nm)).params.length+1+(cf nm).2.length≤8)
 {V:Vis} (hV:∀ s b,visF (normF lib (at' lib i)) L s=some b→V s=some b) (hVh:V headS=none) (hex:∀ nm,(cf nm).2=[]∨(cf nm).2=[gS]∧V gS=some true):
 EnvOk lib cf P V (ExtT (ParT (at' lib i).params) 0 (normF lib (at' lib i)).temps):=by
 have hv:=zaR h hi
 have hn:=zbB hv.pars
 obtain ⟨hg,_,hg3⟩:=zbg h hi
 have hz:=hv.size
 have hpar:∀ p ∈ (at' lib i).params,dclN p.name p.list ∈ paramsN (normF lib (at' lib i)):=fun p hp=>List.mem_append.2 (.inl (List.mem_map.2 ⟨p,hp,rfl⟩))
 refine ⟨fun s b hs=>hV s b ?_,fun s b hs=>?_,hVh,hc,hfn,fun nm=>?_⟩
 · unfold visF
   rcases hs with ⟨p,hp,rfl,rfl⟩|⟨j,_,hj,rfl,rfl⟩
   · rw [zbN _ _ _ (fun t ht e=>by
      obtain ⟨k,hk,e2⟩:=zcG hg.temps ht
      exact zfI (hn p hp) 0 k (Nat.zero_le _) (e.symm.trans e2))]
     have:=hL.look (hsub _ (hpar p hp))
     have e:(dclN p.name p.list).name=p.name:=rfl
     rw [e] at this
     rw [this]
     cases p.list <;> rfl
   · rw [← hg.temps j hj]
     exact zhe _ _ j hj (fun k h1 h2=>(zgE hg.temps h1 h2).symm)
 · have:NmOk s:=by
    rcases hs with ⟨p,hp,rfl,_⟩|⟨j,_,hj,rfl,_⟩
    · exact zeG (hn p hp)
    · exact nm_t (by omega)
   intro e
   rw [e] at this
   exact absurd this.1 (by decide)
 · rcases hex nm with e|⟨e,e2⟩
   · exact .inl e
   · refine .inr ⟨gS,e,e2,fun b hb=>?_⟩
     rcases hb with ⟨p,hp,e3,_⟩|⟨j,_,hj,e3,_⟩
     · exact (zfc (hn p hp)).2.2.2.2 e3
     · exact ziK j e3.symm
theorem zfY {lib:List Fn} (h:(validE lib).2=0) {i:Nat} (hi:i < lib.length) {L:List Dcl} (hh:∀ d ∈ L,d.name≠headS):visF (normF lib (at' lib i)) L headS=none:=by
 obtain ⟨hg,_,_⟩:=zbg h hi
 unfold visF
 rw [zbN _ _ _ (fun t ht e=>by
  obtain ⟨k,hk,e2⟩:=zcG hg.temps ht
  exact zlB k (e2.symm.trans e)),zgd hh]
theorem zdM {lib:List Fn} (h:(validE lib).2=0) {i:Nat} (hi:i < lib.length) {P:ByteArray→Option (List Bool)} {V:Vis} (hc:P lcopyS=some [true,true]) (hty:∀ s b,ExtT (ParT (at' lib i).params) 0 (normF lib (at' lib i)).temps s b→V s=some b) (ho:V outS=some (at' lib i).list):SOk P V (resultN (normF lib (at' lib i))):=by
 have hv:=zaR h hi
 have hn:=zbB hv.pars
 obtain ⟨_,h2⟩:=zef h hi
 have hr:=hty _ _ h2
 have hne:(normF lib (at' lib i)).result≠outS:=by
  rcases h2 with ⟨p,hp,e,_⟩|⟨j,_,hj,e,_⟩
  · rw [← e];exact (zfc (hn p hp)).2.1
  · rw [e];exact zfA j
 have hl:(normF lib (at' lib i)).list=(at' lib i).list:=rfl
 unfold resultN
 rw [hl]
 cases hb:(at' lib i).list with
 | true=>
   rw [hb] at hr ho
   rw [if_pos rfl]
   exact zem hc hr ho hne
 | false=>
   rw [hb] at hr ho
   rw [if_neg (by simp)]
   exact .asg 42 outS _ (.inr (.inr rfl)) ho (.var _ hr) (fun m hm=>by rw [zjx,List.mem_singleton] at hm;rw [hm];exact hne)
theorem zhz {lib:List Fn} (h:(validE lib).2=0) {i:Nat} (hi:i < lib.length) {L:List Dcl} (hL:DeclsOk L) (hsub:∀ d ∈ paramsN (normF lib (at' lib i)),d ∈ L):visF (normF lib (at' lib i)) L outS=some (at' lib i).list:=by
 obtain ⟨hg,_,_⟩:=zbg h hi
 unfold visF
 rw [zbN _ _ _ (fun t ht e=>by
  obtain ⟨k,hk,e2⟩:=zcG hg.temps ht
  exact zfA k (e2.symm.trans e))]
 have:=hL.look (hsub (dclN outS (normF lib (at' lib i)).list) (List.mem_append.2 (.inr (List.mem_singleton.2 rfl))))
 have e:(dclN outS (normF lib (at' lib i)).list).name=outS:=rfl
 rw [e] at this
 rw [this]
 show some (decide ((dclN outS (at' lib i).list).kind=3))=_
 cases (at' lib i).list <;> rfl
theorem zfT {lib:List Fn} (h:(validE lib).2=0) {i:Nat} (hi:i < lib.length) {P:ByteArray→Option (List Bool)} {L:List Dcl} (hL:∀ d ∈ L,∀ k,d.name≠tname k) {n:Nd} (hn:BOk P (visF (normF lib (at' lib i)) L) n):BOk P (visD L) (localsN (normF lib (at' lib i)).temps n):=by
 obtain ⟨hg,_,hg3⟩:=zbg h hi
 have hz:=(zaR h hi).size
 exact zgx _ _ (fun j hj=>by rw [hg.temps j hj];exact nm_t (by omega)) (fun j hj=>by rw [hg.temps j hj];exact zgd (fun d hd=>hL d hd j)) (fun a b hab hb=>zgE hg.temps hab hb) hn
theorem zdp {lib:List Fn} (h:(validE lib).2=0) {i:Nat} (hi:i < lib.length):∀ d ∈ paramsN (normF lib (at' lib i)),d.name≠headS∧d.name≠gS∧∀ k,d.name≠tname k:=fun d hd=>by
 have hn:=zbB (zaR h hi).pars
 unfold paramsN at hd
 rcases List.mem_append.1 hd with hd|hd
 · obtain ⟨p,hp,rfl⟩:=List.mem_map.1 hd
   obtain ⟨h1,h2,h3,h4,h5⟩:=zfc (hn p hp)
   exact ⟨h1,h5,fun k=>zfI (hn p hp) 0 k (Nat.zero_le _)⟩
 · rw [List.mem_singleton.1 hd]
   exact ⟨by show outS≠headS;simp [outS,headS,zay],by show outS≠gS;simp [outS,gS,zay],fun k=>(zfA k).symm⟩
theorem zkh {lib:List Fn} (h:(validE lib).2=0) {i:Nat} (hi:i < lib.length) {P:ByteArray→Option (List Bool)} (hc:P lcopyS=some [true,true])
 (hfn:∀ nm,0≤findF lib nm→P nm=some ((fnAt lib (findF lib nm)).params.map Par.list ++ [(fnAt lib (findF lib nm)).list])∧(fnAt lib (findF lib nm)).params.length+1≤8):BOk P (visD (paramsN (normF lib (at' lib i)))) (procB (normF lib (at' lib i))):=by
 have hne:=zdp h hi
 obtain ⟨hg,_,_⟩:=zbg h hi
 have hE:=zkd h hi (cf:=selfF) (zbl h hi) (fun d hd=>hd) (fun d hd=>(hne d hd).1) hc (fun nm hnm=>by
  obtain ⟨a,b⟩:=hfn nm hnm
  exact ⟨by simpa [selfF] using a,by simpa [selfF] using b⟩) (fun s b hs=>hs) (zfY h hi (fun d hd=>(hne d hd).1)) (fun nm=>.inl rfl)
 have hb:=zbM hE _ hg.body (zef h hi).1
 unfold procB
 refine zfT h hi (fun d hd=>(hne d hd).2.2) ⟨_,rfl,fun s hs=>?_⟩
 rcases List.mem_append.1 hs with hs|hs
 · rcases List.mem_append.1 hs with hs|hs
   · exact hb s hs
   · rw [List.mem_singleton.1 hs]
     exact zdM h hi hc hE.ty (zhz h hi (zbl h hi) (fun d hd=>hd))
 · exact zeX (fun s hs=>zkU (hb s hs)) s hs
/- the program of layer 40's laws -/
theorem zbA {lib:List Fn} {i:Nat} (hi:i < lib.length):at' (normL lib) i=normF lib (at' lib i):=by
 rw [normL,zbE _ hi]
theorem zdX (g:AFn):(paramsN g).map (fun d=>decide (d.kind=3))=g.params.map Par.list ++ [g.list]:=by
 have:∀ (s:ByteArray) (b:Bool),decide ((dclN s b).kind=3)=b:=fun s b=>by cases b <;> rfl
 simp [paramsN,this,Function.comp_def]
end Go.Proofs.YtpobmoegmdhbpaaGreatDoor
