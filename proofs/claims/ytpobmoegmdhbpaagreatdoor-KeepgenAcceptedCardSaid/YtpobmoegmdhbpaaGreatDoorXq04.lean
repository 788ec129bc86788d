/- Contracts and plain lemmas (AnfJ, AnfK, AnfL, AnfM, AnfN, AnfO): no statement of the seat is proved here. -/
import Derived.Test.YtpobmoegmdhbpaaGreatDoorXq03
import Derived.Deep.RegionHeld3
/- The visitor of package anf:rows of arguments. -/
set_option linter.unusedSimpArgs false
set_option linter.unusedVariables false
set_option linter.unusedSectionVars false
set_option maxRecDepth 100000
set_option maxHeartbeats 6400000
namespace Go.Proofs.YtpobmoegmdhbpaaGreatDoor
open Go.RowKit
theorem TStr:RowT Tryz.prog 23 9 (.string ByteArray.empty) 1 16:=⟨Tryz.underlying23,by kernel_rfl⟩
structure ArgsRow (C:VC) (pb:Nat) (A:Nat→Prop) (tv bv:Value) (base:Nat) (w:World) (av:Value) (args:List ByteArray):Prop where
 own:w.ownsRow base 9 1 av args.length (args.map Value.string)
 small:∀ s ∈ args,s.size≤maxLen
 apart:∀ k,av.ownBlock=some k→¬ A k∧¬ Mu C pb tv bv k
theorem ArgsRow.nil (C:VC) (pb:Nat) (A:Nat→Prop) (tv bv:Value) (base:Nat) (w:World):ArgsRow C pb A tv bv base w (.slice none 0 0) []:=
 ⟨World.ownsRow_nil _ _ _ _,fun _ h=>by simp at h,fun k h=>by simp [Value.ownBlock] at h⟩
theorem ArgsRow.form {C:VC} {pb:Nat} {A:Nat→Prop} {tv bv:Value} {base:Nat} {w:World} {av:Value} {args:List ByteArray} (h:ArgsRow C pb A tv bv base w av args):∃ a c,av=.slice a args.length c:=zaG h.own
theorem ArgsRow.lt {C:VC} {pb:Nat} {A:Nat→Prop} {tv bv:Value} {base:Nat} {w:World} {av:Value} {args:List ByteArray} (h:ArgsRow C pb A tv bv base w av args) {k:Nat} (e:av.ownBlock=some k):base≤k∧k < w.heap.size:=h.own.lt k e
theorem ArgsRow.step {C:VC} {pb:Nat} {A A':Nat→Prop} {w w':World} {tv bv c4 tv' bv' c4':Value} {base:Nat} {av:Value} {args:List ByteArray} (h:ArgsRow C pb A tv bv base w av args) (hs:Step C pb A w tv bv c4 A' w' tv' bv' c4'):ArgsRow C pb A' tv' bv' base w' av args:=by
 refine ⟨zaD h.own hs.keeps (fun k e=>(h.apart k e).2),h.small,fun k e=>⟨fun a=>?_,fun m=>?_⟩⟩
 · rcases hs.new k a with a|a
   · exact (h.apart k e).1 a
   · have:=(h.lt e).2;omega
 · rcases Mut.new m hs.ntv hs.nbv with a|a
   · exact (h.apart k e).2 a
   · have:=(h.lt e).2;omega
theorem ArgsRow.keeps {C:VC} {pb:Nat} {A:Nat→Prop} {w w':World} {tv bv:Value} {base:Nat} {av:Value} {args:List ByteArray} {S:Nat→Prop} (h:ArgsRow C pb A tv bv base w av args) (hk:Keeps w w' S) (hS:∀ k,av.ownBlock=some k→¬ S k):ArgsRow C pb A tv bv base w' av args:=
 ⟨zaD h.own hk hS,h.small,h.apart⟩
theorem ArgsRow.below {C:VC} {pb:Nat} {A:Nat→Prop} {w w':World} {tv bv:Value} {base:Nat} {av:Value} {args:List ByteArray} (h:ArgsRow C pb A tv bv base w av args) (hb:Below w.heap.size w w'):ArgsRow C pb A tv bv base w' av args:=
 h.keeps (Keeps.of_below (fun _=>False) hb) (fun _ _ e=>e)
theorem ArgsRow.shut {C:VC} {pb:Nat} {A A':Nat→Prop} {tv bv:Value} {base:Nat} {w:World} {av:Value} {args:List ByteArray} (h:ArgsRow C pb A tv bv base w av args) (hv:∀ k,av.ownBlock=some k→A' k) (hl:args.length≤maxLen):StrsAt A' w av args:=by
 refine ⟨fun j i=>.string (at' args j),⟨hl,?_⟩,fun j hj=>⟨rfl,h.small _ (zaT hj)⟩⟩
 obtain ⟨h0,⟨rfl,h1⟩|⟨g,cap,cur,rfl,hg,hh,hn,hm,hc,ht⟩⟩:=h.own
 · exact ⟨none,0,by rw [h1],by omega,fun _=>rfl,fun h=>by omega⟩
 · refine ⟨_,cap,rfl,hn,nofun,fun hp=>⟨g,0,rfl,by rw [Array.getElem?_eq_some_iff] at hh;exact hh.1,hv g rfl,fun j hj i hi=>?_⟩⟩
   obtain rfl:i=0:=by omega
   have e:(0:Nat)+j * 1+0=j:=by omega
   rw [e]
   simp only [World.cell?,hh]
   have hx2:(args.map Value.string)[j]?=cur[j]?:=by rw [← ht,List.getElem?_take,if_pos (by omega)];simp
   rw [← hx2,List.getElem?_map,List.getElem?_eq_getElem hj,zax hj];rfl
theorem zgQ {C:VC} {pb po N g2 be:Nat} {A A1:Nat→Prop} {w w1 wB w2:World} {tv bv c4 tv1 bv1 c41:Value} {ts:List Par} {bs:List Bd} {env:Env} {base:Nat} {av v':Value} {args:List ByteArray} {s:ByteArray} {L:List (Nat × Obj)} {s0 s1 s2 s3 s4 s6 s7:Value}
 (hS:St C pb po A1 w1 tv1 bv1 c41 ts bs env N) (hT:Step C pb A w tv bv c4 A1 w1 tv1 bv1 c41) (hL:Locs C pb A1 tv1 bv1 w1 ((g2,.cells #[s0,s1,s2,s3,s4,av,s6,s7] be (0,0)) :: L)) (hR:ArgsRow C pb A1 tv1 bv1 base w1 av args)
 (hLg:∀ p ∈ L,p.1≠g2∧p.1 < base) (hg2:g2 < base) (hg2w:w.heap.size≤g2) (hsz:base≤w1.heap.size) (hs:s.size≤maxLen) (hB:Below w1.heap.size w1 wB) (hown:w2.ownsRow base 9 1 v' (args.length+1) (args.map Value.string ++ [.string s])) (hg:wB.grownBy w2 av.ownBlock) (hn:NewOr wB av v'):
 St C pb po A1 (w2.setCell ⟨g2,5,none⟩ v') tv1 bv1 c41 ts bs env N∧Step C pb A w tv bv c4 A1 (w2.setCell ⟨g2,5,none⟩ v') tv1 bv1 c41∧
  Locs C pb A1 tv1 bv1 (w2.setCell ⟨g2,5,none⟩ v') ((g2,.cells #[s0,s1,s2,s3,s4,v',s6,s7] be (0,0)) :: L)∧ArgsRow C pb A1 tv1 bv1 base (w2.setCell ⟨g2,5,none⟩ v') v' (args ++ [s]):=by
 have hk:Keeps w1 w2 (fun k=>av.ownBlock=some k):=(Keeps.of_below _ hB).trans (Keeps.of_grown (S:=fun k=>av.ownBlock=some k) hg (fun k e=>.inl e)) (fun k e=>.inl e)
 have hn':NewOr w1 av v':=fun k e=>by
  rcases hn k e with e|e
  · exact .inl e
  · exact .inr (Nat.le_trans hB.size e)
 have hL2:Locs C pb A1 tv1 bv1 w2 ((g2,.cells #[s0,s1,s2,s3,s4,av,s6,s7] be (0,0)) :: L):=hL.keeps hk (fun p hp e=>by
  have:=(hR.lt e).1
  rcases List.mem_cons.1 hp with rfl|hp
  · simp only at this;omega
  · have:=(hLg p hp).2;omega)
 have hS2:St C pb po A1 w2 tv1 bv1 c41 ts bs env N:=hS.young hk (fun k a e=>(hR.apart k e).1 a) (fun k m e=>(hR.apart k e).2 m)
 have hvb:∀ k,v'.ownBlock=some k→base≤k:=fun k e=>(hown.lt k e).1
 refine ⟨hS2.setLoc hL2 (List.mem_cons_self ..) 5 v',?_,?_,?_⟩
 · refine (hT.young hk (fun k e=>?_)).young (zaf w2 g2 5 v') (fun k e=>by omega)
   have:=(hR.lt e).1;omega
 · exact hL2.set 5 v' (fun p hp=>(hLg p hp).1)
 · have h1:ArgsRow C pb A1 tv1 bv1 base w2 v' (args ++ [s]):=by
    refine ⟨by rw [List.length_append,List.map_append];exact hown,fun x hx=>?_,fun k e=>?_⟩
    · rcases List.mem_append.1 hx with hx|hx
      · exact hR.small x hx
      · simp at hx;subst hx;exact hs
    · rcases hn' k e with e|e
      · exact hR.apart k e
      · exact ⟨fun a=>by have:=hS.alt a;omega,fun m=>by have:=hS.mlt m;omega⟩
   exact h1.keeps (zaf w2 g2 5 v') (fun k e e2=>by have:=hvb k e;omega)
def argStep (lib:List Fn) (call:Bool) (r:YR) (n:Nd):YR:=
 let x:=exprN lib n r.env r.ts
 if call && namesN (sizeN n) n then ⟨x.ts ++ [⟨tname x.ts.length,x.par.list⟩],r.bs ++ x.bs ++ [varB (tname x.ts.length) x.par.list x.par.name],r.args ++ [tname x.ts.length],x.env⟩
 else ⟨x.ts,r.bs ++ x.bs,r.args ++ [x.par.name],x.env⟩
theorem zeC (lib:List Fn) (call:Bool) (n:Nd):∀ (l:List Nd) (env:Env) (ts:List Par),argsN lib call (l ++ [n]) env ts=argStep lib call (argsN lib call l env ts) n
 | [],env,ts=>by
   rw [List.nil_append,argsN,argsN,argStep]
   simp only []
   split
   · rw [argsN];simp
   · rw [argsN];simp
 | m :: l,env,ts=>by
   rw [List.cons_append,argsN,argsN]
   simp only []
   split
   · rw [zeC lib call n l,argStep,argStep]
     simp only []
     split <;> simp
   · rw [zeC lib call n l,argStep,argStep]
     simp only []
     split <;> simp
theorem zdq (lib:List Fn) (call:Bool) {l:List Nd} {q:Nat} (h:q < l.length) (env:Env) (ts:List Par):argsN lib call (l.take (q+1)) env ts=argStep lib call (argsN lib call (l.take q) env ts) (at' l q):=by
 rw [List.take_add_one,List.getElem?_eq_getElem h,Option.toList_some,zeC,zax h]
theorem zbu (lib:List Fn) (call:Bool):∀ (l:List Nd) (env:Env) (ts:List Par),(argsN lib call l env ts).args.length=l.length
 | [],env,ts=>by rw [argsN];rfl
 | n :: r,env,ts=>by
   rw [argsN]
   simp only []
   split
   · simp [zbu lib call r]
   · simp [zbu lib call r]
end Go.Proofs.YtpobmoegmdhbpaaGreatDoor
/- The visitor of package anf:expr at an operation. -/
namespace Go.Proofs.YtpobmoegmdhbpaaGreatDoor
open Go.RowKit
theorem zhN (C:VC) (pb po:Nat) (A:Nat→Prop) (w:World) (tv bv c4:Value) (ts:List Par) (bs:List Bd) (env:Env) (N:Nat) (to0 name:ByteArray) (l0 list:Bool) (op num:Int) (av hv ev:Value) (args:List ByteArray) (thn els:List Bd)
 (hS:St C pb po A w tv bv c4 ts bs env N) (ha:StrsAt A w av args) (ht:BdsAt A w hv thn) (he:BdsAt A w ev els) (hop:0≤op∧op≤255) (hnum:In64 num) (hname:name.size≤maxLen) (hl:ts.length < 200000) (hb:bs.length < 200000):
 Calls Tryz.prog 159 #[.pointer (some ⟨C.bV,0,none⟩),.agg #[.string to0,.bool l0,.int .u8 op,.int .i64 num,.string name,av,hv,ev],.bool list,.pointer (some ⟨pb,po,none⟩)] w fun e w'=>
  e=.returned (.agg #[.string (tname ts.length),.bool list])∧∃ A' tv' bv' c4',St C pb po A' w' tv' bv' c4' (ts ++ [⟨tname ts.length,list⟩]) (bs ++ [.mk (tname ts.length) list op num name args thn els]) env N∧Step C pb A w tv bv c4 A' w' tv' bv' c4':=by
 refine (zmR A w C.bV C.bo C.bm pb po N C.c0 C.c1 C.c2 c4 C.c5 tv bv C.lv C.lib ts bs env to0 name l0 list op num av hv ev args thn els hS ha ht he hop hnum hname hl hb).mono ?_
 rintro e w' ⟨rfl,A',tv',bv',c4',h1,h2,h3,h4,h5,h6,h7⟩
 exact ⟨rfl,A',tv',bv',c4',h1,h2,h3,h4,h5,h6,h7⟩
theorem zjN (lib:List Fn) (n:Nd) (env:Env) (ts:List Par) (h81:n.kind≠81) (h84:n.kind≠84) (h83:n.kind≠83) (h85:n.kind≠85):
 exprN lib n env ts=⟨(argsN lib false n.kids env ts).ts ++ [⟨tname (argsN lib false n.kids env ts).ts.length,opList n.kind⟩],
  (argsN lib false n.kids env ts).bs ++ [.mk (tname (argsN lib false n.kids env ts).ts.length) (opList n.kind) n.kind n.num ByteArray.empty (argsN lib false n.kids env ts).args [] []],
  ⟨tname (argsN lib false n.kids env ts).ts.length,opList n.kind⟩,(argsN lib false n.kids env ts).env⟩:=by
 cases n with
 | mk k num name kids=>
   simp only [Nd.kind] at h81 h84 h83 h85
   unfold exprN
   rw [if_neg h81,if_neg h84,if_neg h83]
   have e:decide (k=85)=false:=by simpa using h85
   simp only [e,if_neg h85]
   rfl
theorem zgy (lib:List Fn) (n:Nd) (env:Env) (ts:List Par) (h85:n.kind=85):
 exprN lib n env ts=⟨(argsN lib true n.kids env ts).ts ++ [⟨tname (argsN lib true n.kids env ts).ts.length,(fnAt lib (findF lib n.name)).list⟩],
  (argsN lib true n.kids env ts).bs ++ [.mk (tname (argsN lib true n.kids env ts).ts.length) (fnAt lib (findF lib n.name)).list 85 0 n.name (argsN lib true n.kids env ts).args [] []],
  ⟨tname (argsN lib true n.kids env ts).ts.length,(fnAt lib (findF lib n.name)).list⟩,(argsN lib true n.kids env ts).env⟩:=by
 cases n with
 | mk k num name kids=>
   simp only [Nd.kind] at h85
   subst h85
   unfold exprN
   rw [if_neg (by omega),if_neg (by omega),if_neg (by omega)]
   rfl
theorem Locs.three {C:VC} {pb po N:Nat} {A:Nat→Prop} {w:World} {tv bv c4:Value} {ts:List Par} {bs:List Bd} {env:Env} (hst:St C pb po A w tv bv c4 ts bs env N) (a b c:Obj):Locs C pb A tv bv (((w.alloc a).alloc b).alloc c) [(w.heap.size+1+1,c),(w.heap.size+1,b),(w.heap.size,a)]:=by
 have:=(Locs.two hst a b).alloc (hst.below (((Below.refl _ _).alloc (Nat.le_refl _) _).alloc (by simp) _)) c
 simpa using this
def ALoop (C:VC) (pb po:Nat) (A:Nat→Prop) (w:World) (tv bv c4:Value) (ts:List Par) (bs:List Bd) (env:Env) (N:Nat) (call:Bool) (n:Nd) (nv s2 s3 s4:Value) (q:Nat) (wr:World):Prop:=
 q≤n.kids.length∧∃ Aq tvq bvq c4q av,St C pb po Aq wr tvq bvq c4q (argsN C.lib call (n.kids.take q) env ts).ts (bs ++ (argsN C.lib call (n.kids.take q) env ts).bs) (argsN C.lib call (n.kids.take q) env ts).env (N+2 * sizeL (n.kids.take q))∧
  Step C pb A w tv bv c4 Aq wr tvq bvq c4q∧Locs C pb Aq tvq bvq wr [(w.heap.size+1+1,.cells #[.string ⟨#[]⟩,.bool false,s2,s3,s4,av,.slice none 0 0,.slice none 0 0] 116),(w.heap.size+1,.cells #[.string ⟨#[]⟩,.bool false] 97),(w.heap.size,.cells #[.int .u8 n.kind,.int .i64 n.num,.string n.name,nv] 34)]∧
  ArgsRow C pb Aq tvq bvq (w.heap.size+1+1+1) wr av (argsN C.lib call (n.kids.take q) env ts).args
theorem zla (w:World) (u:Value) (e:TypeId):∀ j x,[u][j]?=some x→(w.alloc (.cells #[u] e)).cell? ((⟨w.heap.size,0,none⟩:Addr).add j)=some x:=by
 intro j x hj
 match j,hj with
 | 0,hj=>simp at hj;subst hj;simp [Addr.add]
theorem zig {C:VC} {pb g2 be:Nat} {A1:Nat→Prop} {w1 wB w2:World} {tv1 bv1:Value} {base:Nat} {av:Value} {args:List ByteArray} {L:List (Nat × Obj)} {arr:Array Value}
 (hL:Locs C pb A1 tv1 bv1 w1 ((g2,.cells arr be (0,0)) :: L)) (hR:ArgsRow C pb A1 tv1 bv1 base w1 av args) (hg2:g2 < base) (hB:Below w1.heap.size w1 wB) (hg:wB.grownBy w2 av.ownBlock):w2.heap[g2]?=some (.cells arr be (0,0)):=by
 have hk:Keeps w1 w2 (fun k=>av.ownBlock=some k):=(Keeps.of_below _ hB).trans (Keeps.of_grown (S:=fun k=>av.ownBlock=some k) hg (fun k e=>.inl e)) (fun k e=>.inl e)
 exact (hk.block g2 (hL.lt (p:=(g2,.cells arr be (0,0))) (List.mem_cons_self ..)) (fun e=>by have:=(hR.lt e).1;omega)).trans (hL.blk (List.mem_cons_self ..))
theorem zdH (a b:Value) (w:World):(Instr.field 97 (.agg #[a,b]) 0).run Tryz.prog w=.ok a w:=by kernel_rfl
theorem zdx (k:Int):opList k=((k == 86) || ((k == 87) || (k == 89))):=rfl
theorem zjc (lib:List Fn) (r:YR) (n:Nd):argStep lib false r n=⟨(exprN lib n r.env r.ts).ts,r.bs ++ (exprN lib n r.env r.ts).bs,r.args ++ [(exprN lib n r.env r.ts).par.name],(exprN lib n r.env r.ts).env⟩:=by
 simp [argStep]
theorem zez {C:VC} {pb po N base:Nat} {A:Nat→Prop} {w w0:World} {tv bv c4 tv0 bv0 c40:Value} {A0:Nat→Prop} {ts:List Par} {bs:List Bd} {env:Env} {av:Value} {args:List ByteArray} (hS:St C pb po A w tv bv c4 ts bs env N) (hT:Step C pb A0 w0 tv0 bv0 c40 A w tv bv c4) (hR:ArgsRow C pb A tv bv base w av args) (hb:w0.heap.size≤base) (hl:args.length≤maxLen):
 St C pb po (fun k=>A k∨av.ownBlock=some k) w tv bv c4 ts bs env N∧Step C pb A0 w0 tv0 bv0 c40 (fun k=>A k∨av.ownBlock=some k) w tv bv c4∧StrsAt (fun k=>A k∨av.ownBlock=some k) w av args∧(∀ L,Locs C pb A tv bv w L→(∀ p ∈ L,p.1 < base)→Locs C pb (fun k=>A k∨av.ownBlock=some k) tv bv w L):=by
 refine ⟨hS.more (fun k a=>.inl a) (fun k a=>?_),hT.more (fun k a=>.inl a) (fun k a=>?_),hR.shut (fun k e=>.inr e) hl,fun L hL hp p hm=>?_⟩
 · rcases a with a|a
   · exact .inl a
   · exact .inr ⟨(hR.lt a).2,(hR.apart k a).2⟩
 · rcases a with a|a
   · exact .inl a
   · exact .inr (Nat.le_trans hb (hR.lt a).1)
 · obtain ⟨h1,h2,h3⟩:=hL p hm
   refine ⟨h1,fun a=>?_,h3⟩
   rcases a with a|a
   · exact h2 a
   · have:=(hR.lt a).1;have:=hp p hm;omega
theorem znA (m:Nat) (ih:XOk m) (C:VC) (n:Nd) (v:Value) (pb po:Nat) (A:Nat→Prop) (w:World) (tv bv c4:Value) (ts:List Par) (bs:List Bd) (env:Env) (N:Nat) (h81:n.kind≠81) (h84:n.kind≠84) (h83:n.kind≠83) (h85:n.kind≠85) (hm:sizeN n≤m+1) (hform:formedN n=true) (hkn:knownN C.lib n=true) (hv:NdAt A w v n) (hst:St C pb po A w tv bv c4 ts bs env N)
 (hse:SmallE env) (hts:TsSmall ts) (hl1:ts.length+2 * sizeN n≤100000) (hl2:bs.length+2 * sizeN n≤100000) (hl3:N+2 * sizeN n≤100000):
 Calls Tryz.prog 105 #[.pointer (some ⟨C.bV,0,none⟩),v,.pointer (some ⟨pb,po,none⟩)] w (XPost C pb po A w tv bv c4 bs (N+2 * sizeN n) (exprN C.lib n env ts)):=by
 obtain ⟨hok,hlen,ka,kc,rfl,hk⟩:=hv.open
 unfold maxLen at hlen
 have HEQ:=Lib.hid (zjN C.lib n env ts h81 h84 h83 h85)
 have d81:(n.kind == 81)=false:=by simpa using h81
 have d84:(n.kind == 84)=false:=by simpa using h84
 have d83:(n.kind == 83)=false:=by simpa using h83
 have d85:(n.kind == 85)=false:=by simpa using h85
 have hsz:=zbd n
 have hkl:=zbp n.kids
 have hs:=hok.2.2
 have hL0:=Locs.three hst (.cells #[.int .u8 n.kind,.int .i64 n.num,.string n.name,.slice ka n.kids.length kc] 34) (.cells #[.string ⟨#[]⟩,.bool false] 97) (.cells #[.string ⟨#[]⟩,.bool false,.int .u8 n.kind,.int .i64 n.num,.string ⟨#[]⟩,.slice none 0 0,.slice none 0 0,.slice none 0 0] 116)
 have hA:Below w.heap.size w (((w.alloc (.cells #[.int .u8 n.kind,.int .i64 n.num,.string n.name,.slice ka n.kids.length kc] 34)).alloc (.cells #[.string ⟨#[]⟩,.bool false] 97)).alloc (.cells #[.string ⟨#[]⟩,.bool false,.int .u8 n.kind,.int .i64 n.num,.string ⟨#[]⟩,.slice none 0 0,.slice none 0 0,.slice none 0 0] 116)):=(((Below.refl _ _).alloc (Nat.le_refl _) _).alloc (by simp) _).alloc (by simp;omega) _
 have hS0:=hst.below hA
 have hT0:=(Step.refl C pb A w tv bv c4).below hA
 have HR:Hid (ALoop C pb po A w tv bv c4 ts bs env N false n (.slice ka n.kids.length kc) (.int .u8 n.kind) (.int .i64 n.num) (.string ⟨#[]⟩) 0 (((w.alloc (.cells #[.int .u8 n.kind,.int .i64 n.num,.string n.name,.slice ka n.kids.length kc] 34)).alloc (.cells #[.string ⟨#[]⟩,.bool false] 97)).alloc (.cells #[.string ⟨#[]⟩,.bool false,.int .u8 n.kind,.int .i64 n.num,.string ⟨#[]⟩,.slice none 0 0,.slice none 0 0,.slice none 0 0] 116))):=Lib.hid ⟨Nat.zero_le _,A,tv,bv,c4,.slice none 0 0,by simpa [argsN,sizeL] using hS0,hT0,hL0,ArgsRow.nil ..⟩
 have HST:=Lib.hid hst
 have HK:=Lib.hid hk
 have HF:=Lib.hid hform
 have HKN:=Lib.hid hkn
 have HSZ:=Lib.hid hsz
 clear hst hS0 h84 h81 h83 h85 hk hform hkn hsz hL0 hT0 hA
 go_enter Tryz.func105,Tryz.ntmps105
 go_wp2
 generalize (((w.alloc (.cells #[.int .u8 n.kind,.int .i64 n.num,.string n.name,.slice ka n.kids.length kc] 34)).alloc (.cells #[.string ⟨#[]⟩,.bool false] 97)).alloc (.cells #[.string ⟨#[]⟩,.bool false,.int .u8 n.kind,.int .i64 n.num,.string ⟨#[]⟩,.slice none 0 0,.slice none 0 0,.slice none 0 0] 116))=W at *
 go_loopw [74] (fun i wr=>∃ q:Nat,i=.int .i64 q∧ALoop C pb po A w tv bv c4 ts bs env N false n (.slice ka n.kids.length kc) (.int .u8 n.kind) (.int .i64 n.num) (.string ⟨#[]⟩) q wr) (fun i _=>n.kids.length - (intOf i).toNat)
 case atStart=>exact ⟨0,rfl,HR.out⟩
 case round=>
  clear HR
  obtain ⟨q,rfl,hq,Aq,tvq,bvq,c4q,av,hS,hT,hL,hR⟩:=hrel
  by_cases hlt:q < n.kids.length
  · obtain ⟨b,off,cap,kaq,kcq,he,q0,q1,q2,q3,hnd⟩:=HK.out.later (HST.out.stays hT) hlt
    simp only [Value.slice.injEq] at he
    obtain ⟨rfl,-,rfl⟩:=he
    have HST1:Hid (argsN C.lib false (n.kids.take (q+1)) env ts=_):=Lib.hid ((zdq C.lib false hlt env ts).trans (zjc _ _ _))
    have hsl:=zaL n.kids (q+1)
    have HSL:=Lib.hid (zbm n.kids q hlt)
    have hy:=zby C.lib false (n.kids.take q) env ts
    have hal:=zbu C.lib false (n.kids.take q) env ts
    rw [List.length_take,Nat.min_eq_left hq] at hal
    have hsz:=HSZ.out
    have hys:=zbT C.lib false (n.kids.take q) env ts hse hts (by have:=HSL.out;omega)
    generalize argsN C.lib false (n.kids.take q) env ts=Y at *
    have hA2:Below wr.heap.size wr (wr.alloc (.cells #[.int .u8 (at' n.kids q).kind,.int .i64 (at' n.kids q).num,.string (at' n.kids q).name,.slice kaq (at' n.kids q).kids.length kcq] 34)).drew:=zal ((Below.refl _ _).alloc (Nat.le_refl _) _) 1
    have hS2:=hS.below hA2
    have hT2:=hT.below hA2
    have hL2:=hL.below hA2
    have hR2:=hR.below hA2
    have p5:(wr.alloc (.cells #[.int .u8 (at' n.kids q).kind,.int .i64 (at' n.kids q).num,.string (at' n.kids q).name,.slice kaq (at' n.kids q).kids.length kcq] 34)).cell? ⟨w.heap.size+1+1,5,none⟩=some av:=zae ((hL.below ((Below.refl _ _).alloc (Nat.le_refl _) _)).blk (List.mem_cons_self ..)) 5 rfl
    have hx:=zap C.lib (at' n.kids q) Y.env Y.ts
    have hxs:=zaA C.lib (at' n.kids q) Y.env Y.ts hys.1 hys.2.1 (by have:=HSL.out;omega)
    have HCX:=Lib.hid (ih C (at' n.kids q) _ pb po Aq _ tvq bvq c4q Y.ts (bs ++ Y.bs) Y.env _ (by have:=zaC n q hlt;omega) (zaz HF.out hlt) (zbG HKN.out hlt) (hnd.stays (Stays.of_below hA2)) hS2 hys.1 hys.2.1 (by have:=HSL.out;omega) (by have:=HSL.out;rw [List.length_append];omega) (by have:=HSL.out;omega))
    have HL2:=Lib.hid hL2
    have HR2:=Lib.hid hR2
    have HT2:=Lib.hid hT2
    have hlw:w.heap.size+1+1 < wr.heap.size:=hL.lt (p:=(w.heap.size+1+1,_)) (List.mem_cons_self ..)
    have HAL:=Lib.hid hal
    have HYB:Y.args.length+1≤100000:=by omega
    clear hal hsz hL2 hR2 hT2 hS2 hL hR hT hS hnd
    have hnew:=zah wr (.cells #[.int .u8 (at' n.kids q).kind,.int .i64 (at' n.kids q).num,.string (at' n.kids q).name,.slice kaq (at' n.kids q).kids.length kcq] 34)
    have kk0:(wr.alloc (.cells #[.int .u8 (at' n.kids q).kind,.int .i64 (at' n.kids q).num,.string (at' n.kids q).name,.slice kaq (at' n.kids q).kids.length kcq] 34)).cell? ⟨wr.heap.size,0,none⟩=some (.int .u8 (at' n.kids q).kind):=zae hnew 0 rfl
    have kk1:(wr.alloc (.cells #[.int .u8 (at' n.kids q).kind,.int .i64 (at' n.kids q).num,.string (at' n.kids q).name,.slice kaq (at' n.kids q).kids.length kcq] 34)).cell? ⟨wr.heap.size,1,none⟩=some (.int .i64 (at' n.kids q).num):=zae hnew 1 rfl
    have kk2:(wr.alloc (.cells #[.int .u8 (at' n.kids q).kind,.int .i64 (at' n.kids q).num,.string (at' n.kids q).name,.slice kaq (at' n.kids q).kids.length kcq] 34)).cell? ⟨wr.heap.size,2,none⟩=some (.string (at' n.kids q).name):=zae hnew 2 rfl
    have kk3:(wr.alloc (.cells #[.int .u8 (at' n.kids q).kind,.int .i64 (at' n.kids q).num,.string (at' n.kids q).name,.slice kaq (at' n.kids q).kids.length kcq] 34)).cell? ⟨wr.heap.size,3,none⟩=some (.slice kaq (at' n.kids q).kids.length kcq):=zae hnew 3 rfl
    clear hnew
    go_wp2
    generalize (wr.alloc (.cells #[.int .u8 (at' n.kids q).kind,.int .i64 (at' n.kids q).num,.string (at' n.kids q).name,.slice kaq (at' n.kids q).kids.length kcq] 34))=W2 at *
    clear q0 q1 q2 q3
    generalize hXe:exprN C.lib (at' n.kids q) Y.env Y.ts=X at *
    clear hXe
    have hfd:=zdH
    go_region_law (first
     | (go_simp;go_at_call 105;refine HCX.out.mono ?_;rintro e w1 ⟨rfl,A1,tv1,bv1,c41,hS1,hT1⟩;have hL1:=HL2.out.step hT1;have hR1:=HR2.out.step hT1;have hT1':=HT2.out.trans hT1;have b5:w1.cell? ⟨w.heap.size+1+1,5,none⟩=some av:=zae (hL1.blk (List.mem_cons_self ..)) 5 rfl;have hB1:Below w1.heap.size w1 (w1.alloc (.cells #[.string X.par.name] 9)):=(Below.refl _ _).alloc (Nat.le_refl _) _;have b5':(w1.alloc (.cells #[.string X.par.name] 9)).cell? ⟨w.heap.size+1+1,5,none⟩=some av:=zae ((hL1.below hB1).blk (List.mem_cons_self ..)) 5 rfl;have HL1:=Lib.hid hL1;have HR1:=Lib.hid hR1;have HS1:=Lib.hid hS1;clear hL1 hR1 hS1)
     | (refine zbF TStr (by rfl) (by decide) (by rfl) (.tmp 79) (.tmp 85) (by rfl) (by rfl) (by rfl) (zaM HR1.out.own hB1) (.inr ⟨⟨w1.heap.size,0,none⟩,1,by rfl,zla w1 _ _⟩) (by rfl) (by simp [Value.oneCell']) (by unfold maxLen;omega) (by omega) (by have:=hB1.size;have:=HL1.out.lt (p:=(w.heap.size+1+1,_)) (List.mem_cons_self ..);simp only at this;omega) ?_;intro v' w2 hown hg hnew;obtain ⟨av',cv',rfl⟩:=zaG hown;have hbk:=zig HL1.out HR1.out (by omega) hB1 hg;have s5:w2.cell? ⟨w.heap.size+1+1,5,none⟩=some av:=zae hbk 5 rfl;have s6:=unfrozen hbk 5;have HN:=Lib.hid (zgQ HS1.out hT1' HL1.out HR1.out (by simp;omega) (by omega) (by omega) (by have:=HL1.out.lt (p:=(w.heap.size+1+1,_)) (List.mem_cons_self ..);simp only at this;omega) hxs.1 hB1 hown hg hnew);clear hbk hown hg hnew))
    all_goals
     clear kk0 kk1 kk2 kk3 p5 b5 b5' s5 s6
     go_wp2
     obtain ⟨hS3,hT3,hL3,hR3⟩:=HN.out
     have hR:ALoop C pb po A w tv bv c4 ts bs env N false n (.slice (some ⟨b,off,none⟩) n.kids.length kc) (.int .u8 n.kind) (.int .i64 n.num) (.string ⟨#[]⟩) (q+1) _:=⟨by omega,A1,tv1,bv1,c41,.slice av' (Y.args.length+1) cv',by rw [HST1.out,← List.append_assoc];exact hS3.mono (by have:=HSL.out;omega),hT3,hL3,by rw [HST1.out];exact hR3⟩
     go_roundw
     case rel=>exact ⟨q+1,by go_num,hR⟩
     case measure=>simp [intOf];omega
  · obtain rfl:q=n.kids.length:=by omega
    rw [List.take_length] at hS hR
    have hal:=zbu C.lib false n.kids env ts
    have hy:=zby C.lib false n.kids env ts
    generalize argsN C.lib false n.kids env ts=Y at *
    have hsz:=HSZ.out
    obtain ⟨aa,ca,rfl⟩:=hR.form
    obtain ⟨hS2,hT2,hA2,hLL⟩:=zez hS hT hR (by omega) (by unfold maxLen;omega)
    have hL2:=hLL _ hL (by simp;omega)
    obtain ⟨b0,b1,b2,b3,b4,b5,b6,b7⟩:=cells8 (hL.blk (List.mem_cons_self ..))
    have k0:wr.cell? ⟨w.heap.size,0,none⟩=some (.int .u8 n.kind):=zae (hL.blk (g:=w.heap.size) (List.mem_cons_of_mem _ (List.mem_cons_of_mem _ (List.mem_cons_self ..)))) 0 rfl
    have HCX:Hid (∀ L,opList n.kind=L→Calls Tryz.prog 159 _ wr _):=Lib.hid (fun L _=>zhN C pb po _ wr tvq bvq c4q Y.ts (bs ++ Y.bs) Y.env _ ⟨#[]⟩ ⟨#[]⟩ false L n.kind n.num _ _ _ Y.args [] [] hS2 hA2 (BdsAt.nil _) (BdsAt.nil _) hok.1 hok.2.1 (Nat.zero_le _) (by omega) (by rw [List.length_append];omega))
    have HL2:=Lib.hid hL2
    have HT2:=Lib.hid hT2
    have hlt:¬ (n.kids.length:Int) < (n.kids.length:Int):=by omega
    clear hS hT hL hR hS2 hT2 hA2 hLL hL2 hal hy hsz
    cases h6:(n.kind == 86)
    · cases h7:(n.kind == 87)
      · cases h9:(n.kind == 89)
        · have tok1:True:=trivial
          have HO:Hid (opList n.kind=false):=Lib.hid (by rw [zdx,h6,h7,h9];rfl)
          go_wp2_with (go_at_call 159;refine (HCX.out _ HO.out).mono ?_;rintro e w5 ⟨rfl,A5,tv5,bv5,c45,hS5,hT5⟩;have hL5:=(HL2.out.step hT5).sub (L':=[(w.heap.size+1,.cells #[.string ⟨#[]⟩,.bool false] 97)]) (by simp);have hR5:=hL5.blk (List.mem_cons_self ..);have r0:w5.cell? ⟨w.heap.size+1,0,none⟩=some (.string ⟨#[]⟩):=zae hR5 0 rfl;have r1:w5.cell? ⟨w.heap.size+1,1,none⟩=some (.bool false):=zae hR5 1 rfl;have f0:=unfrozen hR5 0;have f1:=unfrozen hR5 1;have HS5:=Lib.hid hS5;have HL5:=Lib.hid hL5;have HT5:=Lib.hid (HT2.out.trans hT5);clear hR5 hS5 hL5 hT5)
          (try simp only [Exit.inBlock,Exit.then])
          have hL6:=HL5.out.set 0 (.string (tname Y.ts.length)) (by simp)
          have hL7:=hL6.set 1 (.bool false) (by simp)
          have hS7:=(HS5.out.setLoc HL5.out (List.mem_cons_self ..) 0 (.string (tname Y.ts.length))).setLoc hL6 (List.mem_cons_self ..) 1 (.bool false)
          refine bodyPost_ret (results_cell_row (P:=Tryz.prog) rfl _ _ (w.heap.size+1) _ _ _ _ rfl (hL7.blk (List.mem_cons_self ..)) Tryz.underlying97 rfl (by kernel_rfl)) rfl ?_
          rw [HEQ.out,HO.out]
          refine ⟨rfl,A5,tv5,bv5,c45,?_,?_⟩
          · rw [← List.append_assoc];exact hS7.mono (by have:=HSZ.out;omega)
          · exact HT5.out.young ((zaf _ (w.heap.size+1) 0 _).same (zaf _ (w.heap.size+1) 1 _)) (fun k e=>by omega)
        · have tok1:True:=trivial
          have HO:Hid (opList n.kind=true):=Lib.hid (by rw [zdx,h6,h7,h9];rfl)
          go_wp2_with (go_at_call 159;refine (HCX.out _ HO.out).mono ?_;rintro e w5 ⟨rfl,A5,tv5,bv5,c45,hS5,hT5⟩;have hL5:=(HL2.out.step hT5).sub (L':=[(w.heap.size+1,.cells #[.string ⟨#[]⟩,.bool false] 97)]) (by simp);have hR5:=hL5.blk (List.mem_cons_self ..);have r0:w5.cell? ⟨w.heap.size+1,0,none⟩=some (.string ⟨#[]⟩):=zae hR5 0 rfl;have r1:w5.cell? ⟨w.heap.size+1,1,none⟩=some (.bool false):=zae hR5 1 rfl;have f0:=unfrozen hR5 0;have f1:=unfrozen hR5 1;have HS5:=Lib.hid hS5;have HL5:=Lib.hid hL5;have HT5:=Lib.hid (HT2.out.trans hT5);clear hR5 hS5 hL5 hT5)
          (try simp only [Exit.inBlock,Exit.then])
          have hL6:=HL5.out.set 0 (.string (tname Y.ts.length)) (by simp)
          have hL7:=hL6.set 1 (.bool true) (by simp)
          have hS7:=(HS5.out.setLoc HL5.out (List.mem_cons_self ..) 0 (.string (tname Y.ts.length))).setLoc hL6 (List.mem_cons_self ..) 1 (.bool true)
          refine bodyPost_ret (results_cell_row (P:=Tryz.prog) rfl _ _ (w.heap.size+1) _ _ _ _ rfl (hL7.blk (List.mem_cons_self ..)) Tryz.underlying97 rfl (by kernel_rfl)) rfl ?_
          rw [HEQ.out,HO.out]
          refine ⟨rfl,A5,tv5,bv5,c45,?_,?_⟩
          · rw [← List.append_assoc];exact hS7.mono (by have:=HSZ.out;omega)
          · exact HT5.out.young ((zaf _ (w.heap.size+1) 0 _).same (zaf _ (w.heap.size+1) 1 _)) (fun k e=>by omega)
      · have tok1:True:=trivial
        have HO:Hid (opList n.kind=true):=Lib.hid (by rw [zdx,h6,h7];rfl)
        go_wp2_with (go_at_call 159;refine (HCX.out _ HO.out).mono ?_;rintro e w5 ⟨rfl,A5,tv5,bv5,c45,hS5,hT5⟩;have hL5:=(HL2.out.step hT5).sub (L':=[(w.heap.size+1,.cells #[.string ⟨#[]⟩,.bool false] 97)]) (by simp);have hR5:=hL5.blk (List.mem_cons_self ..);have r0:w5.cell? ⟨w.heap.size+1,0,none⟩=some (.string ⟨#[]⟩):=zae hR5 0 rfl;have r1:w5.cell? ⟨w.heap.size+1,1,none⟩=some (.bool false):=zae hR5 1 rfl;have f0:=unfrozen hR5 0;have f1:=unfrozen hR5 1;have HS5:=Lib.hid hS5;have HL5:=Lib.hid hL5;have HT5:=Lib.hid (HT2.out.trans hT5);clear hR5 hS5 hL5 hT5)
        (try simp only [Exit.inBlock,Exit.then])
        have hL6:=HL5.out.set 0 (.string (tname Y.ts.length)) (by simp)
        have hL7:=hL6.set 1 (.bool true) (by simp)
        have hS7:=(HS5.out.setLoc HL5.out (List.mem_cons_self ..) 0 (.string (tname Y.ts.length))).setLoc hL6 (List.mem_cons_self ..) 1 (.bool true)
        refine bodyPost_ret (results_cell_row (P:=Tryz.prog) rfl _ _ (w.heap.size+1) _ _ _ _ rfl (hL7.blk (List.mem_cons_self ..)) Tryz.underlying97 rfl (by kernel_rfl)) rfl ?_
        rw [HEQ.out,HO.out]
        refine ⟨rfl,A5,tv5,bv5,c45,?_,?_⟩
        · rw [← List.append_assoc];exact hS7.mono (by have:=HSZ.out;omega)
        · exact HT5.out.young ((zaf _ (w.heap.size+1) 0 _).same (zaf _ (w.heap.size+1) 1 _)) (fun k e=>by omega)
    · have tok1:True:=trivial
      have HO:Hid (opList n.kind=true):=Lib.hid (by rw [zdx,h6];rfl)
      go_wp2_with (go_at_call 159;refine (HCX.out _ HO.out).mono ?_;rintro e w5 ⟨rfl,A5,tv5,bv5,c45,hS5,hT5⟩;have hL5:=(HL2.out.step hT5).sub (L':=[(w.heap.size+1,.cells #[.string ⟨#[]⟩,.bool false] 97)]) (by simp);have hR5:=hL5.blk (List.mem_cons_self ..);have r0:w5.cell? ⟨w.heap.size+1,0,none⟩=some (.string ⟨#[]⟩):=zae hR5 0 rfl;have r1:w5.cell? ⟨w.heap.size+1,1,none⟩=some (.bool false):=zae hR5 1 rfl;have f0:=unfrozen hR5 0;have f1:=unfrozen hR5 1;have HS5:=Lib.hid hS5;have HL5:=Lib.hid hL5;have HT5:=Lib.hid (HT2.out.trans hT5);clear hR5 hS5 hL5 hT5)
      (try simp only [Exit.inBlock,Exit.then])
      have hL6:=HL5.out.set 0 (.string (tname Y.ts.length)) (by simp)
      have hL7:=hL6.set 1 (.bool true) (by simp)
      have hS7:=(HS5.out.setLoc HL5.out (List.mem_cons_self ..) 0 (.string (tname Y.ts.length))).setLoc hL6 (List.mem_cons_self ..) 1 (.bool true)
      refine bodyPost_ret (results_cell_row (P:=Tryz.prog) rfl _ _ (w.heap.size+1) _ _ _ _ rfl (hL7.blk (List.mem_cons_self ..)) Tryz.underlying97 rfl (by kernel_rfl)) rfl ?_
      rw [HEQ.out,HO.out]
      refine ⟨rfl,A5,tv5,bv5,c45,?_,?_⟩
      · rw [← List.append_assoc];exact hS7.mono (by have:=HSZ.out;omega)
      · exact HT5.out.young ((zaf _ (w.heap.size+1) 0 _).same (zaf _ (w.heap.size+1) 1 _)) (fun k e=>by omega)
end Go.Proofs.YtpobmoegmdhbpaaGreatDoor
/- The visitor of package anf:call. -/
namespace Go.Proofs.YtpobmoegmdhbpaaGreatDoor
open Go.RowKit
theorem ArgsRow.lit {C:VC} {pb po N:Nat} {A:Nat→Prop} {w:World} {tv bv c4:Value} {ts:List Par} {bs:List Bd} {env:Env} (hS:St C pb po A w tv bv c4 ts bs env N) {s:ByteArray} (hs:s.size≤maxLen):
 ArgsRow C pb A tv bv w.heap.size (w.alloc (.cells #[.string s] 9)) (.slice (some ⟨w.heap.size,0,none⟩) 1 1) [s]:=by
 refine ⟨⟨rfl,.inr ⟨w.heap.size,1,#[.string s],rfl,Nat.le_refl _,heap_alloc_new w _,Nat.le_refl _,by unfold maxLen;omega,rfl,rfl⟩⟩,fun x hx=>by simp at hx;subst hx;exact hs,fun k e=>?_⟩
 simp only [Value.ownBlock,Option.some.injEq] at e
 subst e
 exact ⟨fun a=>Nat.lt_irrefl _ (hS.alt a),fun m=>Nat.lt_irrefl _ (hS.mlt m)⟩
theorem zkX {C:VC} {pb base base':Nat} {A:Nat→Prop} {w:World} {tv bv:Value} {av av':Value} {args args':List ByteArray} (hR:ArgsRow C pb A tv bv base w av args) (hR':ArgsRow C pb A tv bv base' w av' args') (h:∀ k,av'.ownBlock=some k→k < base):ArgsRow C pb (fun k=>A k∨av.ownBlock=some k) tv bv base' w av' args':=
 ⟨hR'.own,hR'.small,fun k e=>⟨fun a=>by
   rcases a with a|a
   · exact (hR'.apart k e).1 a
   · have:=(hR.lt a).1;have:=h k e;omega,(hR'.apart k e).2⟩⟩
theorem zik {ops:Array Oper} {rest:List Oper} {o:Oper} {a:Act} {Q:Exit→Act→World→Prop} (hgd:o.guard=none) (s x:Operand) (ho:o.op=.call { callee:=.builtin .append,args:=#[s,x],argTypes:=#[23,23] })
 {C:VC} {pb po N g2 be:Nat} {A A1:Nat→Prop} {w w1:World} {tv bv c4 tv1 bv1 c41:Value} {ts:List Par} {bs:List Bd} {env:Env} {base:Nat} {av:Value} {args:List ByteArray} {nm:ByteArray} {L:List (Nat × Obj)} {s0 s1 s2 s3 s4 s6 s7:Value}
 (hS:St C pb po A1 w1 tv1 bv1 c41 ts bs env N) (hT:Step C pb A w tv bv c4 A1 w1 tv1 bv1 c41) (hL:Locs C pb A1 tv1 bv1 w1 ((g2,.cells #[s0,s1,s2,s3,s4,av,s6,s7] be (0,0)) :: L)) (hR:ArgsRow C pb A1 tv1 bv1 base w1 av args)
 (hLg:∀ p ∈ L,p.1≠g2∧p.1 < base) (hg2:g2 < base) (hg2w:w.heap.size≤g2) (hsz:base≤w1.heap.size) (hs:nm.size≤maxLen) (hal:args.length < 100000)
 {g:Nat} (he:a.eval s=av) (hx:a.eval x=.slice (some ⟨g,0,none⟩) 1 1) (hgw:g=w1.heap.size)
 (h:∀ a' c' w2,w2.cell? ⟨g2,5,none⟩=some av→w2.frozen? ⟨g2,5,none⟩=false→Hid (St C pb po A1 (w2.setCell ⟨g2,5,none⟩ (.slice a' (args.length+1) c')) tv1 bv1 c41 ts bs env N∧Step C pb A w tv bv c4 A1 (w2.setCell ⟨g2,5,none⟩ (.slice a' (args.length+1) c')) tv1 bv1 c41∧
   Locs C pb A1 tv1 bv1 (w2.setCell ⟨g2,5,none⟩ (.slice a' (args.length+1) c')) ((g2,.cells #[s0,s1,s2,s3,s4,.slice a' (args.length+1) c',s6,s7] be (0,0)) :: L)∧ArgsRow C pb A1 tv1 bv1 base (w2.setCell ⟨g2,5,none⟩ (.slice a' (args.length+1) c')) (.slice a' (args.length+1) c') (args ++ [nm]))→
   wpList Tryz.prog ops Q rest (a.put o.dst (.slice a' (args.length+1) c')) w2):
 wpList Tryz.prog ops Q (o :: rest) a (w1.alloc (.cells #[.string nm] 9)):=by
 subst hgw
 have hB1:Below w1.heap.size w1 (w1.alloc (.cells #[.string nm] 9)):=(Below.refl _ _).alloc (Nat.le_refl _) _
 refine zbk TStr rfl (by decide) hgd s x ho (base:=base) (v:=av) (n:=args.length) (m:=1) (xs:=args.map Value.string) (news:=[.string nm]) he hx (zaM hR.own hB1) (.inr ⟨_,_,rfl,zla w1 _ _⟩) rfl (by simp [Value.oneCell']) (by unfold maxLen;omega) (by omega) (by have:=hB1.size;omega) ?_
 intro v' w2 hown hg hnew
 obtain ⟨a',c',rfl⟩:=zaG hown
 have hbk:=zig hL hR hg2 hB1 hg
 exact h a' c' w2 (zae hbk 5 rfl) (unfrozen hbk 5) (Lib.hid (zgQ hS hT hL hR hLg hg2 hg2w hsz hs hB1 hown hg hnew))
theorem zhd (lib:List Fn) (r:YR) (n:Nd) (h:namesN (sizeN n) n=true):argStep lib true r n=⟨(exprN lib n r.env r.ts).ts ++ [⟨tname (exprN lib n r.env r.ts).ts.length,(exprN lib n r.env r.ts).par.list⟩],r.bs ++ (exprN lib n r.env r.ts).bs ++ [varB (tname (exprN lib n r.env r.ts).ts.length) (exprN lib n r.env r.ts).par.list (exprN lib n r.env r.ts).par.name],r.args ++ [tname (exprN lib n r.env r.ts).ts.length],(exprN lib n r.env r.ts).env⟩:=by
 simp [argStep,h]
theorem zfH (lib:List Fn) (r:YR) (n:Nd) (h:namesN (sizeN n) n=false):argStep lib true r n=⟨(exprN lib n r.env r.ts).ts,r.bs ++ (exprN lib n r.env r.ts).bs,r.args ++ [(exprN lib n r.env r.ts).par.name],(exprN lib n r.env r.ts).env⟩:=by
 simp [argStep,h]
theorem znR (m:Nat) (ih:XOk m) (C:VC) (n:Nd) (v:Value) (pb po:Nat) (A:Nat→Prop) (w:World) (tv bv c4:Value) (ts:List Par) (bs:List Bd) (env:Env) (N:Nat) (h85:n.kind=85) (hm:sizeN n≤m+1) (hform:formedN n=true) (hkn:knownN C.lib n=true) (hv:NdAt A w v n) (hst:St C pb po A w tv bv c4 ts bs env N)
 (hse:SmallE env) (hts:TsSmall ts) (hl1:ts.length+2 * sizeN n≤100000) (hl2:bs.length+2 * sizeN n≤100000) (hl3:N+2 * sizeN n≤100000):
 Calls Tryz.prog 158 #[.pointer (some ⟨C.bV,0,none⟩),v,.pointer (some ⟨pb,po,none⟩)] w (XPost C pb po A w tv bv c4 bs (N+2 * sizeN n) (exprN C.lib n env ts)):=by
 obtain ⟨hok,hlen,ka,kc,rfl,hk⟩:=hv.open
 unfold maxLen at hlen
 have HEQ:=Lib.hid (zgy C.lib n env ts h85)
 have hsz:=zbd n
 have hkl:=zbp n.kids
 have hs:=hok.2.2
 have hL0:=Locs.three hst (.cells #[.int .u8 n.kind,.int .i64 n.num,.string n.name,.slice ka n.kids.length kc] 34) (.cells #[.string ⟨#[]⟩,.bool false] 97) (.cells #[.string ⟨#[]⟩,.bool false,.int .u8 85,.int .i64 0,.string n.name,.slice none 0 0,.slice none 0 0,.slice none 0 0] 116)
 have hA:Below w.heap.size w (((w.alloc (.cells #[.int .u8 n.kind,.int .i64 n.num,.string n.name,.slice ka n.kids.length kc] 34)).alloc (.cells #[.string ⟨#[]⟩,.bool false] 97)).alloc (.cells #[.string ⟨#[]⟩,.bool false,.int .u8 85,.int .i64 0,.string n.name,.slice none 0 0,.slice none 0 0,.slice none 0 0] 116)):=(((Below.refl _ _).alloc (Nat.le_refl _) _).alloc (by simp) _).alloc (by simp;omega) _
 have hS0:=hst.below hA
 have hT0:=(Step.refl C pb A w tv bv c4).below hA
 have HR:Hid (ALoop C pb po A w tv bv c4 ts bs env N true n (.slice ka n.kids.length kc) (.int .u8 85) (.int .i64 0) (.string n.name) 0 (((w.alloc (.cells #[.int .u8 n.kind,.int .i64 n.num,.string n.name,.slice ka n.kids.length kc] 34)).alloc (.cells #[.string ⟨#[]⟩,.bool false] 97)).alloc (.cells #[.string ⟨#[]⟩,.bool false,.int .u8 85,.int .i64 0,.string n.name,.slice none 0 0,.slice none 0 0,.slice none 0 0] 116))):=Lib.hid ⟨Nat.zero_le _,A,tv,bv,c4,.slice none 0 0,by simpa [argsN,sizeL] using hS0,hT0,hL0,ArgsRow.nil ..⟩
 have HST:=Lib.hid hst
 have HK:=Lib.hid hk
 have HF:=Lib.hid hform
 have HKN:=Lib.hid hkn
 have HSZ:=Lib.hid hsz
 have H85:=Lib.hid h85
 clear hst hS0 h85 hk hform hkn hsz hL0 hT0 hA
 go_enter Tryz.func158,Tryz.ntmps158
 go_wp2
 generalize (((w.alloc (.cells #[.int .u8 n.kind,.int .i64 n.num,.string n.name,.slice ka n.kids.length kc] 34)).alloc (.cells #[.string ⟨#[]⟩,.bool false] 97)).alloc (.cells #[.string ⟨#[]⟩,.bool false,.int .u8 85,.int .i64 0,.string n.name,.slice none 0 0,.slice none 0 0,.slice none 0 0] 116))=W at *
 go_loopw [17] (fun i wr=>∃ q:Nat,i=.int .i64 q∧ALoop C pb po A w tv bv c4 ts bs env N true n (.slice ka n.kids.length kc) (.int .u8 85) (.int .i64 0) (.string n.name) q wr) (fun i _=>n.kids.length - (intOf i).toNat)
 case atStart=>exact ⟨0,rfl,HR.out⟩
 case round=>
  clear HR
  obtain ⟨q,rfl,hq,Aq,tvq,bvq,c4q,av,hS,hT,hL,hR⟩:=hrel
  by_cases hlt:q < n.kids.length
  · obtain ⟨b,off,cap,kaq,kcq,he,q0,q1,q2,q3,hnd⟩:=HK.out.later (HST.out.stays hT) hlt
    simp only [Value.slice.injEq] at he
    obtain ⟨rfl,-,rfl⟩:=he
    have HST1:=Lib.hid (zdq C.lib true hlt env ts)
    have hsl:=zaL n.kids (q+1)
    have HSL:=Lib.hid (zbm n.kids q hlt)
    have hy:=zby C.lib true (n.kids.take q) env ts
    have hal:=zbu C.lib true (n.kids.take q) env ts
    rw [List.length_take,Nat.min_eq_left hq] at hal
    have hsz:=HSZ.out
    have hys:=zbT C.lib true (n.kids.take q) env ts hse hts (by have:=HSL.out;omega)
    generalize argsN C.lib true (n.kids.take q) env ts=Y at *
    have hA2:Below wr.heap.size wr (wr.alloc (.cells #[.int .u8 (at' n.kids q).kind,.int .i64 (at' n.kids q).num,.string (at' n.kids q).name,.slice kaq (at' n.kids q).kids.length kcq] 34)):=(Below.refl _ _).alloc (Nat.le_refl _) _
    have hS2:=hS.below hA2
    have hT2:=hT.below hA2
    have hL2:=hL.alloc hS (.cells #[.int .u8 (at' n.kids q).kind,.int .i64 (at' n.kids q).num,.string (at' n.kids q).name,.slice kaq (at' n.kids q).kids.length kcq] 34)
    have hR2:=hR.below hA2
    have hx:=zap C.lib (at' n.kids q) Y.env Y.ts
    have hxs:=zaA C.lib (at' n.kids q) Y.env Y.ts hys.1 hys.2.1 (by have:=HSL.out;omega)
    have hnd2:=hnd.stays (Stays.of_below hA2)
    have HCX:=Lib.hid (ih C (at' n.kids q) _ pb po Aq _ tvq bvq c4q Y.ts (bs ++ Y.bs) Y.env _ (by have:=zaC n q hlt;omega) (zaz HF.out hlt) (zbG HKN.out hlt) hnd2 hS2 hys.1 hys.2.1 (by have:=HSL.out;omega) (by have:=HSL.out;rw [List.length_append];omega) (by have:=HSL.out;omega))
    have HL2:=Lib.hid hL2
    have HR2:=Lib.hid hR2
    have HT2:=Lib.hid hT2
    have HS2:=Lib.hid hS2
    have HND:=Lib.hid hnd2
    have hlw:w.heap.size+1+1 < wr.heap.size:=hL.lt (p:=(w.heap.size+1+1,_)) (List.mem_cons_self ..)
    have HAL:=Lib.hid hal
    have HYB:Y.args.length+1≤100000:=by omega
    clear hal hsz hL2 hR2 hT2 hS2 hL hR hT hS hnd hnd2
    go_wp2_with (go_at_call 105;refine HCX.out.mono ?_;rintro e w1 ⟨rfl,A1,tv1,bv1,c41,hS1,hT1⟩;have hL1:=(HL2.out.step hT1).alloc hS1 (.cells #[.string (exprN C.lib (at' n.kids q) Y.env Y.ts).par.name,.bool (exprN C.lib (at' n.kids q) Y.env Y.ts).par.list] 97);have HL1:=Lib.hid hL1;have HS1:=Lib.hid hS1;have HT1:=Lib.hid hT1;have hkb:=(HL2.out.step hT1).blk (List.mem_cons_self ..);have k0:=zae hkb 0 rfl;have k1:=zae hkb 1 rfl;have k2:=zae hkb 2 rfl;have k3:=zae hkb 3 rfl;have hlk:=(HL2.out.step hT1).lt (List.mem_cons_self ..);clear hL1 hS1 hT1 hkb)
    have HSTc:=Lib.hid (fun h=>HST1.out.trans (zhd C.lib Y (at' n.kids q) h))
    have HSTo:=Lib.hid (fun h=>HST1.out.trans (zfH C.lib Y (at' n.kids q) h))
    generalize exprN C.lib (at' n.kids q) Y.env Y.ts=X at *
    have hA3:Below w1.heap.size w1 (w1.alloc (.cells #[.string X.par.name,.bool X.par.list] 97)):=(Below.refl _ _).alloc (Nat.le_refl _) _
    have hnd3:=(HND.out.stays (HS2.out.stays HT1.out)).stays (Stays.of_below hA3)
    have HT3:=Lib.hid ((HT2.out.trans HT1.out).below hA3)
    have HS3:=Lib.hid (HS1.out.below hA3)
    have HR3:=Lib.hid ((HR2.out.step HT1.out).below hA3)
    refine (zld _ _ _ _ hnd3 (zaz HF.out hlt)).mono ?_
    rintro e w4 ⟨rfl,hb4⟩
    clear hnd3 hA3
    generalize (w1.alloc (.cells #[.string X.par.name,.bool X.par.list] 97))=W3 at *
    have HL4:=Lib.hid (HL1.out.below hb4)
    have HT4:=Lib.hid (HT3.out.below hb4)
    have HS4:=Lib.hid (HS3.out.below hb4)
    have HR4:=Lib.hid (HR3.out.below hb4)
    have hxb:=HL4.out.blk (List.mem_cons_self ..)
    have u0:w4.cell? ⟨w1.heap.size,0,none⟩=some (.string X.par.name):=zae hxb 0 rfl
    have u1:w4.cell? ⟨w1.heap.size,1,none⟩=some (.bool X.par.list):=zae hxb 1 rfl
    have hbb:w4.heap[w.heap.size+1+1]?=_:=HL4.out.blk (g:=w.heap.size+1+1) (List.mem_cons_of_mem _ (List.mem_cons_of_mem _ (List.mem_cons_self ..)))
    have b5:w4.cell? ⟨w.heap.size+1+1,5,none⟩=some av:=zae hbb 5 rfl
    have hl4:w.heap.size+1+1 < w4.heap.size:=HL4.out.lt (p:=(w.heap.size+1+1,_)) (List.mem_cons_of_mem _ (List.mem_cons_of_mem _ (List.mem_cons_self ..)))
    have hl5:w1.heap.size < w4.heap.size:=HL4.out.lt (p:=(w1.heap.size,_)) (List.mem_cons_self ..)
    have HXB:=Lib.hid hxb
    clear q0 q1 q2 q3 k0 k1 k2 k3 hxb hbb
    by_cases hnm:namesN (sizeN (at' n.kids q)) (at' n.kids q)=true
    · rw [hnm]
      have HST2:=Lib.hid (HSTc.out hnm)
      clear hnm
      have hBl:Below w4.heap.size w4 (w4.alloc (.cells #[.string X.par.name] 9)):=(Below.refl _ _).alloc (Nat.le_refl _) _
      have hlit:=ArgsRow.lit HS4.out hxs.1
      obtain ⟨hS6,hT6,hA6,hLL⟩:=zez (HS4.out.below hBl) (HT4.out.below hBl) hlit (HT4.out.size) (by unfold maxLen;simp)
      have HL6:=Lib.hid (hLL _ (HL4.out.below hBl) (fun p hp=>HL4.out.lt hp))
      have HR6:=Lib.hid (zkX hlit (HR4.out.below hBl) (fun k e=>(HR4.out.lt e).2))
      have HCB:=Lib.hid (zhN C pb po _ _ tv1 bv1 c41 X.ts (bs ++ Y.bs ++ X.bs) X.env _ ⟨#[]⟩ ⟨#[]⟩ false X.par.list 81 0 _ _ _ [X.par.name] [] [] hS6 hA6 (BdsAt.nil _) (BdsAt.nil _) (by omega) (by unfold In64;omega) (Nat.zero_le _) (by have:=HSL.out;have:=HSZ.out;omega) (by have:=HSL.out;have:=HSZ.out;simp only [List.length_append];omega))
      have HT6:=Lib.hid hT6
      have HRB:Hid (∀ k,av.ownBlock=some k→k≠w1.heap.size):=Lib.hid (fun k e=>by have:=((HR2.out.step HT1.out).lt e).2;omega)
      have HNE:Hid (w.heap.size+1+1 < w1.heap.size):=Lib.hid (by have:=HT1.out.size;simp at this;omega)
      have HPN:Hid (∀ p ∈ [(wr.heap.size,Obj.cells #[.int .u8 (at' n.kids q).kind,.int .i64 (at' n.kids q).num,.string (at' n.kids q).name,.slice kaq (at' n.kids q).kids.length kcq] 34 (0,0)),(w.heap.size+1+1,.cells #[.string ⟨#[]⟩,.bool false,.int .u8 85,.int .i64 0,.string n.name,av,.slice none 0 0,.slice none 0 0] 116 (0,0)),(w.heap.size+1,.cells #[.string ⟨#[]⟩,.bool false] 97 (0,0)),(w.heap.size,.cells #[.int .u8 n.kind,.int .i64 n.num,.string n.name,.slice (some ⟨b,off,none⟩) n.kids.length kc] 34 (0,0))],p.1≠w1.heap.size):=Lib.hid (fun p hp=>by
       have:=(HL2.out.step HT1.out).lt hp;omega)
      clear hS6 hT6 hA6 hLL hlit hBl
      go_wp2_with (first
       | (go_at_call 159;refine HCB.out.mono ?_;rintro e w6 ⟨rfl,A6,tv6,bv6,c46,hS7,hT7⟩;have hL7:=HL6.out.step hT7;have HR7:=Lib.hid (HR6.out.step hT7);have HT7:=Lib.hid (HT6.out.trans hT7);have hx7:=hL7.blk (List.mem_cons_self ..);have y0:w6.cell? ⟨w1.heap.size,0,none⟩=some (.string X.par.name):=zae hx7 0 rfl;have y1:w6.cell? ⟨w1.heap.size,1,none⟩=some (.bool X.par.list):=zae hx7 1 rfl;have g0:=unfrozen hx7 0;have g1:=unfrozen hx7 1;have hne7:w.heap.size+1+1 < w1.heap.size:=HNE.out;have hL8:=(hL7.set 0 (.string (tname X.ts.length)) HPN.out).set 1 (.bool X.par.list) HPN.out;have HS8:=Lib.hid ((hS7.setLoc hL7 (List.mem_cons_self ..) 0 (.string (tname X.ts.length))).setLoc (hL7.set 0 (.string (tname X.ts.length)) HPN.out) (List.mem_cons_self ..) 1 (.bool X.par.list));have HR8:=Lib.hid ((HR7.out.keeps (zaf w6 w1.heap.size 0 (.string (tname X.ts.length))) HRB.out).keeps (zaf _ w1.heap.size 1 (.bool X.par.list)) HRB.out);have HT8:=Lib.hid (HT7.out.young ((zaf w6 w1.heap.size 0 (.string (tname X.ts.length))).same (zaf _ w1.heap.size 1 (.bool X.par.list))) (fun k e=>by have:=(e:k=w1.heap.size);omega));have HL8:=Lib.hid hL8;have hbb8:((w6.setCell ⟨w1.heap.size,0,none⟩ (.string (tname X.ts.length))).setCell ⟨w1.heap.size,1,none⟩ (.bool X.par.list)).heap[w.heap.size+1+1]?=_:=hL8.blk (g:=w.heap.size+1+1) (List.mem_cons_of_mem _ (List.mem_cons_of_mem _ (List.mem_cons_self ..)));have hbb7:w6.heap[w.heap.size+1+1]?=_:=hL7.blk (g:=w.heap.size+1+1) (List.mem_cons_of_mem _ (List.mem_cons_of_mem _ (List.mem_cons_self ..)));have b58:w6.cell? ⟨w.heap.size+1+1,5,none⟩=some av:=zae hbb7 5 rfl;have hl8:w.heap.size+1+1 < w6.heap.size:=hL7.lt (p:=(w.heap.size+1+1,_)) (List.mem_cons_of_mem _ (List.mem_cons_of_mem _ (List.mem_cons_self ..)));clear hL7 hL8 hS7 hT7 hx7 hbb7 hbb8)
       | (at_builtin;refine zik rfl (.tmp 37) (.tmp 40) rfl HS8.out HT8.out (HL8.out.sub (L':=[(w.heap.size+1+1,.cells #[.string ⟨#[]⟩,.bool false,.int .u8 85,.int .i64 0,.string n.name,av,.slice none 0 0,.slice none 0 0] 116),(w.heap.size+1,.cells #[.string ⟨#[]⟩,.bool false] 97),(w.heap.size,.cells #[.int .u8 n.kind,.int .i64 n.num,.string n.name,.slice (some ⟨b,off,none⟩) n.kids.length kc] 34)]) (by simp)) HR8.out (by simp;omega) (by omega) (by omega) (by simp [World.setCell];omega) (zba (by have:=HSL.out;have:=HSZ.out;omega)) (by omega) rfl rfl (by simp [World.setCell]) ?_;intro a' c' w9 s5 s6 HN))
      clear s5 s6 b5 u0 u1 y0 y1 g0 g1 b58
      obtain ⟨hS3,hT3,hL3,hR3⟩:=HN.out
      have hR:ALoop C pb po A w tv bv c4 ts bs env N true n (.slice (some ⟨b,off,none⟩) n.kids.length kc) (.int .u8 85) (.int .i64 0) (.string n.name) (q+1) _:=⟨by omega,A6,tv6,bv6,c46,.slice a' (Y.args.length+1) c',by rw [HST2.out];simp only [← List.append_assoc];exact hS3.mono (by have:=HSL.out;omega),hT3,hL3,by rw [HST2.out];exact hR3⟩
      go_roundw
      case rel=>exact ⟨q+1,by go_num,hR⟩
      case measure=>simp [intOf];omega
    · rw [Bool.not_eq_true] at hnm
      rw [hnm]
      have HST2:=Lib.hid (HSTo.out hnm)
      clear hnm
      go_wp2_with (at_builtin;refine zik rfl (.tmp 37) (.tmp 40) rfl HS4.out HT4.out (HL4.out.sub (L':=[(w.heap.size+1+1,.cells #[.string ⟨#[]⟩,.bool false,.int .u8 85,.int .i64 0,.string n.name,av,.slice none 0 0,.slice none 0 0] 116),(w.heap.size+1,.cells #[.string ⟨#[]⟩,.bool false] 97),(w.heap.size,.cells #[.int .u8 n.kind,.int .i64 n.num,.string n.name,.slice (some ⟨b,off,none⟩) n.kids.length kc] 34)]) (by simp)) HR4.out (by simp;omega) (by omega) (by omega) (by omega) hxs.1 (by omega) rfl rfl rfl ?_;intro a' c' w5 s5 s6 HN)
      clear s5 s6 b5 u0 u1
      obtain ⟨hS3,hT3,hL3,hR3⟩:=HN.out
      have hR:ALoop C pb po A w tv bv c4 ts bs env N true n (.slice (some ⟨b,off,none⟩) n.kids.length kc) (.int .u8 85) (.int .i64 0) (.string n.name) (q+1) _:=⟨by omega,A1,tv1,bv1,c41,.slice a' (Y.args.length+1) c',by rw [HST2.out,← List.append_assoc];exact hS3.mono (by have:=HSL.out;omega),hT3,hL3,by rw [HST2.out];exact hR3⟩
      go_roundw
      case rel=>exact ⟨q+1,by go_num,hR⟩
      case measure=>simp [intOf];omega
  · obtain rfl:q=n.kids.length:=by omega
    rw [List.take_length] at hS hR
    have hal:=zbu C.lib true n.kids env ts
    have hy:=zby C.lib true n.kids env ts
    generalize argsN C.lib true n.kids env ts=Y at *
    have hsz:=HSZ.out
    obtain ⟨aa,ca,rfl⟩:=hR.form
    obtain ⟨hS2,hT2,hA2,hLL⟩:=zez hS hT hR (by omega) (by unfold maxLen;omega)
    have hL2:=hLL _ hL (by simp;omega)
    clear hLL
    generalize hA':(fun k=>Aq k∨(Value.slice aa Y.args.length ca).ownBlock=some k)=A2 at *
    clear hA'
    rcases zcI C.lib n.name with ⟨j,hj,e1,e2,e3⟩|e1
    · have E1:=Lib.hid e1
      have E2:=Lib.hid e2
      have hlib:=VSt.lib hS2
      obtain ⟨hll,la,lc,hlv⟩:=hlib.form
      unfold maxLen at hll
      have HLV:=Lib.hid hlv
      rw [hlv] at hlib
      obtain ⟨bl,ol,cl,pal,pcl,kal,kcl,he,hbl,_,hblA,l0,l1,l2,_⟩:=hlib.at hj
      simp only [Value.slice.injEq] at he
      obtain ⟨rfl,-,rfl⟩:=he
      have v0:wr.cell? ⟨C.bV,0,none⟩=some (.slice (some ⟨bl,ol,none⟩) C.lib.length lc):=by rw [← hlv];exact zae (VSt.vis hS2) 0 rfl
      obtain ⟨b0,b1,b2,b3,b4,b5,b6,b7⟩:=cells8 (hL.blk (List.mem_cons_self ..))
      have k2:wr.cell? ⟨w.heap.size,2,none⟩=some (.string n.name):=zae (hL.blk (g:=w.heap.size) (List.mem_cons_of_mem _ (List.mem_cons_of_mem _ (List.mem_cons_self ..)))) 2 rfl
      have HCB:Hid (∀ w1,Below wr.heap.size wr w1→Calls Tryz.prog 159 _ w1 _):=Lib.hid (fun w1 hb=>zhN C pb po _ w1 tvq bvq c4q Y.ts (bs ++ Y.bs) Y.env _ ⟨#[]⟩ n.name false (at' C.lib j).list 85 0 _ _ _ Y.args [] [] (hS2.below hb) (hA2.stays (Stays.of_below hb)) (BdsAt.nil _) (BdsAt.nil _) (by omega) (by unfold In64;omega) hs (by omega) (by rw [List.length_append];omega))
      have hD:Below wr.heap.size wr wr.drew:=zal (Below.refl _ _) 1
      have HFI:=Lib.hid (zdt _ C.lib n.name A2 wr.drew (hlib.stays (Stays.of_below hD)))
      have HL2:=Lib.hid hL2
      have HT2:=Lib.hid hT2
      have HS2:=Lib.hid hS2
      have HLB:=Lib.hid hlib
      have i0:(0:Int)≤(j:Int):=by omega
      have i1:(j:Int) < (C.lib.length:Int):=by omega
      have hlt:¬ (n.kids.length:Int) < (n.kids.length:Int):=by omega
      clear hS hT hL hR hS2 hT2 hA2 hL2 hal hy hsz e1 e2 e3 hlib hlv
      go_wp2
      have HSA:Hid (∀ w1,Below wr.heap.size wr w1→w1.cell? ⟨C.bV,0,none⟩=some (.slice (some ⟨bl,ol,none⟩) C.lib.length lc)∧w1.cell? ⟨w.heap.size,2,none⟩=some (.string n.name)∧w1.cell? ⟨bl,ol+j * 7+2,none⟩=some (.bool (at' C.lib j).list)∧w1.cell? ⟨w.heap.size+1+1,0,none⟩=some (.string ⟨#[]⟩)∧w1.cell? ⟨w.heap.size+1+1,1,none⟩=some (.bool false)∧w1.cell? ⟨w.heap.size+1+1,2,none⟩=some (.int .u8 85)∧w1.cell? ⟨w.heap.size+1+1,3,none⟩=some (.int .i64 0)∧w1.cell? ⟨w.heap.size+1+1,4,none⟩=some (.string n.name)∧w1.cell? ⟨w.heap.size+1+1,5,none⟩=some (.slice aa Y.args.length ca)∧w1.cell? ⟨w.heap.size+1+1,6,none⟩=some (.slice none 0 0)∧w1.cell? ⟨w.heap.size+1+1,7,none⟩=some (.slice none 0 0)):=Lib.hid (fun w1 hb=>⟨(hb.cell (p:=⟨C.bV,0,none⟩) (VSt.vis HS2.out).lt).trans v0,(hb.cell (p:=⟨w.heap.size,2,none⟩) (HL2.out.lt (p:=(w.heap.size,_)) (List.mem_cons_of_mem _ (List.mem_cons_of_mem _ (List.mem_cons_self ..))))).trans k2,(hb.cell (p:=⟨bl,ol+j * 7+2,none⟩) hbl).trans l2,cells8 ((HL2.out.below hb).blk (List.mem_cons_self ..))⟩)
      have HSB:Hid (∀ w1,Below wr.heap.size wr w1→∀ X,Keeps w1 X (fun k=>Mu C pb tvq bvq k∨k=w.heap.size+1)→X.cell? ⟨C.bV,0,none⟩=some (.slice (some ⟨bl,ol,none⟩) C.lib.length lc)∧X.cell? ⟨w.heap.size,2,none⟩=some (.string n.name)∧X.cell? ⟨bl,ol+j * 7+2,none⟩=some (.bool (at' C.lib j).list)∧X.cell? ⟨w.heap.size+1+1,0,none⟩=some (.string ⟨#[]⟩)∧X.cell? ⟨w.heap.size+1+1,1,none⟩=some (.bool false)∧X.cell? ⟨w.heap.size+1+1,2,none⟩=some (.int .u8 85)∧X.cell? ⟨w.heap.size+1+1,3,none⟩=some (.int .i64 0)∧X.cell? ⟨w.heap.size+1+1,4,none⟩=some (.string n.name)∧X.cell? ⟨w.heap.size+1+1,5,none⟩=some (.slice aa Y.args.length ca)∧X.cell? ⟨w.heap.size+1+1,6,none⟩=some (.slice none 0 0)∧X.cell? ⟨w.heap.size+1+1,7,none⟩=some (.slice none 0 0)):=Lib.hid (fun w1 hb X hK=>by
       have hL1:=HL2.out.below hb
       obtain ⟨a1,a2,a3,a4⟩:=HSA.out w1 hb
       have hr:(w.heap.size+1,Obj.cells #[.string ⟨#[]⟩,.bool false] 97 (0,0)) ∈ [(w.heap.size+1+1,Obj.cells #[.string ⟨#[]⟩,.bool false,.int .u8 85,.int .i64 0,.string n.name,.slice aa Y.args.length ca,.slice none 0 0,.slice none 0 0] 116 (0,0)),(w.heap.size+1,.cells #[.string ⟨#[]⟩,.bool false] 97 (0,0)),(w.heap.size,.cells #[.int .u8 n.kind,.int .i64 n.num,.string n.name,.slice ka n.kids.length kc] 34 (0,0))]:=List.mem_cons_of_mem _ (List.mem_cons_self ..)
       have hAn:∀ k,A2 k→¬ (Mu C pb tvq bvq k∨k=w.heap.size+1):=by
        rintro k a (e|e)
        · exact VSt.mutA HS2.out k e a
        · subst e;exact (hL1 _ hr).2.1 a
       have hb2:X.heap[w.heap.size+1+1]?=_:=(hK.block _ (hL1.lt (List.mem_cons_self ..)) (by rintro (e|e);exact (hL1 _ (List.mem_cons_self ..)).2.2 e;omega)).trans (hL1.blk (List.mem_cons_self ..))
       obtain ⟨m1,_,m3⟩:=hL1 (w.heap.size,Obj.cells #[.int .u8 n.kind,.int .i64 n.num,.string n.name,.slice ka n.kids.length kc] 34 (0,0)) (by simp)
       have hb0:X.heap[w.heap.size]?=_:=(hK.block _ (by have m1':=m1;rw [Array.getElem?_eq_some_iff] at m1';exact m1'.1) (by rintro (e|e);exact m3 e;omega)).trans m1
       exact ⟨(hK.cell (p:=⟨C.bV,0,none⟩) (VSt.vis (HS2.out.below hb)).lt (hAn _ (VSt.visA HS2.out))).trans a1,zae hb0 2 rfl,(hK.cell (p:=⟨bl,ol+j * 7+2,none⟩) (Nat.lt_of_lt_of_le hbl hb.size) (hAn _ hblA)).trans a3,cells8 hb2⟩)
      go_region_held3 (fun w'=>w'.cell? ⟨C.bV,0,none⟩=some (.slice (some ⟨bl,ol,none⟩) C.lib.length lc)∧w'.cell? ⟨w.heap.size,2,none⟩=some (.string n.name)∧w'.cell? ⟨bl,ol+j * 7+2,none⟩=some (.bool (at' C.lib j).list)∧w'.cell? ⟨w.heap.size+1+1,0,none⟩=some (.string ⟨#[]⟩)∧w'.cell? ⟨w.heap.size+1+1,1,none⟩=some (.bool false)∧w'.cell? ⟨w.heap.size+1+1,2,none⟩=some (.int .u8 85)∧w'.cell? ⟨w.heap.size+1+1,3,none⟩=some (.int .i64 0)∧w'.cell? ⟨w.heap.size+1+1,4,none⟩=some (.string n.name)∧w'.cell? ⟨w.heap.size+1+1,5,none⟩=some (.slice aa Y.args.length ca)∧w'.cell? ⟨w.heap.size+1+1,6,none⟩=some (.slice none 0 0)∧w'.cell? ⟨w.heap.size+1+1,7,none⟩=some (.slice none 0 0))
       (first|exact HSA.out _ (Below.refl _ _)|exact HSA.out _ hD|exact HSA.out _ hb1|exact HSB.out _ hb1 _ hK5|exact HSB.out _ hb1 _ ((hK5.same ((zaf _ _ _ _).mono (fun k e=>.inr e))).same ((zaf _ _ _ _).mono (fun k e=>.inr e))))
       (first
       | (go_at_call 89;refine HFI.out.mono ?_;rintro e w1 ⟨rfl,hb1'⟩;rw [E1.out];have hb1:=hD.trans (hb1'.mono hD.size);have HL3:=Lib.hid (HL2.out.below hb1))
       | (go_at_call 159;refine (HCB.out w1 hb1).mono ?_;rintro e w5 ⟨rfl,A5,tv5,bv5,c45,hS5,hT5⟩;have hK5:Keeps w1 w5 (fun k=>Mu C pb tvq bvq k∨k=w.heap.size+1):=hT5.keeps.mono (fun k e=>.inl e);have hL5:=(HL3.out.step hT5).sub (L':=[(w.heap.size+1,.cells #[.string ⟨#[]⟩,.bool false] 97)]) (by simp);have hR5:=hL5.blk (List.mem_cons_self ..);have r0:w5.cell? ⟨w.heap.size+1,0,none⟩=some (.string ⟨#[]⟩):=zae hR5 0 rfl;have r1:w5.cell? ⟨w.heap.size+1,1,none⟩=some (.bool false):=zae hR5 1 rfl;have f0:=unfrozen hR5 0;have f1:=unfrozen hR5 1;have HS5:=Lib.hid hS5;have HL5:=Lib.hid hL5;have HT5:=Lib.hid ((HT2.out.below hb1).trans hT5);clear hR5 hS5 hL5 hT5))
      all_goals
       clear b0 b1 b2 b3 b4 b5 b6 b7 v0 k2
       go_wp2
       (try simp only [Exit.inBlock,Exit.then])
       have hL6:=HL5.out.set 0 (.string (tname Y.ts.length)) (by simp)
       have hL7:=hL6.set 1 (.bool (at' C.lib j).list) (by simp)
       have hS7:=(HS5.out.setLoc HL5.out (List.mem_cons_self ..) 0 (.string (tname Y.ts.length))).setLoc hL6 (List.mem_cons_self ..) 1 (.bool (at' C.lib j).list)
       refine bodyPost_ret (results_cell_row (P:=Tryz.prog) rfl _ _ (w.heap.size+1) _ _ _ _ rfl (hL7.blk (List.mem_cons_self ..)) Tryz.underlying97 rfl (by kernel_rfl)) rfl ?_
       rw [HEQ.out,E2.out]
       refine ⟨rfl,A5,tv5,bv5,c45,?_,?_⟩
       · rw [← List.append_assoc];exact hS7.mono (by have:=HSZ.out;omega)
       · exact HT5.out.young ((zaf _ (w.heap.size+1) 0 _).same (zaf _ (w.heap.size+1) 1 _)) (fun k e=>by omega)
    · have:=zjF HKN.out H85.out
      omega
end Go.Proofs.YtpobmoegmdhbpaaGreatDoor
/- The visitor of package anf:a branch of an if. -/
namespace Go.Proofs.YtpobmoegmdhbpaaGreatDoor
open Go.RowKit
theorem St.sub {C:VC} {pb po N:Nat} {A:Nat→Prop} {w:World} {tv bv c4:Value} {ts:List Par} {bs:List Bd} {env:Env} (h:St C pb po A w tv bv c4 ts bs env N) {W:World} (hb:Below w.heap.size w W) {g:Nat} (hg:w.heap.size≤g) (hW:W.heap[g]?=some (.cells #[.slice none 0 0] 42 (0,0))):
 St C g 0 A W tv (.slice none 0 0) c4 ts [] env N:=by
 have h1:=VSt.below h hb
 have hlt:=VSt.mutlt h
 have hne:∀ k,k < w.heap.size→k≠g:=fun k hk e=>by omega
 have hnone:∀ k,(Value.slice none 0 0).ownBlock≠some k:=fun k e=>by simp [Value.ownBlock] at e
 exact {
  out:=h1.out
  vis:=h1.vis
  lib:=h1.lib
  map:=h1.map
  ptr:=.inr ⟨(hne _ (VSt.out h).lt).symm,rfl,hW⟩
  row:=BdsOwn.nil _
  tab:=h1.tab
  tabA:=h1.tabA
  visA:=h1.visA
  alt:=h1.alt
  mutA:=by
   rintro k (e|e|e|e|e) a
   · exact h1.mutA k (.inl e) a
   · exact h1.mutA k (.inr (.inl e)) a
   · have:=VSt.alt h k a;omega
   · exact h1.mutA k (.inr (.inr (.inr (.inl e)))) a
   · exact hnone k e
  bobm:=h1.bobm
  pbbm:=fun e=>by have:=(VSt.map h).lt;omega
  tvbm:=h1.tvbm
  tvpb:=fun e=>by have:=hlt g (.inr (.inr (.inr (.inl e))));omega
  bvbo:=hnone _
  bvbm:=hnone _
  bvpb:=hnone _
  sep:=fun k _ e=>hnone k e }
theorem St.back {C:VC} {pb po N N1 g:Nat} {A A1:Nat→Prop} {w W w1:World} {tv bv c4 tv1 bv1 c41:Value} {ts ts1:List Par} {bs bs1:List Bd} {env env1:Env} (h:St C pb po A w tv bv c4 ts bs env N) (hb:Below w.heap.size w W) (hg:w.heap.size≤g) (hgW:g < W.heap.size)
 (h1:St C g 0 A1 w1 tv1 bv1 c41 ts1 bs1 env1 N1) (hs:Step C g A W tv (.slice none 0 0) c4 A1 w1 tv1 bv1 c41):
 St C pb po A1 w1 tv1 bv c4 ts1 bs env1 N1∧Keeps w w1 (Mu C pb tv bv)∧(∀ k,bv1.ownBlock=some k→W.heap.size≤k∧k < w1.heap.size∧¬ Mu C pb tv1 bv k∧¬ A1 k):=by
 have hW:=VSt.below h hb
 have hlt:=VSt.mutlt h
 have hc4:c41=c4:=hs.hc4 (fun e=>by have:=(VSt.out h).lt;omega)
 subst hc4
 have hnone:∀ k,(Value.slice none 0 0).ownBlock≠some k:=fun k e=>by simp [Value.ownBlock] at e
 have hsz:=hb.size
 have hMg:∀ k,k < w.heap.size→Mu C g tv (.slice none 0 0) k→k=C.bo∨k=C.bm∨tv.ownBlock=some k:=by
  rintro k hk (e|e|e|e|e)
  · exact .inl e
  · exact .inr (.inl e)
  · omega
  · exact .inr (.inr e)
  · exact absurd e (hnone k)
 have hpb:pb < w.heap.size:=hlt pb (.inr (.inr (.inl rfl)))
 have hbvlt:∀ k,bv.ownBlock=some k→k < w.heap.size:=fun k e=>hlt k (.inr (.inr (.inr (.inr e))))
 have hbv1:∀ k,bv1.ownBlock=some k→W.heap.size≤k:=fun k e=>by
  rcases hs.nbv k e with e|e
  · exact absurd e (hnone k)
  · exact e
 have hA1:∀ k,k < w.heap.size→A1 k→A k:=fun k hk a=>by
  rcases hs.new k a with a|a
  · exact a
  · omega
 have htv1:∀ k,k < w.heap.size→tv1.ownBlock=some k→tv.ownBlock=some k:=fun k hk e=>by
  rcases hs.ntv k e with e|e
  · exact e
  · omega
 refine ⟨?_,?_,?_⟩
 · exact {
    out:=VSt.out h1
    vis:=VSt.vis h1
    lib:=VSt.lib h1
    map:=VSt.map h1
    ptr:=by
     rcases VSt.ptr hW with e|⟨e0,e1,e2⟩
     · exact .inl e
     · refine .inr ⟨e0,e1,(hs.keeps.block pb (by omega) (fun m=>?_)).trans e2⟩
       rcases hMg pb hpb m with e|e|e
       · exact e0 e
       · exact VSt.pbbm h e
       · exact VSt.tvpb h e
    row:=by
     have hr:=(VSt.row hW).keeps (S:=Mu C g tv (.slice none 0 0)) hs.keeps (fun k a m=>by
      have hk:=VSt.alt h k a
      rcases hMg k hk m with e|e|e
      · exact VSt.mutA h k (.inl e) a
      · exact VSt.mutA h k (.inr (.inl e)) a
      · exact VSt.mutA h k (.inr (.inr (.inr (.inl e)))) a) (fun k e m=>by
      rcases hMg k (hbvlt k e) m with e'|e'|e'
      · exact VSt.bvbo h (e' ▸ e)
      · exact VSt.bvbm h (e' ▸ e)
      · exact VSt.sep h k e' e)
     exact hr.mono hs.up
    tab:=VSt.tab h1
    tabA:=VSt.tabA h1
    visA:=VSt.visA h1
    alt:=VSt.alt h1
    mutA:=by
     rintro k (e|e|e|e|e) a
     · exact VSt.mutA h1 k (.inl e) a
     · exact VSt.mutA h1 k (.inr (.inl e)) a
     · subst e;exact VSt.mutA h k (.inr (.inr (.inl rfl))) (hA1 k hpb a)
     · exact VSt.mutA h1 k (.inr (.inr (.inr (.inl e)))) a
     · exact VSt.mutA h k (.inr (.inr (.inr (.inr e)))) (hA1 k (hbvlt k e) a)
    bobm:=VSt.bobm h
    pbbm:=VSt.pbbm h
    tvbm:=VSt.tvbm h1
    tvpb:=fun e=>VSt.tvpb h (htv1 pb hpb e)
    bvbo:=VSt.bvbo h
    bvbm:=VSt.bvbm h
    bvpb:=VSt.bvpb h
    sep:=fun k e1 e2=>VSt.sep h k (htv1 k (hbvlt k e2) e1) e2 }
 · refine (Keeps.of_below _ hb).trans hs.keeps (fun k m=>?_)
   by_cases hk:k < w.heap.size
   · rcases hMg k hk m with e|e|e
     · exact .inl (.inl e)
     · exact .inl (.inr (.inl e))
     · exact .inl (.inr (.inr (.inr (.inl e))))
   · exact .inr (by omega)
 · intro k e
   have hk:=hbv1 k e
   refine ⟨hk,VSt.mutlt h1 k (.inr (.inr (.inr (.inr e)))),?_,VSt.mutA h1 k (.inr (.inr (.inr (.inr e))))⟩
   rintro (e'|e'|e'|e'|e')
   · exact VSt.bvbo h1 (e' ▸ e)
   · exact VSt.bvbm h1 (e' ▸ e)
   · omega
   · exact VSt.sep h1 k e' e
   · have:=hbvlt k e';omega
theorem zje {A:Nat→Prop} {w:World} {tn:ByteArray} {l:Bool} {av:Value} {s:ByteArray} (hto:tn.size≤maxLen) (ha:StrsAt A w av [s]):
 BdCells A w (fun i=>vat [.string tn,.bool l,.int .u8 81,.int .i64 0,.string ⟨#[]⟩,av,.slice none 0 0,.slice none 0 0] i) (varB tn l s):=
 ⟨rfl,rfl,rfl,rfl,rfl,ha,BdsAt.nil _,BdsAt.nil _,hto,⟨by show (0:Int)≤81;omega,by show (81:Int)≤255;omega⟩,by show In64 0;unfold In64;omega,Nat.zero_le _⟩
def BrPost (C:VC) (pb po:Nat) (A:Nat→Prop) (w:World) (tv bv c4:Value) (bs:List Bd) (N:Nat) (g9 i:Nat) (X:XR) (e:Ending) (w':World):Prop:=
 ∃ rv A' tv',e=.returned rv∧St C pb po A' w' tv' bv c4 (setTy X.ts i X.par.list) bs X.env N∧Keeps w w' (fun k=>Mu C pb tv bv k∨k=g9)∧(∀ k,A k→A' k)∧(∀ k,A' k→A k∨w.heap.size≤k)∧NewOr w tv tv'∧
   BdsAt A' w' rv (X.bs ++ [varB (at' (setTy X.ts i X.par.list) i).name (at' (setTy X.ts i X.par.list) i).list X.par.name])∧w'.heap[g9]?=some (.cells #[.string (at' (setTy X.ts i X.par.list) i).name,.bool (at' (setTy X.ts i X.par.list) i).list] 97 (0,0))
theorem Locs.inner {C:VC} {pb g:Nat} {A:Nat→Prop} {tv bv:Value} {w:World} {L:List (Nat × Obj)} (h:Locs C pb A tv bv w L) (hg:w.heap.size≤g):Locs C g A tv (.slice none 0 0) w L:=fun p hp=>by
 obtain ⟨h1,h2,h3⟩:=h p hp
 refine ⟨h1,h2,?_⟩
 have:=h.lt hp
 rintro (e|e|e|e|e)
 · exact h3 (.inl e)
 · exact h3 (.inr (.inl e))
 · omega
 · exact h3 (.inr (.inr (.inr (.inl e))))
 · simp [Value.ownBlock] at e
theorem zgr {A:Nat→Prop} {w:World} {g:Nat} {s:ByteArray} (h:w.heap[g]?=some (.cells #[.string s] 9 (0,0))) (hA:A g) (hs:s.size≤maxLen):StrsAt A w (.slice (some ⟨g,0,none⟩) 1 1) [s]:=by
 refine ⟨fun j i=>.string s,⟨by unfold maxLen;simp,_,1,rfl,by simp,nofun,fun _=>⟨g,0,rfl,by rw [Array.getElem?_eq_some_iff] at h;exact h.1,hA,fun j hj i hi=>?_⟩⟩,fun j hj=>?_⟩
 · obtain rfl:j=0:=by simp at hj;omega
   obtain rfl:i=0:=by omega
   exact zae h 0 rfl
 · obtain rfl:j=0:=by simp at hj;omega
   exact ⟨rfl,hs⟩
theorem zji {C:VC} {pb po N g9:Nat} {A A1:Nat→Prop} {w W w2 w3 W4 w5:World} {tv bv c4 tv1 bv1 v':Value} {ts1:List Par} {bs bs1:List Bd} {env1:Env} {t:Par} {s:ByteArray} {xs:List Value}
 (hSo:St C pb po A1 w2 tv1 bv c4 ts1 bs env1 N) (hKo:Keeps w w2 (Mu C pb tv bv)) (hup:∀ k,A k→A1 k) (hnew:∀ k,A1 k→A k∨w.heap.size≤k) (hntv:NewOr w tv tv1) (hWw:w.heap.size≤W.heap.size)
 (hbv1:∀ k,bv1.ownBlock=some k→W.heap.size≤k∧k < w2.heap.size∧¬ Mu C pb tv1 bv k∧¬ A1 k) {p0 p1:Value} (hL9:Locs C pb A1 tv1 bv w2 [(g9,.cells #[p0,p1] 97 (0,0))]) (hg9:g9 < w.heap.size)
 {gs:Nat} (hgs:gs=w3.heap.size) (hw3:w3=(w2.setCell ⟨g9,0,none⟩ (.string t.name)).setCell ⟨g9,1,none⟩ (.bool t.list)) (hW4:W4=(w3.alloc (.cells #[.string s] 9)).alloc (.cells #[.string t.name,.bool t.list,.int .u8 81,.int .i64 0,.string ⟨#[]⟩,.slice (some ⟨gs,0,none⟩) 1 1,.slice none 0 0,.slice none 0 0] 116))
 (hrow:w2.ownsRow 0 116 8 bv1 bs1.length xs) (hcs:∀ j,j < bs1.length→BdCells A1 w2 (fun i=>vat xs (j * 8+i)) (at' bs1 j)) (hs:s.size≤maxLen) (ht:t.name.size≤maxLen) (hlen:bs1.length < 200000)
 (hown:w5.ownsRow 0 116 8 v' (bs1.length+1) (xs ++ [.string t.name,.bool t.list,.int .u8 81,.int .i64 0,.string ⟨#[]⟩,.slice (some ⟨gs,0,none⟩) 1 1,.slice none 0 0,.slice none 0 0])) (hg:W4.grownBy w5 bv1.ownBlock) (hn:NewOr W4 bv1 v'):
 ∃ A',St C pb po A' w5 tv1 bv c4 ts1 bs env1 N∧Keeps w w5 (fun k=>Mu C pb tv bv k∨k=g9)∧(∀ k,A k→A' k)∧(∀ k,A' k→A k∨w.heap.size≤k)∧NewOr w tv tv1∧BdsAt A' w5 v' (bs1 ++ [varB t.name t.list s])∧w5.heap[g9]?=some (.cells #[.string t.name,.bool t.list] 97 (0,0)):=by
 subst hgs
 have hkk:Keeps w2 w3 (fun k=>k=g9):=by rw [hw3];exact (zaf w2 g9 0 _).same (zaf _ g9 1 _)
 have hL9b:=(hL9.set 0 (.string t.name) (by simp)).set 1 (.bool t.list) (by simp)
 have hS3:St C pb po A1 w3 tv1 bv c4 ts1 bs env1 N:=by
  rw [hw3];exact (hSo.setLoc hL9 (List.mem_cons_self ..) 0 _).setLoc (hL9.set 0 _ (by simp)) (List.mem_cons_self ..) 1 _
 rw [← hw3] at hL9b
 have hB4:Below w3.heap.size w3 W4:=by rw [hW4];exact ((Below.refl _ _).alloc (Nat.le_refl _) _).alloc (by simp) _
 have hk5:Keeps W4 w5 (fun k=>bv1.ownBlock=some k):=Keeps.of_grown (S:=fun k=>bv1.ownBlock=some k) hg (fun k e=>.inl e)
 have hsz23:w3.heap.size=w2.heap.size:=by rw [hw3];simp [World.setCell]
 have hszw:=hKo.size
 have hszb:=hB4.size
 have hW4s:W4.heap.size=w3.heap.size+2:=by rw [hW4];simp
 have hk35:Keeps w3 w5 (fun k=>bv1.ownBlock=some k):=(Keeps.of_below _ hB4).trans hk5 (fun k e=>.inl e)
 have hn3:∀ k,v'.ownBlock=some k→bv1.ownBlock=some k∨w3.heap.size≤k:=fun k e=>by
  rcases hn k e with e|e
  · exact .inl e
  · exact .inr (by omega)
 have hS5:St C pb po A1 w5 tv1 bv c4 ts1 bs env1 N:=hS3.young hk35 (fun k a e=>(hbv1 k e).2.2.2 a) (fun k m e=>(hbv1 k e).2.2.1 m)
 have hlit:w5.heap[w3.heap.size]?=some (.cells #[.string s] 9 (0,0)):=by
  refine (hk5.block w3.heap.size (by omega) (fun e=>by have:=(hbv1 _ e).2.1;omega)).trans ?_
  rw [hW4,Below.heap_alloc _ _ _ (by simp)];exact heap_alloc_new w3 _
 have hst:Stays A1 (fun k=>A1 k∨k=w3.heap.size) w2 w5:=by
  refine ⟨by have:=hk35.size;omega,fun b hb a=>⟨(hk35.block b (by omega) (fun e=>(hbv1 b e).2.2.2 a)).trans (hkk.block b hb (fun e=>(hL9 _ (List.mem_cons_self ..)).2.1 (by rw [show g9=b from (e:b=g9).symm];exact a))),.inl a⟩⟩
 refine ⟨fun k=>(A1 k∨k=w3.heap.size)∨v'.ownBlock=some k,hS5.more (fun k a=>.inl (.inl a)) (fun k a=>?_),?_,fun k a=>.inl (.inl (hup k a)),fun k a=>?_,hntv,?_,?_⟩
 · rcases a with (a|a)|a
   · exact .inl a
   · subst a;exact .inr ⟨by have:=hk5.size;omega,fun m=>by have:=hS3.mlt m;omega⟩
   · refine .inr ⟨(hown.lt k a).2,?_⟩
     rcases hn3 k a with e|e
     · exact (hbv1 k e).2.2.1
     · exact fun m=>by have:=hS3.mlt m;omega
 · refine ((hKo.mono (fun k e=>.inl e)).trans hkk (fun k e=>.inl (.inr e))).trans hk35 (fun k e=>.inr ?_)
   have:=(hbv1 k e).1;omega
 · rcases a with (a|a)|a
   · exact hnew k a
   · exact .inr (by omega)
   · rcases hn3 k a with e|e
     · exact .inr (by have:=(hbv1 k e).1;omega)
     · exact .inr (by omega)
 · refine (BdsOwn.snoc hown hrow.1 (fun j hj=>(hcs j hj).stays hst) (zje ht (zgr hlit (.inr rfl) hs))).shut (fun k a=>.inl a) (fun k e=>.inr e) ?_
   unfold maxLen;simp;omega
 · exact (hk35.block g9 (by omega) (fun e=>by have:=(hbv1 _ e).1;omega)).trans (hL9b.blk (List.mem_cons_self ..))
end Go.Proofs.YtpobmoegmdhbpaaGreatDoor
/- The visitor of package anf:the walk of a branch of an if. -/
namespace Go.Proofs.YtpobmoegmdhbpaaGreatDoor
open Go.RowKit
theorem src8' (w:World) (g:Nat) (hg:g=w.heap.size) (v0 v1 v2 v3 v4 v5 v6 v7:Value) (e:TypeId):∀ j u,[v0,v1,v2,v3,v4,v5,v6,v7][j]?=some u→(w.alloc (.cells #[v0,v1,v2,v3,v4,v5,v6,v7] e)).cell? ((⟨g,0,none⟩:Addr).add j)=some u:=by
 subst hg;exact src8 w v0 v1 v2 v3 v4 v5 v6 v7 e
theorem zjS {w:World} {base e size n:Nat} {v:Value} {xs:List Value} (h:w.ownsRow base e size v n xs) {g9:Nat} (hne:∀ k,v.ownBlock=some k→¬ k=g9) (a b:Value):∀ o1 o2:Obj,((((w.setCell ⟨g9,0,none⟩ a).setCell ⟨g9,1,none⟩ b).alloc o1).alloc o2).ownsRow base e size v n xs:=fun o1 o2=>
 zaM (zaM (zaD (zaD h (zaf w g9 0 a) hne) (zaf _ g9 1 b) hne) ((Below.refl _ _).alloc (Nat.le_refl _) _)) ((Below.refl _ _).alloc (Nat.le_refl _) _)
theorem zjf {C:VC} {pb g g9:Nat} {A A1:Nat→Prop} {w W w2:World} {tv bv c4 tv1 bv1 c41 nv:Value} {L L2:List (Nat × Obj)} {o:Obj} (h:Locs C pb A tv bv w L) (h2:Locs C g A1 tv1 bv1 w2 L2) (hs:Step C g A W tv nv c4 A1 w2 tv1 bv1 c41) (hb:Below w.heap.size w W) (hm:(g9,o) ∈ L) (hm2:(g9,o) ∈ L2):Locs C pb A1 tv1 bv w2 [(g9,o)]:=fun p hp=>by
 simp only [List.mem_singleton] at hp
 subst hp
 obtain ⟨_,_,h3⟩:=h _ hm
 obtain ⟨e1,e2,e3⟩:=h2 _ hm2
 have hlt:=h.lt hm
 have:=hb.size
 refine ⟨e1,e2,?_⟩
 rintro (e|e|e|e|e)
 · exact h3 (.inl e)
 · exact h3 (.inr (.inl e))
 · exact h3 (.inr (.inr (.inl e)))
 · rcases hs.ntv _ e with e|e
   · exact h3 (.inr (.inr (.inr (.inl e))))
   · simp only at hlt e;omega
 · exact h3 (.inr (.inr (.inr (.inr e))))
theorem zgM {C:VC} {g:Nat} {A A1:Nat→Prop} {W W1 w2:World} {tv bv c4 tv1 bv1 c41:Value} {ts:List Par} (hT:Step C g A W tv bv c4 A1 W1 tv1 bv1 c41) (ho:OutAt w2 C.bo C.c0 C.c1 C.c2 c41 C.c5 tv1 ts) (hk:Keeps W1 w2 (fun k=>tv1.ownBlock=some k)):Step C g A W tv bv c4 A1 w2 tv1 bv1 c41:=
 hT.trans ⟨hk.mono (fun k e=>.inr (.inr (.inr (.inl e)))),fun _ a=>a,fun _ a=>.inl a,NewOr.refl _ _,NewOr.refl _ _,fun _=>rfl⟩
theorem zgm (m:Nat) (ih:XOk m) (C:VC) (n:Nd) (v:Value) (pb po:Nat) (A:Nat→Prop) (w:World) (tv bv c4:Value) (ts:List Par) (bs:List Bd) (env:Env) (N:Nat) (g3 g8 g9 i:Nat) (s0:ByteArray) (l0:Bool) (hm:sizeN n≤m) (hform:formedN n=true) (hkn:knownN C.lib n=true) (hv:NdAt A w v n) (hst:St C pb po A w tv bv c4 ts bs env N)
 (hL:Locs C pb A tv bv w [(g9,.cells #[.string s0,.bool l0] 97 (0,0)),(g8,.cells #[.int .i64 i] 3 (0,0)),(g3,.cells #[.pointer (some ⟨C.bV,0,none⟩)] 232 (0,0))]) (hi:i < ts.length)
 (hse:SmallE env) (hts:TsSmall ts) (hl1:ts.length+2 * sizeN n≤100000) (hl3:N+2 * sizeN n≤100000):
 Calls Tryz.prog 205 #[v,.pointer (some ⟨g3,0,none⟩),.pointer (some ⟨g8,0,none⟩),.pointer (some ⟨g9,0,none⟩)] w (BrPost C pb po A w tv bv c4 bs (N+2 * sizeN n) g9 i (exprN C.lib n env ts)):=by
 obtain ⟨hok,hlen,ka,kc,rfl,hk⟩:=hv.open
 have hsp:=zaH n
 have hx1:=zap C.lib n env ts
 have hx2:=zaA C.lib n env ts hse hts (by omega)
 have hA:Below w.heap.size w ((w.alloc (.cells #[.int .u8 n.kind,.int .i64 n.num,.string n.name,.slice ka n.kids.length kc] 34)).alloc (.cells #[.slice none 0 0] 42)):=((Below.refl _ _).alloc (Nat.le_refl _) _).alloc (by simp) _
 have hng:=zaw w (.cells #[.int .u8 n.kind,.int .i64 n.num,.string n.name,.slice ka n.kids.length kc] 34) (.cells #[.slice none 0 0] 42)
 have hS0:=hst.sub hA (g:=w.heap.size+1) (by omega) hng
 have hL0:=(hL.inner (g:=w.heap.size+1) (by omega)).below hA
 have hb3:=hL0.blk (g:=g3) (List.mem_cons_of_mem _ (List.mem_cons_of_mem _ (List.mem_cons_self ..)))
 have p3:((w.alloc (.cells #[.int .u8 n.kind,.int .i64 n.num,.string n.name,.slice ka n.kids.length kc] 34)).alloc (.cells #[.slice none 0 0] 42)).cell? ⟨g3,0,none⟩=some (.pointer (some ⟨C.bV,0,none⟩)):=zae hb3 0 rfl
 have HCX:=Lib.hid (ih C n _ (w.heap.size+1) 0 A _ tv (.slice none 0 0) c4 ts [] env N hm hform hkn (hv.stays (Stays.of_below hA)) hS0 hse hts hl1 (by simp;omega) hl3)
 have hWs:w.heap.size+1 < ((w.alloc (.cells #[.int .u8 n.kind,.int .i64 n.num,.string n.name,.slice ka n.kids.length kc] 34)).alloc (.cells #[.slice none 0 0] 42)).heap.size:=by simp
 have HST:=Lib.hid hst
 have HL:=Lib.hid hL
 have HL0:=Lib.hid hL0
 have h9lt:=hL.lt (List.mem_cons_self ..)
 have HNW:Hid (∀ A1:Nat→Prop,(∀ k,A1 k→A k∨((w.alloc (.cells #[.int .u8 n.kind,.int .i64 n.num,.string n.name,.slice ka n.kids.length kc] 34)).alloc (.cells #[.slice none 0 0] 42)).heap.size≤k)→∀ k,A1 k→A k∨w.heap.size≤k):=Lib.hid (fun A1 h k a=>by
  rcases h k a with a|a
  · exact .inl a
  · exact .inr (Nat.le_trans hA.size a))
 have HNT:Hid (∀ tv1,NewOr ((w.alloc (.cells #[.int .u8 n.kind,.int .i64 n.num,.string n.name,.slice ka n.kids.length kc] 34)).alloc (.cells #[.slice none 0 0] 42)) tv tv1→NewOr w tv tv1):=Lib.hid (fun tv1 h k e=>by
  rcases h k e with e|e
  · exact .inl e
  · exact .inr (Nat.le_trans hA.size e))
 clear hst hL hS0 hL0 hng hb3
 go_enter Tryz.func205,Tryz.ntmps205
 go_wp2_with (go_at_call 105;refine HCX.out.mono ?_;rintro e w1 ⟨rfl,A1,tv1,bv1,c41,hS1,hT1⟩)
 generalize exprN C.lib n env ts=X at *
 generalize ((w.alloc (.cells #[.int .u8 n.kind,.int .i64 n.num,.string n.name,.slice ka n.kids.length kc] 34)).alloc (.cells #[.slice none 0 0] 42))=W at *
 have hL1:=(HL0.out.step hT1).alloc hS1 (.cells #[.string X.par.name,.bool X.par.list] 97)
 have hA1:Below w1.heap.size w1 (w1.alloc (.cells #[.string X.par.name,.bool X.par.list] 97)).drew:=zal ((Below.refl _ _).alloc (Nat.le_refl _) _) 1
 have hS1d:=hS1.below hA1
 have hT1d:=hT1.below hA1
 have hL1d:Locs C (w.heap.size+1) A1 tv1 bv1 (w1.alloc (.cells #[.string X.par.name,.bool X.par.list] 97)).drew _:=hL1.below (zal (Below.refl _ _) 1)
 have v3:(w1.alloc (.cells #[.string X.par.name,.bool X.par.list] 97)).cell? ⟨C.bV,3,none⟩=some (.func (.func 104) #[] #[.pointer (some ⟨C.bo,0,none⟩)]):=zae (VSt.vis (hS1.below ((Below.refl _ _).alloc (Nat.le_refl _) _))) 3 rfl
 have q3:(w1.alloc (.cells #[.string X.par.name,.bool X.par.list] 97)).cell? ⟨g3,0,none⟩=some (.pointer (some ⟨C.bV,0,none⟩)):=zae (hL1.blk (g:=g3) (List.mem_cons_of_mem _ (List.mem_cons_of_mem _ (List.mem_cons_of_mem _ (List.mem_cons_self ..))))) 0 rfl
 have q8:(w1.alloc (.cells #[.string X.par.name,.bool X.par.list] 97)).cell? ⟨g8,0,none⟩=some (.int .i64 i):=zae (hL1.blk (g:=g8) (List.mem_cons_of_mem _ (List.mem_cons_of_mem _ (List.mem_cons_self ..)))) 0 rfl
 have x1:(w1.alloc (.cells #[.string X.par.name,.bool X.par.list] 97)).cell? ⟨w1.heap.size,1,none⟩=some (.bool X.par.list):=zae (hL1.blk (List.mem_cons_self ..)) 1 rfl
 have hw1:w.heap.size+1 < w1.heap.size:=by have:=hT1.size;omega
 have HTY:=Lib.hid (zhj _ C.bo C.c0 C.c1 C.c2 c41 C.c5 tv1 X.ts i X.par.list (VSt.out hS1d) (by omega) (by omega))
 have HS1:=Lib.hid hS1d
 have HT1:=Lib.hid hT1d
 have HL1:=Lib.hid hL1d
 clear hS1 hS1d hT1d hL1 hL1d p3 HCX
 generalize (w1.alloc (.cells #[.string X.par.name,.bool X.par.list] 97))=W1 at *
 go_still_tail 7,(by kernel_rfl)
 change wpList _ _ _ _ _ W1.drew
 go_wp2_with (first
  | (go_at_call 104;refine HTY.out.mono ?_;rintro e w2 ⟨rfl,ho2,hk2⟩;simp only [parV];have hT2':=zgM HT1.out ho2 hk2;have hS2:St C (w.heap.size+1) 0 A1 w2 tv1 bv1 c41 _ X.bs X.env _:=VSt.temp HS1.out ho2 (hk2.mono (fun k e=>.inr e)) (NewOr.refl _ _);have hL2:=HL1.out.keeps hk2 (fun p hp e=>(HL1.out p hp).2.2 (.inr (.inr (.inr (.inl e)))));have h9:=hL2.blk (g:=g9) (List.mem_cons_of_mem _ (List.mem_cons_self ..));have n0:w2.cell? ⟨g9,0,none⟩=some (.string s0):=zae h9 0 rfl;have n1:w2.cell? ⟨g9,1,none⟩=some (.bool l0):=zae h9 1 rfl;have f0:=unfrozen h9 0;have f1:=unfrozen h9 1;have y0:w2.cell? ⟨w1.heap.size,0,none⟩=some (.string X.par.name):=zae (hL2.blk (List.mem_cons_self ..)) 0 rfl;obtain ⟨y6,_⟩:=(VSt.ptr hS2).cell (VSt.out hS2);have HS2:=Lib.hid hS2;have HT2:=Lib.hid hT2';have HL2:=Lib.hid hL2;obtain ⟨hSo,hKo,hbv1⟩:=HST.out.back hA (by omega) hWs hS2 hT2';obtain ⟨xs,hrow,hcs⟩:=VSt.row hS2;have HSRC:=Lib.hid (src8' ((((w2.setCell ⟨g9,0,none⟩ (.string (at' (setTy X.ts i X.par.list) i).name)).setCell ⟨g9,1,none⟩ (.bool (at' (setTy X.ts i X.par.list) i).list)).alloc (.cells #[.string X.par.name] 9))) (w2.heap.size+1) (by simp [World.setCell]) (.string (at' (setTy X.ts i X.par.list) i).name) (.bool (at' (setTy X.ts i X.par.list) i).list) (.int .u8 81) (.int .i64 0) (.string ⟨#[]⟩) (.slice (some ⟨w2.heap.size,0,none⟩) 1 1) (.slice none 0 0) (.slice none 0 0) 116);have HROW4:=Lib.hid (zjS hrow (g9:=g9) (fun k e e2=>by have:=(hbv1 k e).1;have:=hA.size;omega) (.string (at' (setTy X.ts i X.par.list) i).name) (.bool (at' (setTy X.ts i X.par.list) i).list));have HL9:=Lib.hid (zjf HL.out hL2 hT2' hA (List.mem_cons_self ..) (List.mem_cons_of_mem _ (List.mem_cons_self ..)));have HSO:=Lib.hid hSo;have HKO:=Lib.hid hKo;have HBV:=Lib.hid hbv1;have HROW:=Lib.hid hrow;have HCS:=Lib.hid hcs;clear hS2 hT2' hL2 h9 hSo hKo hbv1 hrow hcs)
  | (at_builtin;refine zbk TBd rfl (by decide) rfl (.tmp 19) (.tmp 28) rfl rfl rfl (HROW4.out _ _) (.inr ⟨⟨w2.heap.size+1,0,none⟩,1,rfl,HSRC.out⟩) rfl (by simp [Value.oneCell']) (by unfold maxLen;omega) (by omega) (Nat.zero_le _) ?_;intro v' w5 hown hg hn;have HE:=Lib.hid (zji HSO.out HKO.out (fun k a=>HT2.out.up k a) (HNW.out A1 (HT2.out.new)) (HNT.out tv1 HT2.out.ntv) hA.size HBV.out HL9.out h9lt (by simp [World.setCell]) rfl rfl HROW.out HCS.out hx2.1 (hx2.2.2.ty _ _ _) (by omega) hown hg hn);obtain ⟨a5,c5,rfl⟩:=zaG hown;clear hown hg hn))
 go_ret
 obtain ⟨A',r1,r2,r3,r4,r5,r6,r7⟩:=HE.out
 exact ⟨_,A',tv1,rfl,r1,r2,r3,r4,r5,r6,r7⟩
end Go.Proofs.YtpobmoegmdhbpaaGreatDoor
/- The visitor of package anf:choice. -/
namespace Go.Proofs.YtpobmoegmdhbpaaGreatDoor
open Go.RowKit
theorem zjj (lib:List Fn) (n:Nd) (env:Env) (ts:List Par) (h:n.kind=83) (hk:n.kids.length=3) {x y z:XR} {ts1 ts2:List Par} (hx:exprN lib (at' n.kids 0) env ts=x)
 (hy:exprN lib (at' n.kids 1) x.env (x.ts ++ [⟨tname x.ts.length,false⟩])=y) (h1:setTy y.ts x.ts.length y.par.list=ts1) (hz:exprN lib (at' n.kids 2) y.env ts1=z) (h2:setTy z.ts x.ts.length z.par.list=ts2):
 exprN lib n env ts=⟨ts2,x.bs ++ [.mk (at' ts2 x.ts.length).name (at' ts2 x.ts.length).list 83 0 ByteArray.empty [x.par.name] (y.bs ++ [varB (at' ts1 x.ts.length).name (at' ts1 x.ts.length).list y.par.name]) (z.bs ++ [varB (at' ts2 x.ts.length).name (at' ts2 x.ts.length).list z.par.name])],at' ts2 x.ts.length,z.env⟩:=by
 subst h2 hz h1 hy hx
 cases n with
 | mk k num name kids=>
   simp only [Nd.kind] at h
   simp only [Nd.kids] at hk ⊢
   match kids,hk with
   | [a,b,c],_=>
     conv=>lhs;unfold exprN
     rw [if_neg (by omega),if_neg (by omega),if_pos h];rfl
theorem zkq {n:Nd} (h:formedN n=true) (hk:n.kind=83):n.kids.length=3:=by
 rw [zbS,Bool.and_eq_true] at h
 have:=h.1
 rw [hk] at this
 simp [formB] at this
 exact this.2
def ChA (C:VC) (pb po:Nat) (A:Nat→Prop) (w:World) (tv bv c4:Value) (bs:List Bd) (N:Nat) (nv:Value) (n:Nd) (X:XR) (s7:Value) (wx:World):Prop:=
 ∃ g7 gs A1 tv1 bv1 c41,s7=.pointer (some ⟨g7,0,none⟩)∧St C pb po A1 wx tv1 bv1 c41 X.ts (bs ++ X.bs) X.env N∧Step C pb A w tv bv c4 A1 wx tv1 bv1 c41∧
   Locs C pb A1 tv1 bv1 wx [(g7,.cells #[.string ⟨#[]⟩,.bool false,.int .u8 83,.int .i64 0,.string ⟨#[]⟩,.slice (some ⟨gs,0,none⟩) 1 1,.slice none 0 0,.slice none 0 0] 116 (0,0)),(w.heap.size+1+1,.cells #[.string ⟨#[]⟩,.bool false] 97 (0,0)),
    (w.heap.size+1,.cells #[.int .u8 n.kind,.int .i64 n.num,.string n.name,nv] 34 (0,0)),(w.heap.size,.cells #[.pointer (some ⟨C.bV,0,none⟩)] 232 (0,0))]∧StrsAt A1 wx (.slice (some ⟨gs,0,none⟩) 1 1) [X.par.name]∧w.heap.size+1+1 < g7
theorem zgf {C:VC} {pb po N:Nat} {A A0:Nat→Prop} {w w0:World} {tv bv c4 tv0 bv0 c40:Value} {ts:List Par} {bs:List Bd} {env:Env} {L:List (Nat × Obj)} {s:ByteArray} (hS:St C pb po A w tv bv c4 ts bs env N) (hT:Step C pb A0 w0 tv0 bv0 c40 A w tv bv c4) (hL:Locs C pb A tv bv w L) (hs:s.size≤maxLen) {g:Nat} (hg:g=w.heap.size):
 St C pb po (fun k=>A k∨k=g) (w.alloc (.cells #[.string s] 9)) tv bv c4 ts bs env N∧Step C pb A0 w0 tv0 bv0 c40 (fun k=>A k∨k=g) (w.alloc (.cells #[.string s] 9)) tv bv c4∧Locs C pb (fun k=>A k∨k=g) tv bv (w.alloc (.cells #[.string s] 9)) L∧StrsAt (fun k=>A k∨k=g) (w.alloc (.cells #[.string s] 9)) (.slice (some ⟨g,0,none⟩) 1 1) [s]:=by
 subst hg
 have hB:Below w.heap.size w (w.alloc (.cells #[.string s] 9)):=(Below.refl _ _).alloc (Nat.le_refl _) _
 refine ⟨(hS.below hB).more (fun k a=>.inl a) (fun k a=>?_),(hT.below hB).more (fun k a=>.inl a) (fun k a=>?_),fun p hp=>?_,zgr (heap_alloc_new w _) (.inr rfl) hs⟩
 · rcases a with a|a
   · exact .inl a
   · subst a;exact .inr ⟨by simp,fun m=>Nat.lt_irrefl _ (hS.mlt m)⟩
 · rcases a with a|a
   · exact .inl a
   · exact .inr (by have:=hT.size;omega)
 · obtain ⟨h1,h2,h3⟩:=(hL.below hB) p hp
   refine ⟨h1,fun a=>?_,h3⟩
   rcases a with a|a
   · exact h2 a
   · have:=hL.lt hp;omega
abbrev bindL (gs:Nat):Obj:=.cells #[.string ⟨#[]⟩,.bool false,.int .u8 83,.int .i64 0,.string ⟨#[]⟩,.slice (some ⟨gs,0,none⟩) 1 1,.slice none 0 0,.slice none 0 0] 116 (0,0)
abbrev locL (C:VC) (w:World) (n:Nd) (nv:Value):List (Nat × Obj):=[(w.heap.size+1+1,.cells #[.string ⟨#[]⟩,.bool false] 97 (0,0)),(w.heap.size+1,.cells #[.int .u8 n.kind,.int .i64 n.num,.string n.name,nv] 34 (0,0)),(w.heap.size,.cells #[.pointer (some ⟨C.bV,0,none⟩)] 232 (0,0))]
theorem chA1 {C:VC} {pb po N:Nat} {A A1:Nat→Prop} {w w1:World} {tv bv c4 tv1 bv1 c41 nv:Value} {bs:List Bd} {n:Nd} {X:XR} (hS:St C pb po A1 w1 tv1 bv1 c41 X.ts (bs ++ X.bs) X.env N) (hT:Step C pb A w tv bv c4 A1 w1 tv1 bv1 c41) (hL:Locs C pb A1 tv1 bv1 w1 (locL C w n nv)) (hs:X.par.name.size≤maxLen):
 ChA C pb po A w tv bv c4 bs N nv n X (.pointer (some ⟨w1.heap.size+1,0,none⟩)) ((w1.alloc (.cells #[.string X.par.name] 9)).alloc (bindL w1.heap.size)):=by
 obtain ⟨a1,a2,a3,a4⟩:=zgf hS hT hL hs rfl
 have hB:Below (w1.alloc (.cells #[.string X.par.name] 9)).heap.size (w1.alloc (.cells #[.string X.par.name] 9)) ((w1.alloc (.cells #[.string X.par.name] 9)).alloc (bindL w1.heap.size)):=(Below.refl _ _).alloc (Nat.le_refl _) _
 have hl:=hL.lt (p:=(w.heap.size+1+1,_)) (List.mem_cons_self ..)
 have a5:=a3.alloc a1 (bindL w1.heap.size)
 have e:(w1.alloc (.cells #[.string X.par.name] 9)).heap.size=w1.heap.size+1:=by simp
 rw [e] at a5
 simp only at hl
 exact ⟨_,_,_,tv1,bv1,c41,rfl,a1.below hB,a2.below hB,a5,a4.stays (Stays.of_below hB),by omega⟩
theorem chA2 {C:VC} {pb po N:Nat} {A A1:Nat→Prop} {w w1:World} {tv bv c4 tv1 bv1 c41 nv:Value} {bs:List Bd} {n:Nd} {X:XR} (hS:St C pb po A1 w1 tv1 bv1 c41 X.ts (bs ++ X.bs) X.env N) (hT:Step C pb A w tv bv c4 A1 w1 tv1 bv1 c41) (hL:Locs C pb A1 tv1 bv1 w1 (locL C w n nv)) (hs:X.par.name.size≤maxLen):
 ChA C pb po A w tv bv c4 bs N nv n X (.pointer (some ⟨w1.heap.size,0,none⟩)) ((w1.alloc (bindL (w1.heap.size+1))).alloc (.cells #[.string X.par.name] 9)):=by
 have hB:Below w1.heap.size w1 (w1.alloc (bindL (w1.heap.size+1))):=(Below.refl _ _).alloc (Nat.le_refl _) _
 obtain ⟨a1,a2,a3,a4⟩:=zgf (hS.below hB) (hT.below hB) (hL.alloc hS (bindL (w1.heap.size+1))) hs (g:=w1.heap.size+1) (by simp)
 have hl:=hL.lt (p:=(w.heap.size+1+1,_)) (List.mem_cons_self ..)
 exact ⟨_,_,_,tv1,bv1,c41,rfl,a1,a2,a3,a4,hl⟩
theorem chA3 {C:VC} {pb po N g:Nat} {A A1:Nat→Prop} {w w1:World} {tv bv c4 tv1 bv1 c41 nv z0 z1 z2 z3 z4 z5 z6 z7:Value} {bs:List Bd} {n:Nd} {X:XR} (hS:St C pb po A1 w1 tv1 bv1 c41 X.ts (bs ++ X.bs) X.env N) (hT:Step C pb A w tv bv c4 A1 w1 tv1 bv1 c41) (hL:Locs C pb A1 tv1 bv1 w1 ((g,.cells #[z0,z1,z2,z3,z4,z5,z6,z7] 116 (0,0)) :: locL C w n nv)) (hs:X.par.name.size≤maxLen) (hg:w.heap.size+1+1 < g):
 ChA C pb po A w tv bv c4 bs N nv n X (.pointer (some ⟨g,0,none⟩)) ((((((((((w1.alloc (.cells #[.string X.par.name] 9)).setCell ⟨g,0,none⟩ (.string ⟨#[]⟩)).setCell ⟨g,1,none⟩ (.bool false)).setCell ⟨g,2,none⟩ (.int .u8 83)).setCell ⟨g,3,none⟩ (.int .i64 0)).setCell ⟨g,4,none⟩ (.string ⟨#[]⟩)).setCell ⟨g,5,none⟩ (.slice (some ⟨w1.heap.size,0,none⟩) 1 1)).setCell ⟨g,6,none⟩ (.slice none 0 0)).setCell ⟨g,7,none⟩ (.slice none 0 0))):=by
 obtain ⟨a1,a2,a3,a4⟩:=zgf hS hT hL hs rfl
 have hne:∀ p ∈ locL C w n nv,p.1≠g:=by
  intro p hp
  simp only [locL,List.mem_cons,List.not_mem_nil,or_false] at hp
  rcases hp with rfl|rfl|rfl <;> simp only <;> omega
 have l0:=a3.set 0 (.string ⟨#[]⟩) hne
 have l1:=l0.set 1 (.bool false) hne
 have l2:=l1.set 2 (.int .u8 83) hne
 have l3:=l2.set 3 (.int .i64 0) hne
 have l4:=l3.set 4 (.string ⟨#[]⟩) hne
 have l5:=l4.set 5 (.slice (some ⟨w1.heap.size,0,none⟩) 1 1) hne
 have l6:=l5.set 6 (.slice none 0 0) hne
 have l7:=l6.set 7 (.slice none 0 0) hne
 have s7:=(((((((a1.setLoc a3 (List.mem_cons_self ..) 0 (.string ⟨#[]⟩)).setLoc l0 (List.mem_cons_self ..) 1 (.bool false)).setLoc l1 (List.mem_cons_self ..) 2 (.int .u8 83)).setLoc l2 (List.mem_cons_self ..) 3 (.int .i64 0)).setLoc l3 (List.mem_cons_self ..) 4 (.string ⟨#[]⟩)).setLoc l4 (List.mem_cons_self ..) 5 (.slice (some ⟨w1.heap.size,0,none⟩) 1 1)).setLoc l5 (List.mem_cons_self ..) 6 (.slice none 0 0)).setLoc l6 (List.mem_cons_self ..) 7 (.slice none 0 0)
 have hK:=(((((((zaf (w1.alloc (.cells #[.string X.par.name] 9)) g 0 (.string ⟨#[]⟩)).same (zaf _ g 1 (.bool false))).same (zaf _ g 2 (.int .u8 83))).same (zaf _ g 3 (.int .i64 0))).same (zaf _ g 4 (.string ⟨#[]⟩))).same (zaf _ g 5 (.slice (some ⟨w1.heap.size,0,none⟩) 1 1))).same (zaf _ g 6 (.slice none 0 0))).same (zaf _ g 7 (.slice none 0 0))
 simp only [List.setIfInBounds_toArray,List.set_cons_zero,List.set_cons_succ] at l7
 refine ⟨g,w1.heap.size,_,tv1,bv1,c41,rfl,s7,a2.young hK (fun k e=>by omega),l7,a4.stays (hK.stays (fun k a _ e=>?_)),hg⟩
 exact (a3 _ (List.mem_cons_self ..)).2.1 (by rw [show g=k from (e:k=g).symm];exact a)
theorem zkV {C:VC} {pb po N g9:Nat} {A A0 A':Nat→Prop} {w w0 w':World} {tv bv c4 tv0 bv0 c40 tv':Value} {L:List (Nat × Obj)} {o o':Obj} (hT:Step C pb A0 w0 tv0 bv0 c40 A w tv bv c4) (hL:Locs C pb A tv bv w ((g9,o) :: L)) (hne:∀ p ∈ L,p.1≠g9) (hg:w0.heap.size≤g9)
 (hk:Keeps w w' (fun k=>Mu C pb tv bv k∨k=g9)) (hup:∀ k,A k→A' k) (hnew:∀ k,A' k→A k∨w.heap.size≤k) (hn:NewOr w tv tv') (h9:w'.heap[g9]?=some o'):
 Step C pb A0 w0 tv0 bv0 c40 A' w' tv' bv c4∧Locs C pb A' tv' bv w' ((g9,o') :: L):=by
 have key:∀ p ∈ (g9,o) :: L,¬ A' p.1∧¬ Mu C pb tv' bv p.1:=fun p hp=>by
  obtain ⟨h1,h2,h3⟩:=hL p hp
  have hlt:=hL.lt hp
  refine ⟨fun a=>?_,fun m=>?_⟩
  · rcases hnew _ a with a|a
    · exact h2 a
    · omega
  · rcases Mut.new m hn (NewOr.refl w bv) with a|a
    · exact h3 a
    · omega
 refine ⟨⟨hT.keeps.trans hk (fun k e=>?_),fun k a=>hup k (hT.up k a),fun k a=>?_,hT.ntv.trans hn hT.size,hT.nbv,hT.hc4⟩,fun p hp=>?_⟩
 · rcases e with e|e
   · exact Mut.new e hT.ntv hT.nbv
   · exact .inr (by omega)
 · rcases hnew k a with a|a
   · exact hT.new k a
   · exact .inr (Nat.le_trans hT.size a)
 · rcases List.mem_cons.1 hp with rfl|hp
   · exact ⟨h9,(key (g9,o) (List.mem_cons_self ..)).1,(key (g9,o) (List.mem_cons_self ..)).2⟩
   · obtain ⟨h1,h2,h3⟩:=hL p (List.mem_cons_of_mem _ hp)
     refine ⟨(hk.block _ (hL.lt (List.mem_cons_of_mem _ hp)) ?_).trans h1,key p (List.mem_cons_of_mem _ hp)⟩
     rintro (e|e)
     · exact h3 e
     · exact hne p hp e
theorem ziP {C:VC} {pb po N g9:Nat} {A A':Nat→Prop} {w w':World} {tv bv c4:Value} {ts:List Par} {bs:List Bd} {env:Env} {L:List (Nat × Obj)} {o:Obj} (hS:St C pb po A w tv bv c4 ts bs env N) (hL:Locs C pb A tv bv w ((g9,o) :: L)) (hk:Keeps w w' (fun k=>Mu C pb tv bv k∨k=g9)) (hup:∀ k,A k→A' k):Stays A A' w w':=
 ⟨hk.size,fun b hb a=>⟨hk.block b hb (by
   rintro (e|e)
   · exact VSt.mutA hS b e a
   · subst e;exact (hL _ (List.mem_cons_self ..)).2.1 a),hup b a⟩⟩
theorem zmW (C:VC) (pb po:Nat) (A:Nat→Prop) (w:World) (tv bv c4:Value) (ts:List Par) (bs:List Bd) (env:Env) (N:Nat) (hS:St C pb po A w tv bv c4 ts bs env N) (hl:ts.length≤200000):
 Calls Tryz.prog 102 #[.pointer (some ⟨C.bo,0,none⟩)] w fun e w'=>e=.returned (.int .i64 ts.length)∧∃ tv',St C pb po A w' tv' bv c4 (ts ++ [⟨tname ts.length,false⟩]) bs env N∧Step C pb A w tv bv c4 A w' tv' bv c4:=by
 refine (zgT w C.bo C.c0 C.c1 C.c2 c4 C.c5 tv ts (VSt.out hS) hl (VSt.tab hS)).mono ?_
 rintro e w' ⟨rfl,tv',h1,h2,h3⟩
 exact ⟨rfl,tv',VSt.temp hS h1 h2 h3,h2.mono (fun k e=>ziw e),fun _ a=>a,fun _ a=>.inl a,h3,NewOr.refl _ _,fun _=>rfl⟩
end Go.Proofs.YtpobmoegmdhbpaaGreatDoor
