/- Contracts and plain lemmas (CgO, CgP, PNm): no statement of the seat is proved here. -/
import Derived.Test.YtpobmoegmdhbpaaGreatDoorXq17
import Derived.Test.YtpobmoegmdhbpaaGreatDoorXq16
/- Walks of package cleangen:inverse,at a statement and at a block. -/
set_option linter.unusedSimpArgs false
set_option linter.unusedVariables false
set_option linter.unusedSectionVars false
set_option maxRecDepth 100000
set_option maxHeartbeats 3200000
namespace Go.Proofs.YtpobmoegmdhbpaaGreatDoor
open Go.RowKit
def InvPost (R:Nd) (A:Nat→Prop) (w:World) (e:Ending) (w':World):Prop:=∃ ka kc,e=.returned (.agg #[.int .u8 R.kind,.int .i64 R.num,.string R.name,.slice ka R.kids.length kc])∧NdAt (NewB A w) w' (.agg #[.int .u8 R.kind,.int .i64 R.num,.string R.name,.slice ka R.kids.length kc]) R∧Below w.heap.size w w'
def InvOk (n R:Nd):Prop:=∀ (v:Value) (A:Nat→Prop) (w:World),NdAt A w v n→Calls Tryz.prog 83 #[v] w (InvPost R A w)
theorem zdU (n R:Nd) (h57:n.kind≠57) (h52:n.kind≠52) (h50:n.kind≠50) (hp:Passes 162 n) (hi:Inverts n R):InvOk n R:=by
 intro v A w hv
 obtain ⟨hok,hlen,ka,kc,rfl,hk⟩:=hv.open
 have hA1:Below w.heap.size w (w.alloc (.cells #[.int .u8 n.kind,.int .i64 n.num,.string n.name,.slice ka n.kids.length kc] 34)):=(Below.refl _ _).alloc (Nat.le_refl _) _
 have hA:Below w.heap.size w ((w.alloc (.cells #[.int .u8 n.kind,.int .i64 n.num,.string n.name,.slice ka n.kids.length kc] 34)).alloc (.cells #[.int .u8 0,.int .i64 0,.string ⟨#[]⟩,.slice none 0 0] 34)):=hA1.alloc hA1.size _
 have HZ:=Lib.hid (zaw w (.cells #[.int .u8 n.kind,.int .i64 n.num,.string n.name,.slice ka n.kids.length kc] 34) (.cells #[.int .u8 0,.int .i64 0,.string ⟨#[]⟩,.slice none 0 0] 34))
 have HSZ:Hid (((w.alloc (.cells #[.int .u8 n.kind,.int .i64 n.num,.string n.name,.slice ka n.kids.length kc] 34)).alloc (.cells #[.int .u8 0,.int .i64 0,.string ⟨#[]⟩,.slice none 0 0] 34)).heap.size=w.heap.size+1+1):=Lib.hid (by simp)
 have HS:=Lib.hid (zni n R _ A _ (hv.stays (Stays.of_below hA)) hp hi)
 have d57:(n.kind == 57)=false:=by simp [h57]
 have d52:(n.kind == 52)=false:=by simp [h52]
 have d50:(n.kind == 50)=false:=by simp [h50]
 clear hv hk hp hi hA1 hok hlen h57 h52 h50
 go_enter Tryz.func83,Tryz.ntmps83
 go_wp2_with fail
 generalize ((w.alloc (.cells #[.int .u8 n.kind,.int .i64 n.num,.string n.name,.slice ka n.kids.length kc] 34)).alloc (.cells #[.int .u8 0,.int .i64 0,.string ⟨#[]⟩,.slice none 0 0] 34))=W at *
 refine HS.out.mono ?_
 rintro e w1 ⟨xa,xc,rfl,hx1,hb1⟩
 have hr:=zad hb1 HZ.out
 obtain ⟨z0,z1,z2,z3⟩:=cells4 hr
 have f:=unfrozen hr
 have HR:=Lib.hid hr
 have HX1:=Lib.hid hx1
 have hlt:w.heap.size+1 < w1.heap.size:=by have:=hb1.size;have:=HSZ.out;omega
 clear hr hx1
 go_wp2
 (try simp only [Exit.inBlock,Exit.then])
 refine bodyPost_ret (results_cell_row (P:=Tryz.prog) rfl _ _ (w.heap.size+1) _ _ _ _ rfl (zag (set4 HR.out _ _ _ _)) Tryz.underlying34 rfl (by kernel_rfl)) rfl ?_
 have hB1:Below w.heap.size w w1:=hA.trans (hb1.mono hA.size)
 have hz1:=hb1.size
 have hzz:=HSZ.out
 have hK4:=(((zaf w1 (w.heap.size+1) 0 (.int .u8 R.kind)).same (zaf _ (w.heap.size+1) 1 (.int .i64 R.num))).same (zaf _ (w.heap.size+1) 2 (.string R.name))).same (zaf _ (w.heap.size+1) 3 (.slice xa R.kids.length xc))
 have hK5:=hK4.alloc (.cells #[.int .u8 R.kind,.int .i64 R.num,.string R.name,.slice xa R.kids.length xc] 34)
 refine ⟨_,_,rfl,?_,zaa (zaq hB1 (by omega))⟩
 exact HX1.out.stays ⟨hK5.size,fun b hb a=>⟨hK5.block b hb (fun e=>by have:W.heap.size≤b:=a;omega),.inr (by have:W.heap.size≤b:=a;omega)⟩⟩
end Go.Proofs.YtpobmoegmdhbpaaGreatDoor
/- Walks of package cleangen:inverse,at a block. -/
namespace Go.Proofs.YtpobmoegmdhbpaaGreatDoor
open Go.RowKit
theorem zim (l:List Nd) (q:Nat) (h:q < l.length):(l.drop q).reverse=(l.drop (q+1)).reverse ++ [at' l q]:=by
 rw [List.drop_eq_getElem_cons h,List.reverse_cons,zax h]
theorem zfM (num:Int) (name:ByteArray) (l l':List Nd) (hl:l'.length=l.length) (hn:l.length≤100000) (HI:Hid (∀ j,j < l.length→InvOk (at' l j) (at' l' j))):InvOk (.mk 57 num name l) (blockN l'.reverse):=by
 intro v A w hv
 obtain ⟨hok,hlen,ka,kc,he,hk⟩:=hv.open
 have he':v=.agg #[.int .u8 57,.int .i64 num,.string name,.slice ka l.length kc]:=he
 subst he'
 have hkw:KidsAt A w (.slice ka l.length kc) l:=hk
 have hA1:Below w.heap.size w (w.alloc (.cells #[.int .u8 57,.int .i64 num,.string name,.slice ka l.length kc] 34)):=(Below.refl _ _).alloc (Nat.le_refl _) _
 have hA:Below w.heap.size w ((w.alloc (.cells #[.int .u8 57,.int .i64 num,.string name,.slice ka l.length kc] 34)).alloc (.cells #[.int .u8 0,.int .i64 0,.string ⟨#[]⟩,.slice none 0 0] 34)):=hA1.alloc hA1.size _
 have HX:=Lib.hid (zaI w (.cells #[.int .u8 57,.int .i64 num,.string name,.slice ka l.length kc] 34) (.cells #[.int .u8 0,.int .i64 0,.string ⟨#[]⟩,.slice none 0 0] 34))
 have HZ:=Lib.hid (zaw w (.cells #[.int .u8 57,.int .i64 num,.string name,.slice ka l.length kc] 34) (.cells #[.int .u8 0,.int .i64 0,.string ⟨#[]⟩,.slice none 0 0] 34))
 have HSZ:Hid (((w.alloc (.cells #[.int .u8 57,.int .i64 num,.string name,.slice ka l.length kc] 34)).alloc (.cells #[.int .u8 0,.int .i64 0,.string ⟨#[]⟩,.slice none 0 0] 34)).heap.size=w.heap.size+1+1):=Lib.hid (by simp)
 have HK:Hid (KidsAt (fun j=>A j∧j < w.heap.size) ((w.alloc (.cells #[.int .u8 57,.int .i64 num,.string name,.slice ka l.length kc] 34)).alloc (.cells #[.int .u8 0,.int .i64 0,.string ⟨#[]⟩,.slice none 0 0] 34)) (.slice ka l.length kc) l):=Lib.hid (hkw.stays ⟨hA.size,fun b hb a=>⟨hA.block b hb,a,hb⟩⟩)
 have HL:=Lib.hid hl
 clear hv hk hkw hA1 hok hlen he hl
 go_enter Tryz.func83,Tryz.ntmps83
 go_wp2
 generalize ((w.alloc (.cells #[.int .u8 57,.int .i64 num,.string name,.slice ka l.length kc] 34)).alloc (.cells #[.int .u8 0,.int .i64 0,.string ⟨#[]⟩,.slice none 0 0] 34))=W at *
 go_loopw [4,3] (fun i v wr=>∃ (j:Int) (rl:List Nd),i=.int .i64 j∧-1≤j∧j < l.length∧rl=(l'.drop (j+1).toNat).reverse∧Below W.heap.size W wr∧RowsOwn NdE 34 (LD A w) W.heap.size wr v rl) (fun i _ _=>(intOf i+1).toNat)
 case atStart=>exact ⟨_,[],rfl,by omega,by omega,by rw [show ((l.length:Int) - 1+1).toNat=l'.length by have:=HL.out;omega,List.drop_length];rfl,Below.refl _ _,RowsOwn.nil _ _ _ _ _⟩
 case round=>
  obtain ⟨j,rl,rfl,hj0,hj1,hrl,hbl,hown⟩:=hrel
  have HRL:=Lib.hid hrl
  clear hrl
  obtain ⟨va,vc,rfl⟩:=hown.form
  have HOWN:=Lib.hid hown
  have hr:=zad hbl HX.out
  obtain ⟨r0,r1,r2,r3⟩:=cells4 hr
  have hszl:=hbl.size
  have hzz:w.heap.size+2≤W.heap.size:=by rw [HSZ.out];omega
  clear hown hr
  by_cases hpos:0≤j
  · obtain ⟨q,rfl⟩:=Int.eq_ofNat_of_zero_le hpos
    have hq:q < l.length:=by omega
    have HNQ:Hid (((q:Int)+1).toNat=q+1):=Lib.hid (by omega)
    have hlq:rl.length≤100000:=by rw [HRL.out,HNQ.out,List.length_reverse,List.length_drop,HL.out];omega
    obtain ⟨b,off,cap,kb,kd,he,hb,_,_,c0,c1,c2,c3,hnd⟩:=(HK.out.stays (Stays.of_below hbl)).at hq
    simp only [Value.slice.injEq] at he
    obtain ⟨rfl,-,rfl⟩:=he
    have HIH:=Lib.hid (HI.out q hq _ _ wr hnd)
    have i0:(0:Int)≤(q:Int):=by omega
    have i1:(q:Int) < (l.length:Int):=by omega
    clear hnd
    go_wp2_with fail
    refine HIH.out.mono ?_
    rintro e w1 ⟨xa,xc,rfl,hx1,hb1⟩
    have hBa:Below w1.heap.size w1 (w1.alloc (.cells #[.int .u8 (at' l' q).kind,.int .i64 (at' l' q).num,.string (at' l' q).name,.slice xa (at' l' q).kids.length xc] 34)):=(Below.refl _ _).alloc (Nat.le_refl _) _
    have hsz1:=hb1.size
    have HK1:=Lib.hid (zar.1 (zbi (A:=NewB (fun j=>A j∧j < w.heap.size) wr) (heap_alloc_new w1 (.cells #[.int .u8 (at' l' q).kind,.int .i64 (at' l' q).num,.string (at' l' q).name,.slice xa (at' l' q).kids.length xc] 34)) (.inr hsz1) (hx1.stays (Stays.of_below hBa))))
    have HO1:=Lib.hid ((HOWN.out.below hb1).below hBa)
    have HD:Hid (∀ b,b < (w1.alloc (.cells #[.int .u8 (at' l' q).kind,.int .i64 (at' l' q).num,.string (at' l' q).name,.slice xa (at' l' q).kids.length xc] 34)).heap.size→NewB (fun j=>A j∧j < w.heap.size) wr b→LD A w b∧(Value.slice va rl.length vc).ownBlock≠some b):=Lib.hid (fun b _ a=>by
     rcases a with a|a
     · exact ⟨.inl a,fun e=>by have:=(HOWN.out.lt e).1;omega⟩
     · exact ⟨.inr (by omega),fun e=>by have:=(HOWN.out.lt e).2;omega⟩)
    have hbase:W.heap.size≤(w1.alloc (.cells #[.int .u8 (at' l' q).kind,.int .i64 (at' l' q).num,.string (at' l' q).name,.slice xa (at' l' q).kids.length xc] 34)).heap.size:=Nat.le_trans hbl.size (Nat.le_trans hb1.size hBa.size)
    have HRD:=Lib.hid (zim l' q (by rw [HL.out];exact hq))
    clear hx1 HIH
    go_wp2_with (at_builtin;refine zaF TNd rfl (by decide) rfl (.tmp 19) (.tmp 26) rfl rfl rfl HO1.out HK1.out HD.out (by unfold maxLen;simp;omega) (by simp;omega) hbase ?_;intro a' c' w3 h3 hg3 hn3;have H3:=Lib.hid h3;have HG3:Hid (World.grownBy _ w3 (Value.slice va rl.length vc).ownBlock):=Lib.hid hg3;clear h3 hg3 hn3)
    refine ⟨⟨(q:Int) - 1,rl ++ [at' l' q],rfl,by omega,by omega,by rw [show ((q:Int) - 1+1).toNat=q by omega,HRD.out,HRL.out,HNQ.out],?_,H3.out⟩,by first|(simp [intOf];done)|(simp [intOf];omega)⟩
    exact (hbl.trans ((hb1.trans (hBa.mono hb1.size)).mono hbl.size)).grown HG3.out hbase (fun j e=>(HOWN.out.lt e).1)
  · obtain rfl:j= -1:=by omega
    have hfull:rl=l'.reverse:=by rw [HRL.out,show ((-1:Int)+1).toNat=0 by omega,List.drop_zero]
    have HF:=Lib.hid hfull
    have hz:=zad hbl HZ.out
    have HZW:=Lib.hid hz
    have HLL:Hid (rl.length=l.length):=Lib.hid (by rw [hfull,List.length_reverse,HL.out])
    clear hz hfull
    go_wp2_with (go_at_call 86;refine (zcr _ _ _ _).mono ?_;rintro e w2 ⟨rfl,hb2⟩;have hr:=zad hb2 HZW.out;obtain ⟨z0,z1,z2,z3⟩:=cells4 hr;have f:=unfrozen hr;have HR:=Lib.hid hr;clear hr)
    (try simp only [Exit.inBlock,Exit.then])
    refine bodyPost_ret (results_cell_row (P:=Tryz.prog) rfl _ _ (w.heap.size+1) _ _ _ _ rfl (set4 HR.out _ _ _ _) Tryz.underlying34 rfl (by kernel_rfl)) rfl ?_
    have hB2:Below w.heap.size w w2:=hA.trans ((hbl.trans (hb2.mono hbl.size)).mono hA.size)
    have hkk:KidsAt (LD A w) wr (.slice va rl.length vc) rl:=zar.2 (HOWN.out.shut (fun _ a=>a) (fun j e=>.inr (by have:=(HOWN.out.lt e).1;omega)) (by rw [HLL.out];unfold maxLen;omega))
    have hK4:=(((zaf w2 (w.heap.size+1) 0 (.int .u8 57)).same (zaf _ (w.heap.size+1) 1 (.int .i64 0))).same (zaf _ (w.heap.size+1) 2 (.string ⟨#[]⟩))).same (zaf _ (w.heap.size+1) 3 (.slice va rl.length vc))
    have hkd:=(hkk.stays (Stays.of_below hb2)).stays (A':=NewB A w) ⟨hK4.size,fun b hb a=>⟨hK4.block b hb (fun e=>by rcases a with ⟨_,a⟩|a <;> omega),by rcases a with ⟨a,_⟩|a;exact .inl a;exact .inr (by omega)⟩⟩
    have hF:=HF.out
    subst hF
    exact ⟨va,vc,rfl,zam (k:=57) hkd (by omega) (Nat.zero_le _),zaq hB2 (by omega)⟩
end Go.Proofs.YtpobmoegmdhbpaaGreatDoor
/- The statements of a bind have inverses:names,expressions. -/
namespace Go.Proofs.YtpobmoegmdhbpaaGreatDoor
open Go.RowKit
theorem zeG {s:ByteArray} (h:nameB s=true):NmOk s:=by
 unfold nameB at h
 simp only [Bool.and_eq_true,decide_eq_true_eq,Bool.not_eq_true'] at h
 obtain ⟨h1,h2,h3,h4,_⟩:=h
 have hl:∀ j (h:j < s.size),97≤s[j].toNat∧s[j].toNat≤122:=fun j hj=>by
  unfold lowerB at h4
  have:=List.all_eq_true.1 h4 s[j] (by
   have:s[j]=s.data.toList[j]'(by simpa using hj):=rfl
   rw [this];exact List.getElem_mem _)
  simp only [Bool.and_eq_true,decide_eq_true_eq,UInt8.le_iff_toNat_le] at this
  exact ⟨by simpa using this.1,by simpa using this.2⟩
 exact ⟨by omega,by omega,fun h=>hl 0 h,fun j hj=>.inl (hl j hj),h3⟩
theorem nm_t {i:Nat} (h:i≤10000):NmOk (tname i):=by
 have hlen:=zlx 4 i (by omega)
 have hne:=zkc i
 have hr:=zgG i
 generalize hd:Lib.decDigits i=d at *
 have hs:(tname i).size=d.length+1:=by simp [tname,hd,ByteArray.size]
 have hat:∀ j (h:j < (tname i).size),(tname i)[j]=(116 :: d)[j]'(by rw [hs] at h;simpa using h):=fun j h=>by
  simp [tname,hd,ByteArray.getElem_eq_getElem_data]
 refine ⟨by omega,by omega,fun h0=>?_,fun j hj=>?_,?_⟩
 · rw [hat 0 h0];simp
 · rw [hat j hj]
   match j,hj with
   | 0,_=>simp
   | j+1,hj=>
     right
     simp only [List.getElem_cons_succ]
     exact hr _ (List.getElem_mem _)
 · have key:∀ x ∈ keywords,∀ c,x.data.toList[1]?=some c→97≤c.toNat:=by decide
   unfold keyB inB
   rw [List.any_eq_false]
   intro x hx he
   simp only [decide_eq_true_eq] at he
   subst he
   obtain ⟨c,d',rfl⟩:∃ c d',d=c :: d':=by
    cases d with
    | nil=>exact absurd rfl hne
    | cons c d'=>exact ⟨c,d',rfl⟩
   have h1:=key _ hx c (by simp [tname,hd])
   have h2:=hr c (List.mem_cons_self ..)
   omega
theorem zcd {s:ByteArray} (h:GName s):NmOk s:=by
 rcases h with h|⟨i,hi,rfl⟩
 · exact zeG h
 · exact nm_t hi
theorem zdQ:NmOk headS:=by
 refine ⟨by decide,by decide,fun h=>?_,fun j hj=>?_,by decide⟩
 · show 97≤(104:UInt8).toNat∧(104:UInt8).toNat≤122
   decide
 · have hj2:j < 2:=hj
   match j,hj2 with
   | 0,_=>
     show 97≤(104:UInt8).toNat∧(104:UInt8).toNat≤122∨48≤(104:UInt8).toNat∧(104:UInt8).toNat≤57
     decide
   | 1,_=>
     show 97≤(48:UInt8).toNat∧(48:UInt8).toNat≤122∨48≤(48:UInt8).toNat∧(48:UInt8).toNat≤57
     decide
inductive CS:Nd→Prop
 | plus (s:ByteArray) (e:Nd) (hs:NmOk s) (he:Passes 214 e) (h57:e.kind≠57) (hz:sizeN e≤100):CS (plusN s e)
 | call (p:ByteArray) (args:List ByteArray) (hl:args.length≤2000):CS (callN p args)
 | cond (a d:Nd) (l1 l2:List Nd) (h1:∀ s ∈ l1,CS s) (h2:∀ s ∈ l2,CS s) (n1:l1.length≤100000) (n2:l2.length≤100000):CS (nodeN 52 ByteArray.empty [a,blockN l1,blockN l2,d])
 | loc (a c:Nd) (k k':Int) (s:ByteArray) (hk:k=44∧k'=45∨k=45∧k'=44) (hs:NmOk s) (ha:Passes 214 a) (hc:Passes 214 c) (ka:a.kind≠57) (kc:c.kind≠57) (za:sizeN a≤100) (zc:sizeN c≤100):CS (nodeN 54 headS [a,blockN [nodeN k s [vN headS]],c])
theorem zec (s:ByteArray) (e:Nd) (h57:e.kind≠57) (hz:sizeN e≤100):Inverts (plusN s e) (invN (plusN s e)):=by
 have:invN (plusN s e)=.mk 41 0 ByteArray.empty [vN s,e]:=by rw [plusN,nodeN,invN,invK];rfl
 rw [this]
 refine zct 40 41 0 ByteArray.empty [vN s,e] (by simp) (.inl ⟨rfl,rfl⟩) (fun j hj=>?_)
 match j,hj with
 | 0,_=>exact ⟨by show (2:Int)≠57;omega,by show sizeN (vN s)≤100000;rw [zdi];omega⟩
 | 1,_=>exact ⟨h57,by show sizeN e≤100000;omega⟩
theorem zlS (s:ByteArray) (e:Nd) (hs:NmOk s) (he:Passes 214 e) (h57:e.kind≠57) (hz:sizeN e≤100):InvOk (plusN s e) (invN (plusN s e)):=
 zdU _ _ (by show (40:Int)≠57;omega) (by show (40:Int)≠52;omega) (by show (40:Int)≠50;omega) (zbX 40 _ _ (.inl rfl) (zbR s hs) he) (zec s e h57 hz)
theorem znS (a c:Nd) (k k':Int) (s:ByteArray) (hk:k=44∧k'=45∨k=45∧k'=44) (hs:NmOk s) (ha:Passes 214 a) (hc:Passes 214 c) (ka:a.kind≠57) (kc:c.kind≠57) (za:sizeN a≤100) (zc:sizeN c≤100):
 InvOk (nodeN 54 headS [a,blockN [nodeN k s [vN headS]],c]) (invN (nodeN 54 headS [a,blockN [nodeN k s [vN headS]],c])):=by
 have e0:invN (nodeN k s [vN headS])=nodeN k' s [vN headS]:=by
  rcases hk with ⟨rfl,rfl⟩|⟨rfl,rfl⟩ <;> (rw [nodeN,invN,invK];rfl)
 have e1:invN (blockN [nodeN k s [vN headS]])=blockN [nodeN k' s [vN headS]]:=by
  rw [blockN,nodeN,invN,invK,if_pos rfl,invL,invL,e0];rfl
 have e2:invN (nodeN 54 headS [a,blockN [nodeN k s [vN headS]],c])=.mk 54 0 headS [c,blockN [nodeN k' s [vN headS]],a]:=by
  have:∀ x y z:Nd,invN (nodeN 54 headS [x,y,z])=.mk 54 0 headS [z,invN y,x]:=fun x y z=>by
   rw [nodeN,invN,invK];simp [invL,at']
  rw [this,e1]
 rw [e2]
 refine zdU _ _ (by show (54:Int)≠57;omega) (by show (54:Int)≠52;omega) (by show (54:Int)≠50;omega) (zcu headS a _ c zdQ ha (zcm _ (fun j hj=>?_)) hc) (zdc 0 headS a _ _ c ka rfl kc (by omega) (by omega) (zdB 0 ByteArray.empty _ _ ?_))
 · match j,hj with
   | 0,_=>exact zcS k s _ (by omega) hs (zbR headS zdQ)
 · refine zct k k' 0 s [vN headS] (by simp) (.inr (by omega)) (fun j hj=>?_)
   match j,hj with
   | 0,_=>exact ⟨by show (2:Int)≠57;omega,by show sizeN (vN headS)≤100000;rw [zdi];omega⟩
theorem zif {s:ByteArray} (h:GName s):Passes 214 (vN s):=zaQ 2 s (.inl rfl) (zcd h)
theorem zcp {args:List ByteArray} (h:∀ a ∈ args,GName a) {i:Nat} (hi:i < args.length):GName (argN args i):=by
 rw [argN,List.getD_eq_getElem?_getD,List.getElem?_eq_getElem hi];exact h _ (List.getElem_mem _)
mutual
theorem znX (lib:List Fn) (cf:CallF) (hcf:∀ nm,(cf nm).2.length≤1000):∀ b:Bd,GoodB lib b→sizeB b≤10000→∀ s ∈ bindN cf b,CS s
 | .mk tn list op num name args thn els,hg,hz=>by
   rw [GoodB] at hg
   obtain ⟨htn,hargs,hop,hthn,hels⟩:=hg
   rw [sizeB] at hz
   have hcopy:∀ x y:ByteArray,CS (callN lcopyS [x,y]):=fun x y=>.call _ _ (by simp)
   have z0:sizeN (numN 0)≤100:=by rw [zde];omega
   have p0:Passes 214 (numN 0):=zdI 0 (by omega)
   rw [bindN]
   rcases hop with ⟨rfl,h⟩|⟨rfl,h⟩|⟨rfl,h,h2⟩|⟨rfl,h⟩|⟨rfl,h,h2⟩|rfl|⟨rfl,h⟩|⟨h,h2⟩
   · intro s hs
     simp at hs;subst hs
     exact .plus _ _ (zcd htn) (zdI _ h) (by show (1:Int)≠57;omega) (by rw [zde];omega)
   · rw [if_neg (by omega),if_pos rfl]
     intro s hs
     cases list with
     | true=>simp at hs;subst hs;exact hcopy _ _
     | false=>simp at hs;subst hs;exact .plus _ _ (zcd htn) (zif (zcp hargs (by omega))) (by show (2:Int)≠57;omega) (by rw [zdi];omega)
   · rw [if_neg (by omega),if_neg (by omega),if_pos rfl]
     intro s hs
     simp only [List.mem_singleton] at hs;subst hs
     have e:num % 256=num:=by omega
     rw [e]
     exact .plus _ _ (zcd htn) (zdv num _ _ h.1 h.2 (zif (zcp hargs (by omega))) (zif (zcp hargs (by omega)))) (by show num≠57;omega) (by simp only [zaO,sizeL,zdi];omega)
   · rw [if_neg (by omega),if_neg (by omega),if_neg (by omega),if_pos rfl]
     intro s hs
     simp only [List.mem_singleton] at hs;subst hs
     have l1:=zbq cf thn
     have l2:=zbq cf els
     have l3:=zaV thn
     have l4:=zaV els
     exact .cond _ _ _ _ (zbY lib cf hcf thn hthn (by omega)) (zbY lib cf hcf els hels (by omega)) (by omega) (by omega)
   · rw [if_neg (by omega),if_neg (by omega),if_neg (by omega),if_neg (by omega),if_pos rfl]
     intro s hs
     simp only [List.mem_singleton] at hs;subst hs
     have:=hcf name
     exact .call _ _ (by simp;omega)
   · rw [if_neg (by omega),if_neg (by omega),if_neg (by omega),if_neg (by omega),if_neg (by omega),if_neg (by omega),if_neg (by omega),if_neg (by omega),if_neg (by omega)]
     intro s hs;simp at hs
   · rw [if_neg (by omega),if_neg (by omega),if_neg (by omega),if_neg (by omega),if_neg (by omega),if_pos rfl]
     intro s hs
     simp only [List.mem_cons,List.not_mem_nil,or_false] at hs
     rcases hs with rfl|rfl
     · exact hcopy _ _
     · exact .loc _ _ 44 45 _ (.inl ⟨rfl,rfl⟩) (zcd htn) (zif (zcp hargs (by omega))) p0 (by show (2:Int)≠57;omega) (by show (1:Int)≠57;omega) (by rw [zdi];omega) z0
   · have g0:=zcp hargs (i:=0) (by omega)
     have leaf:∀ k:Int,k=2∨k=4∨k=5→Passes 214 (nodeN k (argN args 0) []):=fun k hk=>zaQ k _ hk (zcd g0)
     have zl:∀ k:Int,sizeN (nodeN k (argN args 0) [])≤100:=fun k=>by rw [zaO,sizeL];omega
     rcases h with rfl|rfl|rfl
     · rw [if_neg (by omega),if_neg (by omega),if_neg (by omega),if_neg (by omega),if_neg (by omega),if_neg (by omega),if_pos rfl]
       intro s hs
       simp only [List.mem_singleton] at hs;subst hs
       exact .plus _ _ (zcd htn) (leaf 4 (by omega)) (by show (4:Int)≠57;omega) (zl 4)
     · rw [if_neg (by omega),if_neg (by omega),if_neg (by omega),if_neg (by omega),if_neg (by omega),if_neg (by omega),if_neg (by omega),if_pos rfl]
       intro s hs
       simp only [List.mem_cons,List.not_mem_nil,or_false] at hs
       rcases hs with rfl|rfl
       · exact hcopy _ _
       · exact .loc _ _ 45 44 _ (.inr ⟨rfl,rfl⟩) (zcd htn) p0 (leaf 4 (by omega)) (by show (1:Int)≠57;omega) (by show (4:Int)≠57;omega) z0 (zl 4)
     · rw [if_neg (by omega),if_neg (by omega),if_neg (by omega),if_neg (by omega),if_neg (by omega),if_neg (by omega),if_neg (by omega),if_neg (by omega),if_pos rfl]
       intro s hs
       simp only [List.mem_singleton] at hs;subst hs
       exact .plus _ _ (zcd htn) (zdv 16 _ _ (by omega) (by omega) (leaf 5 (by omega)) p0) (by show (16:Int)≠57;omega) (by simp only [zaO,sizeL,zde];omega)
theorem zbY (lib:List Fn) (cf:CallF) (hcf:∀ nm,(cf nm).2.length≤1000):∀ l:List Bd,GoodBs lib l→sizeBs l≤10000→∀ s ∈ bindsN cf l,CS s
 | [],_,_=>by rw [bindsN];intro s hs;simp at hs
 | b :: r,hg,hz=>by
   rw [GoodBs] at hg
   rw [sizeBs] at hz
   rw [bindsN]
   intro s hs
   rcases List.mem_append.1 hs with hs|hs
   · exact znX lib cf hcf b hg.1 (by omega) s hs
   · exact zbY lib cf hcf r hg.2 (by omega) s hs
end
end Go.Proofs.YtpobmoegmdhbpaaGreatDoor
