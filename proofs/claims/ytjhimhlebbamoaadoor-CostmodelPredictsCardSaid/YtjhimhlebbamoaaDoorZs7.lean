/- Contracts and plain lemmas (R43I, R43J, R43K, R43L): no statement of the seat is proved here. -/
import Derived.Test.YtjhimhlebbamoaaDoorZs4
import Derived.StillTailTactics
import Derived.Deep.RegionHeld3
/- The reference of layer 43:the activations of a node are counted. -/
set_option linter.unusedSimpArgs false
set_option linter.unusedVariables false
set_option linter.unusedSectionVars false
set_option maxRecDepth 100000
set_option maxHeartbeats 12800000
namespace Go.Proofs.YtjhimhlebbamoaaDoor
open Go.RowKit
theorem nds_at {lib:List Fn} {A:Nat→Prop} {w:World} {v:Value} {l:List Tr} (h:NdsAt lib A w v l) {j:Nat} (hj:j < l.length):
 ∃ b off cap a c,v=.slice (some ⟨b,off,none⟩) l.length cap∧b < w.heap.size∧l.length≤cap∧A b∧w.cell? ⟨b,off+j * 3,none⟩=some (.int .i64 (at' l j).f)∧w.cell? ⟨b,off+j * 3+1,none⟩=some (.int .i64 (puN lib (at' l j)))∧w.cell? ⟨b,off+j * 3+2,none⟩=some (.slice a (at' l j).calls.length c)∧
   NdsAt lib A w (.slice a (at' l j).calls.length c) (at' l j).calls:=by
 obtain ⟨b,off,cap,cs,rfl,h1,h2,h3,h4,h5⟩:=(nds_rows.1 h).at hj
 have hc:NdrC lib A w cs (at' l j):=h5
 obtain ⟨_,a,c,e2⟩:=hc.c2.form
 have g0:=h4 0 (by show 0 < 3;omega)
 have g1:=h4 1 (by show 1 < 3;omega)
 have g2:=h4 2 (by show 2 < 3;omega)
 rw [hc.c0] at g0
 rw [hc.c1] at g1
 rw [e2] at g2
 exact ⟨b,off,cap,a,c,rfl,h1,h2,h3,g0,g1,g2,by rw [← e2];exact hc.c2⟩
def FlgAt (w:World) (P:Nat) (l:List Bool):Prop:=w.heap[P]?=some (.cells (l.map Value.bool).toArray 4 (0,0))
theorem FlgAt.cell {w:World} {P:Nat} {l:List Bool} (h:FlgAt w P l) {i:Nat} (hi:i < l.length):w.cell? ⟨P,i,none⟩=some (.bool (at' l i)):=
 cell_blk h i (by simp [at_eq hi,hi])
theorem FlgAt.set {w:World} {P:Nat} {l:List Bool} (h:FlgAt w P l) (i:Nat) (x:Bool):FlgAt (w.setCell ⟨P,i,none⟩ (.bool x)) P (l.set i x):=by
 have:=heap_setCell_same w P i _ _ (.bool x) h
 unfold FlgAt
 rw [this]
 congr 2
 simp [List.map_set]
structure CoC where
 p:Nat
 q:Nat
 kb:Nat
 lib:List Fn
 F:List Bool
 K:Int→Bool
 ok:(validE lib).2=0
 fl:F.length=lib.length
 fk:∀ i,i < lib.length→at' F i=K (i:Int)
structure CoSt (C:CoC) (A:Nat→Prop) (w:World) (s:Cnt):Prop where
 p:CntAt w C.p s.calls
 q:CntAt w C.q s.kept
 f:FlgAt w C.kb C.F
 len:s.Len C.lib.length
 alt:∀ j,A j→j < w.heap.size
 ap:¬ A C.p
 aq:¬ A C.q
 pq:C.p≠C.q
 fp:C.kb≠C.p
 fq:C.kb≠C.q
theorem CoSt.keeps {C:CoC} {A:Nat→Prop} {w w':World} {s s':Cnt} (h:CoSt C A w s) (hk:Keeps w w' (fun j=>j=C.p∨j=C.q)) (hp:CntAt w' C.p s'.calls) (hq:CntAt w' C.q s'.kept) (hl:s'.Len C.lib.length):CoSt C A w' s':=
 { h with
   p:=hp
   q:=hq
   f:=(hk.block _ (blk_lt h.f) (fun e=>by
    rcases e with e|e
    · exact h.fp e
    · exact h.fq e)).trans h.f
   len:=hl
   alt:=fun j a=>Nat.lt_of_lt_of_le (h.alt j a) hk.size }
theorem CoSt.below {C:CoC} {A:Nat→Prop} {w w':World} {s:Cnt} (h:CoSt C A w s) (hb:Below w.heap.size w w'):CoSt C A w' s:=
 h.keeps (Keeps.of_below _ hb) (blk_below hb h.p) (blk_below hb h.q) h.len
theorem CoSt.hitP {C:CoC} {A:Nat→Prop} {w:World} {s:Cnt} (h:CoSt C A w s) {f:Nat} (n:Int):CoSt C A (w.setCell ⟨C.p,f,none⟩ (.int .i64 (at' s.calls f+n))) (hit s false f n):=
 h.keeps ((keeps_set w C.p f _).mono (fun j e=>.inl e)) (h.p.set f _) (blk_set h.q (fun e=>h.pq e.symm)) (hit_len h.len false f n)
theorem CoSt.hitQ {C:CoC} {A:Nat→Prop} {w:World} {s:Cnt} (h:CoSt C A w s) {f:Nat} (n:Int):CoSt C A (w.setCell ⟨C.q,f,none⟩ (.int .i64 (at' s.kept f+n))) (hit s true f n):=
 h.keeps ((keeps_set w C.q f _).mono (fun j e=>.inr e)) (blk_set h.p h.pq) (h.q.set f _) (hit_len h.len true f n)
def CoPost (C:CoC) (A:Nat→Prop) (w:World) (s:Cnt) (e:Ending) (w':World):Prop:=e=.returned (.tuple #[])∧CoSt C A w' s∧Keeps w w' (fun j=>j=C.p∨j=C.q)
def XCo (m:Nat):Prop:=∀ (C:CoC) (A:Nat→Prop) (w:World) (s:Cnt) (t:Tr) (na:Option Addr) (nc:Nat) (keeps:Bool) (n:Int),stepsT t < m→stepsT t≤100000→TrOk apI C.lib t→TrLen t→0≤n∧n≤1152921504606846976→(keeps=true→n % 2=0)→(∀ i,0≤at' s.calls i)∧(∀ i,0≤at' s.kept i)→s.total+n * wT C.K t keeps≤1152921504606846976→
 NdsAt C.lib A w (.slice na t.calls.length nc) t.calls→CoSt C A w s→
 Calls Tryd.prog 17 #[.agg #[.int .i64 t.f,.int .i64 (puN C.lib t),.slice na t.calls.length nc],.slice (some ⟨C.kb,0,none⟩) C.lib.length C.lib.length,.int .i64 n,.bool keeps,.slice (some ⟨C.p,0,none⟩) C.lib.length C.lib.length,.slice (some ⟨C.q,0,none⟩) C.lib.length C.lib.length] w (CoPost C A w (visT (puN C.lib) C.K t keeps n s).2)
def CutCo (C:CoC) (A:Nat→Prop) (w:World) (s:Cnt) (fi:Nat) (keeps:Bool) (n:Int) (o:Obj) (n2:Value) (wx:World):Prop:=
 n2=.int .i64 (if keeps then n else n * 2)∧CoSt C A wx (hit s keeps fi n)∧Keeps w wx (fun j=>j=C.p∨j=C.q)∧wx.heap[w.heap.size]?=some o
theorem cutco_p {C:CoC} {A:Nat→Prop} {w w1:World} {s:Cnt} {fi:Nat} {n:Int} {o:Obj} (h:CoSt C A w1 s) (hb:Below w.heap.size w w1) (ho:w1.heap[w.heap.size]?=some o) (hne:w.heap.size≠C.p):CutCo C A w s fi false n o (.int .i64 (2 * n)) (w1.setCell ⟨C.p,fi,none⟩ (.int .i64 (at' s.calls fi+n))).drew:=
 have hd:Below (w1.setCell ⟨C.p,fi,none⟩ (.int .i64 (at' s.calls fi+n))).heap.size (w1.setCell ⟨C.p,fi,none⟩ (.int .i64 (at' s.calls fi+n))) (w1.setCell ⟨C.p,fi,none⟩ (.int .i64 (at' s.calls fi+n))).drew:=bel_drew (Below.refl _ _)
 ⟨by rw [if_neg (by simp),Int.mul_comm],(h.hitP n).below hd,((Keeps.of_below _ hb).same ((keeps_set w1 C.p fi _).mono (fun j e=>.inl e))).same (Keeps.of_below _ hd),blk_below hd (blk_set ho hne)⟩
theorem cutco_q {C:CoC} {A:Nat→Prop} {w w1:World} {s:Cnt} {fi:Nat} {n:Int} {o:Obj} (h:CoSt C A w1 s) (hb:Below w.heap.size w w1) (ho:w1.heap[w.heap.size]?=some o) (hne:w.heap.size≠C.q):CutCo C A w s fi true n o (.int .i64 n) (w1.setCell ⟨C.q,fi,none⟩ (.int .i64 (at' s.kept fi+n))).drew:=
 have hd:Below (w1.setCell ⟨C.q,fi,none⟩ (.int .i64 (at' s.kept fi+n))).heap.size (w1.setCell ⟨C.q,fi,none⟩ (.int .i64 (at' s.kept fi+n))) (w1.setCell ⟨C.q,fi,none⟩ (.int .i64 (at' s.kept fi+n))).drew:=bel_drew (Below.refl _ _)
 ⟨by rw [if_pos rfl],(h.hitQ n).below hd,((Keeps.of_below _ hb).same ((keeps_set w1 C.q fi _).mono (fun j e=>.inr e))).same (Keeps.of_below _ hd),blk_below hd (blk_set ho hne)⟩
theorem count_step (m:Nat) (ih:XCo m):XCo (m+1):=by
 intro C A w s t na nc keeps n hm hst1 htk htl hn hev hnn hbd hnd hco
 obtain ⟨f,args,res,cs⟩:=t
 have HTK:=Lib.hid htk
 have HTL:=Lib.hid htl
 have htk2:=htk
 rw [TrOk] at htk2
 obtain ⟨⟨hf0,hf1,_⟩,_⟩:=htk2
 obtain ⟨fi,rfl⟩:=Int.eq_ofNat_of_zero_le hf0
 have hfi:fi < C.lib.length:=by simpa using hf1
 have IH:=Lib.hid ih
 have HNN:=Lib.hid hnn
 have hwt:=wT_pos C.K (.mk (fi:Int) args res cs) keeps
 have hmul:n≤n * wT C.K (.mk (fi:Int) args res cs) keeps:=by
  have:=Int.mul_le_mul_of_nonneg_left hwt hn.1
  simpa using this
 have HBD:=Lib.hid hbd
 have hsum0:0≤sumI s.calls:=sumI_nonneg _ (fun x hx=>by obtain ⟨j,hj,rfl⟩:=List.getElem_of_mem hx;have:=hnn.1 j;rwa [at_eq hj] at this)
 have hsum1:0≤sumI s.kept:=sumI_nonneg _ (fun x hx=>by obtain ⟨j,hj,rfl⟩:=List.getElem_of_mem hx;have:=hnn.2 j;rwa [at_eq hj] at this)
 have htot:s.total=sumI s.calls+sumI s.kept:=rfl
 have hcb:=at_le_sum hnn.1 fi
 have hkb:=at_le_sum hnn.2 fi
 have hc0:=hnn.1 fi
 have hk0:=hnn.2 fi
 have hwC:IntKind.i64.wrap (at' s.calls fi+n)=at' s.calls fi+n:=by rw [IntKind.wrap_i64];omega
 have hwK:IntKind.i64.wrap (at' s.kept fi+n)=at' s.kept fi+n:=by rw [IntKind.wrap_i64];omega
 have hw2:IntKind.i64.wrap (2 * n)=2 * n:=by rw [IntKind.wrap_i64];omega
 have hB:Below w.heap.size w (w.alloc (.cells #[.int .i64 (fi:Int),.int .i64 (puN C.lib (.mk (fi:Int) args res cs)),.slice na cs.length nc] 49)):=bel_alloc (Below.refl _ _)
 have HB:=Lib.hid hB
 have HLEN:=Lib.hid hco.len
 have hco1:=hco.below hB
 have HCO1:=Lib.hid hco1
 have HND:=Lib.hid (show NdsAt C.lib A w (.slice na cs.length nc) cs from hnd)
 have HBOX:=Lib.hid (at_new0 w (.cells #[.int .i64 (fi:Int),.int .i64 (puN C.lib (.mk (fi:Int) args res cs)),.slice na cs.length nc] 49))
 obtain ⟨b0,b1,b2⟩:=cells3 HBOX.out
 have p0:=hco1.p.cell (i:=fi) (by rw [hco1.len.1];exact hfi)
 have q0:=hco1.q.cell (i:=fi) (by rw [hco1.len.2];exact hfi)
 have pf:=unfrozen hco1.p
 have qf:=unfrozen hco1.q
 have i0:(0:Int)≤(fi:Int):=by omega
 have i1:(fi:Int) < (C.lib.length:Int):=by omega
 have i1n:fi < C.lib.length:=hfi
 have HEV:=Lib.hid hev
 have HST:=Lib.hid (And.intro hst1 hm)
 have HNE:=Lib.hid (show w.heap.size≠C.p∧w.heap.size≠C.q from ⟨fun e=>by have:=blk_lt hco.p;omega,fun e=>by have:=blk_lt hco.q;omega⟩)
 clear ih hnn hbd hsum0 hsum1 htot hcb hkb hc0 hk0 hmul hwt hco hco1 htk htl hB hev hst1 hm hnd hf1
 change Calls Tryd.prog 17 #[.agg #[.int .i64 (fi:Int),.int .i64 (puN C.lib (.mk (fi:Int) args res cs)),.slice na cs.length nc],.slice (some ⟨C.kb,0,none⟩) C.lib.length C.lib.length,.int .i64 n,.bool keeps,.slice (some ⟨C.p,0,none⟩) C.lib.length C.lib.length,.slice (some ⟨C.q,0,none⟩) C.lib.length C.lib.length] w _
 go_enter Tryd.func17,Tryd.ntmps17
 go_upto_if 16 with fail
 go_cut [12] from 16 to 40 (fun n2 wx=>CutCo C A w s fi keeps n (.cells #[.int .i64 (fi:Int),.int .i64 (puN C.lib (.mk (fi:Int) args res cs)),.slice na cs.length nc] 49 (0,0)) n2 wx)
 case first=>
  cases keeps
  · have HCP:=Lib.hid (cutco_p (fi:=fi) (n:=n) HCO1.out HB.out HBOX.out HNE.out.1)
    go_wp2
    go_region
    all_goals
     go_wp2
     go_meet
     exact HCP.out
  · have HCQ:=Lib.hid (cutco_q (fi:=fi) (n:=n) HCO1.out HB.out HBOX.out HNE.out.2)
    go_wp2
    go_region
    all_goals
     go_wp2
     go_meet
     exact HCQ.out
 case rest=>
  clear b0 b1 b2 p0 q0 pf qf
  obtain ⟨rfl,hs,hk,hbox⟩:=hcut
  obtain ⟨n',hn'⟩:∃ n':Int,n'=if keeps then n else n * 2:=⟨_,rfl⟩
  rw [← hn']
  have HN':=Lib.hid hn'
  have HS:=Lib.hid hs
  have HKC:=Lib.hid hk
  have HBX:=Lib.hid hbox
  have HND2:=Lib.hid (HND.out.stays (hk.stays (fun j a _ e=>by
   rcases e with e|e
   · exact HCO1.out.ap (e ▸ a)
   · exact HCO1.out.aq (e ▸ a))))
  have hcl:cs.length≤100000:=by
   have h1:=HST.out.1
   have h2:=len_steps cs
   rw [stepsT] at h1
   omega
  clear hn' hs hk hbox
  go_wp2
  go_loopw [13] (fun i wr=>∃ k:Nat,k≤cs.length∧i=.int .i64 k∧CoSt C A wr (visL (puN C.lib) C.K (cs.take k) n' (hit s keeps fi n)).2∧Keeps wc wr (fun j=>j=C.p∨j=C.q)) (fun i _=>cs.length - (intOf i).toNat)
  case atStart=>exact ⟨0,Nat.zero_le _,rfl,by simpa [visL] using HS.out,Keeps.refl _ _⟩
  case round=>
   obtain ⟨k,hkk,rfl,hsk,hkp⟩:=hrel
   obtain ⟨b0,b1,b2⟩:=cells3 ((hkp.block w.heap.size (blk_lt HBX.out) (fun e=>by
    rcases e with e|e
    · exact HNE.out.1 e
    · exact HNE.out.2 e)).trans HBX.out)
   by_cases hlt:k < cs.length
   · obtain ⟨e1,e2,e3,e4,e5,e6,e7,e8⟩:=vi_child C.ok (K:=C.K) HTK.out HTL.out HLEN.out hn HEV.out HNN.out HBD.out HN'.out hlt
     have HTK2:=Lib.hid (visL_take (puN C.lib) C.K cs hlt n' (hit s keeps fi n))
     obtain ⟨b,off,cap,ca,c1,he,hb,_,_,y0,y1,y2,hcn⟩:=nds_at (HND2.out.stays (hkp.stays (fun j a _ e=>by
      rcases e with e|e
      · exact HS.out.ap (e ▸ a)
      · exact HS.out.aq (e ▸ a)))) hlt
     simp only [Value.slice.injEq] at he
     obtain ⟨rfl,-,rfl⟩:=he
     obtain ⟨hcf0,hcf1⟩:=trok_f e6
     have hfl:=hsk.f.cell (i:=(at' cs k).f.toNat) (by rw [C.fl];exact hcf1)
     rw [C.fk _ hcf1,show (((at' cs k).f.toNat:Nat):Int)=(at' cs k).f by omega] at hfl
     have j0:(0:Int)≤(at' cs k).f:=hcf0
     have j2:(at' cs k).f < (C.lib.length:Int):=by omega
     have j2n:(at' cs k).f.toNat < C.lib.length:=hcf1
     have k0:(0:Int)≤(k:Int):=by omega
     have k1:(k:Int) < (cs.length:Int):=by omega
     have hbd:Below wr.heap.size wr wr.drew:=bel_drew (Below.refl _ _)
     have HIH:=Lib.hid (IH.out C A wr.drew _ (at' cs k) ca c1 (C.K (at' cs k).f) n' (by have:=HST.out;omega) (by have:=HST.out;omega) e6 e7 e1 (fun _=>e2) ⟨e3,e4⟩ e5 (hcn.stays (Stays.of_below hbd)) (hsk.below hbd))
     have HKP:=Lib.hid (hkp.same (Keeps.of_below _ hbd))
     have H9:Hid (k+1≤cs.length):=Lib.hid hlt
     have H10:Hid (cs.length - (intOf (.int .i64 ((k:Int)+1))).toNat < cs.length - (intOf (.int .i64 (k:Int))).toNat):=Lib.hid (by simp only [intOf];omega)
     clear hsk hkp e1 e2 e3 e4 e5 e6 e7 e8 hcn hbd hcf0 hcf1
     go_wp2
     go_still_tail 18,(by kernel_rfl)
     change wpList _ _ _ _ _ wr.drew
     go_wp2_with fail
     (with_reducible refine HIH.out.mono ?_)
     rintro e w5 ⟨rfl,hs5,hk5⟩
     have HS5:=Lib.hid hs5
     have HK5:=Lib.hid (HKP.out.same hk5)
     clear hs5 hk5
     go_wp2
     exact ⟨⟨k+1,H9.out,by go_num,by rw [HTK2.out];exact HS5.out,HK5.out⟩,H10.out⟩
   · obtain rfl:k=cs.length:=by omega
     have hlt':¬ (cs.length:Int) < (cs.length:Int):=by omega
     have HVT:Hid ((visT (puN C.lib) C.K (.mk (fi:Int) args res cs) keeps n s).2=(visL (puN C.lib) C.K cs n' (hit s keeps fi n)).2):=Lib.hid (by rw [visT,← HN'.out])
     rw [List.take_length] at *
     have HSK:=Lib.hid hsk
     have HKP:=Lib.hid hkp
     clear hsk hkp
     go_wp2
     (try simp only [Exit.inBlock,Exit.then])
     refine bodyPost_end (results_none rfl _ _ _) rfl ?_
     rw [HVT.out]
     exact ⟨rfl,HSK.out,HKC.out.same HKP.out⟩
theorem count_any:∀ m:Nat,XCo m:=by
 intro m
 induction m with
 | zero=>intro C A w s t na nc keeps n hm;have:=stepsT_pos t;omega
 | succ m ih=>exact count_step m ih
end Go.Proofs.YtjhimhlebbamoaaDoor
/- The reference of layer 43:the garbage of a node. -/
namespace Go.Proofs.YtjhimhlebbamoaaDoor
open Go.RowKit
theorem gL_take (pu:Tr→Int) (K:Int→Bool) (l:List Tr) {k:Nat} (hk:k < l.length):gL pu K (l.take (k+1))=gL pu K (l.take k)+(if K (at' l k).f then gT pu K (at' l k) (K (at' l k).f) else 0):=by
 have h:=congrArg Prod.fst (visL_take pu K l hk 0 noCnt)
 simp only [visL_g,visT_g] at h
 exact h
theorem gT_kept (pu:Tr→Int) (K:Int→Bool) (t:Tr):gT pu K t true=pu t+gL pu K t.calls:=by
 obtain ⟨f,args,res,cs⟩:=t
 rw [gT,if_pos rfl]
 rfl
def XGa (m:Nat):Prop:=∀ (lib:List Fn) (F:List Bool) (K:Int→Bool) (kb:Nat) (A:Nat→Prop) (w:World) (t:Tr) (na:Option Addr) (nc:Nat),(validE lib).2=0→F.length=lib.length→(∀ i,i < lib.length→at' F i=K (i:Int))→stepsT t < m→stepsT t≤100000→TrOk apI lib t→TrLen t→
 NdsAt lib A w (.slice na t.calls.length nc) t.calls→FlgAt w kb F→
 Calls Tryd.prog 19 #[.agg #[.int .i64 t.f,.int .i64 (puN lib t),.slice na t.calls.length nc],.slice (some ⟨kb,0,none⟩) lib.length lib.length] w fun e w'=>e=.returned (.int .i64 (gL (puN lib) K t.calls))∧Below w.heap.size w w'
theorem garbage_step (m:Nat) (ih:XGa m):XGa (m+1):=by
 intro lib F K kb A w t na nc hv hF hK hm hst htk htl hnd hfl
 obtain ⟨f,args,res,cs⟩:=t
 have htk2:=htk
 have htl2:=htl
 rw [TrOk] at htk2
 rw [TrLen] at htl2
 have HOKS:=Lib.hid htk2.2
 have HTLS:=Lib.hid htl2.2.2
 have HV:=Lib.hid hv
 have HF:=Lib.hid hF
 have HKK:=Lib.hid hK
 have HST:=Lib.hid (show stepsL cs+1≤100000∧stepsL cs < m by rw [stepsT] at hst hm;omega)
 have IH:=Lib.hid ih
 have hB:Below w.heap.size w (w.alloc (.cells #[.int .i64 f,.int .i64 (puN lib (.mk f args res cs)),.slice na cs.length nc] 49)):=bel_alloc (Below.refl _ _)
 have HB:=Lib.hid hB
 have HND:=Lib.hid (show NdsAt lib A (w.alloc (.cells #[.int .i64 f,.int .i64 (puN lib (.mk f args res cs)),.slice na cs.length nc] 49)) (.slice na cs.length nc) cs from hnd.stays (Stays.of_below hB))
 have HFL:=Lib.hid (blk_below hB hfl)
 have HBOX:=Lib.hid (at_new0 w (.cells #[.int .i64 f,.int .i64 (puN lib (.mk f args res cs)),.slice na cs.length nc] 49))
 have hcl:cs.length≤100000:=by
  have h1:=HST.out.1
  have h2:=len_steps cs
  omega
 clear hv hF hK hm hst htk htl hnd hfl htk2 htl2 ih hB
 change Calls Tryd.prog 19 #[.agg #[.int .i64 f,.int .i64 (puN lib (.mk f args res cs)),.slice na cs.length nc],.slice (some ⟨kb,0,none⟩) lib.length lib.length] w fun e w'=>e=.returned (.int .i64 (gL (puN lib) K cs))∧Below w.heap.size w w'
 go_enter Tryd.func19,Tryd.ntmps19
 go_wp2
 generalize hW:(w.alloc (.cells #[.int .i64 f,.int .i64 (puN lib (.mk f args res cs)),.slice na cs.length nc] 49))=W at *
 clear hW
 go_loopw [5,6] (fun a i wr=>∃ k:Nat,k≤cs.length∧i=.int .i64 k∧a=.int .i64 (gL (puN lib) K (cs.take k))∧Below W.heap.size W wr) (fun _ i _=>cs.length - (intOf i).toNat)
 case atStart=>exact ⟨0,Nat.zero_le _,rfl,by simp [gL],Below.refl _ _⟩
 case round=>
  obtain ⟨k,hkk,rfl,rfl,hbl⟩:=hrel
  obtain ⟨b0,b1,b2⟩:=cells3 (blk_below hbl HBOX.out)
  by_cases hlt:k < cs.length
  · obtain ⟨b,off,cap,ca,c1,he,hb,_,_,y0,y1,y2,hcn⟩:=nds_at (HND.out.stays (Stays.of_below hbl)) hlt
    simp only [Value.slice.injEq] at he
    obtain ⟨rfl,-,rfl⟩:=he
    have e6:=HOKS.out.mem _ (at_mem hlt)
    have e7:=HTLS.out.mem _ (at_mem hlt)
    obtain ⟨hcf0,hcf1⟩:=trok_f e6
    have hbx:Below wr.heap.size wr (wr.alloc (.cells #[.int .i64 (at' cs k).f,.int .i64 (puN lib (at' cs k)),.slice ca (at' cs k).calls.length c1] 49)):=bel_alloc (Below.refl _ _)
    have hfl2:FlgAt (wr.alloc (.cells #[.int .i64 (at' cs k).f,.int .i64 (puN lib (at' cs k)),.slice ca (at' cs k).calls.length c1] 49)) kb F:=blk_below (bel_step hbx hbl) HFL.out
    have hfl:=hfl2.cell (i:=(at' cs k).f.toNat) (by rw [HF.out];exact hcf1)
    rw [HKK.out _ hcf1,show (((at' cs k).f.toNat:Nat):Int)=(at' cs k).f by omega] at hfl
    have HXB:=Lib.hid (at_new0 wr (.cells #[.int .i64 (at' cs k).f,.int .i64 (puN lib (at' cs k)),.slice ca (at' cs k).calls.length c1] 49))
    obtain ⟨x0,x1,x2⟩:=cells3 HXB.out
    have hsl:=steps_at cs k hlt
    have HIH:Hid (∀ w1,Below (wr.alloc (.cells #[.int .i64 (at' cs k).f,.int .i64 (puN lib (at' cs k)),.slice ca (at' cs k).calls.length c1] 49)).heap.size (wr.alloc (.cells #[.int .i64 (at' cs k).f,.int .i64 (puN lib (at' cs k)),.slice ca (at' cs k).calls.length c1] 49)) w1→Calls Tryd.prog 19 #[.agg #[.int .i64 (at' cs k).f,.int .i64 (puN lib (at' cs k)),.slice ca (at' cs k).calls.length c1],.slice (some ⟨kb,0,none⟩) lib.length lib.length] w1 fun e w'=>e=.returned (.int .i64 (gL (puN lib) K (at' cs k).calls))∧Below w1.heap.size w1 w'):=Lib.hid (fun w1 h1=>
     IH.out lib F K kb A w1 (at' cs k) ca c1 HV.out HF.out HKK.out (by have:=HST.out.2;omega) (by have:=HST.out.1;omega) e6 e7 ((hcn.stays (Stays.of_below hbx)).stays (Stays.of_below h1)) (blk_below h1 hfl2))
    have HTK:=Lib.hid (gL_take (puN lib) K cs hlt)
    have g1:=gL_le HV.out K (cs.take k) (HOKS.out.take k) (HTLS.out.take k)
    have g2:=gL_le HV.out K (cs.take (k+1)) (HOKS.out.take (k+1)) (HTLS.out.take (k+1))
    have g3:=gT_le HV.out K (at' cs k) true e6 e7
    have g4:=pu_le HV.out e6 e7
    have s1:=stepsL_take cs k
    have hst:=HST.out.1
    have HKT:=Lib.hid (gT_kept (puN lib) K (at' cs k))
    have g3k:=HKT.out
    have j0:(0:Int)≤(at' cs k).f:=hcf0
    have j2:(at' cs k).f < (lib.length:Int):=by omega
    have j2n:(at' cs k).f.toNat < lib.length:=hcf1
    have k0:(0:Int)≤(k:Int):=by omega
    have k1:(k:Int) < (cs.length:Int):=by omega
    have hw1:IntKind.i64.wrap (gL (puN lib) K (cs.take k)+puN lib (at' cs k))=gL (puN lib) K (cs.take k)+puN lib (at' cs k):=by rw [IntKind.wrap_i64];omega
    have hw2:IntKind.i64.wrap (gL (puN lib) K (cs.take k)+puN lib (at' cs k)+gL (puN lib) K (at' cs k).calls)=gL (puN lib) K (cs.take k)+puN lib (at' cs k)+gL (puN lib) K (at' cs k).calls:=by rw [IntKind.wrap_i64];omega
    have HBL:=Lib.hid hbl
    have HBX:=Lib.hid hbx
    have HL:=Lib.hid hlt
    obtain ⟨kv,hkv⟩:∃ kv,kv=K (at' cs k).f:=⟨_,rfl⟩
    rw [← hkv] at hfl HTK
    generalize gL (puN lib) K (cs.take k)=S at *
    generalize gL (puN lib) K (at' cs k).calls=T at *
    generalize puN lib (at' cs k)=P at *
    clear g1 g2 g3 g4 g3k s1 hst hsl hbl hbx hcn e6 e7 hcf0 hcf1 hfl2 hkv
    cases kv with
    | true=>
      go_wp2
      generalize hwb:(wr.alloc (.cells #[.int .i64 (at' cs k).f,.int .i64 P,.slice ca (at' cs k).calls.length c1] 49))=wb at *
      have HWB:=Lib.hid hwb
      have HC:Hid (∀ w1,Below wb.heap.size wb w1→w1.cell? ⟨wr.heap.size,0,none⟩=some (.int .i64 (at' cs k).f)∧w1.cell? ⟨wr.heap.size,1,none⟩=some (.int .i64 P)∧w1.cell? ⟨wr.heap.size,2,none⟩=some (.slice ca (at' cs k).calls.length c1)):=Lib.hid (fun w1 h=>cells3 (blk_below h HXB.out))
      clear hwb
      go_region_held3 (fun w1=>w1.cell? ⟨wr.heap.size,0,none⟩=some (.int .i64 (at' cs k).f)∧w1.cell? ⟨wr.heap.size,1,none⟩=some (.int .i64 P)∧w1.cell? ⟨wr.heap.size,2,none⟩=some (.slice ca (at' cs k).calls.length c1))
       (first|(with_reducible exact HC.out _ (by (repeat (with_reducible first|exact Below.refl _ _|refine bel_drew ?_|refine bel_alloc ?_|(apply bel_step;focus assumption))))))
       (first
       | (go_at_call 19;(with_reducible refine (HIH.out _ (by (repeat (with_reducible first|exact Below.refl _ _|refine bel_drew ?_|refine bel_alloc ?_|(apply bel_step;focus assumption))))).mono ?_);rintro e w5 ⟨rfl,hb5⟩)
       | fail)
      all_goals
       go_wp2
       exact ⟨⟨k+1,HL.out,by go_num,by rw [HTK.out];simp [HKT.out,Int.add_assoc],HBL.out.trans ((HBX.out.trans (((by (repeat (with_reducible first|exact Below.refl _ _|refine bel_drew ?_|refine bel_alloc ?_|(apply bel_step;focus assumption)))):Below wb.heap.size wb _).mono HBX.out.size)).mono HBL.out.size)⟩,by have:=HL.out;simp [intOf];omega⟩
    | false=>
      go_wp2
      exact ⟨⟨k+1,HL.out,by go_num,by rw [HTK.out];simp,HBL.out.trans (HBX.out.mono HBL.out.size)⟩,by have:=HL.out;simp [intOf];omega⟩
  · obtain rfl:k=cs.length:=by omega
    have hlt':¬ (cs.length:Int) < (cs.length:Int):=by omega
    rw [List.take_length] at *
    have HBL:=Lib.hid hbl
    clear hbl
    go_wp2
    go_ret
    exact ⟨rfl,HB.out.trans (HBL.out.mono HB.out.size)⟩
theorem garbage43_any:∀ m:Nat,XGa m:=by
 intro m
 induction m with
 | zero=>intro lib F K kb A w t na nc _ _ _ hm;have:=stepsT_pos t;omega
 | succ m ih=>exact garbage_step m ih
end Go.Proofs.YtjhimhlebbamoaaDoor
/- backsteplaw43.flags:one flag for each function. -/
namespace Go.Proofs.YtjhimhlebbamoaaDoor
open Go.RowKit
theorem TBool:RowT Tryd.prog 36 4 (.bool false) 1 1:=⟨Tryd.underlying36,by kernel_rfl⟩
theorem make_bool (n:Nat) (hn:n≤1000000) (W:World):∃ w',(Instr.makeSlice 36 (.int .i64 (n:Int)) (.int .i64 (n:Int))).run Tryd.prog W=.ok (.slice (some ⟨W.heap.size,0,none⟩) n n) w'∧FlgAt w' W.heap.size (List.replicate n false)∧Below W.heap.size W w':=by
 obtain ⟨i,hi,hz0,hz1,hz2⟩:=info_parts TBool.inf
 obtain ⟨w',hrun,r1,r2⟩:=run_make_full (P:=Tryd.prog) W W.heap.size 36 4 i (.bool false) 1 TBool.und hi hz0 hz1 .i64 .i64 n (by rw [hz2];omega) (by unfold maxLen;omega) (Nat.le_refl _)
 refine ⟨w',hrun,?_,Below.grown (Below.refl _ _) r2 (Nat.le_refl _) (fun k e=>by cases e)⟩
 have e1:(List.replicate n false).map Value.bool=(madeCells (Value.bool false).cells (n * 1)).toList:=by
  rw [Nat.mul_one]
  show _=(madeCells #[.bool false] n).toList
  rw [toList_madeCells_one];simp
 rw [← e1] at r1
 obtain ⟨hxl,r⟩:=r1
 rcases r with ⟨hv,_⟩|⟨g,cap,cur,hv,hb,hg,hn2,hm,hc,ht⟩
 · simp at hv
 · simp only [Value.slice.injEq,Option.some.injEq,Addr.mk.injEq,and_true] at hv
   obtain ⟨rfl,-,rfl⟩:=hv
   have e2:cur.toList=(List.replicate n false).map Value.bool:=by
    rw [← ht,List.take_of_length_le (by simp at hxl ⊢;omega)]
   have e3:cur=((List.replicate n false).map Value.bool).toArray:=by rw [← e2]
   show w'.heap[W.heap.size]?=_
   rw [hg,e3]
theorem at_setB {F:List Bool} {j i:Nat} (hj:j < F.length):at' (F.set j true) i=if j=i then true else at' F i:=by
 by_cases e:j=i
 · subst e
   simp [at',List.getD_eq_getElem?_getD,hj]
 · rw [if_neg e]
   simp [at',List.getD_eq_getElem?_getD,List.getElem?_set,e]
structure FlInv (lib:List Fn) (kept:List ByteArray) (k:Nat) (F:List Bool) (tw:Bool):Prop where
 len:F.length=lib.length
 ok:∀ j,j < k→0≤findF lib (at' kept j)
 at_:∀ i,i < lib.length→(at' F i=true ↔ ∃ j,j < k∧findF lib (at' kept j)=(i:Int))
 tw:tw=true ↔ ∃ j,j < k∧∃ j',j' < j∧findF lib (at' kept j')=findF lib (at' kept j)
theorem FlInv.zero (lib:List Fn) (kept:List ByteArray):FlInv lib kept 0 (List.replicate lib.length false) false:=
 ⟨by simp,fun j h=>absurd h (by omega),fun i hi=>⟨fun h=>by simp [at',List.getD_eq_getElem?_getD,List.getElem?_replicate,hi] at h,fun ⟨j,h,_⟩=>absurd h (by omega)⟩,⟨fun h=>(by cases h),fun ⟨j,h,_⟩=>absurd h (by omega)⟩⟩
theorem FlInv.next {lib:List Fn} {kept:List ByteArray} {k:Nat} {F:List Bool} {tw:Bool} (h:FlInv lib kept k F tw) (h0:0≤findF lib (at' kept k)) (h1:(findF lib (at' kept k)).toNat < lib.length):
 FlInv lib kept (k+1) (F.set (findF lib (at' kept k)).toNat true) (tw || at' F (findF lib (at' kept k)).toNat):=by
 have e0:(((findF lib (at' kept k)).toNat:Nat):Int)=findF lib (at' kept k):=by omega
 refine ⟨by rw [List.length_set];exact h.len,fun j hj=>?_,fun i hi=>?_,?_⟩
 · rcases Nat.lt_succ_iff_lt_or_eq.1 hj with e|rfl
   · exact h.ok j e
   · exact h0
 · have e1:at' (F.set (findF lib (at' kept k)).toNat true) i=if (findF lib (at' kept k)).toNat=i then true else at' F i:=by
    exact at_setB (by rw [h.len];exact h1)
   rw [e1]
   by_cases e:(findF lib (at' kept k)).toNat=i
   · rw [if_pos e]
     exact ⟨fun _=>⟨k,by omega,by omega⟩,fun _=>rfl⟩
   · rw [if_neg e,h.at_ i hi]
     constructor
     · rintro ⟨j,hj,he⟩;exact ⟨j,by omega,he⟩
     · rintro ⟨j,hj,he⟩
       rcases Nat.lt_succ_iff_lt_or_eq.1 hj with e2|rfl
       · exact ⟨j,e2,he⟩
       · omega
 · rw [Bool.or_eq_true,h.tw,h.at_ _ h1,e0]
   constructor
   · rintro (⟨j,hj,j',hj',he⟩|⟨j,hj,he⟩)
     · exact ⟨j,by omega,j',hj',he⟩
     · exact ⟨k,by omega,j,hj,he⟩
   · rintro ⟨j,hj,j',hj',he⟩
     rcases Nat.lt_succ_iff_lt_or_eq.1 hj with e2|rfl
     · exact .inl ⟨j,e2,j',hj',he⟩
     · exact .inr ⟨j',hj',he⟩
theorem FlInv.dup {lib:List Fn} {kept:List ByteArray} {F:List Bool} {tw:Bool} (h:FlInv lib kept kept.length F tw):tw=true ↔ ¬ kept.Nodup:=by
 rw [h.tw,List.Nodup,List.pairwise_iff_getElem]
 constructor
 · rintro ⟨j,hj,j',hj',he⟩ hp
   have h0:=h.ok j hj
   have h1:=h.ok j' (by omega)
   have a:=findF_at (lib:=lib) (name:=at' kept j) (by omega)
   have b:=findF_at (lib:=lib) (name:=at' kept j') (by omega)
   rw [he,a] at b
   exact hp j' j (by omega) hj hj' (by rw [← at_eq (by omega),← at_eq hj];exact b.symm)
 · intro hp
   refine Classical.byContradiction fun hn=>hp fun i j hi hj hij e=>hn ⟨j,hj,i,hij,?_⟩
   rw [at_eq hi,at_eq hj,e]
def FlPost (lib:List Fn) (kept:List ByteArray) (w:World) (e:Ending) (w':World):Prop:=
 ∃ v err,e=.returned (.tuple #[v,.int .i64 err])∧Below w.heap.size w w'∧((∃ s ∈ kept,findF lib s < 0)→err=21)∧((∀ s ∈ kept,¬ findF lib s < 0)→¬ kept.Nodup→err=22)∧
   ((∀ s ∈ kept,¬ findF lib s < 0)→kept.Nodup→err=0∧∃ kb F,v=.slice (some ⟨kb,0,none⟩) lib.length lib.length∧FlgAt w' kb F∧F.length=lib.length∧w.heap.size≤kb∧∀ i,i < lib.length→(at' F i=true ↔ ∃ s ∈ kept,findF lib s=(i:Int)))
theorem fl_bad {lib:List Fn} {kept:List ByteArray} {w w':World} {v:Value} {k:Nat} (hk:k < kept.length) (hf:findF lib (at' kept k) < 0) (hb:Below w.heap.size w w'):FlPost lib kept w (.returned (.tuple #[v,.int .i64 21])) w':=
 ⟨v,21,rfl,hb,fun _=>rfl,fun h=>absurd hf (h _ (at_mem hk)),fun h=>absurd hf (h _ (at_mem hk))⟩
theorem fl_twice {lib:List Fn} {kept:List ByteArray} {w w':World} {v:Value} {F:List Bool} (h:FlInv lib kept kept.length F true) (hb:Below w.heap.size w w'):FlPost lib kept w (.returned (.tuple #[v,.int .i64 22])) w':=
 ⟨v,22,rfl,hb,fun ⟨s,hs,hf⟩=>by
   obtain ⟨j,hj,rfl⟩:=List.getElem_of_mem hs
   have:=h.ok j hj
   rw [at_eq hj] at this;omega,fun _ _=>rfl,fun _ hd=>absurd hd (h.dup.1 rfl)⟩
theorem fl_ok {lib:List Fn} {kept:List ByteArray} {w w':World} {F:List Bool} {kb:Nat} (h:FlInv lib kept kept.length F false) (hb:Below w.heap.size w w') (hf:FlgAt w' kb F) (hkb:w.heap.size≤kb):FlPost lib kept w (.returned (.tuple #[.slice (some ⟨kb,0,none⟩) lib.length lib.length,.int .i64 0])) w':=
 ⟨_,0,rfl,hb,fun ⟨s,hs,hn⟩=>by
   obtain ⟨j,hj,rfl⟩:=List.getElem_of_mem hs
   have:=h.ok j hj
   rw [at_eq hj] at this;omega,fun _ hd=>absurd (h.dup.2 hd) (by simp),fun _ _=>⟨rfl,kb,F,rfl,hf,h.len,hkb,fun i hi=>by
    rw [h.at_ i hi]
    constructor
    · rintro ⟨j,hj,e⟩;exact ⟨_,at_mem hj,e⟩
    · rintro ⟨s,hs,e⟩
      obtain ⟨j,hj,rfl⟩:=List.getElem_of_mem hs
      exact ⟨j,hj,by rw [at_eq hj];exact e⟩⟩⟩
theorem flags_any (lv kv:Value) (lib:List Fn) (kept:List ByteArray) (A:Nat→Prop) (w:World) (hl:FnsAt A w lv lib) (hk:StrsAt A w kv kept) (hn:lib.length≤1000) (hkn:kept.length≤1000):Calls Tryd.prog 13 #[lv,kv] w (FlPost lib kept w):=by
 obtain ⟨_,la,lc,rfl⟩:=hl.form
 obtain ⟨_,ka,kc,rfl⟩:=(strs_rows.1 hk).form
 obtain ⟨w1,hmk,hf1,hb1⟩:=make_bool lib.length (by omega) w
 have HL:=Lib.hid hl
 have HK:=Lib.hid hk
 have HF1:=Lib.hid hf1
 have HB1:=Lib.hid hb1
 have HW1:Hid (w.heap.size < w1.heap.size):=Lib.hid (blk_lt hf1)
 clear hl hk hf1 hb1
 go_enter Tryd.func13,Tryd.ntmps13
 go_wp2
 go_loopw [7,16] (fun t i wr=>∃ (k:Nat) (F:List Bool) (tw:Bool),k≤kept.length∧i=.int .i64 k∧t=.bool tw∧FlInv lib kept k F tw∧FlgAt wr w.heap.size F∧Below w.heap.size w wr) (fun _ i _=>kept.length - (intOf i).toNat)
 case atStart=>exact ⟨0,_,false,Nat.zero_le _,rfl,rfl,FlInv.zero _ _,HF1.out,HB1.out⟩
 case round=>
  obtain ⟨k,F,tw,hkk,rfl,rfl,hin,hfl,hbl⟩:=hrel
  by_cases hlt:k < kept.length
  · obtain ⟨b,off,cap,cs,he,_,_,_,hc,hsv⟩:=(strs_rows.1 (HK.out.stays (Stays.of_below hbl))).at hlt
    simp only [Value.slice.injEq] at he
    obtain ⟨rfl,-,rfl⟩:=he
    have s0:=hc 0 (by decide)
    rw [hsv.1] at s0
    have s0:wr.cell? ⟨b,off+k,none⟩=some (.string (at' kept k)):=by simpa [StrE] using s0
    have HFI:=Lib.hid (find_any _ lib (at' kept k) A wr (HL.out.stays (Stays.of_below hbl)))
    have HIN:=Lib.hid hin
    have HFL:=Lib.hid hfl
    have HBL:=Lib.hid hbl
    have HLT:=Lib.hid hlt
    have k0:(0:Int)≤(k:Int):=by omega
    have k1:(k:Int) < (kept.length:Int):=by omega
    clear hin hfl hbl hc hsv
    go_wp2_with fail
    (with_reducible refine HFI.out.mono ?_)
    rintro e w5 ⟨rfl,hb5⟩
    have HB5:=Lib.hid (HBL.out.trans (hb5.mono HBL.out.size))
    have HF5:=Lib.hid (show FlgAt w5 w.heap.size F from blk_below hb5 HFL.out)
    clear hb5
    by_cases hneg:findF lib (at' kept k) < 0
    · have HN:=Lib.hid hneg
      go_wp2
      (try simp only [Exit.inBlock,Exit.then])
      refine bodyPost_ret (results_tmp2 rfl _ _ _) rfl ?_
      exact fl_bad HLT.out HN.out HB5.out
    · have hlt2:=findF_lt (lib:=lib) (name:=at' kept k) (by omega)
      have hc:=HF5.out.cell (i:=(findF lib (at' kept k)).toNat) (by rw [HIN.out.len];exact hlt2.2)
      have hu:=unfrozen HF5.out
      have HNX:=Lib.hid (HIN.out.next hlt2.1 hlt2.2)
      have HST:=Lib.hid (HF5.out.set (findF lib (at' kept k)).toNat true)
      have j0:(0:Int)≤findF lib (at' kept k):=hlt2.1
      have j1:findF lib (at' kept k) < (lib.length:Int):=by have:=hlt2.2;omega
      have j1n:(findF lib (at' kept k)).toNat < lib.length:=hlt2.2
      generalize findF lib (at' kept k)=f at *
      generalize at' F f.toNat=o at *
      clear hlt2
      cases tw with
      | true=>
        go_wp2
        exact ⟨⟨k+1,_,true,HLT.out,by go_num,rfl,by simpa using HNX.out,HST.out,HB5.out.setCell (Nat.le_refl _) _⟩,by have:=HLT.out;simp [intOf];omega⟩
      | false=>
        go_wp2
        exact ⟨⟨k+1,_,o,HLT.out,by go_num,rfl,by simpa using HNX.out,HST.out,HB5.out.setCell (Nat.le_refl _) _⟩,by have:=HLT.out;simp [intOf];omega⟩
  · obtain rfl:k=kept.length:=by omega
    have hlt':¬ (kept.length:Int) < (kept.length:Int):=by omega
    have HIN:=Lib.hid hin
    have HFL:=Lib.hid hfl
    have HBL:=Lib.hid hbl
    clear hin hfl hbl
    cases tw with
    | true=>
      go_wp2
      (try simp only [Exit.inBlock,Exit.then])
      refine bodyPost_ret (results_tmp2 rfl _ _ _) rfl ?_
      exact fl_twice HIN.out HBL.out
    | false=>
      go_wp2
      (try simp only [Exit.inBlock,Exit.then])
      refine bodyPost_ret (results_tmp2 rfl _ _ _) rfl ?_
      exact fl_ok HIN.out HBL.out HFL.out (Nat.le_refl _)
end Go.Proofs.YtjhimhlebbamoaaDoor
/- The reference of layer 43:Tree. -/
namespace Go.Proofs.YtjhimhlebbamoaaDoor
open Go.RowKit
def NoStr (w:World) (g:Nat):Prop:=∀ i s,w.cell? ⟨g,i,none⟩≠some (.string s)
theorem RowAt.avoid {A:Nat→Prop} {w:World} {size n g:Nat} {v:Value} {cs:Nat→Nat→Value} (h:RowAt A w size v n cs) (h0:0 < size) (hstr:∀ j,j < n→∃ s,cs j 0=.string s) (hg:NoStr w g):RowAt (fun k=>A k∧k≠g) w size v n cs:=by
 obtain ⟨hn,a,cap,rfl,h1,h2,h3⟩:=h
 refine ⟨hn,a,cap,rfl,h1,h2,fun hp=>?_⟩
 obtain ⟨b,off,ha,hb,hA,hc⟩:=h3 hp
 refine ⟨b,off,ha,hb,⟨hA,fun e=>?_⟩,hc⟩
 subst e
 obtain ⟨s,hs⟩:=hstr 0 hp
 exact hg _ s ((hc 0 hp 0 h0).trans (by rw [hs]))
theorem ParsAt.avoid {A:Nat→Prop} {w:World} {v:Value} {l:List Par} {g:Nat} (h:ParsAt A w v l) (hg:NoStr w g):ParsAt (fun k=>A k∧k≠g) w v l:=by
 obtain ⟨cs,h1,h2⟩:=h
 exact ⟨cs,h1.avoid (by omega) (fun j hj=>⟨_,(h2 j hj).1⟩) hg,h2⟩
theorem StrsAt.avoid {A:Nat→Prop} {w:World} {v:Value} {l:List ByteArray} {g:Nat} (h:StrsAt A w v l) (hg:NoStr w g):StrsAt (fun k=>A k∧k≠g) w v l:=by
 obtain ⟨cs,h1,h2⟩:=h
 exact ⟨cs,h1.avoid (by omega) (fun j hj=>⟨_,(h2 j hj).1⟩) hg,h2⟩
theorem BdsAt.avoid {A:Nat→Prop} {w:World} {v:Value} {l:List Bd} {g:Nat} (h:BdsAt A w v l) (hg:NoStr w g):BdsAt (fun k=>A k∧k≠g) w v l:=by
 induction h with
 | mk v l cs h hf ht he iht ihe=>
   exact .mk v l cs (h.avoid (by omega) (fun j hj=>⟨_,(hf j hj).1⟩) hg) (fun j hj=>by obtain ⟨a0,a1,a2,a3,a4,a5,a6⟩:=hf j hj;exact ⟨a0,a1,a2,a3,a4,a5.avoid hg,a6⟩) iht ihe
theorem AFnsAt.avoid {A:Nat→Prop} {w:World} {v:Value} {l:List AFn} {g:Nat} (h:AFnsAt A w v l) (hg:NoStr w g):AFnsAt (fun k=>A k∧k≠g) w v l:=by
 obtain ⟨cs,h1,h2⟩:=h
 exact ⟨cs,h1.avoid (by omega) (fun j hj=>⟨_,(h2 j hj).c0⟩) hg,fun j hj=>⟨(h2 j hj).c0,(h2 j hj).c1.avoid hg,(h2 j hj).c2,(h2 j hj).c3.avoid hg,(h2 j hj).c4.avoid hg,(h2 j hj).c5,(h2 j hj).s0,(h2 j hj).s5⟩⟩
theorem noStr_node {w:World} {g:Nat} (h:w.heap[g]?=some (.cells #[.int .i64 0,.int .i64 0,.slice none 0 0] 49 (0,0))):NoStr w g:=fun i s e=>by
 simp only [World.cell?,h] at e
 match i with
 | 0=>simp at e
 | 1=>simp at e
 | 2=>simp at e
 | j+3=>simp at e
theorem copy_elem {w9:World} {base:Nat} {a9:Option Addr} {c9:Nat} {u:Vl} {D':Nat→Prop} (h9:RowsOwn IntE 3 (fun _=>True) base w9 (.slice a9 u.l.length c9) u.l) (hin:In64 u.n) (hl:u.l.length≤1000) (hD:∀ j,base≤j→D' j) (hb:base≤w9.heap.size):
 RowsAt VlE D' (w9.alloc (.cells #[.bool u.list,.int .i64 u.n,.slice a9 u.l.length c9] 96)) (.slice (some ⟨w9.heap.size,0,none⟩) 1 1) [u]:=by
 obtain ⟨xs,hx,hf⟩:=h9
 have h:=(show RowsOwn IntE 3 (fun _=>False) base w9 (.slice a9 u.l.length c9) u.l from ⟨xs,hx,hf⟩).shut (A:=D') (fun _ e=>e.elim) (fun j e=>hD j (hx.lt j e).1) (by unfold maxLen;omega)
 exact rows_1 (E:=VlE) (at_new0 w9 _) (hD _ hb) rfl ⟨rfl,rfl,h.stays (Stays.of_below (bel_alloc (Below.refl _ _))),hin⟩
theorem tree_any (lib:List Fn) (hv:(validE lib).2=0) (hX:∀ m,XC43 lib m) (lv av:Value) (name:ByteArray) (args:List Vl) (A:Nat→Prop) (w:World) (t:Tr) (hl:FnsAt A w lv lib) (ha:RowsAt VlE A w av args) (hA:∀ k,A k→k < w.heap.size) (hle:lib.length≤1000) (hn:args.length≤1000) (hal:∀ a ∈ args,VLen a)
 (ht:TrR apI lib t) (htl:TrLen t) (hf:t.f=findF lib name) (hta:t.args=args.map cleanV) (hc:costT apI lib t≤100000):
 Calls Tryd.prog 16 #[lv,.string name,av] w fun e w'=>∃ nv,e=.returned (.tuple #[nv,.bool true])∧NdrAt lib Any w' nv t∧Below w.heap.size w w':=by
 obtain ⟨_,la,lc,rfl⟩:=hl.form
 obtain ⟨_,aa,ac,rfl⟩:=ha.form
 have hb0:Below w.heap.size w (w.alloc (.cells #[.int .i64 0,.int .i64 0,.slice none 0 0] 49)):=bel_alloc (Below.refl _ _)
 have HB0:=Lib.hid hb0
 have HBX:=Lib.hid (at_new0 w (.cells #[.int .i64 0,.int .i64 0,.slice none 0 0] 49))
 have HNM:=Lib.hid (normR_any lib hv _ A (w.alloc (.cells #[.int .i64 0,.int .i64 0,.slice none 0 0] 49)) (hl.stays (Stays.of_below hb0)) hle)
 have HAR:=Lib.hid ha
 have HAL:=Lib.hid hal
 have HTR:=Lib.hid (And.intro ht (And.intro htl (And.intro hta hc)))
 have HF:=Lib.hid hf
 have HX:=Lib.hid hX
 have HA:=Lib.hid hA
 have HLE:=Lib.hid hle
 clear hl ha hb0 hal ht htl hta hc hX hf hA hle
 go_enter Tryd.func16,Tryd.ntmps16
 go_wp2_with fail
 (with_reducible refine HNM.out.mono ?_)
 rintro e w1 ⟨v,rfl,hnm,hb1⟩
 obtain ⟨_,na,nc,rfl⟩:=hnm.form
 have hnl:(normL lib).length=lib.length:=by simp [normL]
 rw [hnl] at hnm ⊢
 have HBX1:=Lib.hid (blk_below hb1 HBX.out)
 have HNM1:=Lib.hid (hnm.avoid (noStr_node HBX1.out))
 have HB1:=Lib.hid (HB0.out.trans (hb1.mono HB0.out.size))
 have HSZ1:Hid (w.heap.size < w1.heap.size):=Lib.hid (blk_lt HBX1.out)
 clear hnm hb1 HNM
 go_wp2
 obtain ⟨W2,hW2⟩:∃ W2,W2=w1.alloc (.cells #[.slice na lib.length nc,.int .i64 100000] 93):=⟨_,rfl⟩
 have hb2:Below w1.heap.size w1 W2:=by rw [hW2];exact bel_alloc (Below.refl _ _)
 have HRB:Hid (W2.heap[w1.heap.size]?=some (.cells #[.slice na lib.length nc,.int .i64 100000] 93 (0,0))):=Lib.hid (by rw [hW2];exact at_new0 _ _)
 have HB2:=Lib.hid hb2
 have HBW2:=Lib.hid (HB1.out.trans (hb2.mono HB1.out.size))
 rw [← hW2]
 clear hW2 hb2
 go_loopw [10,11] (fun v i wr=>∃ (k:Nat) (us:List Vl),k≤args.length∧i=.int .i64 k∧Below W2.heap.size W2 wr∧us=args.take k∧us.length=k∧RowsOwn VlE 96 (fun j=>j≠w1.heap.size∧j≠w.heap.size) W2.heap.size wr v us) (fun _ i _=>args.length - (intOf i).toNat)
 case atStart=>exact ⟨0,[],Nat.zero_le _,rfl,Below.refl _ _,rfl,rfl,RowsOwn.nil _ _ _ _ _⟩
 case round=>
  obtain ⟨k,us,hk,rfl,hbl,husk,husl,hrow⟩:=hrel
  obtain ⟨xa,xc,rfl⟩:=hrow.form
  have HUSK:=Lib.hid (And.intro husk husl)
  clear husk husl
  have hbw:Below w.heap.size w wr:=HBW2.out.trans (hbl.mono HBW2.out.size)
  by_cases hlt:k < args.length
  · obtain ⟨b,off,cap,ua,uc,he,hbb,_,_,p0,p1,p2,hin,hro⟩:=vls_at (HAR.out.stays (Stays.of_below hbw)) hlt
    simp only [Value.slice.injEq] at he
    obtain ⟨rfl,-,rfl⟩:=he
    have hvl:=HAL.out _ (at_mem hlt)
    unfold VLen at hvl
    have HIN:=Lib.hid hin
    have HRO:=Lib.hid hro
    have HROW:=Lib.hid hrow
    have HBL:=Lib.hid hbl
    have HVL:=Lib.hid hvl
    have HLT:=Lib.hid hlt
    have HTK:Hid (us ++ [at' args k]=args.take (k+1)∧(us ++ [at' args k]).length=k+1):=Lib.hid ⟨by rw [HUSK.out.1,List.take_succ_eq_append_getElem hlt,at_eq hlt],by simp [HUSK.out.2]⟩
    have hus8:us.length≤1000:=by have:=HUSK.out.2;omega
    have hcb:∀ w9,Below w.heap.size w w9→w9.cell? ⟨b,off+k * 3,none⟩=some (.bool (at' args k).list)∧w9.cell? ⟨b,off+k * 3+1,none⟩=some (.int .i64 (at' args k).n)∧w9.cell? ⟨b,off+k * 3+2,none⟩=some (.slice ua (at' args k).l.length uc):=by
     obtain ⟨b',off',cap',ua',uc',he',hb',_,_,q0,q1,q2,_,_⟩:=vls_at HAR.out hlt
     simp only [Value.slice.injEq,Option.some.injEq,Addr.mk.injEq,and_true] at he'
     obtain ⟨⟨rfl,rfl⟩,-⟩:=he'
     intro w9 h9
     have r2:=cell_bel hbw q2
     rw [p2] at r2
     exact ⟨cell_bel h9 q0,cell_bel h9 q1,by rw [cell_bel h9 q2];exact r2.symm⟩
    have HCB:=Lib.hid hcb
    have HZW:=Lib.hid (show W2.heap.size≤wr.heap.size∧w.heap.size≤W2.heap.size∧w1.heap.size < W2.heap.size from ⟨hbl.size,HBW2.out.size,blk_lt HRB.out⟩)
    have k0:(0:Int)≤(k:Int):=by omega
    have k1:(k:Int) < (args.length:Int):=by omega
    clear hin hro hrow hbl hvl hcb
    go_wp2
    go_region_held3 (fun w9=>w9.cell? ⟨b,off+k * 3,none⟩=some (.bool (at' args k).list)∧w9.cell? ⟨b,off+k * 3+1,none⟩=some (.int .i64 (at' args k).n)∧w9.cell? ⟨b,off+k * 3+2,none⟩=some (.slice ua (at' args k).l.length uc))
     (first|(with_reducible exact HCB.out _ (by (repeat (with_reducible first|exact Below.refl _ _|refine bel_drew ?_|refine bel_alloc ?_|(apply bel_step;focus assumption))))))
     (first
     | (refine step_rows (E:=IntE) (D:=fun _=>True) (D':=fun j=>j < wr.heap.size) (base:=wr.heap.size) (l:=[]) (m:=(at' args k).l) TInt rfl (by decide) (by rfl) (.tmp 37) (.tmp 42) (by rfl) (by rfl) (by rfl) (rows_emptyR (by (repeat (with_reducible first|(refine blk_new ?_;(simp;done))|(refine blk_new ?_;rfl)|refine blk_drew ?_|refine blk_alloc ?_|(apply blk_below;focus assumption)))) (Nat.le_refl _)) ((HRO.out.young (A':=fun j=>j < wr.heap.size) (fun j hj a=>hj)).stays (Stays.of_below (by (repeat (with_reducible first|exact Below.refl _ _|refine bel_drew ?_|refine bel_alloc ?_|(apply bel_step;focus assumption)))))) (fun b _ h=>⟨trivial,fun e=>by have h1:some wr.heap.size=some b:=e;have h2:=Option.some.inj h1;omega⟩) (by have:=HVL.out;unfold maxLen;simp;omega) (by have:=HVL.out;simp;omega) (by simp) ?_;intro a9 c9 w9 h9 hg9 hn9;simp only [List.length_nil,Nat.zero_add,List.nil_append] at h9;have hb9:Below wr.heap.size wr w9:=Below.grown (by (repeat (with_reducible first|exact Below.refl _ _|refine bel_drew ?_|refine bel_alloc ?_|(apply bel_step;focus assumption)))) hg9 (by simp) (fun k e=>by have h1:some wr.heap.size=some k:=e;have h2:=Option.some.inj h1;omega);have H9:=Lib.hid h9;clear h9 hg9 hn9)
     | (refine step_rows (E:=VlE) (D':=fun j=>W2.heap.size≤j∧(Value.slice xa us.length xc).ownBlock≠some j) (m:=[at' args k]) TVl43 rfl (by decide) (by rfl) (.tmp 26) (.tmp 45) (by rfl) (by rfl) (by rfl) (HROW.out.below (by (repeat (with_reducible first|exact Below.refl _ _|refine bel_drew ?_|refine bel_alloc ?_|(apply bel_step;focus assumption))))) (copy_elem H9.out HIN.out HVL.out (fun j hj=>⟨Nat.le_trans HZW.out.1 hj,fun e=>Nat.lt_irrefl _ (Nat.lt_of_lt_of_le (HROW.out.lt e).2 hj)⟩) hb9.size) (fun b _ h=>⟨⟨fun e=>by have h1:=h.1;have h2:=HZW.out;omega,fun e=>by have h1:=h.1;have h2:=HZW.out;have h3:=HSZ1.out;omega⟩,h.2⟩) (by unfold maxLen;simp;omega) (by simp;omega) (Nat.le_trans HZW.out.1 (Below.size (w:=wr) (by (repeat (with_reducible first|exact Below.refl _ _|refine bel_drew ?_|refine bel_alloc ?_|(apply bel_step;focus assumption)))))) ?_;intro a10 c10 w10 h10 hg10 hn10;have hb10:Below W2.heap.size W2 w10:=Below.grown (Below.trans HBL.out (((by (repeat (with_reducible first|exact Below.refl _ _|refine bel_drew ?_|refine bel_alloc ?_|(apply bel_step;focus assumption)))):Below wr.heap.size wr _).mono HZW.out.1)) hg10 (Nat.le_trans HZW.out.1 (Below.size (w:=wr) (by (repeat (with_reducible first|exact Below.refl _ _|refine bel_drew ?_|refine bel_alloc ?_|(apply bel_step;focus assumption)))))) (fun k e=>(HROW.out.lt e).1);have hbw10:Below w.heap.size w w10:=HBW2.out.trans (hb10.mono HBW2.out.size);have H10:=Lib.hid h10;clear h10 hg10 hn10)
     | fail)
    all_goals
     go_wp2
     exact ⟨⟨k+1,_,HLT.out,by go_num,hb10,HTK.out.1,HTK.out.2,H10.out⟩,by have:=HLT.out;simp [intOf];omega⟩
  · obtain rfl:k=args.length:=by omega
    have hlt':¬ (args.length:Int) < (args.length:Int):=by omega
    have hus:us=args:=by rw [HUSK.out.1,List.take_length]
    subst hus
    have hzw:W2.heap.size≤wr.heap.size∧w.heap.size≤W2.heap.size∧w1.heap.size < W2.heap.size:=⟨hbl.size,HBW2.out.size,blk_lt HRB.out⟩
    have hrb:=blk_below hbl HRB.out
    have hbw1:Below w1.heap.size w1 wr:=HB2.out.trans (hbl.mono HB2.out.size)
    have hlb:AFnsAt (fun j=>j < wr.heap.size∧j≠w1.heap.size∧j≠w.heap.size) wr (.slice na lib.length nc) (normL lib):=HNM1.out.stays ⟨hbw1.size,fun j hj a=>⟨hbw1.block j hj,by omega,by omega,a.2⟩⟩
    have hrows:RowsAt VlE (fun j=>j < wr.heap.size∧j≠w1.heap.size∧j≠w.heap.size) wr (.slice xa us.length xc) us:=(hrow.shut (A:=fun j=>j≠w1.heap.size∧j≠w.heap.size) (fun j a=>a) (fun j e=>by have:=(hrow.lt e).1;have:=HSZ1.out;omega) (by unfold maxLen;omega)).young (fun j hj a=>⟨hj,a⟩)
    have HFD:=Lib.hid (find43_any _ lib name _ wr hlb)
    have HCL:Hid (∀ w5,Below wr.heap.size wr w5→Calls Tryd.prog 37 #[.pointer (some ⟨w1.heap.size,0,none⟩),.int .i64 t.f,.slice xa us.length xc] w5 (CPost43 lib w1.heap.size na nc (fun j=>j < wr.heap.size∧j≠w1.heap.size∧j≠w.heap.size) w5 t 100000)):=Lib.hid (fun w5 h5=>HX.out (costT apI lib t).toNat w1.heap.size na nc _ w5 _ us t 100000 (by have:=costT_nonneg apI lib t;omega) ⟨blk_below h5 hrb,hlb.stays (Stays.of_below h5),hrows.stays (Stays.of_below h5),fun j a=>⟨by have:=h5.size;omega,a.2.1⟩,HTR.out.1,HTR.out.2.1,HTR.out.2.2.1.symm,HTR.out.2.2.2,by omega⟩)
    have HWR:=Lib.hid (And.intro (HBW2.out.trans (hbl.mono HBW2.out.size)) hzw)
    have HB6:=Lib.hid (blk_below hbw1 HBX1.out)
    clear hbl hrow hrb hlb hrows hzw hbw1 hbw
    go_wp2_with fail
    (with_reducible refine HFD.out.mono ?_)
    rintro e w5 ⟨rfl,hb5⟩
    rw [← HF.out]
    have HB5:=Lib.hid hb5
    go_wp2_with fail
    (with_reducible refine (HCL.out _ hb5).mono ?_)
    rintro e w6 ⟨vv,nv,u,left',rfl,h1,h2,h3,h4,h5,h6,h7⟩
    have HK6:=Lib.hid h4
    obtain ⟨ua,uc,rfl,_,_⟩:=h1
    have HND:=Lib.hid h3
    obtain ⟨qa,qc,rfl,_⟩:=h3
    have HB66:=Lib.hid ((h4.block w.heap.size (by have h1:=HWR.out;have h2:=HB5.out.size;have h3:=HSZ1.out;omega) (fun e=>by have h3:=HSZ1.out;omega)).trans (blk_below HB5.out HB6.out))
    have hb67:Below w6.heap.size w6 ((w6.alloc (.cells #[.bool u.list,.int .i64 u.n,.slice ua u.l.length uc] 96)).alloc (.cells #[.int .i64 t.f,.int .i64 (puN lib t),.slice qa t.calls.length qc] 49)):=bel_alloc (bel_alloc (Below.refl _ _))
    have HZ7:=Lib.hid (blk_below hb67 HB66.out)
    have HB67:=Lib.hid hb67
    have HZZ:Hid (w.heap.size < wr.heap.size∧wr.heap.size≤w5.heap.size∧w5.heap.size≤w6.heap.size):=Lib.hid ⟨by have h1:=HWR.out;have h3:=HSZ1.out;omega,HB5.out.size,h4.size⟩
    obtain ⟨z0,z1,z2⟩:=cells3 HZ7.out
    have zf:=unfrozen HZ7.out
    clear h2 h4 h5 h6 h7 hb5 HCL HFD hb67
    go_wp2
    (try simp only [Exit.inBlock,Exit.then])
    refine bodyPost_ret (results_cell_row2 (P:=Tryd.prog) rfl _ _ w.heap.size _ #[.int .i64 t.f,.int .i64 (puN lib t),.slice qa t.calls.length qc] (0,0) _ (.bool true) rfl (set3 HZ7.out _ _ _) rfl Tryd.underlying49 rfl (by kernel_rfl)) rfl ?_
    have hk9:=keeps_set3 ((w6.alloc (.cells #[.bool u.list,.int .i64 u.n,.slice ua u.l.length uc] 96)).alloc (.cells #[.int .i64 t.f,.int .i64 (puN lib t),.slice qa t.calls.length qc] 49)) w.heap.size (.int .i64 t.f) (.int .i64 (puN lib t)) (.slice qa t.calls.length qc)
    have hk69:=(Keeps.of_below (fun k=>k=w.heap.size) HB67.out).same hk9
    refine ⟨_,rfl,HND.out.stays ⟨hk69.size,fun j hj a=>⟨hk69.block j hj (fun e=>?_),trivial⟩⟩,?_⟩
    · have h1:=HZZ.out
      rcases a with a|a
      · exact a.2.2 e
      · omega
    · have h1:=HZZ.out
      have h2:=HSZ1.out
      have k1:Keeps w w6 (fun k=>w.heap.size≤k):=((Keeps.of_below (fun k=>w.heap.size≤k) HWR.out.1).same (Keeps.of_below _ HB5.out)).same (HK6.out.mono (fun k e=>by rw [e];omega))
      exact (k1.same (hk69.mono (fun k e=>by rw [e];exact Nat.le_refl _))).below (fun _ e=>e) (Nat.le_refl _)
end Go.Proofs.YtjhimhlebbamoaaDoor
