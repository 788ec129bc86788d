/- Contracts and plain lemmas (Row, FcmH, FcmJ, FcmK, FcmI, CmA): no statement of the seat is proved here. -/
import Derived.Test.YtjhimhlebbamoaaDoorZq01
import Derived.Test.YtjhimhlebbamoaaDoorZq18
import Derived.Test.YtjhimhlebbamoaaDoorZq16
import Derived.Test.YtjhimhlebbamoaaDoorZq06
/- Slices of the call's own that may begin inside their block:appended to at the end,taken from at the front. -/
set_option linter.unusedSimpArgs false
set_option linter.unusedVariables false
set_option linter.unusedSectionVars false
set_option maxRecDepth 100000
set_option maxHeartbeats 6400000
namespace Go.Proofs.YtjhimhlebbamoaaDoor
open Go.RowKit
end Go.Proofs.YtjhimhlebbamoaaDoor
/- Walks of package costmodel:Predict's test for unknown names;slices.ContainsFunc with it. -/
namespace Go.Proofs.YtjhimhlebbamoaaDoor
open Go.RowKit
def LibB (A:Nat→Prop) (w:World) (lb:Nat) (la:Option Addr) (lc:Nat) (lib:List Fn):Prop:=w.heap[lb]?=some (.cells #[.slice la lib.length lc] 22 (0,0))∧FnsAt A w (.slice la lib.length lc) lib
theorem LibB.below {A:Nat→Prop} {w w':World} {lb:Nat} {la:Option Addr} {lc:Nat} {lib:List Fn} (h:LibB A w lb la lc lib) (hb:Below w.heap.size w w'):LibB A w' lb la lc lib:=⟨blk_below hb h.1,h.2.stays (Stays.of_below hb)⟩
abbrev unkV (lb:Nat):Value:=.func (.func 28) #[] #[.pointer (some ⟨lb,0,none⟩)]
theorem unknown_any (A:Nat→Prop) (w:World) (lb:Nat) (la:Option Addr) (lc:Nat) (lib:List Fn) (name:ByteArray) (hl:LibB A w lb la lc lib):
 Calls Tryd.prog 28 #[.string name,.pointer (some ⟨lb,0,none⟩)] w fun e w'=>e=.returned (.bool (decide (findF lib name < 0)))∧Below w.heap.size w w':=by
 have HC:=Lib.hid (find_any _ lib name A w hl.2)
 have l0:=cell_blk hl.1 0 rfl
 clear hl
 go_enter Tryd.func28,Tryd.ntmps28
 go_wp2_with fail
 refine HC.out.mono ?_
 rintro e w5 ⟨rfl,hb5⟩
 have HB:=Lib.hid hb5
 clear hb5 HC
 go_wp2
 go_ret
 exact ⟨rfl,HB.out⟩
def IUPost (lib:List Fn) (kept:List ByteArray) (w:World) (e:Ending) (w':World):Prop:=∃ i:Int,e=.returned (.int .i64 i)∧(0≤i ↔ ∃ k ∈ kept,findF lib k < 0)∧Below w.heap.size w w'
theorem indexU_any (A:Nat→Prop) (w:World) (lb:Nat) (la:Option Addr) (lc:Nat) (lib:List Fn) (ka:Option Addr) (kc:Nat) (kept:List ByteArray) (hl:LibB A w lb la lc lib) (hk:StrsAt A w (.slice ka kept.length kc) kept):
 Calls Tryd.prog 40 #[.slice ka kept.length kc,unkV lb] w (IUPost lib kept w):=by
 have hkl:=hk.form.1
 unfold maxLen at hkl
 have HL:=Lib.hid hl
 have HK:=Lib.hid hk
 clear hl hk
 go_enter Tryd.func40,Tryd.ntmps40
 go_wp2
 go_loopw [8] (fun i wr=>∃ k:Nat,k≤kept.length∧i=.int .i64 k∧(∀ j,j < k→0≤findF lib (at' kept j))∧Below w.heap.size w wr) (fun i _=>kept.length - (intOf i).toNat)
 case atStart=>exact ⟨0,Nat.zero_le _,rfl,fun j hj=>absurd hj (by omega),Below.refl _ _⟩
 case round=>
  obtain ⟨k,hkk,rfl,hno,hbl⟩:=hrel
  have HNO:=Lib.hid hno
  have HBL:=Lib.hid hbl
  clear hno
  by_cases hlt:k < kept.length
  · obtain ⟨b,off,cap,he,hb,_,_,c0,hs⟩:=(HK.out.stays (Stays.of_below hbl)).at hlt
    simp only [Value.slice.injEq] at he
    obtain ⟨rfl,-,rfl⟩:=he
    have HC:=Lib.hid (unknown_any A wr lb la lc lib (at' kept k) (HL.out.below hbl))
    clear hbl
    go_wp2_with fail
    refine HC.out.mono ?_
    rintro e w5 ⟨rfl,hb5⟩
    have HB5:=Lib.hid (HBL.out.trans (hb5.mono HBL.out.size))
    clear hb5 HC
    by_cases hu:findF lib (at' kept k) < 0
    · have HU:=Lib.hid hu
      have du:decide (findF lib (at' kept k) < 0)=true:=by simpa using hu
      rw [du]
      clear hu du
      go_wp2
      go_ret
      exact ⟨k,rfl,⟨fun _=>⟨_,at_mem hlt,HU.out⟩,fun _=>by omega⟩,HB5.out⟩
    · have HU:Hid (0≤findF lib (at' kept k)):=Lib.hid (by omega)
      have du:decide (findF lib (at' kept k) < 0)=false:=by simpa using hu
      rw [du]
      clear hu du
      go_wp2
      go_roundw
      case rel=>exact ⟨k+1,by omega,by go_num,fun j hj=>(by
       by_cases e:j=k
       · rw [e];exact HU.out
       · exact HNO.out j (by omega)),HB5.out⟩
      case measure=>simp [intOf];omega
  · obtain rfl:k=kept.length:=by omega
    have hlt':¬ (kept.length:Int) < (kept.length:Int):=by omega
    clear hbl
    go_wp2
    go_ret
    refine ⟨-1,rfl,⟨fun h=>by omega,?_⟩,HBL.out⟩
    rintro ⟨x,hx,hx2⟩
    obtain ⟨j,hj,rfl⟩:=List.getElem_of_mem hx
    have:=HNO.out j hj
    rw [at_eq hj] at this
    omega
def CUPost (lib:List Fn) (kept:List ByteArray) (w:World) (e:Ending) (w':World):Prop:=∃ b:Bool,e=.returned (.bool b)∧(b=true ↔ ∃ k ∈ kept,findF lib k < 0)∧Below w.heap.size w w'
theorem containsU_any (A:Nat→Prop) (w:World) (lb:Nat) (la:Option Addr) (lc:Nat) (lib:List Fn) (ka:Option Addr) (kc:Nat) (kept:List ByteArray) (hl:LibB A w lb la lc lib) (hk:StrsAt A w (.slice ka kept.length kc) kept):
 Calls Tryd.prog 29 #[.slice ka kept.length kc,unkV lb] w (CUPost lib kept w):=by
 have HC:=Lib.hid (indexU_any A w lb la lc lib ka kc kept hl hk)
 clear hl hk
 go_enter Tryd.func29,Tryd.ntmps29
 go_wp2_with fail
 refine HC.out.mono ?_
 rintro e w5 ⟨i,rfl,hi,hb5⟩
 have HI:=Lib.hid hi
 have HB:=Lib.hid hb5
 clear hi hb5 HC
 go_wp2
 go_ret
 exact ⟨_,rfl,(by rw [← HI.out];simp),HB.out⟩
end Go.Proofs.YtjhimhlebbamoaaDoor
/- 'make([]int,n)' as an equation. No function of the program is walked here. -/
namespace Go.Proofs.YtjhimhlebbamoaaDoor
open Go.RowKit
theorem make_run (n:Nat) (h0:0 < n) (hn:n≤1000000) (W:World):∃ w',(Instr.makeSlice 27 (.int .i64 (n:Int)) (.int .i64 (n:Int))).run Tryd.prog W=.ok (.slice (some ⟨W.heap.size,0,none⟩) n n) w'∧CntAt w' W.heap.size (List.replicate n 0)∧Below W.heap.size W w':=by
 obtain ⟨i,hi,hz0,hz1,hz2⟩:=info_parts TInt.inf
 obtain ⟨w',hrun,r1,r2⟩:=run_make_full (P:=Tryd.prog) W W.heap.size 27 3 i (.int .i64 0) 1 TInt.und hi hz0 hz1 .i64 .i64 n (by rw [hz2];omega) (by unfold maxLen;omega) (Nat.le_refl _)
 refine ⟨w',hrun,?_,Below.grown (Below.refl _ _) r2 (Nat.le_refl _) (fun k e=>by cases e)⟩
 have e1:(List.replicate n 0).map (Value.int .i64)=(madeCells (Value.int .i64 0).cells (n * 1)).toList:=by
  rw [Nat.mul_one]
  show _=(madeCells #[.int .i64 0] n).toList
  rw [toList_madeCells_one];simp
 rw [← e1] at r1
 obtain ⟨hxl,r⟩:=r1
 rcases r with ⟨hv,_⟩|⟨g,cap,cur,hv,hb,hg,hn2,hm,hc,ht⟩
 · simp at hv
 · simp only [Value.slice.injEq,Option.some.injEq,Addr.mk.injEq,and_true] at hv
   obtain ⟨rfl,-,rfl⟩:=hv
   have e2:cur.toList=(List.replicate n 0).map (Value.int .i64):=by
    rw [← ht,List.take_of_length_le (by simp at hxl ⊢;omega)]
   have e3:cur=((List.replicate n (0:Int)).map (Value.int .i64)).toArray:=by rw [← e2]
   show w'.heap[W.heap.size]?=_
   rw [hg,e3]
end Go.Proofs.YtjhimhlebbamoaaDoor
/- What is known of the counters behind a prediction. No function of the program is walked here. -/
namespace Go.Proofs.YtjhimhlebbamoaaDoor
open Go.RowKit
theorem zero_at (n i:Nat):at' (List.replicate n (0:Int)) i=0:=by
 simp only [at',List.getD_eq_getElem?_getD,List.getElem?_replicate]
 split <;> rfl
theorem vis_ok {lib:List Fn} (hv:(validE lib).2=0) {t:Tr} (htk:TrOk apI lib t) (htl:TrLen t) {fuel:Int} (hf:fuel≤1000) (hst:stepsT t≤1+fuel) (hw0:w0T t≤1+fuel * 2 ^ 30) (K:Int→Bool):
 In64 (visT (puN lib) K t false 1 (zeroCnt lib.length)).1∧(visT (puN lib) K t false 1 (zeroCnt lib.length)).2.Len lib.length∧(∀ i,In64 (at' (visT (puN lib) K t false 1 (zeroCnt lib.length)).2.calls i))∧(∀ i,In64 (at' (visT (puN lib) K t false 1 (zeroCnt lib.length)).2.kept i))∧
 (zeroCnt lib.length).total+1 * wT K t false≤1152921504606846976∧stepsT t≤100000∧(∀ i,0≤at' (zeroCnt lib.length).calls i)∧(∀ i,0≤at' (zeroCnt lib.length).kept i):=by
 have hg:=gT_le hv K t false htk htl
 have hr:=root_counts (puN lib) K t htk
 have hT:=visT_total (puN lib) K t false 1 (zeroCnt lib.length) htk (zero_len _)
 have p2:wT K t false≤w0T t:=wT_mono (K:=fun _=>false) (fun f h=>by simp at h) _ _ _ (fun h=>h)
 have p3:fuel * 2 ^ 30≤1000 * 2 ^ 30:=Int.mul_le_mul_of_nonneg_right hf (by decide)
 have hw:=wT_pos K t false
 rw [zero_total] at hT ⊢
 simp only [] at hr
 change (visT (puN lib) K t false 1 (zeroCnt lib.length)).2.Len lib.length∧(∀ i,0≤at' (visT (puN lib) K t false 1 (zeroCnt lib.length)).2.calls i)∧(∀ i,0≤at' (visT (puN lib) K t false 1 (zeroCnt lib.length)).2.kept i)∧_ at hr
 obtain ⟨h1,h2,h3,-⟩:=hr
 rw [visT_g]
 generalize hr:(visT (puN lib) K t false 1 (zeroCnt lib.length)).2=s at *
 have s1:0≤sumI s.calls:=sumI_nonneg _ (fun x hx=>by obtain ⟨j,hj,rfl⟩:=List.getElem_of_mem hx;have:=h2 j;rwa [at_eq hj] at this)
 have s2:0≤sumI s.kept:=sumI_nonneg _ (fun x hx=>by obtain ⟨j,hj,rfl⟩:=List.getElem_of_mem hx;have:=h3 j;rwa [at_eq hj] at this)
 have s3:s.total=sumI s.calls+sumI s.kept:=rfl
 have s4:=hT.1
 refine ⟨⟨by omega,by omega⟩,h1,fun i=>?_,fun i=>?_,by omega,by omega,fun i=>?_,fun i=>?_⟩
 · have a:=h2 i
   have b:=at_le_sum h2 i
   exact ⟨by omega,by omega⟩
 · have a:=h3 i
   have b:=at_le_sum h3 i
   exact ⟨by omega,by omega⟩
 · show 0≤at' (List.replicate _ _) i
   rw [zero_at];omega
 · show 0≤at' (List.replicate _ _) i
   rw [zero_at];omega
theorem cnt_rows {A:Nat→Prop} {w:World} {p:Nat} {l:List Int} (h:CntAt w p l) (hA:A p) (hi:∀ i,In64 (at' l i)) (hl:l.length≤maxLen):RowsAt IntE A w (.slice (some ⟨p,0,none⟩) l.length l.length) l:=by
 refine ⟨fun j _=>.int .i64 (at' l j),⟨hl,_,_,rfl,Nat.le_refl _,fun e=>by simp at e,fun hp=>⟨p,0,rfl,blk_lt h,hA,fun j hj i hi2=>?_⟩⟩,fun j hj=>⟨rfl,hi j⟩⟩
 have hi2:i < 1:=hi2
 obtain rfl:i=0:=by omega
 have:=CntAt.cell h hj
 simpa [IntE] using this
theorem trv_keep {A:Nat→Prop} {w w':World} (h:Below w.heap.size w w'):Stays A (fun k=>k < w'.heap.size) w w':=⟨h.size,fun b hb _=>⟨h.block b hb,Nat.lt_of_lt_of_le hb h.size⟩⟩
def PrPost (R:PR) (w:World) (e:Ending) (w':World):Prop:=
 ∃ (a1 a2:Option Addr) (c1 c2:Nat),e=.returned (.tuple #[.agg #[.slice a1 R.cnt.calls.length c1,.slice a2 R.cnt.kept.length c2,.int .i64 R.gar],.int .i64 R.err])∧RowsAt IntE (fun k=>w.heap.size≤k) w' (.slice a1 R.cnt.calls.length c1) R.cnt.calls∧RowsAt IntE (fun k=>w.heap.size≤k) w' (.slice a2 R.cnt.kept.length c2) R.cnt.kept∧In64 R.gar∧Below w.heap.size w w'
theorem pr_no {R:PR} {w w':World} {x:Int} (h:R=⟨x,noCnt,0⟩) (hb:Below w.heap.size w w'):PrPost R w (.returned (.tuple #[.agg #[.slice none 0 0,.slice none 0 0,.int .i64 0],.int .i64 x])) w':=by
 subst h
 exact ⟨none,none,0,0,rfl,RowsAt.nil _ _ _,RowsAt.nil _ _ _,in64_0,hb⟩
theorem pr_ok {R:PR} {w w':World} {p q N:Nat} {s:Cnt} {g:Int} (h:R=⟨0,s,g⟩) (hl:s.Len N) (hN:N≤maxLen) (hp:CntAt w' p s.calls) (hq:CntAt w' q s.kept) (h1:w.heap.size≤p) (h2:w.heap.size≤q) (hg:In64 g) (hc:∀ i,In64 (at' s.calls i)) (hk:∀ i,In64 (at' s.kept i)) (hb:Below w.heap.size w w'):
 PrPost R w (.returned (.tuple #[.agg #[.slice (some ⟨p,0,none⟩) N N,.slice (some ⟨q,0,none⟩) N N,.int .i64 g],.int .i64 0])) w':=by
 subst h
 obtain ⟨l1,l2⟩:=hl
 refine ⟨some ⟨p,0,none⟩,some ⟨q,0,none⟩,N,N,?_,?_,?_,hg,hb⟩
 · simp only [l1,l2]
 · have:=cnt_rows (A:=fun k=>w.heap.size≤k) hp h1 hc (by omega)
   rw [l1] at this
   simp only [l1];exact this
 · have:=cnt_rows (A:=fun k=>w.heap.size≤k) hq h2 hk (by omega)
   rw [l2] at this
   simp only [l2];exact this
end Go.Proofs.YtjhimhlebbamoaaDoor
/- Walks of package costmodel:Predict. -/
namespace Go.Proofs.YtjhimhlebbamoaaDoor
open Go.RowKit
theorem strs_take {A:Nat→Prop} {w:World} {a:Option Addr} {c:Nat} {l:List ByteArray} (h:StrsAt A w (.slice a l.length c) l) {k:Nat} (hk:k≤l.length):StrsAt A w (.slice a k c) (l.take k):=by
 obtain ⟨cs,⟨h0,a',cap,he,h1,h2,h3⟩,hf⟩:=h
 simp only [Value.slice.injEq] at he
 obtain ⟨rfl,-,rfl⟩:=he
 have ht:(l.take k).length=k:=by simp;omega
 refine ⟨cs,⟨by omega,a,c,by rw [ht],by omega,fun e=>by have:=h2 e;omega,fun hp=>?_⟩,fun j hj=>?_⟩
 · obtain ⟨b,off,e,hb,hA,hc⟩:=h3 (by omega)
   exact ⟨b,off,e,hb,hA,fun j hj i hi=>hc j (by omega) i hi⟩
 · have hj2:j < k:=by omega
   have e:at' (l.take k) j=at' l j:=by simp [at',List.getD_eq_getElem?_getD,List.getElem?_take,hj2]
   rw [e];exact hf j (by omega)
theorem inB_mem {l:List ByteArray} {s:ByteArray}:inB l s=true ↔ s ∈ l:=by
 unfold inB;rw [List.any_eq_true]
 constructor
 · rintro ⟨x,hx,e⟩;simp only [decide_eq_true_eq] at e;rw [← e];exact hx
 · intro h;exact ⟨s,h,by simp⟩
theorem nodup_take {l:List ByteArray} {k:Nat} (hk:k < l.length):(l.take (k+1)).Nodup ↔ (l.take k).Nodup∧at' l k ∉ l.take k:=by
 rw [List.take_succ_eq_append_getElem hk,← at_eq hk,List.nodup_append]
 simp only [List.nodup_cons,List.not_mem_nil,not_false_eq_true,List.nodup_nil,and_self,List.mem_singleton,true_and]
 constructor
 · rintro ⟨h1,h2⟩;exact ⟨h1,fun h=>h2 _ h _ rfl rfl⟩
 · rintro ⟨h1,h2⟩;exact ⟨h1,fun a ha b hb e=>h2 (by rw [← hb,← e];exact ha)⟩
theorem trv_of {A:Nat→Prop} {w:World} {t:Tr} {f0 r1:Int} {a1 a3 a5:Option Addr} {n1 k1 m3 k3 n5 k5:Nat} {b1:Bool} (h:TrC A w (fun i=>(#[.int .i64 f0,.slice a1 n1 k1,.bool b1,.int .i64 r1,.slice a3 m3 k3,.slice a5 n5 k5]:Array Value).getD i undef) t):
 f0=t.f∧n1=t.args.length∧b1=t.res.list∧r1=t.res.n∧m3=t.res.l.length∧n5=t.calls.length∧TrV A w t a1 a3 a5 k1 k3 k5:=by
 have c0:Value.int .i64 f0=.int .i64 t.f:=h.c0
 have c1:RowsAt VlE A w (.slice a1 n1 k1) t.args:=h.c1
 have c2:Value.bool b1=.bool t.res.list:=h.c2.c0
 have c3:Value.int .i64 r1=.int .i64 t.res.n:=h.c2.c1
 have c4:RowsAt IntE A w (.slice a3 m3 k3) t.res.l:=h.c2.c2
 have c5:TrsAt A w (.slice a5 n5 k5) t.calls:=h.c5
 obtain ⟨_,x1,y1,e1⟩:=c1.form
 obtain ⟨_,x4,y4,e4⟩:=c4.form
 obtain ⟨_,x5,y5,e5⟩:=c5.form
 simp only [Value.slice.injEq] at e1 e4 e5
 simp only [Value.int.injEq,true_and] at c0 c3
 simp only [Value.bool.injEq] at c2
 obtain ⟨rfl,rfl,rfl⟩:=e1
 obtain ⟨rfl,rfl,rfl⟩:=e4
 obtain ⟨rfl,rfl,rfl⟩:=e5
 exact ⟨c0,rfl,c2,c3,rfl,rfl,c1,trs_rows.1 c5,h.ok⟩
def CutP (w7:World) (N:Nat) (s18:Value) (wx:World):Prop:=
 ∃ c p q:Nat,s18=.pointer (some ⟨c,0,none⟩)∧wx.heap[c]?=some (.cells #[.slice (some ⟨p,0,none⟩) N N,.slice (some ⟨q,0,none⟩) N N,.int .i64 0] 29 (0,0))∧CntAt wx p (List.replicate N 0)∧CntAt wx q (List.replicate N 0)∧p≠q∧c≠p∧c≠q∧w7.heap.size≤c∧w7.heap.size≤p∧w7.heap.size≤q∧Below w7.heap.size w7 wx
theorem cutp_set {w7 e:World} {N c p q:Nat} {v0 v1 v2:Value} (hz:e.heap[c]?=some (.cells #[v0,v1,v2] 29 (0,0))) (hp:CntAt e p (List.replicate N 0)) (hq:CntAt e q (List.replicate N 0)) (hpq:p≠q) (hcp:c≠p) (hcq:c≠q) (h1:w7.heap.size≤c) (h2:w7.heap.size≤p) (h3:w7.heap.size≤q) (hb:Below w7.heap.size w7 e):
 CutP w7 N (.pointer (some ⟨c,0,none⟩)) (((e.setCell ⟨c,0,none⟩ (.slice (some ⟨p,0,none⟩) N N)).setCell ⟨c,1,none⟩ (.slice (some ⟨q,0,none⟩) N N)).setCell ⟨c,2,none⟩ (.int .i64 0)):=
 ⟨c,p,q,rfl,set3 hz _ _ _,blk_set (blk_set (blk_set hp hcp.symm) hcp.symm) hcp.symm,blk_set (blk_set (blk_set hq hcq.symm) hcq.symm) hcq.symm,hpq,hcp,hcq,h1,h2,h3,bel_sets3 hb h1⟩
theorem cutp_new {w7 d:World} {N p q:Nat} (hp:CntAt d p (List.replicate N 0)) (hq:CntAt d q (List.replicate N 0)) (hpq:p≠q) (h2:w7.heap.size≤p) (h3:w7.heap.size≤q) (hb:Below w7.heap.size w7 d):
 CutP w7 N (.pointer (some ⟨d.heap.size,0,none⟩)) (d.alloc (.cells #[.slice (some ⟨p,0,none⟩) N N,.slice (some ⟨q,0,none⟩) N N,.int .i64 0] 29)):=
 have l1:=blk_lt hp
 have l2:=blk_lt hq
 ⟨d.heap.size,p,q,rfl,at_new0 d _,blk_alloc hp,blk_alloc hq,hpq,by omega,by omega,hb.size,h2,h3,bel_alloc hb⟩
theorem predict_any (la:Option Addr) (lc:Nat) (lib:List Fn) (name:ByteArray) (ka:Option Addr) (kc:Nat) (kept:List ByteArray) (av:Option Addr) (ac:Nat) (args:List Vl) (fuel:Int) (A:Nat→Prop) (w:World) (hl:FnsAt A w (.slice la lib.length lc) lib) (hk:StrsAt A w (.slice ka kept.length kc) kept) (ha:RowsAt VlE A w (.slice av args.length ac) args) (hmod:Modest lib) (ht:Tab w) (hvl:∀ a ∈ args,VLen a) (hf:fuel≤1000) (hln:lib.length≤1000):
 Calls Tryd.prog 11 #[.slice la lib.length lc,.string name,.slice ka kept.length kc,.slice av args.length ac,.int .i64 fuel] w (PrPost (predN lib name kept args fuel) w):=by
 have hll:=hl.form.1
 have hkl:=hk.form.1
 unfold maxLen at hll hkl
 obtain ⟨W,hW⟩:∃ W,W=((w.alloc (.cells #[.slice la lib.length lc] 22)).alloc (.cells #[.slice ka kept.length kc] 23)).alloc (.cells #[.slice none 0 0,.slice none 0 0,.int .i64 0] 29):=⟨_,rfl⟩
 have hB:Below w.heap.size w W:=by subst hW;exact bel_alloc (bel_alloc (bel_alloc (Below.refl _ _)))
 have hA0:Stays A (fun j=>A j∧j < w.heap.size) w W:=⟨hB.size,fun b hb a=>⟨hB.block b hb,a,hb⟩⟩
 have HLB:Hid (W.heap[w.heap.size]?=some (.cells #[.slice la lib.length lc] 22 (0,0))):=Lib.hid (by subst hW;exact blk_alloc (blk_alloc (blk_new rfl)))
 have HKB:Hid (W.heap[w.heap.size+1]?=some (.cells #[.slice ka kept.length kc] 23 (0,0))):=Lib.hid (by subst hW;exact blk_alloc (blk_new (by simp)))
 have HZ:Hid (W.heap[w.heap.size+1+1]?=some (.cells #[.slice none 0 0,.slice none 0 0,.int .i64 0] 29 (0,0))):=Lib.hid (by subst hW;exact blk_new (by simp))
 have HSZ:Hid (W.heap.size=w.heap.size+3):=Lib.hid (by subst hW;simp)
 have HL:=Lib.hid (hl.stays hA0)
 have HK:=Lib.hid (hk.stays hA0)
 have HA:=Lib.hid (ha.stays hA0)
 have HB:=Lib.hid hB
 have HVL:=Lib.hid hvl
 have HMOD:=Lib.hid hmod
 have HN:=Lib.hid (normalizeL_any _ lib _ W HL.out hmod (ht.below hB))
 have HPR:Hid (predN lib name kept args fuel=(if (validE lib).2≠0 then ⟨(validE lib).2,noCnt,0⟩
  else if findF lib name < 0∨(∃ k ∈ kept,findF lib k < 0) then ⟨21,noCnt,0⟩
  else if ¬ kept.Nodup then ⟨22,noCnt,0⟩
  else if (startN lib name args fuel).err≠0 then ⟨(startN lib name args fuel).err,noCnt,0⟩
  else
   let r:=visT (puN lib) (inK lib kept) (startN lib name args fuel).tree false 1 (zeroCnt lib.length)
   ⟨0,r.2,r.1⟩)):=Lib.hid rfl
 obtain ⟨l0,-⟩:W.cell? ⟨w.heap.size,0,none⟩=some (.slice la lib.length lc)∧True:=⟨cell_blk HLB.out 0 rfl,trivial⟩
 clear hl hk ha hmod ht hvl hB hA0
 subst hW
 go_enter Tryd.func11,Tryd.ntmps11
 generalize predN lib name kept args fuel=R at HPR ⊢
 go_wp2_with fail
 refine HN.out.mono ?_
 rintro e w1 ⟨hn1,hn2,hb1⟩
 have HB1:=Lib.hid hb1
 by_cases hv:(validE lib).2=0
 case neg=>
  obtain rfl:=hn1 hv
  have hr:R=⟨(validE lib).2,noCnt,0⟩:=by rw [HPR.out,if_pos hv]
  have HR:=Lib.hid hr
  have HZ1:=Lib.hid (blk_below (bel_alloc (x:=.cells #[.slice none 0 0] 33) hb1) HZ.out)
  obtain ⟨z0,z1,z2⟩:=cells3 HZ1.out
  have zf:=unfrozen HZ1.out
  have dv:((validE lib).2 != 0)=true:=by simp [hv]
  have dv2:((validE lib).2 == 0)=false:=by simp [hv]
  clear hn1 hn2 hb1 hr HPR hv
  go_wp2
  (try simp only [Exit.inBlock,Exit.then])
  refine bodyPost_ret (results_cell_row2 (P:=Tryd.prog) rfl _ _ (w.heap.size+1+1) _ _ _ _ _ rfl (set3 HZ1.out _ _ _) rfl Tryd.underlying29 rfl (by kernel_rfl)) rfl ?_
  exact pr_no HR.out (bel_sets3 (bel_alloc (HB.out.trans (HB1.out.mono HB.out.size))) (by omega))
 obtain ⟨nv,rfl,hnv⟩:=hn2 hv
 obtain ⟨_,na,nc,rfl⟩:=hnv.form
 have HNV:=Lib.hid hnv
 have HV:=Lib.hid hv
 have HPR2:=Lib.hid (HPR.out.trans (if_neg (fun h=>h hv)))
 have HW2:Hid (Below w.heap.size w (w1.alloc (.cells #[.slice na (normL lib).length nc] 33))∧Below (((w.alloc (.cells #[.slice la lib.length lc] 22)).alloc (.cells #[.slice ka kept.length kc] 23)).alloc (.cells #[.slice none 0 0,.slice none 0 0,.int .i64 0] 29)).heap.size (((w.alloc (.cells #[.slice la lib.length lc] 22)).alloc (.cells #[.slice ka kept.length kc] 23)).alloc (.cells #[.slice none 0 0,.slice none 0 0,.int .i64 0] 29)) (w1.alloc (.cells #[.slice na (normL lib).length nc] 33))):=Lib.hid ⟨bel_alloc (HB.out.trans (HB1.out.mono HB.out.size)),bel_alloc HB1.out⟩
 have HNB:=Lib.hid (at_new0 w1 (.cells #[.slice na (normL lib).length nc] 33))
 have HC1:=Lib.hid (unknown_any (fun j=>A j∧j < w.heap.size) _ w.heap.size la lc lib name (LibB.below ⟨HLB.out,HL.out⟩ HW2.out.2))
 clear hn1 hn2 hb1 HPR hv hnv HN
 go_wp2_with fail
 refine HC1.out.mono ?_
 rintro e w3 ⟨rfl,hb3⟩
 have HB3:=Lib.hid hb3
 have HZ3:=Lib.hid (blk_below hb3 (blk_below HW2.out.2 HZ.out))
 have HK3:=Lib.hid (blk_below hb3 (blk_below HW2.out.2 HKB.out))
 have HL3:=Lib.hid (LibB.below (LibB.below (A:=fun j=>A j∧j < w.heap.size) ⟨HLB.out,HL.out⟩ HW2.out.2) hb3)
 have HN3:=Lib.hid (blk_below hb3 HNB.out)
 have HBW3:=Lib.hid (HW2.out.1.trans (hb3.mono HW2.out.1.size))
 have k0:=cell_blk HK3.out 0 rfl
 clear hb3 HC1 l0
 by_cases hu:findF lib name < 0
 · have HR:Hid (R=⟨21,noCnt,0⟩):=Lib.hid (by rw [HPR2.out,if_pos (.inl hu)])
   have du:decide (findF lib name < 0)=true:=by simpa using hu
   obtain ⟨z0,z1,z2⟩:=cells3 HZ3.out
   have zf:=unfrozen HZ3.out
   rw [du]
   clear hu du HPR2
   go_wp2
   (try simp only [Exit.inBlock,Exit.then])
   refine bodyPost_ret (results_cell_row2 (P:=Tryd.prog) rfl _ _ (w.heap.size+1+1) _ _ _ _ _ rfl (set3 HZ3.out _ _ _) rfl Tryd.underlying29 rfl (by kernel_rfl)) rfl ?_
   exact pr_no HR.out (bel_sets3 (HBW3.out) (by omega))
 have HU:Hid (0≤findF lib name):=Lib.hid (by omega)
 have du:decide (findF lib name < 0)=false:=by simpa using hu
 have HC2:=Lib.hid (containsU_any (fun j=>A j∧j < w.heap.size) w3 w.heap.size la lc lib ka kc kept HL3.out (HK.out.stays (Stays.of_below (HW2.out.2.trans (HB3.out.mono HW2.out.2.size)))))
 rw [du]
 clear hu du
 go_wp2_with fail
 refine HC2.out.mono ?_
 rintro e w4 ⟨bu,rfl,hbu,hb4⟩
 have HB4:=Lib.hid hb4
 have HZ4:=Lib.hid (blk_below hb4 HZ3.out)
 have HK4:=Lib.hid (blk_below hb4 HK3.out)
 have HL4:=Lib.hid (HL3.out.below hb4)
 have HN4:=Lib.hid (blk_below hb4 HN3.out)
 have HBW4:=Lib.hid (HBW3.out.trans (hb4.mono HBW3.out.size))
 have HBU:=Lib.hid hbu
 clear hb4 HC2 hbu k0
 cases bu with
 | true=>
   have HR:Hid (R=⟨21,noCnt,0⟩):=Lib.hid (by rw [HPR2.out,if_pos (.inr (HBU.out.1 rfl))])
   obtain ⟨z0,z1,z2⟩:=cells3 HZ4.out
   have zf:=unfrozen HZ4.out
   clear HPR2
   go_wp2
   (try simp only [Exit.inBlock,Exit.then])
   refine bodyPost_ret (results_cell_row2 (P:=Tryd.prog) rfl _ _ (w.heap.size+1+1) _ _ _ _ _ rfl (set3 HZ4.out _ _ _) rfl Tryd.underlying29 rfl (by kernel_rfl)) rfl ?_
   exact pr_no HR.out (bel_sets3 (HBW4.out) (by omega))
 | false=>
 have HPR3:=Lib.hid (HPR2.out.trans (if_neg (fun h=>by
  rcases h with h|h
  · have:=HU.out;omega
  · exact absurd (HBU.out.2 h) (by simp))))
 have k0:=cell_blk HK4.out 0 rfl
 clear HPR2 HBU
 go_wp2
 have HWW4:=Lib.hid (HW2.out.2.trans ((HB3.out.trans (HB4.out.mono HB3.out.size)).mono HW2.out.2.size))
 go_loopw [41] (fun i wr=>∃ k:Nat,k≤kept.length∧i=.int .i64 k∧(kept.take k).Nodup∧Below w4.heap.size w4 wr) (fun i _=>kept.length - (intOf i).toNat)
 case atStart=>exact ⟨0,Nat.zero_le _,rfl,by simp,Below.refl _ _⟩
 case round=>
  obtain ⟨k,hkk,rfl,hnd,hbl⟩:=hrel
  have HND:=Lib.hid hnd
  have HBL:=Lib.hid hbl
  clear hnd
  by_cases hlt:k < kept.length
  · have HKS:=Lib.hid ((HK.out.stays (Stays.of_below HWW4.out)).stays (Stays.of_below hbl))
    obtain ⟨b,off,cap,he,hb,hcap,_,c0,hs⟩:=HKS.out.at hlt
    simp only [Value.slice.injEq] at he
    obtain ⟨rfl,-,rfl⟩:=he
    have hkc:(kept.length:Int)≤(kc:Int):=by omega
    have HC5:=Lib.hid (containsS_any _ (kept.take k) (at' kept k) _ wr (strs_take HKS.out hkk))
    have k1:=cell_blk (blk_below hbl HK4.out) 0 rfl
    have HZ5:=Lib.hid (blk_below hbl HZ4.out)
    have j0:(0:Int)≤(k:Int):=by omega
    have j1:(k:Int)≤(kept.length:Int):=by omega
    have j2:(k:Int)≤(kc:Int):=by omega
    have j2n:k≤kc:=by omega
    clear hbl
    go_wp2_with fail
    refine HC5.out.mono ?_
    rintro e w5 ⟨rfl,rfl⟩
    cases hd:inB (kept.take k) (at' kept k) with
    | true=>
      have HR:Hid (R=⟨22,noCnt,0⟩):=Lib.hid (by
       rw [HPR3.out,if_pos (fun hn=>by
        have h1:(kept.take (k+1)).Nodup:=hn.sublist (List.take_sublist _ _)
        exact ((nodup_take hlt).1 h1).2 (inB_mem.1 hd))])
      obtain ⟨z0,z1,z2⟩:=cells3 HZ5.out
      have zf:=unfrozen HZ5.out
      clear hd HPR3
      go_wp2
      (try simp only [Exit.inBlock,Exit.then])
      refine bodyPost_ret (results_cell_row2 (P:=Tryd.prog) rfl _ _ (w.heap.size+1+1) _ _ _ _ _ rfl (set3 HZ5.out _ _ _) rfl Tryd.underlying29 rfl (by kernel_rfl)) rfl ?_
      exact pr_no HR.out (bel_sets3 (HBW4.out.trans (HBL.out.mono HBW4.out.size)) (by omega))
    | false=>
      have H9:Hid ((kept.take (k+1)).Nodup):=Lib.hid ((nodup_take hlt).2 ⟨HND.out,fun h=>by rw [inB_mem.2 h] at hd;cases hd⟩)
      clear hd
      go_wp2
      go_roundw
      case rel=>exact ⟨k+1,by omega,by go_num,H9.out,HBL.out⟩
      case measure=>simp [intOf];omega
  · obtain rfl:k=kept.length:=by omega
    have hlt':¬ (kept.length:Int) < (kept.length:Int):=by omega
    have hnd2:kept.Nodup:=by have h:=HND.out;rwa [List.take_length] at h
    have HPR4:=Lib.hid (HPR3.out.trans (if_neg (fun h=>h hnd2)))
    clear hnd2 HPR3 hbl
    have HZ5:=Lib.hid (blk_below HBL.out HZ4.out)
    have HL5:=Lib.hid (HL4.out.below HBL.out)
    have HN5:=Lib.hid (blk_below HBL.out HN4.out)
    have HK5:=Lib.hid (blk_below HBL.out HK4.out)
    have HBW5:=Lib.hid (HBW4.out.trans (HBL.out.mono HBW4.out.size))
    have HWW5:=Lib.hid (HWW4.out.trans (HBL.out.mono HWW4.out.size))
    have HTRC:=Lib.hid (trace_any la lc lib name av ac args (fun j=>A j∧j < w.heap.size) wr fuel HL5.out.2 HMOD.out (HA.out.stays (Stays.of_below HWW5.out)) HVL.out (by omega))
    have l1:=cell_blk HL5.out.1 0 rfl
    have HTREE:=Lib.hid (fun h=>start_tree (lib:=lib) (name:=name) (args:=args) (fuel:=fuel) HV.out HVL.out h)
    clear k0
    generalize startN lib name args fuel=X at HPR4 HTRC HTREE
    go_wp2_with fail
    refine HTRC.out.mono ?_
    rintro e w6 ⟨f0,a1,n1,k1,b1,r1,a3,m3,k3,a5,n5,k5,rfl,htr,hb6⟩
    have HB7:=Lib.hid (bel_alloc (x:=(.cells #[.int .i64 f0,.slice a1 n1 k1,.bool b1,.int .i64 r1,.slice a3 m3 k3,.slice a5 n5 k5] 43)) hb6)
    have HTR6:=Lib.hid htr
    have HB6:=Lib.hid hb6
    have HZ7:=Lib.hid (blk_below HB7.out HZ5.out)
    have HBW7:=Lib.hid (HBW5.out.trans (HB7.out.mono HBW5.out.size))
    clear htr hb6 HTRC l1
    by_cases hxe:X.err=0
    case neg=>
     have HR:Hid (R=⟨X.err,noCnt,0⟩):=Lib.hid (by rw [HPR4.out,if_pos hxe])
     have dx:(X.err == 0)=false:=by simp [hxe]
     have dx':(X.err != 0)=true:=by simp [hxe]
     obtain ⟨z0,z1,z2⟩:=cells3 HZ7.out
     have zf:=unfrozen HZ7.out
     clear hxe HPR4
     go_wp2
     (try simp only [Exit.inBlock,Exit.then])
     refine bodyPost_ret (results_cell_row2 (P:=Tryd.prog) rfl _ _ (w.heap.size+1+1) _ _ _ _ _ rfl (set3 HZ7.out _ _ _) rfl Tryd.underlying29 rfl (by kernel_rfl)) rfl ?_
     exact pr_no HR.out (bel_sets3 (HBW7.out) (by omega))
    have dx:(X.err == 0)=true:=by simp [hxe]
    have dx':(X.err != 0)=false:=by simp [hxe]
    have HPR5:=Lib.hid (HPR4.out.trans (if_neg (fun h=>h hxe)))
    have HXE:=Lib.hid hxe
    obtain ⟨rfl,rfl,rfl,rfl,rfl,rfl,htv⟩:=trv_of (HTR6.out hxe)
    have HTV:=Lib.hid htv
    have HL7:=Lib.hid (HL5.out.below HB7.out)
    have HN7:=Lib.hid (blk_below HB7.out HN5.out)
    have HK7:=Lib.hid (blk_below HB7.out HK5.out)
    have l2:=cell_blk HL7.out.1 0 rfl
    have HBOX:=Lib.hid (at_new0 w6 (.cells #[.int .i64 X.tree.f,.slice a1 X.tree.args.length k1,.bool X.tree.res.list,.int .i64 X.tree.res.n,.slice a3 X.tree.res.l.length k3,.slice a5 X.tree.calls.length k5] 43))
    have HTV7:=Lib.hid (htv.stays (trv_keep (bel_alloc (x:=(.cells #[.int .i64 X.tree.f,.slice a1 X.tree.args.length k1,.bool X.tree.res.list,.int .i64 X.tree.res.n,.slice a3 X.tree.res.l.length k3,.slice a5 X.tree.calls.length k5] 43)) (Below.refl _ _))))
    have HNRM7:=Lib.hid ((HNV.out.stays (trv_keep (bel_alloc (x:=(.cells #[.slice na (normL lib).length nc] 33)) (Below.refl _ _)))).stays (trv_keep (HB3.out.trans ((HB4.out.trans (((HBL.out.trans (HB7.out.mono HBL.out.size))).mono HB4.out.size)).mono HB3.out.size))))
    have HKP7:=Lib.hid (HK.out.stays (trv_keep (HWW5.out.trans (HB7.out.mono HWW5.out.size))))
    have HLB7:=Lib.hid (HL7.out.2.stays (trv_keep (Below.refl _ _)))
    clear hxe HPR4 htv
    go_wp2
    generalize (w6.alloc (.cells #[.int .i64 X.tree.f,.slice a1 X.tree.args.length k1,.bool X.tree.res.list,.int .i64 X.tree.res.n,.slice a3 X.tree.res.l.length k3,.slice a5 X.tree.calls.length k5] 43))=w7 at *
    go_upto_region 16 with fail
    go_cut [18] from 65 to 71 (fun s18 wx=>CutP w7 lib.length s18 wx)
    case first=>
     have hN0:0 < lib.length:=by have:=(findF_lt (lib:=lib) (name:=name) (by have:=HU.out;omega)).2;omega
     obtain ⟨d1,hd1,cd1,bd1⟩:=make_run lib.length hN0 (by omega) w7.drew
     obtain ⟨d2,hd2,cd2,bd2⟩:=make_run lib.length hN0 (by omega) d1
     obtain ⟨e1,he1,ce1,be1⟩:=make_run lib.length hN0 (by omega) (w7.alloc (.cells #[.slice none 0 0,.slice none 0 0,.int .i64 0] 29)).drew
     obtain ⟨e2,he2,ce2,be2⟩:=make_run lib.length hN0 (by omega) e1
     obtain ⟨f2,hf2,cf2,bf2⟩:=make_run lib.length hN0 (by omega) (d1.alloc (.cells #[.slice none 0 0,.slice none 0 0,.int .i64 0] 29))
     have bwd1:Below w7.heap.size w7 d1:=(bel_drew (Below.refl _ _)).trans bd1
     have bwd2:Below w7.heap.size w7 d2:=bwd1.trans (bd2.mono bwd1.size)
     have bA:Below w7.heap.size w7 (w7.alloc (.cells #[.slice none 0 0,.slice none 0 0,.int .i64 0] 29)).drew:=bel_drew (bel_alloc (Below.refl _ _))
     have bwe1:Below w7.heap.size w7 e1:=bA.trans (be1.mono bA.size)
     have bwe2:Below w7.heap.size w7 e2:=bwe1.trans (be2.mono bwe1.size)
     have bdA:Below w7.heap.size w7 (d1.alloc (.cells #[.slice none 0 0,.slice none 0 0,.int .i64 0] 29)):=bel_alloc bwd1
     have bwf2:Below w7.heap.size w7 f2:=bdA.trans (bf2.mono bdA.size)
     have m1:=cell_blk (blk_below (bel_alloc (x:=(.cells #[.slice none 0 0,.slice none 0 0,.int .i64 0] 29)) (Below.refl _ _)) HL7.out.1) 0 rfl
     have m2:=cell_blk (blk_below bwd1 HL7.out.1) 0 rfl
     have m3:=cell_blk (blk_below bwe1 HL7.out.1) 0 rfl
     have m4:=cell_blk (blk_below bdA HL7.out.1) 0 rfl
     have ze:e2.heap[w7.heap.size]?=some (.cells #[.slice none 0 0,.slice none 0 0,.int .i64 0] 29 (0,0)):=blk_below be2 (blk_below be1 (blk_drew (at_new0 w7 _)))
     have zf2:f2.heap[d1.heap.size]?=some (.cells #[.slice none 0 0,.slice none 0 0,.int .i64 0] 29 (0,0)):=blk_below bf2 (at_new0 d1 _)
     obtain ⟨x0,x1,x2⟩:=cells3 ze
     have xf:=unfrozen ze
     obtain ⟨y0,y1,y2⟩:=cells3 zf2
     have yf:=unfrozen zf2
     have HALL:=Lib.hid (And.intro cd1 (And.intro cd2 (And.intro ce1 (And.intro ce2 cf2))))
     have HBL2:=Lib.hid (And.intro bwd1 (And.intro bwd2 (And.intro bwe1 (And.intro bwe2 (And.intro bwf2 (And.intro bd2 (And.intro be2 bf2)))))))
     have sz0:(w7.drew).heap.size=w7.heap.size:=rfl
     have sz1:((w7.alloc (.cells #[.slice none 0 0,.slice none 0 0,.int .i64 0] 29)).drew).heap.size=w7.heap.size+1:=by show (w7.alloc _).heap.size=_;simp
     have sz2:(d1.alloc (.cells #[.slice none 0 0,.slice none 0 0,.int .i64 0] 29)).heap.size=d1.heap.size+1:=by simp
     have cd1':CntAt d1 w7.heap.size (List.replicate lib.length 0):=cd1
     have cd2':CntAt d2 w7.heap.size (List.replicate lib.length 0):=blk_below bd2 cd1'
     have ce1':CntAt e1 (w7.heap.size+1) (List.replicate lib.length 0):=sz1 ▸ ce1
     have ce2':CntAt e2 (w7.heap.size+1) (List.replicate lib.length 0):=blk_below be2 ce1'
     have cf1':CntAt f2 w7.heap.size (List.replicate lib.length 0):=blk_below bf2 (blk_alloc cd1')
     have cf2':CntAt f2 (d1.heap.size+1) (List.replicate lib.length 0):=sz2 ▸ cf2
     have q1:=blk_lt cd1'
     have q2:=blk_lt ce1'
     have q3:=bwd1.size
     have q4:=bwe1.size
     have KA:=Lib.hid (And.intro (cutp_set ze ce2' ce2 (by omega) (by omega) (by omega) (Nat.le_refl _) (by omega) (by omega) bwe2) (cutp_set ze ce2 ce2' (by omega) (by omega) (by omega) (Nat.le_refl _) (by omega) (by omega) bwe2))
     have KB:=Lib.hid (And.intro (cutp_set zf2 cf1' cf2' (by omega) (by omega) (by omega) (by omega) (by omega) (by omega) bwf2) (cutp_set zf2 cf2' cf1' (by omega) (by omega) (by omega) (by omega) (by omega) (by omega) bwf2))
     have KC:=Lib.hid (And.intro (cutp_new cd2' cd2 (by omega) (by omega) (by omega) bwd2) (cutp_new cd2 cd2' (by omega) (by omega) (by omega) bwd2))
     clear q1 q2 q3 q4 cd1' cd2' ce1' ce2' cf1' cf2' sz0 sz1 sz2 HALL HBL2
     clear cd1 cd2 ce1 ce2 cf2 bwd1 bwd2 bA bwe1 bwe2 bdA bwf2 bd1 bd2 be1 be2 bf2 ze zf2
     go_region
     all_goals
      go_wp2_with fail
      go_meet
      (with_reducible first|exact KA.out.1|exact KA.out.2|exact KB.out.1|exact KB.out.2|exact KC.out.1|exact KC.out.2)
    case rest=>
     obtain ⟨c,p,q,rfl,hC,hP,hQ,hpq,hcp,hcq,hc7,hp7,hq7,hbc⟩:=hcut
     obtain ⟨t1,t2,t3,t4,t5,t6,t7⟩:=HTREE.out HXE.out
     obtain ⟨v1,v2,v3,v4,v5,v6,v7,v8⟩:=vis_ok HV.out t1 t6 hf t4 t5 (inK lib kept)
     have HVI:=Lib.hid (And.intro v1 (And.intro v2 (And.intro v3 v4)))
     have hNl:(normL lib).length=lib.length:=by simp [normL]
     have sp:=blk_lt hP
     have sq:=blk_lt hQ
     have sc:=blk_lt hC
     have sn:=blk_lt HN7.out
     have sk:=blk_lt HK7.out
     have sl:=blk_lt HL7.out.1
     have sz:=blk_lt HZ7.out
     obtain ⟨C,hCC⟩:∃ C:ViC,C=⟨c,p,q,w1.heap.size,w.heap.size+1,w.heap.size,wc.heap.size,na,nc,ka,kc,la,lc,lib,kept,HV.out⟩:=⟨_,rfl⟩
     have hbv:Below w7.heap.size w7 (wc.alloc (.cells #[C.fv] 78)):=bel_alloc hbc
     have hst7:Stays (fun k=>k < w7.heap.size) (fun k=>k < w7.heap.size) w7 (wc.alloc (.cells #[C.fv] 78)):=Stays.of_below hbv
     have hn8:=blk_alloc (x:=.cells #[C.fv] 78) (blk_below hbc HN7.out)
     rw [hNl] at hn8
     have hvst:ViSt C (fun k=>k < w7.heap.size) (wc.alloc (.cells #[C.fv] 78)) (zeroCnt lib.length):=by
      subst hCC
      exact {
       c:=blk_alloc hC
       p:=blk_alloc hP
       q:=blk_alloc hQ
       n:=hn8
       k:=blk_alloc (blk_below hbc HK7.out)
       l:=blk_alloc (blk_below hbc HL7.out.1)
       v:=at_new0 wc _
       norm:=by have:=HNRM7.out.stays hst7;rw [hNl] at this;exact this
       kept:=HKP7.out.stays hst7
       lib:=HLB7.out.stays hst7
       len:=zero_len _
       alt:=fun j h=>Nat.lt_of_lt_of_le h hbv.size
       ap:=fun h=>by have h:p < w7.heap.size:=h;omega
       aq:=fun h=>by have h:q < w7.heap.size:=h;omega
       pq:=hpq
       other:=fun j h=>by
        rcases h with h|h|h|h|h <;> (simp only at h;subst h;constructor <;> (simp only;omega)) }
     have HCL:=Lib.hid (visit_any ((stepsT X.tree).toNat+1) C (fun k=>k < w7.heap.size) (wc.alloc (.cells #[C.fv] 78)) (zeroCnt lib.length) X.tree a1 a3 a5 k1 k3 k5 false 1 (by omega) v6 (by rw [hCC];exact t1) t6 ⟨by omega,by omega⟩ (fun h=>by cases h) ⟨v7,v8⟩ (by rw [hCC];exact v5) (HTV7.out.stays hst7) hvst)
     have hvb:=hvst.v
     have g0:=cell_blk hvb 0 rfl
     obtain ⟨x0,x1,x2,x3,x4,x5⟩:=cells6 (blk_below hbv HBOX.out)
     have HZV:=Lib.hid (blk_below hbv HZ7.out)
     have HBV:=Lib.hid hbv
     have HORD:=Lib.hid (And.intro hpq (And.intro hcp (And.intro hcq (And.intro hc7 (And.intro hp7 (And.intro hq7 (And.intro sz sp)))))))
     subst hCC
     clear hn8 hC hP hQ hbc hbv hst7 hvst hvb t1 t2 t3 t4 t5 t6 t7 v1 v2 v3 v4 v5 v6 v7 v8 sp sq sc sn sk sl sz hpq hcp hcq hc7 hp7 hq7
     go_wp2_with fail
     refine HCL.out.mono ?_
     rintro e w8 ⟨rfl,hs8,hk8⟩
     have HR:Hid (R=⟨0,(visT (puN lib) (inK lib kept) X.tree false 1 (zeroCnt lib.length)).2,(visT (puN lib) (inK lib kept) X.tree false 1 (zeroCnt lib.length)).1⟩):=Lib.hid HPR5.out
     generalize visT (puN lib) (inK lib kept) X.tree false 1 (zeroCnt lib.length)=V at *
     obtain ⟨o1,o2,o3,o4,o5,o6,o7,o8⟩:=HORD.out
     have hrp:w.heap.size+1+1≠p:=by omega
     have hrq:w.heap.size+1+1≠q:=by omega
     have hrc:w.heap.size+1+1≠c:=by omega
     have hz8:=(hk8.block _ (blk_lt HZV.out) (fun e=>e.elim hrp hrq)).trans HZV.out
     have hc8:=hs8.c
     have hb8:Below w7.heap.size w7 w8:=HBV.out.trans (hk8.below (fun k e=>by rcases e with e|e <;> (simp only at e;omega)) HBV.out.size)
     have HP8:=Lib.hid (And.intro hs8.p (And.intro hs8.q (And.intro hs8.len hb8)))
     have HC8:=Lib.hid hc8
     have HZ8:=Lib.hid hz8
     obtain ⟨d0,d1,d2⟩:=cells3 hc8
     obtain ⟨z0,z1,z2⟩:=cells3 hz8
     have df:=unfrozen hc8
     have zf:=unfrozen hz8
     have HNE:=Lib.hid (And.intro hrp (And.intro hrq hrc))
     have HW7S:=Lib.hid HBW7.out.size
     have HLN:=Lib.hid hln
     clear hs8 hk8 hc8 hz8 hb8 o1 o2 o3 o4 o5 o6 o7 o8 hrp hrq g0 x0 x1 x2 x3 x4 x5 HPR5
     go_wp2
     (try simp only [Exit.inBlock,Exit.then])
     refine bodyPost_ret (results_cell_row2 (P:=Tryd.prog) rfl _ _ (w.heap.size+1+1) _ _ _ _ _ rfl (set3 (blk_set HZ8.out HNE.out.2.2) _ _ _) rfl Tryd.underlying29 rfl (by kernel_rfl)) rfl ?_
     obtain ⟨i1,i2,i3,i4⟩:=HVI.out
     obtain ⟨n1,n2,n3⟩:=HNE.out
     obtain ⟨p1,p2,p3,p4⟩:=HP8.out
     obtain ⟨o1,o2,o3,o4,o5,o6,o7,o8⟩:=HORD.out
     have hs:=HW7S.out
     exact pr_ok (N:=lib.length) HR.out i2 (by have:=HLN.out;unfold maxLen;omega) (blk_set (blk_set (blk_set (blk_set p1 o2.symm) n1.symm) n1.symm) n1.symm) (blk_set (blk_set (blk_set (blk_set p2 o3.symm) n2.symm) n2.symm) n2.symm) (by omega) (by omega) i1 i3 i4 (bel_sets3 (g:=w.heap.size+1+1) ((HBW7.out.trans (p4.mono hs)).setCell (p:=⟨c,2,none⟩) (Nat.le_trans hs o4) _) (by omega))
end Go.Proofs.YtjhimhlebbamoaaDoor
/- Walks of package costmodel:Total,Better;of the laws:ints. -/
namespace Go.Proofs.YtjhimhlebbamoaaDoor
open Go.RowKit
theorem at_nth (l:List Int) (j:Nat):at' l j=nth l j:=by simp [at',nth,List.getD_eq_getElem?_getD]
theorem ints_of {A:Nat→Prop} {w:World} {v:Value} {l:List Int} (h:RowsAt IntE A w v l) (hn:l.length≤1000000):IntsAt w v l:=by
 obtain ⟨cs,⟨h0,a,c,rfl,h1,h2,h3⟩,hf⟩:=h
 refine ⟨by omega,fun x hx=>?_,a,c,rfl,h2,fun hp=>?_⟩
 · obtain ⟨j,hj,rfl⟩:=List.getElem_of_mem hx
   have h5:cs j 0=.int .i64 (at' l j)∧In64 (at' l j):=hf j hj
   rw [at_eq hj] at h5
   exact h5.2
 · obtain ⟨b,off,e,hb,hA,hc⟩:=h3 hp
   refine ⟨b,off,e,hb,fun j hj=>?_⟩
   have h5:cs j 0=.int .i64 (at' l j)∧In64 (at' l j):=hf j hj
   have c0:=hc j hj 0 (by show 0 < 1;omega)
   rw [h5.1,at_nth] at c0
   simpa [IntE] using c0
theorem take_bounds {l:List Int} (h:∀ i,0≤at' l i) {k:Nat} (hk:k≤l.length):0≤sumI (l.take k)∧sumI (l.take k)≤sumI l:=by
 have h1:∀ x ∈ l,0≤x:=fun x hx=>by obtain ⟨j,hj,rfl⟩:=List.getElem_of_mem hx;have:=h j;rwa [at_eq hj] at this
 have e:sumI l=sumI (l.take k)+sumI (l.drop k):=by rw [← sumI_append,List.take_append_drop]
 have:=sumI_nonneg (l.take k) (fun x hx=>h1 x (List.mem_of_mem_take hx))
 have:=sumI_nonneg (l.drop k) (fun x hx=>h1 x (List.mem_of_mem_drop hx))
 omega
theorem total_any (a1 a2:Option Addr) (c1 c2:Nat) (l m:List Int) (g:Int) (A:Nat→Prop) (w:World) (h1:RowsAt IntE A w (.slice a1 l.length c1) l) (h2:RowsAt IntE A w (.slice a2 m.length c2) m) (hn1:∀ i,0≤at' l i) (hn2:∀ i,0≤at' m i) (hs:sumI l+sumI m≤1152921504606846976):
 Calls Tryd.prog 20 #[.agg #[.slice a1 l.length c1,.slice a2 m.length c2,.int .i64 g]] w fun e w'=>e=.returned (.int .i64 (sumI l+sumI m))∧Below w.heap.size w w':=by
 have hl1:=h1.form.1
 have hl2:=h2.form.1
 unfold maxLen at hl1 hl2
 have hB:Below w.heap.size w (w.alloc (.cells #[.slice a1 l.length c1,.slice a2 m.length c2,.int .i64 g] 29)):=bel_alloc (Below.refl _ _)
 have HB:=Lib.hid hB
 have H1:=Lib.hid (h1.stays (Stays.of_below hB))
 have H2:=Lib.hid (h2.stays (Stays.of_below hB))
 have HBOX:=Lib.hid (at_new0 w (.cells #[.slice a1 l.length c1,.slice a2 m.length c2,.int .i64 g] 29))
 obtain ⟨x0,x1,x2⟩:=cells3 HBOX.out
 clear h1 h2 hB
 go_enter Tryd.func20,Tryd.ntmps20
 go_wp2
 generalize (w.alloc (.cells #[.slice a1 l.length c1,.slice a2 m.length c2,.int .i64 g] 29))=W at *
 have b1:∀ k,k≤l.length→0≤sumI (l.take k)∧sumI (l.take k)≤sumI l:=fun k hk=>take_bounds hn1 hk
 have b2:∀ k,k≤m.length→0≤sumI (m.take k)∧sumI (m.take k)≤sumI m:=fun k hk=>take_bounds hn2 hk
 have hs1:=(b1 l.length (Nat.le_refl _))
 have hs2:=(b2 m.length (Nat.le_refl _))
 have HS:=Lib.hid (And.intro hs1 hs2)
 have HBB:=Lib.hid (And.intro b1 b2)
 rw [List.take_length] at hs1 hs2
 clear b1 b2
 go_loopw [3,11] (fun s i wr=>∃ k:Nat,k≤l.length∧i=.int .i64 k∧s=.int .i64 (sumI (l.take k))∧Below W.heap.size W wr) (fun _ i _=>l.length - (intOf i).toNat)
 case atStart=>exact ⟨0,Nat.zero_le _,rfl,rfl,Below.refl _ _⟩
 case round=>
  obtain ⟨k,hk,rfl,rfl,hbl⟩:=hrel
  have HBL:=Lib.hid hbl
  by_cases hlt:k < l.length
  · obtain ⟨b,off,cap,he,hb,hcap,hcell,hin⟩:=ints_at (H1.out.stays (Stays.of_below hbl)) hlt
    simp only [Value.slice.injEq] at he
    obtain ⟨rfl,-,rfl⟩:=he
    have ht:=sumI_take l k hlt
    have hb1:=HBB.out.1 k hk
    have hb2:=HBB.out.1 (k+1) hlt
    rw [ht] at hb2
    have HT:=Lib.hid ht
    rw [at_nth] at hb2
    have hwr:IntKind.i64.wrap (sumI (l.take k)+nth l k)=sumI (l.take k)+nth l k:=by rw [IntKind.wrap_i64];omega
    clear ht hb1 hb2 hbl
    go_wp2
    go_roundw
    case rel=>exact ⟨k+1,by omega,by go_num,by rw [HT.out,at_nth],HBL.out⟩
    case measure=>simp [intOf];omega
  · obtain rfl:k=l.length:=by omega
    have hlt':¬ (l.length:Int) < (l.length:Int):=by omega
    obtain ⟨y0,y1,y2⟩:=cells3 (blk_below hbl HBOX.out)
    rw [List.take_length]
    clear x0 x1 x2 hbl hlt
    go_wp2
    clear hk
    go_loopw [3,22] (fun s i wq=>∃ k:Nat,k≤m.length∧i=.int .i64 k∧s=.int .i64 (sumI l+sumI (m.take k))∧Below W.heap.size W wq) (fun _ i _=>m.length - (intOf i).toNat)
    case atStart=>exact ⟨0,Nat.zero_le _,rfl,by simp [sumI],HBL.out⟩
    case round=>
     obtain ⟨k,hk,rfl,rfl,hbq⟩:=hrel
     have HBQ:=Lib.hid hbq
     by_cases hlt:k < m.length
     · obtain ⟨b,off,cap,he,hb,hcap,hcell,hin⟩:=ints_at (H2.out.stays (Stays.of_below hbq)) hlt
       simp only [Value.slice.injEq] at he
       obtain ⟨rfl,-,rfl⟩:=he
       have ht:=sumI_take m k hlt
       have hb1:=HBB.out.2 k hk
       have hb2:=HBB.out.2 (k+1) hlt
       rw [ht] at hb2
       have HT:=Lib.hid ht
       rw [at_nth] at hb2
       have hwr:IntKind.i64.wrap (sumI l+sumI (m.take k)+nth m k)=sumI l+sumI (m.take k)+nth m k:=by rw [IntKind.wrap_i64];omega
       clear ht hb1 hb2 hbq
       go_wp2
       go_roundw
       case rel=>exact ⟨k+1,by omega,by go_num,by rw [HT.out,at_nth,Int.add_assoc],HBQ.out⟩
       case measure=>simp [intOf];omega
     · obtain rfl:k=m.length:=by omega
       have hlt':¬ (m.length:Int) < (m.length:Int):=by omega
       rw [List.take_length]
       clear hbq hlt
       go_wp2
       go_ret
       exact ⟨rfl,HB.out.trans (HBQ.out.mono HB.out.size)⟩
theorem better_any (a1 a2 b1 b2:Option Addr) (c1 c2 d1 d2:Nat) (l m l' m':List Int) (g g':Int) (A:Nat→Prop) (w:World) (h1:RowsAt IntE A w (.slice a1 l.length c1) l) (h2:RowsAt IntE A w (.slice a2 m.length c2) m) (hn1:∀ i,0≤at' l i) (hn2:∀ i,0≤at' m i) (hs:sumI l+sumI m≤1152921504606846976)
 (h1':RowsAt IntE A w (.slice b1 l'.length d1) l') (h2':RowsAt IntE A w (.slice b2 m'.length d2) m') (hn1':∀ i,0≤at' l' i) (hn2':∀ i,0≤at' m' i) (hs':sumI l'+sumI m'≤1152921504606846976):
 Calls Tryd.prog 22 #[.agg #[.slice a1 l.length c1,.slice a2 m.length c2,.int .i64 g],.agg #[.slice b1 l'.length d1,.slice b2 m'.length d2,.int .i64 g']] w fun e w'=>e=.returned (.bool (decide (sumI l+sumI m < sumI l'+sumI m'∨sumI l+sumI m=sumI l'+sumI m'∧g < g')))∧Below w.heap.size w w':=by
 obtain ⟨W,hW⟩:∃ W,W=(w.alloc (.cells #[.slice a1 l.length c1,.slice a2 m.length c2,.int .i64 g] 29)).alloc (.cells #[.slice b1 l'.length d1,.slice b2 m'.length d2,.int .i64 g'] 29):=⟨_,rfl⟩
 have hB:Below w.heap.size w W:=by subst hW;exact bel_alloc (bel_alloc (Below.refl _ _))
 have HB:=Lib.hid hB
 have H1:=Lib.hid (h1.stays (Stays.of_below hB))
 have H2:=Lib.hid (h2.stays (Stays.of_below hB))
 have H1':=Lib.hid (h1'.stays (Stays.of_below hB))
 have H2':=Lib.hid (h2'.stays (Stays.of_below hB))
 have HBOX:Hid (W.heap[w.heap.size]?=some (.cells #[.slice a1 l.length c1,.slice a2 m.length c2,.int .i64 g] 29 (0,0))):=Lib.hid (by subst hW;exact at_old w _ _)
 have HBOX':Hid (W.heap[w.heap.size+1]?=some (.cells #[.slice b1 l'.length d1,.slice b2 m'.length d2,.int .i64 g'] 29 (0,0))):=Lib.hid (by subst hW;exact at_new w _ _)
 obtain ⟨x0,x1,x2⟩:=cells3 HBOX.out
 obtain ⟨z0,z1,z2⟩:=cells3 HBOX'.out
 have HT1:Hid (∀ w1,Below W.heap.size W w1→Calls Tryd.prog 20 #[.agg #[.slice a1 l.length c1,.slice a2 m.length c2,.int .i64 g]] w1 fun e w'=>e=.returned (.int .i64 (sumI l+sumI m))∧Below w1.heap.size w1 w'):=Lib.hid (fun w1 h=>total_any a1 a2 c1 c2 l m g A w1 (H1.out.stays (Stays.of_below h)) (H2.out.stays (Stays.of_below h)) hn1 hn2 hs)
 have HT2:Hid (∀ w1,Below W.heap.size W w1→Calls Tryd.prog 20 #[.agg #[.slice b1 l'.length d1,.slice b2 m'.length d2,.int .i64 g']] w1 fun e w'=>e=.returned (.int .i64 (sumI l'+sumI m'))∧Below w1.heap.size w1 w'):=Lib.hid (fun w1 h=>total_any b1 b2 d1 d2 l' m' g' A w1 (H1'.out.stays (Stays.of_below h)) (H2'.out.stays (Stays.of_below h)) hn1' hn2' hs')
 clear h1 h2 h1' h2' hB hn1 hn2 hs hn1' hn2' hs'
 generalize sumI l+sumI m=X at *
 generalize sumI l'+sumI m'=Y at *
 obtain ⟨B,hB⟩:∃ B:Bool,B=decide (X < Y∨X=Y∧g < g'):=⟨_,rfl⟩
 rw [← hB]
 have HBD:=Lib.hid hB
 clear hB
 subst hW
 go_enter Tryd.func22,Tryd.ntmps22
 go_wp2
 generalize (w.alloc (.cells #[.slice a1 l.length c1,.slice a2 m.length c2,.int .i64 g] 29)).alloc (.cells #[.slice b1 l'.length d1,.slice b2 m'.length d2,.int .i64 g'] 29)=W at *
 go_region_law (first
  | ((try go_simp);(try go_at_call 20);(with_reducible refine (HT1.out _ (by (repeat (with_reducible first|exact Below.refl _ _|refine bel_drew ?_|refine bel_alloc ?_|(apply bel_step;focus assumption))))).mono ?_);rintro e w5 ⟨rfl,hb5⟩;have hb15:Below W.heap.size W w5:=(by (repeat (with_reducible first|exact Below.refl _ _|refine bel_drew ?_|refine bel_alloc ?_|(apply bel_step;focus assumption))));have HB5:=Lib.hid hb15;obtain ⟨y0,y1,y2⟩:=cells3 (blk_below hb15 HBOX.out);obtain ⟨v0,v1,v2⟩:=cells3 (blk_below hb15 HBOX'.out);clear hb15)
  | ((try go_simp);(try go_at_call 20);(with_reducible refine (HT2.out _ (by (repeat (with_reducible first|exact Below.refl _ _|refine bel_drew ?_|refine bel_alloc ?_|(apply bel_step;focus assumption))))).mono ?_);rintro e w6 ⟨rfl,hb6⟩;have hb16:Below W.heap.size W w6:=(by (repeat (with_reducible first|exact Below.refl _ _|refine bel_drew ?_|refine bel_alloc ?_|(apply bel_step;focus assumption))));have HB6:=Lib.hid hb16;obtain ⟨s0,s1,s2⟩:=cells3 (blk_below hb16 HBOX.out);obtain ⟨t0,t1,t2⟩:=cells3 (blk_below hb16 HBOX'.out);clear hb16)
  )
 all_goals
  have HBW:=Lib.hid (HB.out.trans (HB6.out.mono HB.out.size))
  clear hb5 hb6
  by_cases h1:X < Y
  · have HD:Hid (B=true):=Lib.hid (HBD.out.trans <| decide_eq_true (.inl h1))
    go_wp2
    go_ret
    rw [HD.out]
    exact ⟨rfl,HBW.out⟩
  · by_cases h2:X=Y
    · have e2:(X == Y)=true:=by simp [h2]
      by_cases h3:g < g'
      · have HD:Hid (B=true):=Lib.hid (HBD.out.trans <| decide_eq_true (.inr ⟨h2,h3⟩))
        clear h2
        go_wp2
        go_ret
        rw [HD.out]
        exact ⟨rfl,HBW.out⟩
      · have HD:Hid (B=false):=Lib.hid (HBD.out.trans <| decide_eq_false (fun h=>h.elim h1 (fun h=>h3 h.2)))
        clear h2
        go_wp2
        go_ret
        rw [HD.out]
        exact ⟨rfl,HBW.out⟩
    · have e2:(X == Y)=false:=by simp [h2]
      have HD:Hid (B=false):=Lib.hid (HBD.out.trans <| decide_eq_false (fun h=>h.elim h1 (fun h=>h2 h.1)))
      clear h2
      go_wp2
      go_ret
      rw [HD.out]
      exact ⟨rfl,HBW.out⟩
theorem eq_of_cells (l m:List Int) (hl:l.length=m.length) (h:∀ j,j < l.length→nth l j=nth m j):l=m:=by
 apply List.ext_getElem hl
 intro j h1 h2
 have:=h j h1
 simpa [nth,List.getElem?_eq_getElem h1,List.getElem?_eq_getElem h2] using this
theorem ints43_any (v u:Value) (l m:List Int) (w:World) (hv:IntsAt w v l) (hu:IntsAt w u m):
 Calls Tryd.prog 18 #[v,u] w fun e w'=>e=.returned (.bool (decide (l=m)))∧Below w.heap.size w w':=by
 obtain ⟨hlen,hfit,a,cap,rfl,_,hcell⟩:=hv
 obtain ⟨hlen',hfit',a',cap',rfl,_,hcell'⟩:=hu
 by_cases hne:l.length=m.length
 · have hq:((l.length:Int) != (m.length:Int))=false:=by simp [hne]
   have HN:=Lib.hid hne
   clear hne
   go_enter Tryd.func18,Tryd.ntmps18
   go_wp2
   go_loopw [13] (fun i wr=>∃ k:Nat,k≤l.length∧i=.int .i64 k∧(∀ j,j < k→nth l j=nth m j)∧Below w.heap.size w wr) (fun i _=>l.length - (intOf i).toNat)
   case atStart=>exact ⟨0,Nat.zero_le _,rfl,fun j hj=>absurd hj (by omega),Below.refl _ _⟩
   case round=>
    obtain ⟨k,hk,rfl,hsame,hbl⟩:=hrel
    have HS:=Lib.hid hsame
    clear hsame
    by_cases hlt:k < l.length
    · have hlt':k < m.length:=by have:=HN.out;omega
      obtain ⟨b,off,rfl,hb,hc⟩:=hcell (by omega)
      obtain ⟨b',off',rfl,hb',hc'⟩:=hcell' (by omega)
      have hx:wr.cell? ⟨b,off+k,none⟩=some (.int .i64 (nth l k)):=(hbl.cell (by exact hb)).trans (hc k hlt)
      have hx':wr.cell? ⟨b',off'+k,none⟩=some (.int .i64 (nth m k)):=(hbl.cell (by exact hb')).trans (hc' k hlt')
      clear hc hc' hcell hcell'
      by_cases heq:nth l k=nth m k
      · have he:(nth l k != nth m k)=false:=by simp [heq]
        have HE:=Lib.hid heq
        clear heq
        go_wp2
        go_quiet (fail)
        go_wp2
        go_roundw
        case rel=>exact ⟨k+1,by omega,by go_num,fun j hj=>(by
         by_cases e:j=k
         · rw [e];exact HE.out
         · exact HS.out j (by omega)),below_drewN hbl _⟩
        case measure=>simp [intOf];omega
      · have he:(nth l k != nth m k)=true:=by simp [heq]
        go_wp2
        go_quiet (fail)
        go_wp2
        go_ret
        have hd:decide (l=m)=false:=decide_eq_false (fun h=>heq (by rw [h]))
        exact ⟨by rw [hd];rfl,below_drewN hbl _⟩
    · go_wp2
      go_ret
      have hd:decide (l=m)=true:=decide_eq_true (eq_of_cells l m HN.out (fun j hj=>HS.out j (by omega)))
      exact ⟨by rw [hd];rfl,hbl⟩
 · have hq:((l.length:Int) != (m.length:Int))=true:=by simp;omega
   go_enter Tryd.func18,Tryd.ntmps18
   go_wp2
   go_ret
   have hd:decide (l=m)=false:=decide_eq_false (fun h=>hne (by rw [h]))
   exact ⟨by rw [hd];rfl,Below.refl _ _⟩
end Go.Proofs.YtjhimhlebbamoaaDoor
