/- Contracts and plain lemmas (PTmp0, WkR, WkS, WkT): no statement of the seat is proved here. -/
import Derived.Test.YtpobmoegmdhbpaaGreatDoorXq01
import Derived.RangeFuncRecord
import Derived.RangeFuncSeq
import Derived.Below
import Derived.Maps.OwnIn
import Derived.Lib.Hide
import Derived.Lib.SliceRun
import Derived.OneCell
set_option linter.unusedSimpArgs false
set_option linter.unusedVariables false
set_option linter.unusedSectionVars false
set_option maxRecDepth 100000
set_option maxHeartbeats 1600000
namespace Go.Proofs.YtpobmoegmdhbpaaGreatDoor
mutual
def preN:Nd→List Nd
 | .mk k num name kids=>.mk k num name kids :: preL kids
def preL:List Nd→List Nd
 | []=>[]
 | n :: r=>preN n ++ preL r
end
theorem zly (n:Nd):preN n=n :: preL n.kids:=by cases n;rw [preN];rfl
theorem zcT:∀ l m:List Nd,preL (l ++ m)=preL l ++ preL m
 | [],m=>by rw [List.nil_append,preL,List.nil_append]
 | n :: l,m=>by rw [List.cons_append,preL,preL,zcT l m,List.append_assoc]
theorem zlI {l:List Nd} {k:Nat} (h:k < l.length):preL (l.take (k+1))=preL (l.take k) ++ preN (at' l k):=by
 rw [List.take_add_one,List.getElem?_eq_getElem h,Option.toList_some,zcT,zax h,preL,preL,List.append_nil]
theorem zme (l:List Nd) (k:Nat):preL (l.take k) <+:preL l:=by
 conv=>rhs;rw [← List.take_append_drop k l,zcT]
 exact List.prefix_append _ _
theorem zlE {pre xs:List Nd} {n:Nd} (k:Nat) (h:pre ++ preN n <+:xs):pre ++ n :: preL (n.kids.take k) <+:xs:=by
 refine List.IsPrefix.trans ?_ h
 rw [zly]
 obtain ⟨t,ht⟩:=zme n.kids k
 exact ⟨t,by rw [← ht];simp⟩
end Go.Proofs.YtpobmoegmdhbpaaGreatDoor
namespace Go.Proofs.YtpobmoegmdhbpaaGreatDoor
open Go.RowKit
def SameM (n0:Nat) (M:World→Nat→Prop) (W W':World):Prop:=Below n0 W W'∧∀ b,M W b→W'.heap[b]?=W.heap[b]?
structure JM (n0:Nat) (J:List Nd→World→Prop) (M:World→Nat→Prop):Prop where
 lt:∀ pre W b,J pre W→M W b→b < W.heap.size
 stay:∀ pre W W',J pre W→SameM n0 M W W'→J pre W'∧∀ b,M W' b→M W b
def KM (n0:Nat) (M:World→Nat→Prop) (W W':World):Prop:=Below n0 W W'∧∀ b,b < W.heap.size→¬ M W b→W'.heap[b]?=W.heap[b]?∧¬ M W' b
theorem KM.refl (n0:Nat) (M:World→Nat→Prop) (W:World):KM n0 M W W:=⟨Below.refl _ _,fun _ _ h=>⟨rfl,h⟩⟩
theorem KM.trans {n0:Nat} {M:World→Nat→Prop} {a b c:World} (h:KM n0 M a b) (k:KM n0 M b c):KM n0 M a c:=
 ⟨h.1.trans k.1,fun i hi hm=>by
   obtain ⟨e1,m1⟩:=h.2 i hi hm
   obtain ⟨e2,m2⟩:=k.2 i (Nat.lt_of_lt_of_le hi h.1.size) m1
   exact ⟨e2.trans e1,m2⟩⟩
theorem zke {m m':Nat} {P:Program} {l:Nat} {f:FuncId} {tmps:Array Value} {assign body:Code} {w:World} {R:Ending→World→Prop}
 (h:RoundIn Fence.wide m P l f tmps assign body w R):RoundIn Fence.wide m' P l f tmps assign body w R:=⟨h.1,fun c cs _=>h.2 c cs (room_wide _)⟩
theorem zjD {m:Nat} {P:Program} {l:Nat} {args:Array Value} {W:World} {R R':Ending→World→Prop} (h:YieldAt Fence.wide m P l args W R) (hr:∀ e w,R e w→R' e w):YieldAt Fence.wide m P l args W R':=by
 obtain ⟨fn,tmps,assign,body,hy,hR⟩:=h
 exact ⟨fn,tmps,assign,body,hy,hR.mono hr⟩
abbrev Hand:=Value × Nd × Option Addr × Nat
def hands (x:Hand):Array Value:=#[x.1,.agg #[.int .u8 x.2.1.kind,.int .i64 x.2.1.num,.string x.2.1.name,.slice x.2.2.1 x.2.1.kids.length x.2.2.2]]
abbrev ndV (x:Hand):Value:=.agg #[.int .u8 x.2.1.kind,.int .i64 x.2.1.num,.string x.2.1.name,.slice x.2.2.1 x.2.1.kids.length x.2.2.2]
def Gives (P:Program) (n0:Nat) (gf:Nat) (lb:Array Value) (A:Nat→Prop) (w:World) (xs:List Nd):Prop:=
 ∀ (l:Nat) (W:World) (J:List Nd→World→Prop) (M:World→Nat→Prop),JM n0 J M→Below w.heap.size w W→l < W.heap.size→(∀ b,A b→¬ M W b)→
   (∀ pre (x:Hand) W1,J pre W1→NdAt (fun b=>b≠l) W1 (ndV x) x.2.1→pre ++ [x.2.1] <+:xs→YieldAt Fence.wide 9 P l (hands x) W1 fun e W'=>e=.returned (.bool true)∧J (pre ++ [x.2.1]) W'∧KM n0 M W1 W')→
   J [] W→CallsIn Fence.wide 9 P gf (#[.func (.yield l) #[] #[]] ++ lb) W fun e W'=>(∃ v,e=.returned v)∧J xs W'
def _root_.Go.Obj.isCl:Obj→Bool
 | .cells ..=>true
 | _=>false
theorem zcz {n0:Nat} (W:World) {l:Nat} (o:Obj) (h:n0≤l):Below n0 W (W.putObj l o):=⟨rfl,rfl,rfl,by simp,fun k hk=>World.putObj_heap_other (by omega)⟩
theorem zjk (k:Nat):Fence.wide.depth.isSome=true→1≤k:=by intro h;simp [Fence.wide] at h
theorem zcP {P:Program} {g:Operand} {ps:Array Tmp} {assign body:Code} {Q:Exit→Act→World→Prop} {a:Act} {w:World} {n0:Nat} (hn0:n0≤w.heap.size)
 {gf:Nat} {lb:Array Value} (hg:a.eval g=.func (.func gf) #[] lb) (eg:∀ args w,(callFunc gf args).run P w=.ok (.enter gf args) w)
 {A:Nat→Prop} {xs:List Nd} (hgives:Gives P n0 gf lb A w xs) (hps:ps.size=2)
 (I:List Nd→World→Prop) (MB:World→Nat→Prop) (hI:JM n0 I MB) (hcells:∀ pre W b,I pre W→MB W b→∃ o:Obj,W.heap[b]?=some o∧o.isCl=true)
 (h0:I [] w) (hA:∀ b,A b→b < w.heap.size∧¬ MB w b) (Ax:Hand→Act→World→Prop)
 (hAx:∀ x a1 (W:World) (l:Nat) (o o':Obj),Ax x a1 W→W.heap[l]?=some o→o.isCl=false→Ax x a1 (W.putObj l o'))
 (hassign:∀ (l:Nat) (x:Hand) (W:World) (K:Act→World→Prop),(∀ a1 W1,Ax x a1 W1→Below W.heap.size W W1→K a1 W1)→
   assign.wpIn (Fence.wide.inRound l) 9 P (Exit.then K (fun _ _ _=>False)) { tmps:=(ps.zip (hands x)).foldl (fun t (p,v)=>t.setIfInBounds p v) a.tmps,defers:=[] } W)
 (hbody:∀ (l:Nat) (pre:List Nd) (x:Hand) (a1:Act) (W:World),I pre W→NdAt (fun b=>b≠l) W (ndV x) x.2.1→pre ++ [x.2.1] <+:xs→Ax x a1 W→body.wpIn (Fence.wide.inRound l) 9 P (fun e _ W'=>e=.normal∧I (pre ++ [x.2.1]) W'∧KM n0 MB W W') a1 W)
 (hdone:∀ (D:Nat) (W:World),n0≤D→I xs W→W.heap[D]?=some (.deferred (some []))→Q .normal { a with defers:={ target:=.collected D,args:=#[] } :: a.defers } W):
 (Code.rangeFunc g ps assign body).wp P Q a w:=by
 refine wpIn_wide (n:=11).1 (wpIn_rangeFunc ?_)
 intro fn hfn
 rw [Fence.wide_round]
 obtain ⟨rec,hrec⟩:∃ rec:LoopState→Option Code→Loop,rec=fun st pe=>{ state:=st,pending:=pe,fn,tmps:=a.tmps,params:=ps,assign,body,defers:=w.heap.size }:=⟨_,rfl⟩
 obtain ⟨W1,hW1⟩:∃ W1,(w.alloc (.deferred (some []))).alloc (.loop (rec .ready none))=W1:=⟨_,rfl⟩
 have hL1:W1.heap[w.heap.size+1]?=some (.loop (rec .ready none)):=by
  rw [← hW1];have:=World.alloc_heap_new (w.alloc (.deferred (some []))) (.loop (rec .ready none));rwa [World.size_alloc] at this
 have hK1:W1.heap[w.heap.size]?=some (.deferred (some [])):=by
  rw [← hW1];exact (Below.heap_alloc _ _ _ (by simp)).trans (World.alloc_heap_new w _)
 have hb1:Below w.heap.size w W1:=by
  rw [← hW1];exact ((Below.refl _ w).alloc (Nat.le_refl _) _).alloc (by simp) _
 have hbn:Below n0 w W1:=hb1.mono hn0
 obtain ⟨hI1,hM1⟩:=hI.stay [] w W1 h0 ⟨hbn,fun b hb=>hb1.block b (hI.lt _ _ _ h0 hb)⟩
 refine ⟨w.heap.size+1,[{ target:=.collected w.heap.size,args:=#[] }],W1,{ target:=.fn (.func gf) lb,args:=#[.func (.yield (w.heap.size+1)) #[] #[]] },W1,gf,
  #[.func (.yield (w.heap.size+1)) #[] #[]] ++ lb,W1,?_,?_,?_,?_,zjk _,?_⟩
 · rw [← hW1,hrec];exact run_enterLoop_outer _ _ _ _ _
 · simp only [resolve,hg]
   simp [go_sem]
 · intro f' _;exact trivial
 · simp [invoke,go_sem,eg]
 · have hne:∀ pre W b o,I pre W→MB W b→W.heap[b]?=some o→o.isCl=true:=fun pre W b o hi hm ho=>by
    obtain ⟨o',h1,h2⟩:=hcells pre W b hi hm
    rw [h1] at ho;cases ho;exact h2
   have hput:∀ pre (W:World) (l:Nat) (o o':Obj),I pre W→n0≤l→W.heap[l]?=some o→o.isCl=false→I pre (W.putObj l o')∧∀ b,MB (W.putObj l o') b→MB W b:=fun pre W l o o' hi hl ho hc=>
    hI.stay pre W _ hi ⟨zcz W o' hl,fun b hb=>World.putObj_heap_other (fun e=>by
     subst e
     have:=hne pre W _ o hi hb ho
     rw [hc] at this;cases this)⟩
   have hcall:=hgives (w.heap.size+1) W1
    (fun pre W=>I pre W∧W.heap[w.heap.size+1]?=some (.loop (rec .ready none))∧W.heap[w.heap.size]?=some (.deferred (some [])))
    (fun W b=>MB W b∨b=w.heap.size∨b=w.heap.size+1)
    ⟨fun pre W b hj hb=>by
      rcases hb with hb|rfl|rfl
      · exact hI.lt _ _ _ hj.1 hb
      · exact (Array.getElem?_eq_some_iff.1 hj.2.2).1
      · exact (Array.getElem?_eq_some_iff.1 hj.2.1).1,
     fun pre W W' hj hs=>by
      obtain ⟨h1,h2⟩:=hI.stay pre W W' hj.1 ⟨hs.1,fun b hb=>hs.2 b (.inl hb)⟩
      exact ⟨⟨h1,(hs.2 _ (.inr (.inr rfl))).trans hj.2.1,(hs.2 _ (.inr (.inl rfl))).trans hj.2.2⟩,fun b hb=>hb.imp (h2 b) id⟩⟩
    hb1 (Array.getElem?_eq_some_iff.1 hL1).1 (fun b hb hm=>by
     obtain ⟨q1,q2⟩:=hA b hb
     rcases hm with hm|rfl|rfl
     · exact q2 (hM1 b hm)
     · omega
     · omega) ?_ ⟨hI1,hL1,hK1⟩
   · refine (callsIn_wide.2 (callsIn_wide.1 hcall)).mono ?_
     rintro e W2 ⟨⟨v,rfl⟩,hi,hl,hk⟩
     obtain ⟨hi2,_⟩:=hput _ W2 (w.heap.size+1) _ (.loop { rec .ready none with state:=.exhausted }) hi (by omega) hl rfl
     exact ⟨none,_,by have:=run_endLoop (P:=P) hl (by rw [hrec];simp);rw [hrec] at this ⊢;exact this,hdone _ _ hn0 hi2 ((World.putObj_heap_other (by omega)).trans hk)⟩
   · rintro pre x Wo ⟨hio,hlo,hko⟩ hnd hpx
     have hy:=run_yield (P:=P) (args:=hands x) hlo (by rw [hrec];exact hps.symm)
     rw [hrec] at hy
     refine ⟨fn,_,assign,body,hy,roundIn_of_wpIn trivial (hassign _ x Wo _ ?_)⟩
     intro a1 W hax hbel
     have hl:W.heap[w.heap.size+1]?=some (.loop (rec .ready none)):=(hbel.block _ (Array.getElem?_eq_some_iff.1 hlo).1).trans hlo
     have hk:W.heap[w.heap.size]?=some (.deferred (some [])):=(hbel.block _ (Array.getElem?_eq_some_iff.1 hko).1).trans hko
     have hno:n0≤Wo.heap.size:=by have:=(Array.getElem?_eq_some_iff.1 hko).1;omega
     obtain ⟨hi,hmo⟩:=hI.stay pre Wo W hio ⟨hbel.mono hno,fun b hb=>hbel.block b (hI.lt _ _ _ hio hb)⟩
     have hKo:KM n0 (fun W b=>MB W b∨b=w.heap.size∨b=w.heap.size+1) Wo W:=⟨hbel.mono hno,fun b hb hm=>⟨hbel.block b hb,fun h=>hm (h.imp (hmo b) id)⟩⟩
     refine ⟨_,run_beginRound hl (by rw [hrec]),?_⟩
     have hlt:w.heap.size+1 < W.heap.size:=(Array.getElem?_eq_some_iff.1 hl).1
     obtain ⟨W2,hW2⟩:∃ W2,W.putObj (w.heap.size+1) (.loop { rec .ready none with state:=.busy })=W2:=⟨_,rfl⟩
     have hl2:W2.heap[w.heap.size+1]?=some (.loop { rec .ready none with state:=.busy }):=by rw [← hW2];exact World.putObj_heap_same hlt
     have hk2:W2.heap[w.heap.size]?=some (.deferred (some [])):=by rw [← hW2];exact (World.putObj_heap_other (by omega)).trans hk
     obtain ⟨hi2,hm2⟩:=hput _ W (w.heap.size+1) _ (.loop { rec .ready none with state:=.busy }) hi (by omega) hl rfl
     have hax2:=hAx x a1 W (w.heap.size+1) _ (.loop { rec .ready none with state:=.busy }) hax hl rfl
     rw [hW2] at hi2 hm2 hax2 ⊢
     have hsz2:W2.heap.size=W.heap.size:=by rw [← hW2];simp
     have hbe2:Below n0 W W2:=by rw [← hW2];exact zcz W _ (by omega)
     have hot2:∀ b,b≠w.heap.size+1→W2.heap[b]?=W.heap[b]?:=fun b hb=>by rw [← hW2];exact World.putObj_heap_other hb
     have hnd2:NdAt (fun b=>b≠w.heap.size+1) W2 (ndV x) x.2.1:=(hnd.stays (Stays.of_below hbel)).stays ⟨by rw [hsz2];exact Nat.le_refl _,fun b _ hne=>⟨hot2 b hne,hne⟩⟩
     refine wpIn_mono (hbody _ pre x a1 W2 hi2 hnd2 hpx hax2) ?_
     rintro e a3 W3 ⟨rfl,hi3,hk3⟩
     have nl:¬ MB W2 (w.heap.size+1):=fun hm=>by have:=hne _ W2 _ _ hi2 hm hl2;cases this
     have nk:¬ MB W2 w.heap.size:=fun hm=>by have:=hne _ W2 _ _ hi2 hm hk2;cases this
     have hl3:W3.heap[w.heap.size+1]?=some (.loop { rec .ready none with state:=.busy }):=((hk3.2 _ (by omega) nl).1).trans hl2
     have hk4:W3.heap[w.heap.size]?=some (.deferred (some [])):=((hk3.2 _ (by omega) nk).1).trans hk2
     obtain ⟨hi4,hm4⟩:=hput _ W3 (w.heap.size+1) _ (.loop (rec .ready none)) hi3 (by omega) hl3 rfl
     have hend:=run_endRound (P:=P) none hl3
     refine ⟨_,_,by rw [hrec] at hend ⊢;exact hend,rfl,⟨hi4,World.putObj_heap_same (Array.getElem?_eq_some_iff.1 hl3).1,(World.putObj_heap_other (by omega)).trans hk4⟩,hKo.trans ⟨?_,?_⟩⟩
     · exact (hbe2.trans hk3.1).trans (zcz W3 _ (by omega))
     · intro b hb hm
       have h1:b≠w.heap.size+1:=fun e=>hm (.inr (.inr e))
       have h2:b≠w.heap.size:=fun e=>hm (.inr (.inl e))
       have h3:¬ MB W2 b:=fun e=>hm (.inl (hm2 b e))
       obtain ⟨e3,m3⟩:=hk3.2 b (by omega) h3
       refine ⟨(World.putObj_heap_other h1).trans (e3.trans (hot2 b h1)),fun h=>?_⟩
       rcases h with h|h|h
       · exact m3 (hm4 b h)
       · exact h2 h
       · exact h1 h
end Go.Proofs.YtpobmoegmdhbpaaGreatDoor
namespace Go.Proofs.YtpobmoegmdhbpaaGreatDoor
open Go.RowKit
def Oth (P:Nat) (M:World→Nat→Prop) (W:World) (b:Nat):Prop:=M W b∨b=P∨∃ pv t fz,W.heap[P]?=some (.cells #[pv] t fz)∧pv.ownBlock=some b
theorem TIntP:RowT Tryz.prog 45 3 (.int .i64 0) 1 8:=⟨Tryz.underlying45,by kernel_rfl⟩
structure VS (l Y P V n0:Nat) (A:Nat→Prop) (J:List Nd→World→Prop) (M:World→Nat→Prop) (pre:List Nd) (d:Nat) (W:World):Prop where
 jm:JM n0 J M
 nP:n0≤P
 y:W.heap[Y]?=some (.cells #[.func (.yield l) #[] #[]] 244 (0,0))
 v:W.heap[V]?=some (.cells #[.func (.func 178) #[] #[.pointer (some ⟨Y,0,none⟩),.pointer (some ⟨P,0,none⟩),.pointer (some ⟨V,0,none⟩)]] 140 (0,0))
 p:∃ pv xs,W.heap[P]?=some (.cells #[pv] 45 (0,0))∧Own W n0 3 pv xs∧xs.length=d
 j:J pre W
 oY:¬ Oth P M W Y
 oV:¬ Oth P M W V
 oP:¬ M W P
 oO:∀ pv t fz b,W.heap[P]?=some (.cells #[pv] t fz)→pv.ownBlock=some b→¬ M W b∧b≠P
 oA:∀ b,A b→b < W.heap.size∧¬ Oth P M W b
theorem Oth.lt {l Y P V n0:Nat} {A:Nat→Prop} {J:List Nd→World→Prop} {M:World→Nat→Prop} {pre:List Nd} {d:Nat} {W:World} (h:VS l Y P V n0 A J M pre d W) {b:Nat} (hb:Oth P M W b):b < W.heap.size:=by
 rcases hb with hb|rfl|⟨pv,t,fz,h1,h2⟩
 · exact h.jm.lt _ _ _ h.j hb
 · obtain ⟨pv,xs,h1,_⟩:=h.p
   exact (Array.getElem?_eq_some_iff.1 h1).1
 · obtain ⟨pv',xs,g1,g2,_⟩:=h.p
   rw [g1] at h1
   simp only [Option.some.injEq,Obj.cells.injEq,Array.mk.injEq,List.cons.injEq,and_true] at h1
   obtain ⟨rfl,-,-⟩:=h1
   exact g2.lies _ h2
theorem VS.path {l Y P V n0:Nat} {A:Nat→Prop} {J:List Nd→World→Prop} {M:World→Nat→Prop} {pre:List Nd} {d:Nat} {W W2:World} (h:VS l Y P V n0 A J M pre d W)
 {pv pv':Value} {xs':List Int} (hp:W.heap[P]?=some (.cells #[pv] 45 (0,0))) (hb:Below n0 W W2) (hk:∀ b,b < W.heap.size→b≠P→pv.ownBlock≠some b→W2.heap[b]?=W.heap[b]?)
 (hp':W2.heap[P]?=some (.cells #[pv'] 45 (0,0))) (ho:Own W2 n0 3 pv' xs') (hn:NewOr W pv pv'):VS l Y P V n0 A J M pre xs'.length W2∧KM n0 (Oth P M) W W2:=by
 have hne:∀ b,¬ Oth P M W b→b < W.heap.size→W2.heap[b]?=W.heap[b]?:=fun b hb hlt=>hk b hlt (fun e=>hb (.inr (.inl e))) (fun e=>hb (.inr (.inr ⟨_,_,_,hp,e⟩)))
 have hm:∀ b,M W b→b≠P∧pv.ownBlock≠some b:=fun b hb=>⟨fun e=>h.oP (e ▸ hb),fun e=>(h.oO _ _ _ b hp e).1 hb⟩
 obtain ⟨j2,m2⟩:=h.jm.stay pre W W2 h.j ⟨hb,fun b hb=>hk b (h.jm.lt _ _ _ h.j hb) (hm b hb).1 (hm b hb).2⟩
 have pe:∀ {q t fz},W2.heap[P]?=some (.cells #[q] t fz)→q=pv':=fun {q t fz} e=>by
  rw [hp'] at e
  simp only [Option.some.injEq,Obj.cells.injEq,Array.mk.injEq,List.cons.injEq,and_true] at e
  exact e.1.symm
 have PL:P < W.heap.size:=(Array.getElem?_eq_some_iff.1 hp).1
 have o2:∀ b,b < W.heap.size→¬ Oth P M W b→¬ Oth P M W2 b:=fun b hlt hb hc=>by
  rcases hc with hc|rfl|⟨q,t,fz,e1,e2⟩
  · exact hb (.inl (m2 b hc))
  · exact hb (.inr (.inl rfl))
  · obtain rfl:=pe e1
    rcases hn b e2 with e|e
    · exact hb (.inr (.inr ⟨_,_,_,hp,e⟩))
    · omega
 have yl:=(Array.getElem?_eq_some_iff.1 h.y).1
 have vl:=(Array.getElem?_eq_some_iff.1 h.v).1
 refine ⟨⟨h.jm,h.nP,(hne _ h.oY yl).trans h.y,(hne _ h.oV vl).trans h.v,⟨pv',xs',hp',ho,rfl⟩,j2,o2 _ yl h.oY,o2 _ vl h.oV,fun e=>h.oP (m2 _ e),?_,?_⟩,hb,fun b hlt hb=>⟨hne b hb hlt,o2 b hlt hb⟩⟩
 · intro q t fz b e1 e2
   obtain rfl:=pe e1
   rcases hn b e2 with e|e
   · exact ⟨fun hc=>(h.oO _ _ _ b hp e).1 (m2 b hc),(h.oO _ _ _ b hp e).2⟩
   · exact ⟨fun hc=>by have:=h.jm.lt _ _ _ h.j (m2 b hc);omega,by omega⟩
 · intro b ha
   exact ⟨Nat.lt_of_lt_of_le (h.oA b ha).1 hb.size,o2 b (h.oA b ha).1 (h.oA b ha).2⟩
theorem VS.new {l Y P V n0:Nat} {A:Nat→Prop} {J:List Nd→World→Prop} {M:World→Nat→Prop} {pre:List Nd} {d:Nat} {W W2:World} (h:VS l Y P V n0 A J M pre d W) (hb:Below W.heap.size W W2):
 VS l Y P V n0 A J M pre d W2∧KM n0 (Oth P M) W W2∧∀ b,Oth P M W2 b→Oth P M W b:=by
 obtain ⟨pv,xs,hp,ho,rfl⟩:=h.p
 have PL:P < W.heap.size:=(Array.getElem?_eq_some_iff.1 hp).1
 have hbn:Below n0 W W2:=hb.mono (by have:=h.nP;omega)
 obtain ⟨j2,m2⟩:=h.jm.stay pre W W2 h.j ⟨hbn,fun b hm=>hb.block b (h.jm.lt _ _ _ h.j hm)⟩
 have hp2:W2.heap[P]?=some (.cells #[pv] 45 (0,0)):=(hb.block P PL).trans hp
 have o2:∀ b,Oth P M W2 b→Oth P M W b:=fun b hc=>by
  rcases hc with hc|rfl|⟨q,t,fz,e1,e2⟩
  · exact .inl (m2 b hc)
  · exact .inr (.inl rfl)
  · exact .inr (.inr ⟨q,t,fz,(hb.block P PL).symm.trans e1,e2⟩)
 refine ⟨⟨h.jm,h.nP,(hb.block _ (Array.getElem?_eq_some_iff.1 h.y).1).trans h.y,(hb.block _ (Array.getElem?_eq_some_iff.1 h.v).1).trans h.v,⟨pv,xs,hp2,ho.below hb,rfl⟩,j2,fun e=>h.oY (o2 _ e),fun e=>h.oV (o2 _ e),fun e=>h.oP (m2 _ e),?_,fun b ha=>⟨Nat.lt_of_lt_of_le (h.oA b ha).1 hb.size,fun e=>(h.oA b ha).2 (o2 b e)⟩⟩,⟨hbn,fun b hlt hm=>⟨hb.block b hlt,fun e=>hm (o2 b e)⟩⟩,o2⟩
 intro q t fz b e1 e2
 have:=h.oO q t fz b ((hb.block P PL).symm.trans e1) e2
 exact ⟨fun e=>this.1 (m2 b e),this.2⟩
theorem VS.round {l Y P V n0:Nat} {A:Nat→Prop} {J:List Nd→World→Prop} {M:World→Nat→Prop} {pre pre':List Nd} {d:Nat} {W W2:World} (h:VS l Y P V n0 A J M pre d W) (hj:J pre' W2) (hk:KM n0 M W W2):
 VS l Y P V n0 A J M pre' d W2∧KM n0 (Oth P M) W W2:=by
 obtain ⟨pv,xs,hp,ho,rfl⟩:=h.p
 have PL:P < W.heap.size:=(Array.getElem?_eq_some_iff.1 hp).1
 have hP:=hk.2 P PL h.oP
 have hp2:W2.heap[P]?=some (.cells #[pv] 45 (0,0)):=hP.1.trans hp
 have o2:∀ b,b < W.heap.size→¬ Oth P M W b→¬ Oth P M W2 b:=fun b hlt hb hc=>by
  rcases hc with hc|rfl|⟨q,t,fz,e1,e2⟩
  · exact (hk.2 b hlt (fun e=>hb (.inl e))).2 hc
  · exact hb (.inr (.inl rfl))
  · exact hb (.inr (.inr ⟨q,t,fz,hP.1.symm.trans e1,e2⟩))
 have same:∀ b,b < W.heap.size→¬ Oth P M W b→W2.heap[b]?=W.heap[b]?:=fun b hlt hb=>(hk.2 b hlt (fun e=>hb (.inl e))).1
 have yl:=(Array.getElem?_eq_some_iff.1 h.y).1
 have vl:=(Array.getElem?_eq_some_iff.1 h.v).1
 have ho2:Own W2 n0 3 pv xs:=⟨ho.1,ho.2.1,by
  refine ⟨ho.2.2.1,?_⟩
  rcases ho.2.2.2 with ⟨e,hn⟩|⟨g,cap,cur,e,hbg,hg,hrest⟩
  · exact .inl ⟨e,hn⟩
  · have hob:pv.ownBlock=some g:=by rw [e];rfl
    exact .inr ⟨g,cap,cur,e,hbg,(hk.2 g (ho.lies _ hob) (h.oO _ _ _ g hp hob).1).1.trans hg,hrest⟩⟩
 refine ⟨⟨h.jm,h.nP,(same _ yl h.oY).trans h.y,(same _ vl h.oV).trans h.v,⟨pv,xs,hp2,ho2,rfl⟩,hj,o2 _ yl h.oY,o2 _ vl h.oV,hP.2,?_,fun b ha=>⟨Nat.lt_of_lt_of_le (h.oA b ha).1 hk.1.size,o2 b (h.oA b ha).1 (h.oA b ha).2⟩⟩,hk.1,fun b hlt hb=>⟨same b hlt hb,o2 b hlt hb⟩⟩
 intro q t fz b e1 e2
 have e1':=hP.1.symm.trans e1
 rw [hp] at e1'
 simp only [Option.some.injEq,Obj.cells.injEq,Array.mk.injEq,List.cons.injEq,and_true] at e1'
 obtain ⟨rfl,-,-⟩:=e1'
 have:=h.oO _ _ _ b hp e2
 exact ⟨(hk.2 b (ho.lies _ e2) this.1).2,this.2⟩
theorem zhq {F:Fence} {nF:Nat} {P:Program} {t e:TypeId} (R:RowT P t e (.int .i64 0) 1 8) {wr:World} {ops:Array Oper} {rest:List Oper} {o:Oper} {a:Act} {Q:Exit→Act→World→Prop} (hgd:o.guard=none) (s x:Operand)
 (ho:o.op=.call { callee:=.builtin .append,args:=#[s,x],argTypes:=#[t,t] })
 {base:Nat} {v:Value} {l:List Int} {n:Int} (hs:a.eval s=v) (hx:a.eval x=.slice (some ⟨wr.heap.size,0,none⟩) 1 1)
 (hown:Own wr base e v l) (hn:-9223372036854775808≤n∧n≤9223372036854775807) (hl:(l.length+1) * 8≤140737488351232) (hbase:base≤wr.heap.size)
 (h:∀ v' w1,Own w1 base e v' (l ++ [n])→wr.grownBy w1 v.ownBlock→NewOr wr v v'→wpListIn F nF P ops Q rest (a.put o.dst v') w1):
 wpListIn F nF P ops Q (o :: rest) a (wr.alloc (.cells #[.int .i64 n] e)):=by
 refine wpListIn_plain hgd fun K hK=>?_
 obtain ⟨v',w',hr,h2,h3,h4⟩:=zbt (P:=P) (wr.alloc (.cells #[.int .i64 n] e)) (ty:=o.type) R rfl (by decide) base v l.length (l.map (Value.int .i64)) (hown.2.2.alloc _) ⟨wr.heap.size,0,none⟩ 1 1 [.int .i64 n] rfl (by
  intro j u hj
  match j,hj with
  | 0,hj=>simp at hj;subst hj;simp [Addr.add]) (by intro u hu;simp at hu;subst hu;rfl) (by unfold maxLen;omega) (by omega) (by simp;omega)
 unfold Oper.wpIn
 refine ⟨by simp [Oper.about,ho,resolve,Target.leads,Sem.run_pure],?_⟩
 rw [Oper.semAt_plain F _ _ (by rw [ho];intro c hc';cases hc')]
 simp [execOp,ho,resolve,invoke,builtin,hs,hx,hr,Result.andThen]
 exact hK _ _ (h v' w' (zmt hown hn hl h2) (zeU h3) (fun k hk=>(h4 k hk).imp id (fun h=>by simp at h;omega)))
theorem Own.pop {w:World} {base e g n cap:Nat} {l:List Int} (h:Own w base e (.slice (some ⟨g,0,none⟩) (n+1) cap) l):Own w base e (.slice (some ⟨g,0,none⟩) n cap) (l.take n):=by
 obtain ⟨h1,h2,h3,h4⟩:=h
 rcases h4 with ⟨e1,hn⟩|⟨g',cap',cur,e1,hbg,hg,hle,hmx,hsz,ht⟩
 · cases e1
 · simp only [Value.slice.injEq,Option.some.injEq,Addr.mk.injEq,and_true,true_and] at e1
   obtain ⟨rfl,hl,rfl⟩:=e1
   have hl':l.length=n+1:=by omega
   have ht2:(l.take n).length=n:=by rw [List.length_take];omega
   refine ⟨by omega,fun x hx=>h2 x (List.mem_of_mem_take hx),by rw [List.length_map];omega,.inr ⟨g,cap,cur,by rw [ht2],hbg,hg,by omega,hmx,hsz,?_⟩⟩
   rw [ht2,List.map_take,← ht,List.take_take]
   congr 1
   omega
theorem clonePath (v:Value) (l:List Int) (w:World) (hv:IntsAt w v l) (hl:l.length≤10000000):
 Calls Tryz.prog 53 #[v] w fun e w'=>∃ v',e=.returned v'∧Below w.heap.size w w':=by
 obtain ⟨a,c,rfl⟩:=hv.form
 cases a with
 | none=>
   obtain ⟨_,_,a,c',e,hn,hc⟩:=hv
   simp only [Value.slice.injEq] at e
   obtain ⟨rfl,-,rfl⟩:=e
   have hl0:=hn rfl
   have hnil:l=[]:=by
    refine List.eq_nil_of_length_eq_zero ?_
    by_cases h0:0 < l.length
    · obtain ⟨b,off,e,_⟩:=hc h0;cases e
    · omega
   subst hnil
   obtain rfl:c=0:=hl0
   have heq:=fun (w:World)=>Lib.run_eql_slice_nil (P:=Tryz.prog) w 45 3 none 0 0 0 0 Tryz.underlying45
   clear hc
   go_enter Tryz.func53,Tryz.ntmps53
   go_wp2
   go_ret
   exact ⟨⟨_,rfl⟩,Below.refl _ _⟩
 | some ad=>
   have hB:Below w.heap.size w (w.alloc (.cells #[] 3)):=(Below.refl _ _).alloc (Nat.le_refl _) _
   have HV:Hid (IntsAt (w.alloc (.cells #[] 3)) (.slice (some ad) l.length c) l):=Lib.hid (hv.below hB)
   have HRW:Hid (Own (w.alloc (.cells #[] 3)) w.heap.size 3 (.slice (some ⟨w.heap.size,0,none⟩) 0 0) []):=Lib.hid (znQ w w.heap.size 3 [] (by simp) (by intro x hx;simp at hx) (Nat.le_refl _))
   have heq:=fun (w:World)=>Lib.run_eql_slice_nil (P:=Tryz.prog) w 45 3 (some ad) l.length c 0 0 Tryz.underlying45
   clear hv
   go_enter Tryz.func53,Tryz.ntmps53
   go_wp2_with (at_builtin;refine zhQ TIntP rfl (.tmp 5) (.tmp 6) rfl rfl rfl HRW.out HV.out (by simp;omega) (by simp) ?_;intro v' w2 hown hg hn;have HO:=Lib.hid hown;have HG:Hid ((w.alloc (.cells #[] 3)).grownBy w2 (some w.heap.size)):=Lib.hid hg;clear hown hg hn)
   go_ret
   exact ⟨_,rfl,hB.grown HG.out (by simp) (fun k e=>by
    have e2:w.heap.size=k:=by simpa using e
    omega)⟩
end Go.Proofs.YtpobmoegmdhbpaaGreatDoor
namespace Go.Proofs.YtpobmoegmdhbpaaGreatDoor
open Go.RowKit
theorem VS.push {l Y P V n0:Nat} {A:Nat→Prop} {J:List Nd→World→Prop} {M:World→Nat→Prop} {pre:List Nd} {d:Nat} {W w1:World} (h:VS l Y P V n0 A J M pre d W)
 {pv pv':Value} {xs xs':List Int} (hp:W.heap[P]?=some (.cells #[pv] 45 (0,0))) (hown:Own W n0 3 pv xs) (hg:W.grownBy w1 pv.ownBlock) (ho:Own w1 n0 3 pv' xs') (hn:NewOr W pv pv'):
 VS l Y P V n0 A J M pre xs'.length (w1.setCell ⟨P,0,none⟩ pv')∧KM n0 (Oth P M) W (w1.setCell ⟨P,0,none⟩ pv'):=by
 have PL:P < W.heap.size:=(Array.getElem?_eq_some_iff.1 hp).1
 have hne:pv.ownBlock≠some P:=fun e=>(h.oO _ _ _ _ hp e).2 rfl
 have hp1:w1.heap[P]?=some (.cells #[pv] 45 (0,0)):=(hg.block P PL (fun e=>hne e.symm)).trans hp
 have hnP:pv'.ownBlock≠some P:=fun e=>by
  rcases hn P e with e2|e2
  · exact hne e2
  · omega
 refine h.path hp ?_ ?_ (one_setCell hp1) ⟨ho.1,ho.2.1,ownsRow_setCell_other ho.2.2 hnP _⟩ hn
 · exact ((Below.refl n0 W).grown hg (by have:=h.nP;omega) (fun k e=>hown.base_le k e)).setCell h.nP _
 · intro b hb hbP hbo
   exact (Below.heap_setCell w1 ⟨P,0,none⟩ _ b hbP).trans (hg.block b hb (fun e=>hbo e.symm))
theorem VS.form {l Y P V n0:Nat} {A:Nat→Prop} {J:List Nd→World→Prop} {M:World→Nat→Prop} {pre:List Nd} {d:Nat} {W:World} (h:VS l Y P V n0 A J M pre (d+1) W):
 ∃ (g cap:Nat) (xs:List Int),W.heap[P]?=some (.cells #[.slice (some ⟨g,0,none⟩) (d+1) cap] 45 (0,0))∧Own W n0 3 (.slice (some ⟨g,0,none⟩) (d+1) cap) xs∧d+1≤cap∧xs.length=d+1:=by
 obtain ⟨pv,xs,hp,ho,hd⟩:=h.p
 have ho':=ho
 obtain ⟨h1,h2,h3,h4⟩:=ho
 rcases h4 with ⟨e1,hn⟩|⟨g,cap,cur,e1,hbg,hg,hle,hrest⟩
 · omega
 · rw [e1] at hp ho'
   rw [hd] at hp ho' hle
   exact ⟨g,cap,xs,hp,ho',hle,hd⟩
theorem VS.pop {l Y P V n0:Nat} {A:Nat→Prop} {J:List Nd→World→Prop} {M:World→Nat→Prop} {pre:List Nd} {d:Nat} {W:World} (h:VS l Y P V n0 A J M pre (d+1) W)
 {g cap:Nat} {xs:List Int} (hp:W.heap[P]?=some (.cells #[.slice (some ⟨g,0,none⟩) (d+1) cap] 45 (0,0))) (hown:Own W n0 3 (.slice (some ⟨g,0,none⟩) (d+1) cap) xs) (hl:xs.length=d+1):
 VS l Y P V n0 A J M pre d (W.setCell ⟨P,0,none⟩ (.slice (some ⟨g,0,none⟩) d cap))∧KM n0 (Oth P M) W (W.setCell ⟨P,0,none⟩ (.slice (some ⟨g,0,none⟩) d cap)):=by
 have hne:(Value.slice (some ⟨g,0,none⟩) (d+1) cap).ownBlock≠some P:=fun e=>(h.oO _ _ _ _ hp e).2 rfl
 have hp2:Own W n0 3 (.slice (some ⟨g,0,none⟩) d cap) (xs.take d):=hown.pop
 have ht:(xs.take d).length=d:=by rw [List.length_take];omega
 have:=h.path hp (W2:=W.setCell ⟨P,0,none⟩ (.slice (some ⟨g,0,none⟩) d cap)) ((Below.refl n0 W).setCell h.nP _) (fun b hb hbP _=>Below.heap_setCell W ⟨P,0,none⟩ _ b hbP) (one_setCell hp) (xs':=xs.take d)
  ⟨hp2.1,hp2.2.1,ownsRow_setCell_other (a:=⟨P,0,none⟩) hp2.2.2 (fun e=>hne e) _⟩ (fun k e=>.inl e)
 rw [ht] at this
 exact this
theorem VS.more {l Y P V n0:Nat} {A:Nat→Prop} {J:List Nd→World→Prop} {M:World→Nat→Prop} {pre:List Nd} {d:Nat} {W:World} (h:VS l Y P V n0 A J M pre d W) {B:Nat} (hb:B < W.heap.size) (ho:¬ Oth P M W B):
 VS l Y P V n0 (fun b=>A b∨b=B) J M pre d W:=⟨h.jm,h.nP,h.y,h.v,h.p,h.j,h.oY,h.oV,h.oP,h.oO,fun b hb=>by
 rcases hb with hb|rfl
 · exact h.oA b hb
 · exact ⟨by assumption,ho⟩⟩
theorem VS.less {l Y P V n0:Nat} {A A':Nat→Prop} {J:List Nd→World→Prop} {M:World→Nat→Prop} {pre:List Nd} {d:Nat} {W:World} (h:VS l Y P V n0 A J M pre d W) (ha:∀ b,A' b→A b):
 VS l Y P V n0 A' J M pre d W:=⟨h.jm,h.nP,h.y,h.v,h.p,h.j,h.oY,h.oV,h.oP,h.oO,fun b hb=>h.oA b (ha b hb)⟩
theorem VS.stays {l Y P V n0:Nat} {A:Nat→Prop} {J:List Nd→World→Prop} {M:World→Nat→Prop} {pre:List Nd} {d:Nat} {W W2:World} (h:VS l Y P V n0 A J M pre d W) (hk:KM n0 (Oth P M) W W2):Stays A A W W2:=
 ⟨hk.1.size,fun b hb ha=>⟨(hk.2 b hb (h.oA b ha).2).1,ha⟩⟩
end Go.Proofs.YtpobmoegmdhbpaaGreatDoor
