/- A range over a function whose iterator keeps a state of its own: the law of the caller. -/
import Derived.RangeFuncRecord
import Derived.RangeFuncSeq
import Derived.Below
import Derived.Test.YtehmmokkjojggabGreatDoorPTmp0
namespace Go.Proofs.YtehmmokkjojggabGreatDoor
set_option linter.unusedVariables false
set_option linter.unusedSimpArgs false
open Go.RowKit

/-- the blocks of the set are the same, nothing below n0 turns -/
def SameM (n0 : Nat) (M : World → Nat → Prop) (W W' : World) : Prop := Below n0 W W' ∧ ∀ b, M W b → W'.heap[b]? = W.heap[b]?
/-- J holds on as long as its own blocks are the same -/
structure JM (n0 : Nat) (J : List Nd → World → Prop) (M : World → Nat → Prop) : Prop where
  lt : ∀ pre W b, J pre W → M W b → b < W.heap.size
  stay : ∀ pre W W', J pre W → SameM n0 M W W' → J pre W' ∧ ∀ b, M W' b → M W b
/-- whatever lies outside of the set lies on, and outside of it -/
def KM (n0 : Nat) (M : World → Nat → Prop) (W W' : World) : Prop := Below n0 W W' ∧ ∀ b, b < W.heap.size → ¬ M W b → W'.heap[b]? = W.heap[b]? ∧ ¬ M W' b
theorem KM.refl (n0 : Nat) (M : World → Nat → Prop) (W : World) : KM n0 M W W := ⟨Below.refl _ _, fun _ _ h => ⟨rfl, h⟩⟩
theorem KM.trans {n0 : Nat} {M : World → Nat → Prop} {a b c : World} (h : KM n0 M a b) (k : KM n0 M b c) : KM n0 M a c :=
  ⟨h.1.trans k.1, fun i hi hm => by
    obtain ⟨e1, m1⟩ := h.2 i hi hm
    obtain ⟨e2, m2⟩ := k.2 i (Nat.lt_of_lt_of_le hi h.1.size) m1
    exact ⟨e2.trans e1, m2⟩⟩

theorem room_w (k : Nat) : Fence.wide.room k := room_wide _
theorem round_any {m m' : Nat} {P : Program} {l : Nat} {f : FuncId} {tmps : Array Value} {assign body : Code} {w : World} {R : Ending → World → Prop}
    (h : RoundIn Fence.wide m P l f tmps assign body w R) : RoundIn Fence.wide m' P l f tmps assign body w R := ⟨h.1, fun c cs _ => h.2 c cs (room_wide _)⟩
theorem yield_any {m : Nat} (m' : Nat) {P : Program} {l : Nat} {args : Array Value} {W : World} {R : Ending → World → Prop} (h : YieldAt Fence.wide m P l args W R) : YieldAt Fence.wide m' P l args W R := by
  obtain ⟨fn, tmps, assign, body, hy, hR⟩ := h
  exact ⟨fn, tmps, assign, body, hy, round_any hR⟩
theorem yield_mono {m : Nat} {P : Program} {l : Nat} {args : Array Value} {W : World} {R R' : Ending → World → Prop} (h : YieldAt Fence.wide m P l args W R) (hr : ∀ e w, R e w → R' e w) : YieldAt Fence.wide m P l args W R' := by
  obtain ⟨fn, tmps, assign, body, hy, hR⟩ := h
  exact ⟨fn, tmps, assign, body, hy, hR.mono hr⟩

/-- what a round is handed: the path, the node, its kids -/
abbrev Hand := Value × Nd × Option Addr × Nat
def hands (x : Hand) : Array Value := #[x.1, .agg #[.int .u8 x.2.1.kind, .int .i64 x.2.1.num, .string x.2.1.name, .slice x.2.2.1 x.2.1.kids.length x.2.2.2]]

/-- the iterator's contract: every node of the list comes, in order -/
def Gives (P : Program) (n0 : Nat) (gf : Nat) (lb : Array Value) (A : Nat → Prop) (w : World) (xs : List Nd) : Prop :=
  ∀ (l : Nat) (W : World) (J : List Nd → World → Prop) (M : World → Nat → Prop), JM n0 J M → Below w.heap.size w W → (∀ b, A b → ¬ M W b) →
    (∀ pre (x : Hand) W1, J pre W1 → pre ++ [x.2.1] <+: xs → YieldAt Fence.wide 9 P l (hands x) W1 fun e W' => e = .returned (.bool true) ∧ J (pre ++ [x.2.1]) W' ∧ KM n0 M W1 W') →
    J [] W → CallsIn Fence.wide 9 P gf (#[.func (.yield l) #[] #[]] ++ lb) W fun e W' => (∃ v, e = .returned v) ∧ J xs W'

def _root_.Go.Obj.isCl : Obj → Bool
  | .cells .. => true
  | _ => false
theorem put_below {n0 : Nat} (W : World) {l : Nat} (o : Obj) (h : n0 ≤ l) : Below n0 W (W.putObj l o) := ⟨rfl, rfl, rfl, by simp, fun k hk => World.putObj_heap_other (by omega)⟩
theorem depth_wide (k : Nat) : Fence.wide.depth.isSome = true → 1 ≤ k := by intro h; simp [Fence.wide] at h

theorem wp_range_gives {P : Program} {g : Operand} {ps : Array Tmp} {assign body : Code} {Q : Exit → Act → World → Prop} {a : Act} {w : World} {n0 : Nat} (hn0 : n0 ≤ w.heap.size)
    {gf : Nat} {lb : Array Value} (hg : a.eval g = .func (.func gf) #[] lb) (eg : ∀ args w, (callFunc gf args).run P w = .ok (.enter gf args) w)
    {A : Nat → Prop} {xs : List Nd} (hgives : Gives P n0 gf lb A w xs) (hps : ps.size = 2)
    (I : List Nd → World → Prop) (MB : World → Nat → Prop) (hI : JM n0 I MB) (hcells : ∀ pre W b, I pre W → MB W b → ∃ o : Obj, W.heap[b]? = some o ∧ o.isCl = true)
    (h0 : I [] w) (hA : ∀ b, A b → b < w.heap.size ∧ ¬ MB w b) (Ax : Hand → Act → World → Prop)
    (hAx : ∀ x a1 (W : World) (l : Nat) (o o' : Obj), Ax x a1 W → W.heap[l]? = some o → o.isCl = false → Ax x a1 (W.putObj l o'))
    (hassign : ∀ (l : Nat) (x : Hand) (W : World) (K : Act → World → Prop), (∀ a1 W1, Ax x a1 W1 → Below W.heap.size W W1 → K a1 W1) →
      assign.wpIn (Fence.wide.inRound l) 9 P (Exit.then K (fun _ _ _ => False)) { tmps := (ps.zip (hands x)).foldl (fun t (p, v) => t.setIfInBounds p v) a.tmps, defers := [] } W)
    (hbody : ∀ (l : Nat) (pre : List Nd) (x : Hand) (a1 : Act) (W : World), I pre W → pre ++ [x.2.1] <+: xs → Ax x a1 W → body.wpIn (Fence.wide.inRound l) 9 P (fun e _ W' => e = .normal ∧ I (pre ++ [x.2.1]) W' ∧ KM n0 MB W W') a1 W)
    (hdone : ∀ (D : Nat) (W : World), n0 ≤ D → I xs W → W.heap[D]? = some (.deferred (some [])) → Q .normal { a with defers := { target := .collected D, args := #[] } :: a.defers } W) :
    (Code.rangeFunc g ps assign body).wp P Q a w := by
  refine wpIn_wide (n := 11).1 (wpIn_rangeFunc ?_)
  intro fn hfn
  rw [Fence.wide_round]
  obtain ⟨rec, hrec⟩ : ∃ rec : LoopState → Option Code → Loop, rec = fun st pe => { state := st, pending := pe, fn, tmps := a.tmps, params := ps, assign, body, defers := w.heap.size } := ⟨_, rfl⟩
  obtain ⟨W1, hW1⟩ : ∃ W1, (w.alloc (.deferred (some []))).alloc (.loop (rec .ready none)) = W1 := ⟨_, rfl⟩
  have hL1 : W1.heap[w.heap.size + 1]? = some (.loop (rec .ready none)) := by
    rw [← hW1]; have := World.alloc_heap_new (w.alloc (.deferred (some []))) (.loop (rec .ready none)); rwa [World.size_alloc] at this
  have hK1 : W1.heap[w.heap.size]? = some (.deferred (some [])) := by
    rw [← hW1]; exact (Below.heap_alloc _ _ _ (by simp)).trans (World.alloc_heap_new w _)
  have hb1 : Below w.heap.size w W1 := by
    rw [← hW1]; exact ((Below.refl _ w).alloc (Nat.le_refl _) _).alloc (by simp) _
  have hbn : Below n0 w W1 := hb1.mono hn0
  obtain ⟨hI1, hM1⟩ := hI.stay [] w W1 h0 ⟨hbn, fun b hb => hb1.block b (hI.lt _ _ _ h0 hb)⟩
  refine ⟨w.heap.size + 1, [{ target := .collected w.heap.size, args := #[] }], W1, { target := .fn (.func gf) lb, args := #[.func (.yield (w.heap.size + 1)) #[] #[]] }, W1, gf,
    #[.func (.yield (w.heap.size + 1)) #[] #[]] ++ lb, W1, ?_, ?_, ?_, ?_, depth_wide _, ?_⟩
  · rw [← hW1, hrec]; exact run_enterLoop_outer _ _ _ _ _
  · simp only [resolve, hg]
    simp [go_sem]
  · intro f' _; exact trivial
  · simp [invoke, go_sem, eg]
  · have hne : ∀ pre W b o, I pre W → MB W b → W.heap[b]? = some o → o.isCl = true := fun pre W b o hi hm ho => by
      obtain ⟨o', h1, h2⟩ := hcells pre W b hi hm
      rw [h1] at ho; cases ho; exact h2
    have hput : ∀ pre (W : World) (l : Nat) (o o' : Obj), I pre W → n0 ≤ l → W.heap[l]? = some o → o.isCl = false → I pre (W.putObj l o') ∧ ∀ b, MB (W.putObj l o') b → MB W b := fun pre W l o o' hi hl ho hc =>
      hI.stay pre W _ hi ⟨put_below W o' hl, fun b hb => World.putObj_heap_other (fun e => by
        subst e
        have := hne pre W _ o hi hb ho
        rw [hc] at this; cases this)⟩
    have hcall := hgives (w.heap.size + 1) W1
      (fun pre W => I pre W ∧ W.heap[w.heap.size + 1]? = some (.loop (rec .ready none)) ∧ W.heap[w.heap.size]? = some (.deferred (some [])))
      (fun W b => MB W b ∨ b = w.heap.size ∨ b = w.heap.size + 1)
      ⟨fun pre W b hj hb => by
        rcases hb with hb | rfl | rfl
        · exact hI.lt _ _ _ hj.1 hb
        · exact (Array.getElem?_eq_some_iff.1 hj.2.2).1
        · exact (Array.getElem?_eq_some_iff.1 hj.2.1).1,
       fun pre W W' hj hs => by
        obtain ⟨h1, h2⟩ := hI.stay pre W W' hj.1 ⟨hs.1, fun b hb => hs.2 b (.inl hb)⟩
        exact ⟨⟨h1, (hs.2 _ (.inr (.inr rfl))).trans hj.2.1, (hs.2 _ (.inr (.inl rfl))).trans hj.2.2⟩, fun b hb => hb.imp (h2 b) id⟩⟩
      hb1 (fun b hb hm => by
        obtain ⟨q1, q2⟩ := hA b hb
        rcases hm with hm | rfl | rfl
        · exact q2 (hM1 b hm)
        · omega
        · omega) ?_ ⟨hI1, hL1, hK1⟩
    · refine (callsIn_wide.2 (callsIn_wide.1 hcall)).mono ?_
      rintro e W2 ⟨⟨v, rfl⟩, hi, hl, hk⟩
      obtain ⟨hi2, _⟩ := hput _ W2 (w.heap.size + 1) _ (.loop { rec .ready none with state := .exhausted }) hi (by omega) hl rfl
      exact ⟨none, _, by have := run_endLoop (P := P) hl (by rw [hrec]; simp); rw [hrec] at this ⊢; exact this, hdone _ _ hn0 hi2 ((World.putObj_heap_other (by omega)).trans hk)⟩
    · rintro pre x Wo ⟨hio, hlo, hko⟩ hpx
      have hy := run_yield (P := P) (args := hands x) hlo (by rw [hrec]; exact hps.symm)
      rw [hrec] at hy
      refine ⟨fn, _, assign, body, hy, roundIn_of_wpIn trivial (hassign _ x Wo _ ?_)⟩
      intro a1 W hax hbel
      have hl : W.heap[w.heap.size + 1]? = some (.loop (rec .ready none)) := (hbel.block _ (Array.getElem?_eq_some_iff.1 hlo).1).trans hlo
      have hk : W.heap[w.heap.size]? = some (.deferred (some [])) := (hbel.block _ (Array.getElem?_eq_some_iff.1 hko).1).trans hko
      have hno : n0 ≤ Wo.heap.size := by have := (Array.getElem?_eq_some_iff.1 hko).1; omega
      obtain ⟨hi, hmo⟩ := hI.stay pre Wo W hio ⟨hbel.mono hno, fun b hb => hbel.block b (hI.lt _ _ _ hio hb)⟩
      have hKo : KM n0 (fun W b => MB W b ∨ b = w.heap.size ∨ b = w.heap.size + 1) Wo W := ⟨hbel.mono hno, fun b hb hm => ⟨hbel.block b hb, fun h => hm (h.imp (hmo b) id)⟩⟩
      refine ⟨_, run_beginRound hl (by rw [hrec]), ?_⟩
      have hlt : w.heap.size + 1 < W.heap.size := (Array.getElem?_eq_some_iff.1 hl).1
      obtain ⟨W2, hW2⟩ : ∃ W2, W.putObj (w.heap.size + 1) (.loop { rec .ready none with state := .busy }) = W2 := ⟨_, rfl⟩
      have hl2 : W2.heap[w.heap.size + 1]? = some (.loop { rec .ready none with state := .busy }) := by rw [← hW2]; exact World.putObj_heap_same hlt
      have hk2 : W2.heap[w.heap.size]? = some (.deferred (some [])) := by rw [← hW2]; exact (World.putObj_heap_other (by omega)).trans hk
      obtain ⟨hi2, hm2⟩ := hput _ W (w.heap.size + 1) _ (.loop { rec .ready none with state := .busy }) hi (by omega) hl rfl
      have hax2 := hAx x a1 W (w.heap.size + 1) _ (.loop { rec .ready none with state := .busy }) hax hl rfl
      rw [hW2] at hi2 hm2 hax2 ⊢
      have hsz2 : W2.heap.size = W.heap.size := by rw [← hW2]; simp
      have hbe2 : Below n0 W W2 := by rw [← hW2]; exact put_below W _ (by omega)
      have hot2 : ∀ b, b ≠ w.heap.size + 1 → W2.heap[b]? = W.heap[b]? := fun b hb => by rw [← hW2]; exact World.putObj_heap_other hb
      refine wpIn_mono (hbody _ pre x a1 W2 hi2 hpx hax2) ?_
      rintro e a3 W3 ⟨rfl, hi3, hk3⟩
      have nl : ¬ MB W2 (w.heap.size + 1) := fun hm => by have := hne _ W2 _ _ hi2 hm hl2; cases this
      have nk : ¬ MB W2 w.heap.size := fun hm => by have := hne _ W2 _ _ hi2 hm hk2; cases this
      have hl3 : W3.heap[w.heap.size + 1]? = some (.loop { rec .ready none with state := .busy }) := ((hk3.2 _ (by omega) nl).1).trans hl2
      have hk4 : W3.heap[w.heap.size]? = some (.deferred (some [])) := ((hk3.2 _ (by omega) nk).1).trans hk2
      obtain ⟨hi4, hm4⟩ := hput _ W3 (w.heap.size + 1) _ (.loop (rec .ready none)) hi3 (by omega) hl3 rfl
      have hend := run_endRound (P := P) none hl3
      refine ⟨_, _, by rw [hrec] at hend ⊢; exact hend, rfl, ⟨hi4, World.putObj_heap_same (Array.getElem?_eq_some_iff.1 hl3).1, (World.putObj_heap_other (by omega)).trans hk4⟩, hKo.trans ⟨?_, ?_⟩⟩
      · exact (hbe2.trans hk3.1).trans (put_below W3 _ (by omega))
      · intro b hb hm
        have h1 : b ≠ w.heap.size + 1 := fun e => hm (.inr (.inr e))
        have h2 : b ≠ w.heap.size := fun e => hm (.inr (.inl e))
        have h3 : ¬ MB W2 b := fun e => hm (.inl (hm2 b e))
        obtain ⟨e3, m3⟩ := hk3.2 b (by omega) h3
        refine ⟨(World.putObj_heap_other h1).trans (e3.trans (hot2 b h1)), fun h => ?_⟩
        rcases h with h | h | h
        · exact m3 (hm4 b h)
        · exact h2 h
        · exact h1 h
end Go.Proofs.YtehmmokkjojggabGreatDoor
