/- The reference's search, in plain Lean: it makes the same distances and finds the same sequence. -/
import Derived.Test.YtpeiajmgkhajoaaPebT6
namespace Go.Proofs.Ytpeiajmgkhajoaa
set_option linter.unusedVariables false
open Go.RowKit

theorem inStep_shift (n : Nat) (p : Int) (c : Nat) (far : List Int) (q s : List Nat) (i : Nat) : inStep n p c (far, q ++ s) i = ((inStep n p c (far, s) i).1, q ++ (inStep n p c (far, s) i).2) := by
  unfold inStep
  simp only
  split <;> simp
theorem inTo_shift (n : Nat) (p : Int) (c : Nat) (far : List Int) (q s : List Nat) (k : Nat) : inTo n p c (far, q ++ s) k = ((inTo n p c (far, s) k).1, q ++ (inTo n p c (far, s) k).2) := by
  induction k with
  | zero => rfl
  | succ k ih =>
    rw [inTo_succ, inTo_succ, ih]
    generalize inTo n p c (far, s) k = st
    obtain ⟨f, u⟩ := st
    exact inStep_shift n p c f q u k
theorem bfs_next {n : Nat} {p : Int} {t : Nat} {fa : List Int} {c : Nat} {r nx : List Nat} (h : bfs n p t = (fa, c :: r ++ nx)) : bfs n p (t + 1) = ((inTo n p c (fa, nx) (2 * n + 1)).1, r ++ (inTo n p c (fa, nx) (2 * n + 1)).2) := by
  rw [bfs, h, outStep]
  simp only [List.cons_append]
  exact inTo_shift n p c fa r nx (2 * n + 1)

/-- the reference's test: besides, the distance is known -/
def pick2 (n : Nat) (far : List Int) (c i : Nat) : Bool := moveOk c ((i : Int) - n) && decide (0 ≤ nth far (moveTo c ((i : Int) - n))) && (nth far (moveTo c ((i : Int) - n)) == wrap64 (nth far c - 1))

theorem pick2_eq {n : Nat} {far : List Int} {c i : Nat} (h1 : 1 ≤ nth far c) (h2 : nth far c ≤ 1000) : pick2 n far c i = pick n far c i := by
  rw [pick2, pick]
  cases moveOk c ((i : Int) - n) with
  | false => rfl
  | true =>
    cases h : (nth far (moveTo c ((i : Int) - n)) == wrap64 (nth far c - 1)) with
    | false => simp
    | true =>
      have e : nth far (moveTo c ((i : Int) - n)) = wrap64 (nth far c - 1) := by simpa using h
      rw [IntWalk.wrap64_in _ (by omega)] at e
      have : decide (0 ≤ nth far (moveTo c ((i : Int) - n))) = true := decide_eq_true (by omega)
      rw [this]; rfl

theorem zeros_use {n : Nat} {far : List Int} (h : zeros n far = true) {c : Nat} (hc : c < 2 ^ n) : (nth far c = 0 → c = 2 ^ (n - 1)) ∧ nth far c ≤ 1000 ∧ -1 ≤ nth far c := by
  have := List.all_eq_true.1 h c (List.mem_range.2 hc)
  simp only [Bool.and_eq_true, Bool.or_eq_true, decide_eq_true_eq] at this
  refine ⟨fun h0 => ?_, this.1.2, this.2⟩
  rcases this.1.1 with h1 | h1
  · rw [h0] at h1; simp at h1
  · simpa using h1

/-- on the way the distance is known -/
theorem gr_known {n : Nat} (hn : 1 ≤ n) {far : List Int} (hz : zeros n far = true) (h0 : 0 ≤ nth far 0) (t : Nat) : 0 ≤ nth far (gr n far t).2 := by
  induction t with
  | zero => exact h0
  | succ t ih =>
    rw [gr, gStep]
    split
    · exact ih
    · next hne =>
      have hzc := zeros_use hz (gr_lt hn far t)
      split
      · next i h =>
        have hp := List.find?_some h
        simp only [pick, Bool.and_eq_true, beq_iff_eq] at hp
        have hpos : nth far (gr n far t).2 ≠ 0 := fun e => hne (hzc.1 e)
        rw [IntWalk.wrap64_in _ (by omega)] at hp
        simp only
        rw [hp.2]; omega
      · exact ih
theorem zeros_p {n : Nat} {p : Int} (h1 : 1 ≤ n) (h2 : n ≤ 8) (hp : 1 ≤ p) : zeros n (farOf n p) = true := by
  have hc := cap_ok (p := p) h1 hp
  have ht := (tabs n (cap n p) h1 h2 hc.1 hc.2).2.2.2.1
  rw [farOf_p h1 hp]
  exact (Bool.and_eq_true_iff.1 ht).2
end Go.Proofs.Ytpeiajmgkhajoaa
