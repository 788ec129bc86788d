/- The search of Best: what the kernel reckons. -/
import Derived.Test.YtpeiajmgkhajoaaPebQ
namespace Go.Proofs.Ytpeiajmgkhajoaa
set_option linter.unusedVariables false
open Go.RowKit

/-- the way back ends within so many steps -/
def runs (n : Nat) (far : List Int) : Nat → Nat → Bool
  | 0, c => c == 2 ^ (n - 1)
  | f + 1, c => c == 2 ^ (n - 1) || match gFind n far c with
    | none => false
    | some i => runs n far f (moveTo c ((i : Int) - n))

theorem runs_good {n : Nat} {far : List Int} {f t : Nat} (h : runs n far f (gr n far t).2 = true) :
    (gr n far (t + f)).2 = 2 ^ (n - 1) ∧ ∀ u, t ≤ u → u < t + f → (gr n far u).2 ≠ 2 ^ (n - 1) → (gFind n far (gr n far u).2).isSome = true := by
  induction f generalizing t with
  | zero => exact ⟨by simpa [runs] using h, fun u h1 h2 => by omega⟩
  | succ f ih =>
    by_cases hg : (gr n far t).2 = 2 ^ (n - 1)
    · have := fun u (hu : t ≤ u) => gr_stays hg hu
      refine ⟨by rw [this (t + (f + 1)) (by omega)]; exact hg, fun u h1 h2 hne => ?_⟩
      rw [this u h1] at hne; exact absurd hg hne
    · have hb : ((gr n far t).2 == 2 ^ (n - 1)) = false := by simpa using hg
      rw [runs, hb, Bool.false_or] at h
      cases hf : gFind n far (gr n far t).2 with
      | none => rw [hf] at h; simp at h
      | some i =>
        rw [hf] at h
        simp only at h
        have e : (gr n far (t + 1)).2 = moveTo (gr n far t).2 ((i : Int) - n) := by
          rw [gr, gStep, if_neg hg, hf]
        rw [← e] at h
        have := ih (t := t + 1) h
        rw [show t + 1 + f = t + (f + 1) by omega] at this
        refine ⟨this.1, fun u h1 h2 hne => ?_⟩
        by_cases eu : u = t
        · rw [eu, hf]; rfl
        · exact this.2 u (by omega) h2 hne

theorem good_of {n : Nat} {p : Int} (h1 : (bfs n p (2 ^ n)).2 = []) (h2 : (decide (nth (farOf n p) 0 < 0) || runs n (farOf n p) 100 0) = true) : Good n p := by
  refine ⟨h1, fun h0 => ?_⟩
  have hd : decide (nth (farOf n p) 0 < 0) = false := by simpa using h0
  rw [hd, Bool.false_or] at h2
  have := runs_good (t := 0) (f := 100) h2
  rw [Nat.zero_add] at this
  exact ⟨this.1, fun t ht => this.2 t (by omega) ht⟩

set_option maxRecDepth 100000 in
theorem good22 : Good 2 2 := good_of (by decide +kernel) (by decide +kernel)
set_option maxRecDepth 100000 in
theorem good32 : Good 3 2 := good_of (by decide +kernel) (by decide +kernel)
set_option maxRecDepth 100000 in
theorem best22 : bestL 2 2 = [1, 2, -1] ∧ bestOk 2 2 = true ∧ bestOk 3 2 = false ∧ bestL 3 2 = [] := by decide +kernel
theorem strat42 : strat 4 2 0 4 = [1, 2, -1, 3, 4, -3, 1, -2, -1] := by decide +kernel

theorem pop_pow (f n c : Nat) (h : c < 2 ^ n) : pop f c ≤ n := by
  induction f generalizing n c with
  | zero => simp [pop]
  | succ f ih =>
    rw [pop]
    cases n with
    | zero => 
      have : c = 0 := by simpa using h
      subst this
      have := ih 0 0 (by simp)
      simpa using this
    | succ n =>
      have := ih n (c / 2) (by rw [Nat.pow_succ] at h; omega)
      omega

/-- more pebbles than nodes are of no use -/
theorem inStep_cap {n : Nat} {p : Int} {c : Nat} {s : List Int × List Nat} {i : Nat} (hp : (n : Int) ≤ p) (hc : c < 2 ^ n) (hi : i ≤ 2 * n) : inStep n p c s i = inStep n n c s i := by
  have h := pop_pow 12 n _ (moveTo_lt (n := n) (c := c) (m := (i : Int) - n) hc (by omega))
  have e1 : decide ((pop 12 (moveTo c ((i : Int) - n)) : Int) ≤ p) = true := by simp; omega
  have e2 : decide ((pop 12 (moveTo c ((i : Int) - n)) : Int) ≤ (n : Int)) = true := by simp; omega
  rw [inStep, inStep, e1, e2]
theorem inTo_cap {n : Nat} {p : Int} {c : Nat} {s : List Int × List Nat} {k : Nat} (hp : (n : Int) ≤ p) (hc : c < 2 ^ n) (hk : k ≤ 2 * n + 1) : inTo n p c s k = inTo n n c s k := by
  induction k with
  | zero => rfl
  | succ k ih => rw [inTo_succ, inTo_succ, ih (by omega), inStep_cap hp hc (by omega)]
theorem bfs_cap {n : Nat} (hn : 1 ≤ n) {p : Int} (hp : (n : Int) ≤ p) (t : Nat) : bfs n p t = bfs n n t := by
  induction t with
  | zero => rfl
  | succ t ih =>
    rw [bfs, bfs, ih, outStep, outStep]
    have hinv := bfs_inv hn (n : Int) t
    split
    · rfl
    · next c q h => exact inTo_cap hp (hinv.2.2 c (by rw [h]; simp)) (Nat.le_refl _)
theorem farOf_cap {n : Nat} (hn : 1 ≤ n) {p : Int} (hp : (n : Int) ≤ p) : farOf n p = farOf n n := by rw [farOf, farOf, bfs_cap hn hp]
theorem Good.cap {n : Nat} (hn : 1 ≤ n) {p : Int} (hp : (n : Int) ≤ p) (h : Good n n) : Good n p := by
  rw [Good, farOf_cap hn hp, bfs_cap hn hp]; exact h
theorem best_cap {n : Nat} (hn : 1 ≤ n) {p : Int} (hp : (n : Int) ≤ p) : bestL n p = bestL n n ∧ bestOk n p = bestOk n n := by
  rw [bestL, bestOk, farOf_cap hn hp]; exact ⟨rfl, rfl⟩
end Go.Proofs.Ytpeiajmgkhajoaa
