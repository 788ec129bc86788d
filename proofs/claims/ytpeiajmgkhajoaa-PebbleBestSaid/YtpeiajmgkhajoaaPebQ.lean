/- The search of Best, in plain Lean. -/
import Derived.Test.YtpeiajmgkhajoaaPebP
namespace Go.Proofs.Ytpeiajmgkhajoaa
set_option linter.unusedVariables false
open Go.RowKit

/-- the bit of a move -/
def bitOf (m : Int) : Nat := 2 ^ (m.natAbs - 1)
def moveOk (c : Nat) (m : Int) : Bool :=
  !(m == 0) && !(decide (1 < m.natAbs) && (c &&& (bitOf m / 2)) == 0) && !(((c &&& bitOf m) != 0) == decide (0 < m))
def moveTo (c : Nat) (m : Int) : Nat := if moveOk c m then c ^^^ bitOf m else 0
/-- the number of ones among the lowest bits -/
def pop : Nat → Nat → Nat
  | 0, _ => 0
  | f + 1, c => c % 2 + pop f (c / 2)

def inStep (n : Nat) (p : Int) (c : Nat) (s : List Int × List Nat) (i : Nat) : List Int × List Nat :=
  if moveOk c ((i : Int) - n) && decide (nth s.1 (moveTo c ((i : Int) - n)) < 0) && decide ((pop 12 (moveTo c ((i : Int) - n)) : Int) ≤ p)
  then (s.1.set (moveTo c ((i : Int) - n)) (wrap64 (nth s.1 c + 1)), s.2 ++ [moveTo c ((i : Int) - n)]) else s
def inTo (n : Nat) (p : Int) (c : Nat) (s : List Int × List Nat) (k : Nat) : List Int × List Nat := (List.range k).foldl (inStep n p c) s
def outStep (n : Nat) (p : Int) (s : List Int × List Nat) : List Int × List Nat :=
  match s.2 with
  | [] => s
  | c :: q => inTo n p c (s.1, q) (2 * n + 1)
def bfs (n : Nat) (p : Int) : Nat → List Int × List Nat
  | 0 => ((List.replicate (2 ^ n) (-1)).set (2 ^ (n - 1)) 0, [2 ^ (n - 1)])
  | t + 1 => outStep n p (bfs n p t)

/-- the reference's move: -1 where it is not legal -/
def afterTo (n c : Nat) (m : Int) : Int := if m.natAbs ≤ n ∧ moveOk c m = true then ((c ^^^ bitOf m : Nat) : Int) else -1


theorem bitOf_lt {n : Nat} {m : Int} (h : m.natAbs ≤ n) (h0 : m ≠ 0) : bitOf m < 2 ^ n := by
  unfold bitOf
  exact Nat.pow_lt_pow_right (by decide) (by omega)
theorem moveOk_ne {c : Nat} {m : Int} (h : moveOk c m = true) : m ≠ 0 := by
  rintro rfl
  simp [moveOk] at h
theorem moveTo_lt {n c : Nat} {m : Int} (hc : c < 2 ^ n) (hm : m.natAbs ≤ n) : moveTo c m < 2 ^ n := by
  unfold moveTo
  split
  · exact Nat.xor_lt_two_pow hc (bitOf_lt hm (moveOk_ne ‹_›))
  · exact Nat.lt_of_le_of_lt (Nat.zero_le _) hc

/-- the states of the search -/
def Inv (n : Nat) (s : List Int × List Nat) : Prop := s.1.length = 2 ^ n ∧ Fits s.1 ∧ ∀ c ∈ s.2, c < 2 ^ n

theorem fits_set {l : List Int} {j : Nat} {x : Int} (h : Fits l) (hx : -9223372036854775808 ≤ x ∧ x ≤ 9223372036854775807) : Fits (l.set j x) := fun y hy => by
  rcases List.mem_or_eq_of_mem_set hy with h' | rfl
  · exact h y h'
  · exact hx
theorem wrap64_fits (x : Int) : -9223372036854775808 ≤ wrap64 x ∧ wrap64 x ≤ 9223372036854775807 := by unfold wrap64; omega

theorem inStep_inv {n : Nat} {p : Int} {c : Nat} {s : List Int × List Nat} {i : Nat} (hc : c < 2 ^ n) (hi : i ≤ 2 * n) (h : Inv n s) : Inv n (inStep n p c s i) := by
  unfold inStep
  split
  · refine ⟨by simpa using h.1, fits_set h.2.1 (wrap64_fits _), fun d hd => ?_⟩
    rcases List.mem_append.1 hd with hd | hd
    · exact h.2.2 d hd
    · simp at hd; subst hd; exact moveTo_lt hc (by omega)
  · exact h
theorem inTo_succ (n : Nat) (p : Int) (c : Nat) (s : List Int × List Nat) (k : Nat) : inTo n p c s (k + 1) = inStep n p c (inTo n p c s k) k := by
  simp [inTo, List.range_succ, List.foldl_append]
theorem inTo_inv {n : Nat} {p : Int} {c : Nat} {s : List Int × List Nat} {k : Nat} (hc : c < 2 ^ n) (hk : k ≤ 2 * n + 1) (h : Inv n s) : Inv n (inTo n p c s k) := by
  induction k with
  | zero => exact h
  | succ k ih => rw [inTo_succ]; exact inStep_inv hc (by omega) (ih (by omega))
theorem inStep_len (n : Nat) (p : Int) (c : Nat) (s : List Int × List Nat) (i : Nat) : (inStep n p c s i).2.length ≤ s.2.length + 1 := by
  unfold inStep; split <;> simp
theorem inTo_len (n : Nat) (p : Int) (c : Nat) (s : List Int × List Nat) (k : Nat) : (inTo n p c s k).2.length ≤ s.2.length + k := by
  induction k with
  | zero => simp [inTo]
  | succ k ih => rw [inTo_succ]; have := inStep_len n p c (inTo n p c s k) k; omega
theorem bfs_inv {n : Nat} (hn : 1 ≤ n) (p : Int) (t : Nat) : Inv n (bfs n p t) := by
  induction t with
  | zero =>
    refine ⟨by simp [bfs], fits_set (fun x hx => by simp at hx; omega) (by omega), fun c hc => ?_⟩
    simp [bfs] at hc; subst hc
    exact Nat.pow_lt_pow_right (by decide) (by omega)
  | succ t ih =>
    rw [bfs, outStep]
    split
    · exact ih
    · next c q h =>
      exact inTo_inv (ih.2.2 c (by rw [h]; simp)) (Nat.le_refl _) ⟨ih.1, ih.2.1, fun d hd => ih.2.2 d (by rw [h]; simp [hd])⟩
theorem bfs_len (n : Nat) (p : Int) (t : Nat) : (bfs n p t).2.length ≤ 1 + (2 * n + 1) * t := by
  induction t with
  | zero => simp [bfs]
  | succ t ih =>
    rw [bfs, outStep, Nat.mul_succ]
    split
    · omega
    · next c q h =>
      have := inTo_len n p c ((bfs n p t).1, q) (2 * n + 1)
      rw [h] at ih; simp at ih this; omega
/-- once nothing is left to do, nothing changes -/
theorem bfs_stays {n : Nat} {p : Int} {t u : Nat} (h : (bfs n p t).2 = []) (htu : t ≤ u) : bfs n p u = bfs n p t := by
  induction u with
  | zero => obtain rfl : t = 0 := by omega
            rfl
  | succ u ih =>
    by_cases e : t = u + 1
    · rw [e]
    · have := ih (by omega)
      rw [bfs, this, outStep]; simp [h]

/-- the move with number i leads one step nearer -/
def pick (n : Nat) (far : List Int) (c i : Nat) : Bool := moveOk c ((i : Int) - n) && (nth far (moveTo c ((i : Int) - n)) == wrap64 (nth far c - 1))
def gFind (n : Nat) (far : List Int) (c : Nat) : Option Nat := (List.range (2 * n + 1)).find? (pick n far c)
def gStep (n : Nat) (far : List Int) (s : List Int × Nat) : List Int × Nat :=
  if s.2 = 2 ^ (n - 1) then s else
  match gFind n far s.2 with
  | some i => (s.1 ++ [(i : Int) - n], moveTo s.2 ((i : Int) - n))
  | none => s
def gr (n : Nat) (far : List Int) : Nat → List Int × Nat
  | 0 => ([], 0)
  | t + 1 => gStep n far (gr n far t)

def farOf (n : Nat) (p : Int) : List Int := (bfs n p (2 ^ n)).1
/-- the search ends, and so does the way back -/
def Good (n : Nat) (p : Int) : Prop := (bfs n p (2 ^ n)).2 = [] ∧ (0 ≤ nth (farOf n p) 0 → (gr n (farOf n p) 100).2 = 2 ^ (n - 1) ∧ ∀ t, t < 100 → (gr n (farOf n p) t).2 ≠ 2 ^ (n - 1) → (gFind n (farOf n p) (gr n (farOf n p) t).2).isSome = true)
def bestOk (n : Nat) (p : Int) : Bool := decide (0 ≤ nth (farOf n p) 0)
def bestL (n : Nat) (p : Int) : List Int := if nth (farOf n p) 0 < 0 then [] else (gr n (farOf n p) 100).1

theorem gFind_none {n : Nat} {far : List Int} {c k : Nat} (h : ∀ j, j < k → pick n far c j = false) (hk : 2 * n + 1 ≤ k) : gFind n far c = none := by
  rw [gFind, List.find?_eq_none]
  intro j hj
  rw [List.mem_range] at hj
  simp [h j (by omega)]
theorem gFind_some {n : Nat} {far : List Int} {c k : Nat} (h : ∀ j, j < k → pick n far c j = false) (hk : k < 2 * n + 1) (hp : pick n far c k = true) : gFind n far c = some k := by
  rw [gFind, List.find?_eq_some_iff_getElem]
  refine ⟨hp, k, by simpa using hk, by simp, fun j hj => ?_⟩
  simp [h j hj]
theorem gr_lt {n : Nat} (hn : 1 ≤ n) (far : List Int) (t : Nat) : (gr n far t).2 < 2 ^ n := by
  induction t with
  | zero => exact Nat.pow_pos (by decide)
  | succ t ih =>
    rw [gr, gStep]
    split
    · exact ih
    · split
      · next i h =>
        have := List.mem_of_find?_eq_some h
        rw [List.mem_range] at this
        exact moveTo_lt ih (by omega)
      · exact ih
theorem gr_stays {n : Nat} {far : List Int} {t u : Nat} (h : (gr n far t).2 = 2 ^ (n - 1)) (htu : t ≤ u) : gr n far u = gr n far t := by
  induction u with
  | zero => obtain rfl : t = 0 := by omega
            rfl
  | succ u ih =>
    by_cases e : t = u + 1
    · rw [e]
    · have := ih (by omega)
      rw [gr, this, gStep, if_pos h]
theorem gr_len (n : Nat) (far : List Int) (t : Nat) : (gr n far t).1.length ≤ t := by
  induction t with
  | zero => simp [gr]
  | succ t ih =>
    rw [gr, gStep]
    split
    · omega
    · split
      · simp; omega
      · omega

end Go.Proofs.Ytpeiajmgkhajoaa
