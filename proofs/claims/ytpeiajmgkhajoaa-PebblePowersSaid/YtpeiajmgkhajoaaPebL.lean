/- The rules of the game, in plain Lean. -/
import Derived.Test.YtpeiajmgkhajoaaPebP
namespace Go.Proofs.Ytpeiajmgkhajoaa
set_option linter.unusedVariables false

/-- the pebble on a node: the configuration holds a bool for each node from 0 to n -/
def onAt (on : List Bool) (j : Nat) : Bool := on[j]?.getD false
def lgOk (n : Int) (on : List Bool) (m : Int) : Bool :=
  decide (1 ≤ m.natAbs) && decide ((m.natAbs : Int) ≤ n) && (decide (m.natAbs = 1) || onAt on (m.natAbs - 1)) && (onAt on m.natAbs != decide (0 < m))
def lgStep (on : List Bool) (m : Int) : List Bool := on.set m.natAbs (decide (0 < m))
def cnt (on : List Bool) : Nat := on.countP id
def complete (n : Int) (on : List Bool) : Bool := decide (cnt on = 1) && (decide (0 ≤ n) && onAt on n.toNat)
/-- the rest of the moves, from the move with number k on -/
def lgGo (n : Int) : List Bool → List Int → Nat → Nat × Bool
  | on, [], k => (k, complete n on)
  | on, m :: l, k => if lgOk n on m then lgGo n (lgStep on m) l (k + 1) else (k, false)
def on0 (n : Int) : List Bool := List.replicate (n.toNat + 1) false
def legalM (n : Int) (l : List Int) : Nat × Bool := lgGo n (on0 n) l 0

theorem onAt_set (on : List Bool) (j i : Nat) (b : Bool) (h : j < on.length) : onAt (on.set j b) i = if i = j then b else onAt on i := by
  unfold onAt
  rw [List.getElem?_set]
  by_cases e : j = i
  · subst e; simp [h]
  · rw [if_neg e, if_neg (fun h => e h.symm)]
theorem cnt_set_true (on : List Bool) (j : Nat) (h : j < on.length) (hj : onAt on j = false) : cnt (on.set j true) = cnt on + 1 := by
  unfold cnt onAt at *
  induction on generalizing j with
  | nil => simp at h
  | cons b on ih =>
    cases j with
    | zero => simp at hj; subst hj; simp
    | succ j =>
      simp only [List.set_cons_succ, List.countP_cons]
      rw [ih j (by simpa using h) (by simpa using hj)]; omega
theorem cnt_set_false (on : List Bool) (j : Nat) (h : j < on.length) (hj : onAt on j = true) : cnt (on.set j false) + 1 = cnt on := by
  unfold cnt onAt at *
  induction on generalizing j with
  | nil => simp at h
  | cons b on ih =>
    cases j with
    | zero => simp at hj; subst hj; simp
    | succ j =>
      simp only [List.set_cons_succ, List.countP_cons]
      have := ih j (by simpa using h) (by simpa using hj); omega
theorem onAt_past (on : List Bool) (j : Nat) (h : on.length ≤ j) : onAt on j = false := by simp [onAt, h]
theorem cnt_le (on : List Bool) : cnt on ≤ on.length := List.countP_le_length
theorem lgOk_bd {n : Int} {on : List Bool} {m : Int} (h : lgOk n on m = true) : 1 ≤ m.natAbs ∧ (m.natAbs : Int) ≤ n := by
  simp [lgOk] at h; omega
end Go.Proofs.Ytpeiajmgkhajoaa
