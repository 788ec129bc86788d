/- The rules of the game, in plain Lean. -/
import Derived.Test.YtpeiajmgkhajoaaPebP
namespace Go.Proofs.Ytpeiajmgkhajoaa
set_option linter.unusedVariables false

/-- the pebble on a node: the configuration holds a bool for each node from 0 to n -/
def onAt (on : List Bool) (j : Nat) : Bool := on[j]?.getD false
def lgOk (n : Int) (on : List Bool) (m : Int) : Bool :=
  decide (1 ≤ m.natAbs) && decide ((m.natAbs : Int) ≤ n) && (decide (m.natAbs = 1) || onAt on (m.natAbs - 1)) && (onAt on m.natAbs != decide (0 < m))
def lgStep (on : List Bool) (m : Int) : List Bool := on.set m.natAbs (decide (0 < m))
def cnt (on : List Bool) : Nat := on.countP id
def complete (n : Int) (on : List Bool) : Bool := decide (cnt on = 1) && (decide (0 ≤ n) && onAt on n.toNat)
/-- the rest of the moves, from the move with number k on -/
def lgGo (n : Int) : List Bool → List Int → Nat → Nat × Bool
  | on, [], k => (k, complete n on)
  | on, m :: l, k => if lgOk n on m then lgGo n (lgStep on m) l (k + 1) else (k, false)
def on0 (n : Int) : List Bool := List.replicate (n.toNat + 1) false
def legalM (n : Int) (l : List Int) : Nat × Bool := lgGo n (on0 n) l 0

theorem onAt_set (on : List Bool) (j i : Nat) (b : Bool) (h : j < on.length) : onAt (on.set j b) i = if i = j then b else onAt on i := by
  unfold onAt
  rw [List.getElem?_set]
  by_cases e : j = i
  · subst e; simp [h]
  · rw [if_neg e, if_neg (fun h => e h.symm)]
theorem cnt_set_true (on : List Bool) (j : Nat) (h : j < on.length) (hj : onAt on j = false) : cnt (on.set j true) = cnt on + 1 := by
  unfold cnt onAt at *
  induction on generalizing j with
  | nil => simp at h
  | cons b on ih =>
    cases j with
    | zero => simp at hj; subst hj; simp
    | succ j =>
      simp only [List.set_cons_succ, List.countP_cons]
      rw [ih j (by simpa using h) (by simpa using hj)]; omega
theorem cnt_set_false (on : List Bool) (j : Nat) (h : j < on.length) (hj : onAt on j = true) : cnt (on.set j false) + 1 = cnt on := by
  unfold cnt onAt at *
  induction on generalizing j with
  | nil => simp at h
  | cons b on ih =>
    cases j with
    | zero => simp at hj; subst hj; simp
    | succ j =>
      simp only [List.set_cons_succ, List.countP_cons]
      have := ih j (by simpa using h) (by simpa using hj); omega
theorem onAt_past (on : List Bool) (j : Nat) (h : on.length ≤ j) : onAt on j = false := by simp [onAt, h]
theorem cnt_le (on : List Bool) : cnt on ≤ on.length := List.countP_le_length
theorem lgOk_bd {n : Int} {on : List Bool} {m : Int} (h : lgOk n on m = true) : 1 ≤ m.natAbs ∧ (m.natAbs : Int) ≤ n := by
  simp [lgOk] at h; omega

/-- the configuration behind the moves, if all are legal -/
def runL (n : Int) : List Bool → List Int → Option (List Bool)
  | on, [] => some on
  | on, m :: l => if lgOk n on m then runL n (lgStep on m) l else none

theorem lgGo_some {n : Int} {l : List Int} {on on' : List Bool} (h : runL n on l = some on') (k : Nat) : lgGo n on l k = (k + l.length, complete n on') := by
  induction l generalizing on k with
  | nil => simp [runL] at h; subst h; simp [lgGo]
  | cons m l ih =>
    rw [runL] at h
    rw [lgGo]
    by_cases hm : lgOk n on m = true
    · rw [if_pos hm] at h
      rw [if_pos hm, ih h]; simp; omega
    · rw [if_neg hm] at h; simp at h
theorem lgGo_none {n : Int} {l : List Int} {on : List Bool} (h : runL n on l = none) (k : Nat) : (lgGo n on l k).1 < k + l.length ∧ (lgGo n on l k).2 = false := by
  induction l generalizing on k with
  | nil => simp [runL] at h
  | cons m l ih =>
    rw [runL] at h
    rw [lgGo]
    by_cases hm : lgOk n on m = true
    · rw [if_pos hm] at h
      rw [if_pos hm]
      have := ih h (k + 1)
      exact ⟨by simp; omega, this.2⟩
    · rw [if_neg hm]; simp
theorem runL_append (n : Int) (l m : List Int) (on : List Bool) : runL n on (l ++ m) = (runL n on l).bind fun on' => runL n on' m := by
  induction l generalizing on with
  | nil => rfl
  | cons x l ih =>
    rw [List.cons_append, runL, runL]
    by_cases hm : lgOk n on x = true
    · rw [if_pos hm, if_pos hm, ih]
    · rw [if_neg hm, if_neg hm]; rfl
theorem lgStep_len (on : List Bool) (m : Int) : (lgStep on m).length = on.length := by simp [lgStep]
theorem runL_len {n : Int} {l : List Int} {on on' : List Bool} (h : runL n on l = some on') : on'.length = on.length := by
  induction l generalizing on with
  | nil => simp [runL] at h; rw [h]
  | cons m l ih =>
    rw [runL] at h
    by_cases hm : lgOk n on m = true
    · rw [if_pos hm] at h; rw [ih h, lgStep_len]
    · rw [if_neg hm] at h; simp at h
theorem lg_back {n : Int} {on : List Bool} {m : Int} (hl : on.length = n.toNat + 1) (h : lgOk n on m = true) : lgOk n (lgStep on m) (-m) = true ∧ lgStep (lgStep on m) (-m) = on := by
  have hb := lgOk_bd h
  have hj : m.natAbs < on.length := by omega
  simp only [lgOk, Bool.and_eq_true, decide_eq_true_eq, Bool.or_eq_true, bne_iff_ne, ne_eq] at h
  obtain ⟨⟨⟨h1, h2⟩, h3⟩, h4⟩ := h
  have e0 : (-m).natAbs = m.natAbs := by omega
  have e1 : onAt (lgStep on m) m.natAbs = decide (0 < m) := by rw [lgStep, onAt_set _ _ _ _ hj, if_pos rfl]
  have e2 : onAt (lgStep on m) (m.natAbs - 1) = onAt on (m.natAbs - 1) := by rw [lgStep, onAt_set _ _ _ _ hj, if_neg (by omega)]
  have e3 : decide (0 < -m) = !decide (0 < m) := by
    by_cases hm : 0 < m
    · simp [hm]; omega
    · simp [hm]; omega
  constructor
  · simp only [lgOk, Bool.and_eq_true, decide_eq_true_eq, Bool.or_eq_true, bne_iff_ne, ne_eq]
    rw [e0, e1, e2, e3]
    refine ⟨⟨⟨h1, h2⟩, h3⟩, ?_⟩
    cases decide (0 < m) <;> simp
  · have e4 : (!decide (0 < m)) = onAt on m.natAbs := by
      cases hx : onAt on m.natAbs <;> cases hy : decide (0 < m) <;> simp_all
    rw [lgStep, lgStep, e0, e3, e4, List.set_set]
    apply List.ext_getElem (by simp)
    intro i h1 h2
    rw [List.getElem_set]
    split
    · next h => subst h; simp [onAt, hj]
    · rfl
theorem runL_back {n : Int} {l : List Int} {on on' : List Bool} (hl : on.length = n.toNat + 1) (h : runL n on l = some on') : runL n on' (negRev l) = some on := by
  induction l generalizing on with
  | nil => simp [runL] at h; subst h; rfl
  | cons m l ih =>
    rw [runL] at h
    by_cases hm : lgOk n on m = true
    · rw [if_pos hm] at h
      have hb := lg_back hl hm
      have e : negRev (m :: l) = negRev l ++ [-m] := by simp [negRev]
      rw [e, runL_append, ih (by rw [lgStep_len]; exact hl) h]
      show runL n (lgStep on m) [-m] = some on
      rw [runL, if_pos hb.1, runL, hb.2]
    · rw [if_neg hm] at h; simp at h
theorem on0_len (n : Int) : (on0 n).length = n.toNat + 1 := by simp [on0]
theorem complete_on0 (n : Int) : complete n (on0 n) = false := by
  have e2 : cnt (on0 n) = 0 := by simp [cnt, on0, List.countP_replicate]
  simp [complete, e2]

/-- one more for a pebble that is put, one less for one that is removed -/
def sgn (m : Int) : Int := if 0 < m then 1 else if m < 0 then -1 else 0
def peakStep (s : Int × Int) (m : Int) : Int × Int := (max s.1 (s.2 + sgn m), s.2 + sgn m)
def peakOf (l : List Int) : Int := (l.foldl peakStep (0, 0)).1
theorem sgn_neg (m : Int) : sgn (-m) = - sgn m := by unfold sgn; split <;> (try split) <;> (try split) <;> omega
theorem peak_ge (l : List Int) (s : Int × Int) : s.1 ≤ (l.foldl peakStep s).1 := by
  induction l generalizing s with
  | nil => exact Int.le_refl _
  | cons m l ih =>
    have := ih (peakStep s m)
    simp only [List.foldl_cons]
    have h : s.1 ≤ (peakStep s m).1 := by simp only [peakStep]; omega
    omega
theorem peak_back (l : List Int) (pk pk0 s0 : Int) (h : s0 ≤ pk) (h2 : (l.foldl peakStep (pk0, s0)).1 ≤ pk) : (negRev l).foldl peakStep (pk, (l.foldl peakStep (pk0, s0)).2) = (pk, s0) := by
  induction l generalizing pk0 s0 with
  | nil => rfl
  | cons m l ih =>
    have e : negRev (m :: l) = negRev l ++ [-m] := by simp [negRev]
    simp only [List.foldl_cons] at h2 ⊢
    have hge := peak_ge l (peakStep (pk0, s0) m)
    simp only [peakStep] at hge h2 ⊢
    rw [e, List.foldl_append, ih _ _ (by omega) h2]
    simp only [List.foldl_cons, List.foldl_nil, peakStep, sgn_neg, Prod.mk.injEq]
    omega
theorem peak_both (l : List Int) : peakOf (l ++ negRev l) = peakOf l := by
  rw [peakOf, peakOf, List.foldl_append]
  have h0 := peak_ge l (0, 0)
  simp only at h0
  have := peak_back l (l.foldl peakStep (0, 0)).1 0 0 h0 (Int.le_refl _)
  have e : (((l.foldl peakStep (0, 0)).1, (l.foldl peakStep (0, 0)).2) : Int × Int) = l.foldl peakStep (0, 0) := rfl
  rw [e] at this; rw [this]
end Go.Proofs.Ytpeiajmgkhajoaa
