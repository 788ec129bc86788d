/- No complete sequence is shorter than the best one, in plain Lean. -/
import Derived.Test.YtpeiajmgkhajoaaPebT6
import Derived.Test.YtpeiajmgkhajoaaPebL
namespace Go.Proofs.Ytpeiajmgkhajoaa
set_option linter.unusedVariables false
open Go.RowKit

/-- a configuration as a number: bit i - 1 is the node i -/
def mask : List Bool → Nat
  | [] => 0
  | b :: l => 2 * mask l + b.toNat

theorem testBit_mask (l : List Bool) (j : Nat) : (mask l).testBit j = onAt l j := by
  induction l generalizing j with
  | nil => simp [mask, onAt]
  | cons b l ih =>
    cases j with
    | zero =>
      rw [Nat.testBit_zero, mask]
      cases b <;> simp [onAt] <;> omega
    | succ j =>
      rw [Nat.testBit_succ, mask]
      have e : (2 * mask l + b.toNat) / 2 = mask l := by cases b <;> simp <;> omega
      rw [e, ih]; simp [onAt]
theorem mask_lt (l : List Bool) : mask l < 2 ^ l.length := by
  induction l with
  | nil => simp [mask]
  | cons b l ih => rw [mask, List.length_cons, Nat.pow_succ]; cases b <;> simp <;> omega
theorem and_pow (c j : Nat) : ((c &&& 2 ^ j) != 0) = c.testBit j := by
  rw [Bool.eq_iff_iff, bne_iff_ne]
  constructor
  · intro h
    apply Classical.byContradiction
    intro hn
    apply h
    apply Nat.eq_of_testBit_eq
    intro i
    rw [Nat.testBit_and, Nat.testBit_two_pow]
    by_cases e : j = i
    · subst e; simp at hn; simp [hn]
    · simp [e]
  · intro h h0
    have : (c &&& 2 ^ j).testBit j = true := by rw [Nat.testBit_and, Nat.testBit_two_pow, h]; simp
    rw [h0] at this; simp at this
theorem mask_set (l : List Bool) (j : Nat) (b : Bool) (hj : j < l.length) (hb : onAt l j = !b) : mask (l.set j b) = mask l ^^^ 2 ^ j := by
  apply Nat.eq_of_testBit_eq
  intro i
  rw [Nat.testBit_xor, testBit_mask, testBit_mask, Nat.testBit_two_pow, onAt_set l j i b hj]
  by_cases e : i = j
  · subst e; rw [if_pos rfl, hb]; cases b <;> simp
  · rw [if_neg e]
    have : decide (j = i) = false := by simp; omega
    rw [this]; simp
theorem pop_mask (f : Nat) (l : List Bool) (h : l.length ≤ f) : pop f (mask l) = cnt l := by
  induction l generalizing f with
  | nil => rw [mask, cnt]; induction f with
    | zero => rfl
    | succ f ih => rw [pop]; simpa using ih (by simp)
  | cons b l ih =>
    cases f with
    | zero => simp at h
    | succ f =>
      rw [pop, mask]
      have e : (2 * mask l + b.toNat) / 2 = mask l := by cases b <;> simp <;> omega
      have e2 : (2 * mask l + b.toNat) % 2 = b.toNat := by cases b <;> simp <;> omega
      rw [e, e2, ih f (by simpa using h), cnt, cnt, List.countP_cons]
      cases b <;> simp <;> omega

/-- the number of a configuration of the nodes 0 .. a -/
def code (on : List Bool) : Nat := mask (on.drop 1)
theorem onAt_drop (on : List Bool) (j : Nat) : onAt (on.drop 1) j = onAt on (j + 1) := by simp [onAt]

/-- the two rules are one -/
theorem ok_code {a : Nat} {on : List Bool} {m : Int} (hl : on.length = a + 1) (h : lgOk a on m = true) :
    moveOk (code on) m = true ∧ code (lgStep on m) = moveTo (code on) m ∧ ((cnt (lgStep on m) : Nat) : Int) = cnt on + sgn m ∧ 1 ≤ m.natAbs ∧ m.natAbs ≤ a := by
  have hb := lgOk_bd h
  have hj : m.natAbs < on.length := by omega
  have h' := h
  simp only [lgOk, Bool.and_eq_true, decide_eq_true_eq, Bool.or_eq_true, bne_iff_ne, ne_eq] at h
  obtain ⟨⟨⟨h1, h2⟩, h3⟩, h4⟩ := h
  obtain ⟨k, hk⟩ : ∃ k, m.natAbs = k + 1 := ⟨m.natAbs - 1, by omega⟩
  have hbit : bitOf m = 2 ^ k := by rw [bitOf, hk]; rfl
  have hon : (code on).testBit k = onAt on (k + 1) := by rw [code, testBit_mask, onAt_drop]
  have hne : onAt on (k + 1) = !decide (0 < m) := by
    rw [hk] at h4
    cases hx : onAt on (k + 1) <;> cases hy : decide (0 < m) <;> simp_all
  have hok : moveOk (code on) m = true := by
    have e0 : (m == 0) = false := by simp; omega
    have e2 : ((code on &&& bitOf m) != 0) = !decide (0 < m) := by rw [hbit, and_pow, hon, hne]
    have e1 : (decide (1 < m.natAbs) && (code on &&& (bitOf m / 2)) == 0) = false := by
      by_cases h1k : 1 < m.natAbs
      · obtain ⟨r, rfl⟩ : ∃ r, k = r + 1 := ⟨k - 1, by omega⟩
        have hh : bitOf m / 2 = 2 ^ r := by rw [hbit, Nat.pow_succ]; omega
        have e3 : ((code on &&& 2 ^ r) != 0) = true := by
          rw [and_pow, code, testBit_mask, onAt_drop]
          have : m.natAbs - 1 = r + 1 := by omega
          rw [this] at h3
          rcases h3 with h3 | h3
          · omega
          · exact h3
        rw [hh]
        have e4 : ((code on &&& 2 ^ r) == 0) = false := by simpa [bne] using e3
        rw [e4]; simp
      · simp [h1k]
    rw [moveOk, e0, e1, e2]
    cases decide (0 < m) <;> rfl
  refine ⟨hok, ?_, ?_, by omega, by omega⟩
  · rw [moveTo, if_pos hok, hbit, code, lgStep, hk]
    have e : (on.set (k + 1) (decide (0 < m))).drop 1 = (on.drop 1).set k (decide (0 < m)) := by
      rw [List.drop_set, if_neg (by omega)]; rfl
    rw [e]
    exact mask_set _ _ _ (by simp; omega) (by rw [onAt_drop, hne])
  · rw [lgStep, hk]
    rw [sgn]
    by_cases hm : 0 < m
    · rw [decide_eq_true hm] at hne ⊢
      rw [cnt_set_true on (k + 1) (by omega) (by simpa using hne), if_pos hm]; simp
    · rw [decide_eq_false hm] at hne ⊢
      have := cnt_set_false on (k + 1) (by omega) (by simpa using hne)
      rw [if_neg hm, if_pos (by omega)]; omega

theorem edge_use {n q : Nat} {far : List Int} (he : edges n q far = true) {c : Nat} {m : Int} (hc : c < 2 ^ n) (hm : m.natAbs ≤ n) (hok : moveOk c m = true) (hto : 0 ≤ nth far (moveTo c m)) (hp : pop 12 c ≤ q) :
    0 ≤ nth far c ∧ nth far c ≤ nth far (moveTo c m) + 1 := by
  obtain ⟨i, hi⟩ : ∃ i : Nat, (i : Int) - n = m := ⟨(m + n).toNat, by omega⟩
  have h1 := List.all_eq_true.1 he c (List.mem_range.2 hc)
  have h2 := List.all_eq_true.1 h1 i (List.mem_range.2 (by omega))
  rw [hi, hok, decide_eq_false (show ¬ nth far (moveTo c m) < 0 by omega), decide_eq_false (show ¬ q < pop 12 c by omega)] at h2
  simpa using h2

theorem onAt_zero_step {on : List Bool} {m : Int} (h : onAt on 0 = false) (hm : 1 ≤ m.natAbs) : onAt (lgStep on m) 0 = false := by
  rw [lgStep]
  unfold onAt at *
  rw [List.getElem?_set_ne (by omega)]; exact h
theorem cnt_drop {on : List Bool} (h : onAt on 0 = false) : cnt (on.drop 1) = cnt on := by
  cases on with
  | nil => rfl
  | cons b on => simp [onAt] at h; subst h; simp [cnt]

/-- a legal way to the goal is at least as long as the distance -/
theorem way_long {a q : Nat} {p : Int} {far : List Int} (ha : a ≤ 8) (ha1 : 1 ≤ a) (he : edges a q far = true) (hg : nth far (2 ^ (a - 1)) = 0) (hq : q = cap a p) {x : List Int} {on on' : List Bool} (hl : on.length = a + 1) (h0 : onAt on 0 = false)
    (hrun : runL a on x = some on') (hc : complete a on' = true) {pk : Int} (hp0 : (cnt on : Int) ≤ p) (hp : (x.foldl peakStep (pk, (cnt on : Int))).1 ≤ p) : 0 ≤ nth far (code on) ∧ nth far (code on) ≤ x.length := by
  induction x generalizing on pk with
  | nil =>
    simp [runL] at hrun
    subst hrun
    simp only [complete, Bool.and_eq_true, decide_eq_true_eq] at hc
    have hgoal : code on = 2 ^ (a - 1) := by
      apply Nat.eq_of_testBit_eq
      intro i
      rw [code, testBit_mask, onAt_drop, Nat.testBit_two_pow]
      have hone : onAt on a = true := by have := hc.2.2; simpa using this
      have hz := cnt_set_false on a (by omega) hone
      have hall : cnt (on.set a false) = 0 := by omega
      by_cases e : a - 1 = i
      · have : i + 1 = a := by omega
        rw [this, hone]; simp [e]
      · have h3 : onAt on (i + 1) = false := by
          have h4 : onAt (on.set a false) (i + 1) = onAt on (i + 1) := by rw [onAt_set _ _ _ _ (by omega), if_neg (by omega)]
          rw [← h4]
          by_cases hlt : i + 1 < (on.set a false).length
          · have := List.countP_eq_zero.1 hall ((on.set a false)[i + 1]) (List.getElem_mem hlt)
            simp only [onAt, List.getElem?_eq_getElem hlt, Option.getD_some]
            simpa using this
          · exact onAt_past _ _ (by omega)
        rw [h3]; simp [e]
    rw [hgoal, hg]; simp
  | cons m x ih =>
    rw [runL] at hrun
    by_cases hm : lgOk a on m = true
    · rw [if_pos hm] at hrun
      obtain ⟨o1, o2, o3, o4, o5⟩ := ok_code hl hm
      simp only [List.foldl_cons] at hp
      have hge := peak_ge x (peakStep (pk, (cnt on : Int)) m)
      simp only [peakStep] at hge hp
      have hI := ih (on := lgStep on m) (by rw [lgStep_len]; exact hl) (onAt_zero_step h0 o4) hrun (pk := max pk (↑(cnt on) + sgn m)) (by rw [o3]; omega) (by rw [o3]; exact hp)
      rw [o2] at hI
      have hlt : code on < 2 ^ a := by
        have := mask_lt (on.drop 1)
        rw [List.length_drop, hl] at this; exact this
      have hpop : pop 12 (code on) ≤ q := by
        rw [code, pop_mask 12 _ (by simp; omega), cnt_drop h0, hq, cap]
        have := cnt_le (on.drop 1)
        rw [cnt_drop h0, List.length_drop, hl] at this
        omega
      have hE := edge_use he hlt (m := m) o5 o1 hI.1 hpop
      simp only [List.length_cons]
      exact ⟨hE.1, by have := hI.2; omega⟩
    · rw [if_neg hm] at hrun; simp at hrun

/-- the last count of a run is the number of pebbles -/
theorem run_cnt {a : Nat} {x : List Int} {on on' : List Bool} (hl : on.length = a + 1) (hrun : runL a on x = some on') (pk : Int) : (x.foldl peakStep (pk, (cnt on : Int))).2 = cnt on' ∧ ((cnt on' : Int) ≤ (x.foldl peakStep (pk, (cnt on : Int))).1 ∨ x = []) := by
  induction x generalizing on pk with
  | nil => simp [runL] at hrun; subst hrun; simp
  | cons m x ih =>
    rw [runL] at hrun
    by_cases hm : lgOk a on m = true
    · rw [if_pos hm] at hrun
      obtain ⟨o1, o2, o3, o4, o5⟩ := ok_code hl hm
      have hI := ih (on := lgStep on m) (by rw [lgStep_len]; exact hl) hrun (max pk (↑(cnt on) + sgn m))
      rw [o3] at hI
      simp only [List.foldl_cons, peakStep]
      refine ⟨hI.1, .inl ?_⟩
      rcases hI.2 with h | h
      · exact h
      · subst h
        simp [runL] at hrun
        subst hrun
        simp only [List.foldl_nil]
        rw [o3]; omega
    · rw [if_neg hm] at hrun; simp at hrun

theorem least (a : Nat) (ha1 : 1 ≤ a) (ha : a ≤ 8) (x : List Int) (h : (legalM a x).2 = true) : 1 ≤ peakOf x ∧ ∃ b, bestT a (cap a (peakOf x)) = some b ∧ b.length ≤ x.length := by
  cases hrun : runL a (on0 a) x with
  | none => rw [legalM, (lgGo_none hrun 0).2] at h; simp at h
  | some on1 =>
    rw [legalM, lgGo_some hrun 0] at h
    simp only at h
    have hl0 : (on0 (a : Int)).length = a + 1 := by simp [on0]
    have hz : onAt (on0 (a : Int)) 0 = false := by simp [onAt, on0]
    have hc0 : cnt (on0 (a : Int)) = 0 := by simp [cnt, on0, List.countP_replicate]
    have hrc := run_cnt hl0 hrun 0
    have hone : cnt on1 = 1 := by simp [complete] at h; exact h.1
    have hpk : 1 ≤ peakOf x := by
      rcases hrc.2 with hh | hh
      · rw [hc0, hone] at hh; exact hh
      · subst hh
        simp [runL] at hrun
        rw [← hrun, hc0] at hone; omega
    refine ⟨hpk, ?_⟩
    have hcap := cap_ok (p := peakOf x) ha1 hpk
    have ht := tabs a (cap a (peakOf x)) ha1 ha hcap.1 hcap.2
    have hw := way_long ha ha1 ht.2.2.2.1 ht.2.2.2.2.2.2 rfl hl0 hz hrun h (pk := 0) (by rw [hc0]; omega) (by rw [hc0]; exact Int.le_refl _)
    have hcode : code (on0 (a : Int)) = 0 := by
      apply Nat.eq_of_testBit_eq
      intro i
      rw [code, testBit_mask, onAt_drop]
      simp only [onAt, on0, List.getElem?_replicate]
      split <;> simp
    rw [hcode] at hw
    cases hb : bestT a (cap a (peakOf x)) with
    | none => have := ht.2.2.2.2.2.1 hb; omega
    | some b =>
      have := ht.2.2.2.2.1 b hb
      exact ⟨b, rfl, by omega⟩
end Go.Proofs.Ytpeiajmgkhajoaa
