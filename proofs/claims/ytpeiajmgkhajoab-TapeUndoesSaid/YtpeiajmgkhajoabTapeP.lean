/- What operations do to two lists: no program in sight. -/
import Derived.Test.YtpeiajmgkhajoabTapeE
namespace Go.Proofs.Ytpeiajmgkhajoab
set_option linter.unusedVariables false

theorem op_fail (k n : Int) (i o : List Int) (h : opE k i o ≠ 0) : opV k i o = 0 ∧ opI k n i = i ∧ opO k n o = o := by
  by_cases k1 : k = 1
  · subst k1
    simp only [opE, if_true, readE] at h
    have h0 : i.length = 0 := by apply Classical.byContradiction; intro e; simp [e] at h
    obtain rfl : i = [] := List.eq_nil_of_length_eq_zero h0
    exact ⟨rfl, rfl, rfl⟩
  · by_cases k2 : k = 2
    · subst k2
      have e : opE 2 i o = unreadE i := rfl
      rw [e, unreadE] at h
      have h0 : 4096 ≤ i.length := by apply Classical.byContradiction; intro e; simp [e] at h
      exact ⟨rfl, by show unreadL i n = i; simp [unreadL, h0], rfl⟩
    · by_cases k3 : k = 3
      · subst k3
        have e : opE 3 i o = unreadE o := rfl
        rw [e, unreadE] at h
        have h0 : 4096 ≤ o.length := by apply Classical.byContradiction; intro e; simp [e] at h
        exact ⟨rfl, rfl, by show writeL o n = o; simp [writeL, h0]⟩
      · simp only [opE, if_neg k1, if_neg k2, if_neg k3, readE] at h
        have h0 : o.length = 0 := by apply Classical.byContradiction; intro e; simp [e] at h
        obtain rfl : o = [] := List.eq_nil_of_length_eq_zero h0
        simp [opV, opI, opO, k1, k2, k3, unwriteV]

theorem op_len (k n : Int) (i o : List Int) (hi : i.length ≤ 4096) (ho : o.length ≤ 4096) : (opI k n i).length ≤ 4096 ∧ (opO k n o).length ≤ 4096 := by
  unfold opI opO unreadL writeL
  constructor
  · repeat' split
    all_goals (try simp)
    all_goals omega
  · repeat' split
    all_goals (try simp)
    all_goals omega

theorem nth_tail (i : List Int) (h : ¬ i.length = 0) : nth i 0 :: i.tail = i := by
  cases i with
  | nil => simp at h
  | cons a l => simp [nth]
theorem nth_last (o : List Int) (h : ¬ o.length = 0) : o.dropLast ++ [nth o (o.length - 1)] = o := by
  have hne : o ≠ [] := by intro e; simp [e] at h
  have e : nth o (o.length - 1) = o.getLast hne := by
    rw [nth, List.getElem?_eq_getElem (by omega), List.getLast_eq_getElem]; rfl
  rw [e, List.dropLast_concat_getLast hne]

theorem op_undo (k n : Int) (i o : List Int) (hi : i.length ≤ 4096) (ho : o.length ≤ 4096) (h : opE k i o = 0) :
    opE (invK k) (opI k n i) (opO k n o) = 0 ∧ opI (invK k) (invN k (opV k i o)) (opI k n i) = i ∧ opO (invK k) (invN k (opV k i o)) (opO k n o) = o ∧
      opV (invK k) (opI k n i) (opO k n o) = if k = 2 then n else if k = 3 then n else 0 := by
  by_cases k1 : k = 1
  · subst k1
    have e : opE 1 i o = readE i := rfl
    rw [e, readE] at h
    have h0 : ¬ i.length = 0 := by intro e; simp [e] at h
    have hl : ¬ 4096 ≤ i.tail.length := by simp; omega
    refine ⟨?_, ?_, rfl, rfl⟩
    · show unreadE i.tail = 0
      rw [unreadE, if_neg hl]
    · show unreadL i.tail (readV i) = i
      rw [unreadL, if_neg hl, readV, if_neg h0, nth_tail i h0]
  · by_cases k2 : k = 2
    · subst k2
      have e : opE 2 i o = unreadE i := rfl
      rw [e, unreadE] at h
      have h0 : ¬ 4096 ≤ i.length := by intro e; simp [e] at h
      have e2 : opI 2 n i = n :: i := by show unreadL i n = n :: i; rw [unreadL, if_neg h0]
      rw [e2]
      exact ⟨rfl, rfl, rfl, rfl⟩
    · by_cases k3 : k = 3
      · subst k3
        have e : opE 3 i o = unreadE o := rfl
        rw [e, unreadE] at h
        have h0 : ¬ 4096 ≤ o.length := by intro e; simp [e] at h
        have e2 : opO 3 n o = o ++ [n] := by show writeL o n = o ++ [n]; rw [writeL, if_neg h0]
        rw [e2]
        refine ⟨?_, rfl, ?_, ?_⟩
        · show readE (o ++ [n]) = 0
          simp [readE]
        · show (o ++ [n]).dropLast = o
          simp
        · show unwriteV (o ++ [n]) = n
          simp [unwriteV, nth]
      · have e : opE k i o = readE o := by simp [opE, k1, k2, k3]
        rw [e, readE] at h
        have h0 : ¬ o.length = 0 := by intro e; simp [e] at h
        have hl : ¬ 4096 ≤ o.dropLast.length := by simp; omega
        have e1 : invK k = 3 := by simp [invK, k1, k2, k3]
        have e2 : opI k n i = i := by simp [opI, k1, k2]
        have e3 : opO k n o = o.dropLast := by simp [opO, k1, k2, k3]
        have e4 : opV k i o = unwriteV o := by simp [opV, k1, k2, k3]
        have e5 : invN k (opV k i o) = unwriteV o := by simp [invN, k1, k2, k3, e4]
        rw [e1, e2, e3, e5, if_neg k2, if_neg k3]
        refine ⟨?_, rfl, ?_, rfl⟩
        · show unreadE o.dropLast = 0
          rw [unreadE, if_neg hl]
        · show writeL o.dropLast (unwriteV o) = o
          rw [writeL, if_neg hl, unwriteV, if_neg h0, nth_last o h0]

/-- operations, the last one first, lead back to I and O -/
def Back : List (Int × Int) → List Int → List Int → List Int → List Int → Prop
  | [], i, o, I, O => i = I ∧ o = O
  | q :: r, i, o, I, O => opE q.1 i o = 0 ∧ Back r (opI q.1 q.2 i) (opO q.1 q.2 o) I O

theorem fits_read {i : List Int} (h : Fits i) : In64 (readV i) := by
  unfold readV
  split
  · exact ⟨by omega, by omega⟩
  · exact h _ (nth_mem (by omega))
theorem fits_unwrite {o : List Int} (h : Fits o) : In64 (unwriteV o) := by
  unfold unwriteV
  split
  · exact ⟨by omega, by omega⟩
  · exact h _ (nth_mem (by omega))
theorem fits_inv {k : Int} {i o : List Int} (hi : Fits i) (ho : Fits o) : In64 (invN k (opV k i o)) := by
  unfold invN opV
  have := fits_read hi
  have := fits_unwrite ho
  have z : In64 0 := ⟨by omega, by omega⟩
  repeat' split
  all_goals first | assumption | contradiction
theorem TapeAt.fits {w : World} {base b t : Nat} {i o : List Int} {S : Nat → Prop} (h : TapeAt w base b t i o S) : Fits i ∧ Fits o := by
  obtain ⟨iv, ov, ht, hb, hbs, hh, hi, ho, _⟩ := h
  exact ⟨hi.2.1, ho.2.1⟩
end Go.Proofs.Ytpeiajmgkhajoab
