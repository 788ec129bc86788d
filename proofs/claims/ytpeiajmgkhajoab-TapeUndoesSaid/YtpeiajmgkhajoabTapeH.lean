/- Walk of awake. -/
import Derived.Test.YtpeiajmgkhajoabTapeE
namespace Go.Proofs.Ytpeiajmgkhajoab
set_option linter.unusedVariables false
open Go.RowKit

theorem fits_of {l : List Int} (h : l.all (fun x => decide (-9223372036854775808 ≤ x) && decide (x ≤ 9223372036854775807)) = true) : Fits l := fun x hx => by
  have := List.all_eq_true.1 h x hx
  simpa using this

theorem IntsAt.nil (w : World) : IntsAt w (.slice none 0 0) [] := (Own.nil w 0 3).ints

theorem Left.below {w w' : World} {base b t : Nat} {i o : List Int} {S : Nat → Prop} (h : Left w w' base b t i o S) (hs : ∀ k, S k → base ≤ k) (hB : base ≤ w.heap.size) : Below base w w' := by
  obtain ⟨S', h1, h2, h3⟩ := h
  exact h2.below hs hB
theorem TapeAt.le {w : World} {base b t : Nat} {i o : List Int} {S : Nat → Prop} (h : TapeAt w base b t i o S) : base ≤ w.heap.size := by
  obtain ⟨iv, ov, ht, hb, hbs, _⟩ := h; exact hbs

set_option maxHeartbeats 1600000 in
theorem awake_any (w : World) : Calls Try.prog 11 #[] w fun e w' => e = .returned (.bool true) ∧ Below w.heap.size w w' := by
  have hlit : Own (w.alloc (.cells ([5, 6].map (Value.int .i64)).toArray 3)) w.heap.size 3 _ [5, 6] := own_lit w w.heap.size 3 _ (by simp) (fits_of (by decide)) (Nat.le_refl _)
  have hA : Below w.heap.size w (w.alloc (.cells ([5, 6].map (Value.int .i64)).toArray 3)) := (Below.refl _ _).alloc (Nat.le_refl _) _
  go_enter Try.func11, Try.ntmps11
  go_wp2_with fail
  refine (new_any _ _ [5, 6] [] _ hlit.ints (IntsAt.nil _) (by decide) (by decide)).mono ?_
  rintro e w1 ⟨b, S, rfl, ht, hb1⟩
  have hb1' : Below w.heap.size w w1 := hA.trans (hb1.mono hA.size)
  have hz1 := hb1'.size
  clear hlit hA hb1
  go_wp2_with fail
  refine (read_any w1 _ b _ _ S ht).mono ?_
  rintro e w2 ⟨rfl, hl⟩
  have hs := ht.base_le
  have hb2 := hl.below (fun k hk => (hs k hk).1) ht.le
  obtain ⟨S2, ht2, _, _⟩ := hl
  have hB2 : Below w.heap.size w w2 := hb1'.trans (hb2.mono (by simp))
  have hs2 := ht2.base_le
  clear ht hs hb2 hb1'
  go_wp2_with fail
  refine (unread_any w2 _ b _ _ 7 S2 ht2 (by decide)).mono ?_
  rintro e w3 ⟨rfl, hl⟩
  have hb3 := hl.below (fun k hk => (hs2 k hk).1) ht2.le
  obtain ⟨S3, ht3, _, _⟩ := hl
  have hB3 : Below w.heap.size w w3 := hB2.trans (hb3.mono (by simp))
  have hs3 := ht3.base_le
  clear ht2 hs2 hb3 hB2
  go_wp2_with fail
  refine (unwrite_any w3 _ b _ _ S3 ht3).mono ?_
  rintro e w4 ⟨rfl, hl⟩
  have hb4 := hl.below (fun k hk => (hs3 k hk).1) ht3.le
  obtain ⟨S4, ht4, _, _⟩ := hl
  have hB4 : Below w.heap.size w w4 := hB3.trans (hb4.mono (by simp))
  clear ht3 hs3 hb4 hB3
  go_wp2_with fail
  refine (in_any w4 _ b _ _ S4 ht4).mono ?_
  rintro e w5 ⟨v5, rfl, h5, hb5⟩
  have hz4 := hB4.size
  have hB5 : Below w.heap.size w w5 := hB4.trans (hb5.mono hz4)
  have hz5 := hB5.size
  clear ht4 hb5 hB4
  go_wp2_with fail
  have hlit : Own (w5.alloc (.cells ([7, 6].map (Value.int .i64)).toArray 3)) w5.heap.size 3 _ [7, 6] := own_lit w5 w5.heap.size 3 _ (by simp) (fits_of (by decide)) (Nat.le_refl _)
  have hA : Below w5.heap.size w5 (w5.alloc (.cells ([7, 6].map (Value.int .i64)).toArray 3)) := (Below.refl _ _).alloc (Nat.le_refl _) _
  refine (ints_any v5 _ _ _ _ (h5.below hA).ints hlit.ints).mono ?_
  rintro e w6 ⟨rfl, hb6⟩
  have hd : decide (unreadL [5, 6].tail 7 = [7, 6]) = true := by decide
  rw [hd]
  have hB6 : Below w.heap.size w w6 := (hB5.trans (hA.mono hz5)).trans (hb6.mono (by have := hA.size; omega))
  clear hlit hA hb6
  go_wp2
  go_ret
  exact ⟨rfl, hB6⟩
end Go.Proofs.Ytpeiajmgkhajoab
