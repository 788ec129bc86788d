/- Walk of awake. -/
import Derived.Test.YtpeiajmgkhajoaaPebM
import Derived.Test.YtpeiajmgkhajoaaPebR
namespace Go.Proofs.Ytpeiajmgkhajoaa
set_option linter.unusedVariables false
open Go.RowKit

theorem fits_of {l : List Int} (h : l.all (fun x => decide (-9223372036854775808 ≤ x) && decide (x ≤ 9223372036854775807)) = true) : Fits l := fun x hx => by
  have := List.all_eq_true.1 h x hx
  simpa using this

set_option maxHeartbeats 3200000 in
theorem awake_any (w : World) : Calls Try.prog 11 #[] w fun e w' => e = .returned (.bool true) ∧ Below w.heap.size w w' := by
  have hd1 : decide (strat 4 2 0 4 = [1, 2, -1, 3, 4, -3, 1, -2, -1]) = true := by rw [strat42]; decide
  have hd2 : decide (bestL 2 2 = [1, 2, -1]) = true := decide_eq_true best22.1
  have hpk : (peakOf (strat 4 2 0 4) == 3) = true := by rw [strat42]; decide
  have hb1 := best22.2.1
  have hb2 := best22.2.2.1
  go_enter Try.func11, Try.ntmps11
  go_wp2_with fail
  refine (bennett_good 4 2 w (by decide) (by decide) (by decide) (by decide)).mono ?_
  rintro e w1 ⟨v1, rfl, hv1, hbl1⟩
  go_wp2_with fail
  refine (best_any 3 2 w1 (by decide) (by decide) (by decide) (by decide) good32).mono ?_
  rintro e w2 ⟨v2, rfl, hv2, hbl2⟩
  go_wp2_with fail
  refine (best_any 2 2 w2 (by decide) (by decide) (by decide) (by decide) good22).mono ?_
  rintro e w3 ⟨v3, rfl, hv3, hbl3⟩
  have hz1 := hbl1.size
  have hz2 := hbl2.size
  have hz3 := hbl3.size
  have i1 := ((hv1.below hbl2).below hbl3).ints
  have i3 := hv3.ints
  have hB : Below w.heap.size w w3 := (hbl1.trans (hbl2.mono (by omega))).trans (hbl3.mono (by omega))
  clear hv1 hv2 hv3 hbl1 hbl2 hbl3
  go_wp2_with fail
  have hlit : Own (w3.alloc (.cells ([1, 2, -1, 3, 4, -3, 1, -2, -1].map (Value.int .i64)).toArray 3)) w3.heap.size 3 _ [1, 2, -1, 3, 4, -3, 1, -2, -1] := own_lit w3 w3.heap.size 3 _ (by simp) (fits_of (by decide)) (Nat.le_refl _)
  have hA : Below w3.heap.size w3 (w3.alloc (.cells ([1, 2, -1, 3, 4, -3, 1, -2, -1].map (Value.int .i64)).toArray 3)) := (Below.refl _ _).alloc (Nat.le_refl _) _
  refine (ints_any v1 _ _ _ _ (i1.below hA) hlit.ints).mono ?_
  rintro e w4 ⟨rfl, hbl4⟩
  rw [hd1]
  have j1 := (i1.below hA).below hbl4
  have j3 := (i3.below hA).below hbl4
  have hB4 : Below w.heap.size w w4 := (hB.trans (hA.mono (by omega))).trans (hbl4.mono (by have := hA.size; omega))
  clear hlit hA hbl4 i1 i3 hB
  have hz4 := hB4.size
  go_wp2_with fail
  refine (peak_any v1 _ _ j1).mono ?_
  rintro e w5 ⟨rfl, rfl⟩
  go_wp2_with fail
  have hlit : Own (w4.alloc (.cells ([1, 2, -1].map (Value.int .i64)).toArray 3)) w4.heap.size 3 _ [1, 2, -1] := own_lit w4 w4.heap.size 3 _ (by simp) (fits_of (by decide)) (Nat.le_refl _)
  have hA : Below w4.heap.size w4 (w4.alloc (.cells ([1, 2, -1].map (Value.int .i64)).toArray 3)) := (Below.refl _ _).alloc (Nat.le_refl _) _
  refine (ints_any v3 _ _ _ _ (j3.below hA) hlit.ints).mono ?_
  rintro e w5 ⟨rfl, hbl5⟩
  rw [hd2]
  have hB5 : Below w.heap.size w w5 := (hB4.trans (hA.mono (by omega))).trans (hbl5.mono (by have := hA.size; omega))
  clear hlit hA hbl5 j1 j3 hB4
  go_wp2
  go_ret
  exact ⟨rfl, hB5⟩
end Go.Proofs.Ytpeiajmgkhajoaa
