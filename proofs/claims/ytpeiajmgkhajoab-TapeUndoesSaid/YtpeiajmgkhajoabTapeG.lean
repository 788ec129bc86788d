/- The reference's tape: Write, and Do as a whole. -/
import Derived.Test.YtpeiajmgkhajoabTapeF
namespace Go.Proofs.Ytpeiajmgkhajoab
set_option linter.unusedVariables false
open Go.RowKit

theorem at_new2 (w : World) (x y z : Obj) : (((w.alloc x).alloc y).alloc z).heap[w.heap.size + 2]? = some z := by
  have := heap_alloc_new ((w.alloc x).alloc y) z
  simpa using this
theorem at_mid (w : World) (x y z : Obj) : (((w.alloc x).alloc y).alloc z).heap[w.heap.size + 1]? = some y := by
  rw [Below.heap_alloc _ _ _ (by simp)]; exact at_new w x y

set_option maxHeartbeats 3200000 in
theorem refdo_write (w : World) (b : Nat) (i o : List Int) (n : Int) (S : Nat → Prop) (h : RefAt w b i o S) (hn64 : In64 n) :
    Calls Try.prog 17 #[.pointer (some ⟨b, 0, none⟩), .agg #[.int .i64 3, .int .i64 n]] w fun e w' => e = .returned (.tuple #[.int .i64 (opV 3 i o), .int .i64 (opE 3 i o)]) ∧ RLeft w w' b (opI 3 n i) (opO 3 n o) S := by
  have h' := h
  obtain ⟨iv, ov, hh, hi, ho, hri, hro, hS⟩ := h'
  obtain ⟨a, cap, rfl⟩ := ho.form
  have h1 := ho.1
  have hbl : b < w.heap.size := by rw [Array.getElem?_eq_some_iff] at hh; exact hh.1
  have hc : w.cell? ⟨b, 1, none⟩ = some (.slice a o.length cap) := by simp [World.cell?, hh]
  have hf : w.frozen? ⟨b, 1, none⟩ = false := by simp [World.frozen?, hh]
  have hA : Below w.heap.size w (w.alloc (.cells #[.int .i64 3, .int .i64 n] 37)) := (Below.refl _ _).alloc (Nat.le_refl _) _
  by_cases h0 : 4096 ≤ o.length
  · have hlt : decide (4096 ≤ (o.length : Int)) = true := by simp; omega
    go_enter Try.func17, Try.ntmps17
    go_wp2
    go_ret2
    simp only [opV, opE, opI, opO, unreadE, writeL, if_pos h0]
    exact ⟨rfl, RLeft.of_below h hA⟩
  · have hlt : decide (4096 ≤ (o.length : Int)) = false := by simp; omega
    have hl1 : (o.length + 1) * 8 ≤ 140737488351232 := by omega
    have hB1 : Below w.heap.size w ((w.alloc (.cells #[.int .i64 3, .int .i64 n] 37)).alloc (.cells #[] 3)).drew := below_drewN (hA.alloc (by simp) _) 1
    have hE1 : Own ((w.alloc (.cells #[.int .i64 3, .int .i64 n] 37)).alloc (.cells #[] 3)).drew w.heap.size 3 (.slice (some ⟨w.heap.size + 1, 0, none⟩) 0 0) [] := own_none (at_new _ _ _) (by omega)
    have hB2 : Below w.heap.size w (((w.alloc (.cells #[.int .i64 3, .int .i64 n] 37)).alloc (.cells #[] 3)).alloc (.cells #[.int .i64 n] 3)).drew := below_drewN ((hA.alloc (by simp) _).alloc (by simp; omega) _) 1
    have hE2 : Own (((w.alloc (.cells #[.int .i64 3, .int .i64 n] 37)).alloc (.cells #[] 3)).alloc (.cells #[.int .i64 n] 3)).drew w.heap.size 3 (.slice (some ⟨w.heap.size + 1, 0, none⟩) 0 0) [] := own_none (at_mid _ _ _ _) (by omega)
    have hN2 : IntsAt (((w.alloc (.cells #[.int .i64 3, .int .i64 n] 37)).alloc (.cells #[] 3)).alloc (.cells #[.int .i64 n] 3)).drew (.slice (some ⟨w.heap.size + 2, 0, none⟩) 1 1) [n] := (own_one (base := 0) (at_new2 _ _ _ _) (by omega) hn64).ints
    have hB3 : Below w.heap.size w (((w.alloc (.cells #[.int .i64 3, .int .i64 n] 37)).alloc (.cells #[.int .i64 n] 3)).alloc (.cells #[] 3)).drew := below_drewN ((hA.alloc (by simp) _).alloc (by simp; omega) _) 1
    have hE3 : Own (((w.alloc (.cells #[.int .i64 3, .int .i64 n] 37)).alloc (.cells #[.int .i64 n] 3)).alloc (.cells #[] 3)).drew w.heap.size 3 (.slice (some ⟨w.heap.size + 2, 0, none⟩) 0 0) [] := own_none (at_new2 _ _ _ _) (by omega)
    have hN3 : IntsAt (((w.alloc (.cells #[.int .i64 3, .int .i64 n] 37)).alloc (.cells #[.int .i64 n] 3)).alloc (.cells #[] 3)).drew (.slice (some ⟨w.heap.size + 1, 0, none⟩) 1 1) [n] := (own_one (base := 0) (at_mid _ _ _ _) (by omega) hn64).ints
    have q1 : ((w.alloc (.cells #[.int .i64 3, .int .i64 n] 37)).alloc (.cells #[] 3)).cell? ⟨b, 1, none⟩ = some (.slice a o.length cap) := (hB1.cell (p := ⟨b, 1, none⟩) hbl).trans hc
    have q2 : (((w.alloc (.cells #[.int .i64 3, .int .i64 n] 37)).alloc (.cells #[] 3)).alloc (.cells #[.int .i64 n] 3)).cell? ⟨b, 1, none⟩ = some (.slice a o.length cap) := (hB2.cell (p := ⟨b, 1, none⟩) hbl).trans hc
    have q3 : (((w.alloc (.cells #[.int .i64 3, .int .i64 n] 37)).alloc (.cells #[.int .i64 n] 3)).alloc (.cells #[] 3)).cell? ⟨b, 1, none⟩ = some (.slice a o.length cap) := (hB3.cell (p := ⟨b, 1, none⟩) hbl).trans hc
    go_enter Try.func17, Try.ntmps17
    go_wp2_with fail
    go_region_law ((first
      | (refine step_appends TI (by rfl) (.tmp 98) (.tmp 102) (by rfl) (by rfl) (by rfl) hE1 (ho.below hB1) (by simpa using h1) (by simp; omega) ?_; intro v1 w1 hown1 hg1 hnew1; have hC1 := Lib.hid (below_grown hB1 hE1 hg1 (by simp; omega)); have hx1 : w1.cell? ⟨w.heap.size, 1, none⟩ = some (.int .i64 n) := hg1.cell (by simp) (by simp [Value.ownBlock]); obtain ⟨a1, cap1, rfl⟩ := hown1.form)
      | (refine step_appends TI (by rfl) (.tmp 98) (.tmp 102) (by rfl) (by rfl) (by rfl) hE2 (ho.below hB2) (by simpa using h1) (by simp; omega) ?_; intro v1 w1 hown1 hg1 hnew1; have hC1 := Lib.hid (below_grown hB2 hE2 hg1 (by simp; omega)); have hN := hN2.grown hg1 (fun k e1 e2 => by simp [Value.ownBlock] at e1 e2; omega); obtain ⟨a1, cap1, rfl⟩ := hown1.form)
      | (refine step_appends TI (by rfl) (.tmp 98) (.tmp 102) (by rfl) (by rfl) (by rfl) hE3 (ho.below hB3) (by simpa using h1) (by simp; omega) ?_; intro v1 w1 hown1 hg1 hnew1; have hC1 := Lib.hid (below_grown hB3 hE3 hg1 (by simp; omega)); have hN := hN3.grown hg1 (fun k e1 e2 => by simp [Value.ownBlock] at e1 e2; omega); obtain ⟨a1, cap1, rfl⟩ := hown1.form)
      | (refine step_appends TI (by rfl) (.tmp 103) (.tmp 106) (by rfl) (by rfl) (by rfl) hown1 hN (by simpa using hl1) hC1.out.size ?_; intro v' w2 hown hg hnew; obtain ⟨⟨hc1, hc2⟩, ⟨hf1, hf2⟩, hfin⟩ := ref_room hh hi ho hri hro hS hC1.out hown1 v' w2 _ hown hg; obtain ⟨a2, cap2, rfl⟩ := hown.form)
      | (refine step_appends TI (by rfl) (.tmp 103) (.tmp 106) (by rfl) (by rfl) (by rfl) (hown1.below ((Below.refl _ _).alloc (Nat.le_refl _) (.cells #[.int .i64 n] 3))) (own_one (base := 0) (heap_alloc_new _ _) (by omega) hn64).ints (by simpa using hl1) (by have := hC1.out.size; simp; omega) ?_; intro v' w2 hown hg hnew; obtain ⟨⟨hc1, hc2⟩, ⟨hf1, hf2⟩, hfin⟩ := ref_room hh hi ho hri hro hS (hC1.out.alloc hC1.out.size _) (hown1.below ((Below.refl _ _).alloc (Nat.le_refl _) (.cells #[.int .i64 n] 3))) v' w2 _ hown hg; obtain ⟨a2, cap2, rfl⟩ := hown.form)))
    all_goals
      go_wp2
      go_ret2
      simp only [opV, opE, opI, opO, unreadE, writeL, if_neg h0]
      refine ⟨rfl, ?_⟩
      have := hfin.2
      simpa using this

theorem refdo_any (w : World) (b : Nat) (i o : List Int) (k n : Int) (S : Nat → Prop) (h : RefAt w b i o S) (hn : In64 n) :
    Calls Try.prog 17 #[.pointer (some ⟨b, 0, none⟩), .agg #[.int .i64 k, .int .i64 n]] w fun e w' => e = .returned (.tuple #[.int .i64 (opV k i o), .int .i64 (opE k i o)]) ∧ RLeft w w' b (opI k n i) (opO k n o) S := by
  by_cases k1 : k = 1
  · subst k1; exact refdo_read w b i o n S h
  · by_cases k2 : k = 2
    · subst k2; exact refdo_unread w b i o n S h hn
    · by_cases k3 : k = 3
      · subst k3; exact refdo_write w b i o n S h hn
      · exact refdo_unwrite w b i o k n S h k1 k2 k3
end Go.Proofs.Ytpeiajmgkhajoab
