import Derived.Test.YtehmmokkjojggaaDoorCmC
import Derived.Test.YtehmmokkjojggaaDoorCmE
namespace Go.Proofs.YtehmmokkjojggaaDoor
set_option linter.unusedVariables false
set_option linter.unusedSimpArgs false
open Go.RowKit

theorem nn_of {l : List Int} (h : ∀ i, i < l.length → 0 ≤ at' l i ∧ at' l i ≤ 1000000) : ∀ i, 0 ≤ at' l i := fun i => by
  by_cases hi : i < l.length
  · exact (h i hi).1
  · have : at' l i = 0 := by simp [at', List.getD_eq_getElem?_getD, List.getElem?_eq_none (Nat.le_of_not_lt hi)]
    omega
theorem sumok_end {l m : List Int} {x : Int} (h : SumOk l m l.length m.length x) : (∀ i, 0 ≤ at' l i) ∧ (∀ i, 0 ≤ at' m i) ∧ sumI l + sumI m = x ∧ sumI l + sumI m ≤ 1152921504606846976 := by
  obtain ⟨a, b, c, d, rfl⟩ := h
  have h1 := sum_le (Nat.le_refl _) c
  have h2 := sum_le (Nat.le_refl _) d
  rw [List.take_length] at h1 h2
  refine ⟨nn_of c, nn_of d, by rw [List.take_length, List.take_length], by omega⟩
set_option maxRecDepth 100000 in set_option maxHeartbeats 3200000 in theorem walk_costmodelOrders (w : World) (ht : Tab w) (va : Value) (a : Co) (ha : CostAt w va a) (vb : Value) (b : Co) (hb : CostAt w vb b) (vc : Value) (c : Co) (hc : CostAt w vc c) :
    Calls Tryd.prog 5 #[va, vb, vc] w fun e w' => e = .returned (.bool true) ∧ Below w.heap.size w w' := by
  obtain ⟨a1, a2, j1, j2, rfl, ra1, ra2, hga⟩ := ha
  obtain ⟨b1, b2, k1, k2, rfl, rb1, rb2, hgb⟩ := hb
  obtain ⟨c1, c2, m1, m2, rfl, rc1, rc2, hgc⟩ := hc
  have HAW : Hid (∀ w1, Below w.heap.size w w1 → Calls Tryd.prog 9 #[] w1 fun e w2 => e = .returned (.bool true) ∧ Below w1.heap.size w1 w2) := Lib.hid (fun w1 h => awake_any w1 (ht.below h))
  obtain ⟨W, hW⟩ : ∃ W, W = ((w.alloc (.cells #[.slice a1 a.calls.length j1, .slice a2 a.kept.length j2, .int .i64 a.gar] 29)).alloc (.cells #[.slice b1 b.calls.length k1, .slice b2 b.kept.length k2, .int .i64 b.gar] 29)).alloc (.cells #[.slice c1 c.calls.length m1, .slice c2 c.kept.length m2, .int .i64 c.gar] 29) := ⟨_, rfl⟩
  have hB : Below w.heap.size w W := by subst hW; exact bel_alloc (bel_alloc (bel_alloc (Below.refl _ _)))
  have HB := Lib.hid hB
  have HXA : Hid (W.heap[w.heap.size]? = some (.cells #[.slice a1 a.calls.length j1, .slice a2 a.kept.length j2, .int .i64 a.gar] 29 (0, 0))) := Lib.hid (by subst hW; exact blk_alloc (blk_alloc (blk_new rfl)))
  have HXB : Hid (W.heap[w.heap.size + 1]? = some (.cells #[.slice b1 b.calls.length k1, .slice b2 b.kept.length k2, .int .i64 b.gar] 29 (0, 0))) := Lib.hid (by subst hW; exact blk_alloc (blk_new (by simp)))
  have HXC : Hid (W.heap[w.heap.size + 1 + 1]? = some (.cells #[.slice c1 c.calls.length m1, .slice c2 c.kept.length m2, .int .i64 c.gar] 29 (0, 0))) := Lib.hid (by subst hW; exact blk_new (by simp))
  have HSA : Hid (∀ w1, Below W.heap.size W w1 → Calls Tryd.prog 21 #[.agg #[.slice a1 a.calls.length j1, .slice a2 a.kept.length j2, .int .i64 a.gar]] w1 (SumPost a.calls a.kept w1)) := Lib.hid (fun w1 h => sum_any a1 a2 j1 j2 a.calls a.kept a.gar Any w1 ((ra1.stays (Stays.of_below hB)).stays (Stays.of_below h)) ((ra2.stays (Stays.of_below hB)).stays (Stays.of_below h)))
  have HSB : Hid (∀ w1, Below W.heap.size W w1 → Calls Tryd.prog 21 #[.agg #[.slice b1 b.calls.length k1, .slice b2 b.kept.length k2, .int .i64 b.gar]] w1 (SumPost b.calls b.kept w1)) := Lib.hid (fun w1 h => sum_any b1 b2 k1 k2 b.calls b.kept b.gar Any w1 ((rb1.stays (Stays.of_below hB)).stays (Stays.of_below h)) ((rb2.stays (Stays.of_below hB)).stays (Stays.of_below h)))
  have HSC : Hid (∀ w1, Below W.heap.size W w1 → Calls Tryd.prog 21 #[.agg #[.slice c1 c.calls.length m1, .slice c2 c.kept.length m2, .int .i64 c.gar]] w1 (SumPost c.calls c.kept w1)) := Lib.hid (fun w1 h => sum_any c1 c2 m1 m2 c.calls c.kept c.gar Any w1 ((rc1.stays (Stays.of_below hB)).stays (Stays.of_below h)) ((rc2.stays (Stays.of_below hB)).stays (Stays.of_below h)))
  have HR := Lib.hid (And.intro (ra1.stays (Stays.of_below hB)) (And.intro (ra2.stays (Stays.of_below hB)) (And.intro (rb1.stays (Stays.of_below hB)) (And.intro (rb2.stays (Stays.of_below hB)) (And.intro (rc1.stays (Stays.of_below hB)) (rc2.stays (Stays.of_below hB)))))))
  clear ra1 ra2 rb1 rb2 rc1 rc2 hB
  subst hW
  go_enter Tryd.func5, Tryd.ntmps5
  go_wp2_with fail
  generalize ((w.alloc (.cells #[.slice a1 a.calls.length j1, .slice a2 a.kept.length j2, .int .i64 a.gar] 29)).alloc (.cells #[.slice b1 b.calls.length k1, .slice b2 b.kept.length k2, .int .i64 b.gar] 29)).alloc (.cells #[.slice c1 c.calls.length m1, .slice c2 c.kept.length m2, .int .i64 c.gar] 29) = W at *
  refine (HAW.out _ HB.out).mono ?_
  rintro e w2 ⟨rfl, hb2⟩
  obtain ⟨x0, x1, x2⟩ := cells3 (blk_below hb2 HXA.out)
  obtain ⟨y0, y1, y2⟩ := cells3 (blk_below hb2 HXB.out)
  obtain ⟨z0, z1, z2⟩ := cells3 (blk_below hb2 HXC.out)
  go_wp2_with fail
  with_reducible refine (HSA.out _ (by (repeat (with_reducible first | exact Below.refl _ _ | refine bel_drew ?_ | refine bel_alloc ?_ | (apply bel_step; focus assumption))))).mono ?_
  rintro e w3 ⟨xa, oka, rfl, hoka, hb3⟩
  have HOA := Lib.hid hoka
  have hw3 : Below W.heap.size W w3 := (by (repeat (with_reducible first | exact Below.refl _ _ | refine bel_drew ?_ | refine bel_alloc ?_ | (apply bel_step; focus assumption))))
  obtain ⟨x0, x1, x2⟩ := cells3 (blk_below hw3 HXA.out)
  obtain ⟨y0, y1, y2⟩ := cells3 (blk_below hw3 HXB.out)
  obtain ⟨z0, z1, z2⟩ := cells3 (blk_below hw3 HXC.out)
  clear hoka
  go_wp2_with fail
  with_reducible refine (HSB.out _ (by (repeat (with_reducible first | exact Below.refl _ _ | refine bel_drew ?_ | refine bel_alloc ?_ | (apply bel_step; focus assumption))))).mono ?_
  rintro e w4 ⟨xb, okb, rfl, hokb, hb4⟩
  have HOB := Lib.hid hokb
  have hw4 : Below W.heap.size W w4 := (by (repeat (with_reducible first | exact Below.refl _ _ | refine bel_drew ?_ | refine bel_alloc ?_ | (apply bel_step; focus assumption))))
  obtain ⟨x0, x1, x2⟩ := cells3 (blk_below hw4 HXA.out)
  obtain ⟨y0, y1, y2⟩ := cells3 (blk_below hw4 HXB.out)
  obtain ⟨z0, z1, z2⟩ := cells3 (blk_below hw4 HXC.out)
  clear hokb
  go_wp2_with fail
  with_reducible refine (HSC.out _ (by (repeat (with_reducible first | exact Below.refl _ _ | refine bel_drew ?_ | refine bel_alloc ?_ | (apply bel_step; focus assumption))))).mono ?_
  rintro e w5 ⟨xc, okc, rfl, hokc, hb5⟩
  have HOC := Lib.hid hokc
  have hw5 : Below W.heap.size W w5 := (by (repeat (with_reducible first | exact Below.refl _ _ | refine bel_drew ?_ | refine bel_alloc ?_ | (apply bel_step; focus assumption))))
  have HW5 := Lib.hid hw5
  obtain ⟨x0, x1, x2⟩ := cells3 (blk_below hw5 HXA.out)
  obtain ⟨y0, y1, y2⟩ := cells3 (blk_below hw5 HXB.out)
  obtain ⟨z0, z1, z2⟩ := cells3 (blk_below hw5 HXC.out)
  clear hokc hb2 hb3 hb4 hb5 hw3 hw4 hw5
  by_cases hok : oka = true ∧ okb = true ∧ okc = true
  case neg =>
    cases oka <;> cases okb <;> cases okc <;> first
      | (exact absurd ⟨rfl, rfl, rfl⟩ hok)
      | (go_wp2; go_ret; exact ⟨rfl, HB.out.trans (HW5.out.mono HB.out.size)⟩)
  obtain ⟨rfl, rfl, rfl⟩ := hok
  obtain ⟨na1, na2, ea, sa⟩ := sumok_end (HOA.out rfl)
  obtain ⟨nb1, nb2, eb, sb⟩ := sumok_end (HOB.out rfl)
  obtain ⟨nc1, nc2, ec, sc⟩ := sumok_end (HOC.out rfl)
  obtain ⟨Bab, hBab⟩ : ∃ B : Bool, B = decide (xa < xb ∨ xa = xb ∧ a.gar < b.gar) := ⟨_, rfl⟩
  obtain ⟨Bba, hBba⟩ : ∃ B : Bool, B = decide (xb < xa ∨ xb = xa ∧ b.gar < a.gar) := ⟨_, rfl⟩
  obtain ⟨Bbc, hBbc⟩ : ∃ B : Bool, B = decide (xb < xc ∨ xb = xc ∧ b.gar < c.gar) := ⟨_, rfl⟩
  obtain ⟨Bac, hBac⟩ : ∃ B : Bool, B = decide (xa < xc ∨ xa = xc ∧ a.gar < c.gar) := ⟨_, rfl⟩
  have HTA : Hid (∀ w1, Below W.heap.size W w1 → Calls Tryd.prog 20 #[.agg #[.slice a1 a.calls.length j1, .slice a2 a.kept.length j2, .int .i64 a.gar]] w1 fun e w' => e = .returned (.int .i64 xa) ∧ Below w1.heap.size w1 w') := Lib.hid (fun w1 h => by
    have h5 := total_any a1 a2 j1 j2 a.calls a.kept a.gar Any w1 (HR.out.1.stays (Stays.of_below h)) (HR.out.2.1.stays (Stays.of_below h)) na1 na2 sa
    rw [ea] at h5
    exact h5)
  have HAB : Hid (∀ w1, Below W.heap.size W w1 → Calls Tryd.prog 22 #[.agg #[.slice a1 a.calls.length j1, .slice a2 a.kept.length j2, .int .i64 a.gar], .agg #[.slice b1 b.calls.length k1, .slice b2 b.kept.length k2, .int .i64 b.gar]] w1 fun e w' => e = .returned (.bool Bab) ∧ Below w1.heap.size w1 w') := Lib.hid (fun w1 h => by
    have h5 := better_any a1 a2 b1 b2 j1 j2 k1 k2 a.calls a.kept b.calls b.kept a.gar b.gar Any w1 (HR.out.1.stays (Stays.of_below h)) (HR.out.2.1.stays (Stays.of_below h)) na1 na2 sa (HR.out.2.2.1.stays (Stays.of_below h)) (HR.out.2.2.2.1.stays (Stays.of_below h)) nb1 nb2 sb
    rw [ea, eb, ← hBab] at h5
    exact h5)
  have HBA : Hid (∀ w1, Below W.heap.size W w1 → Calls Tryd.prog 22 #[.agg #[.slice b1 b.calls.length k1, .slice b2 b.kept.length k2, .int .i64 b.gar], .agg #[.slice a1 a.calls.length j1, .slice a2 a.kept.length j2, .int .i64 a.gar]] w1 fun e w' => e = .returned (.bool Bba) ∧ Below w1.heap.size w1 w') := Lib.hid (fun w1 h => by
    have h5 := better_any b1 b2 a1 a2 k1 k2 j1 j2 b.calls b.kept a.calls a.kept b.gar a.gar Any w1 (HR.out.2.2.1.stays (Stays.of_below h)) (HR.out.2.2.2.1.stays (Stays.of_below h)) nb1 nb2 sb (HR.out.1.stays (Stays.of_below h)) (HR.out.2.1.stays (Stays.of_below h)) na1 na2 sa
    rw [eb, ea, ← hBba] at h5
    exact h5)
  have HBC : Hid (∀ w1, Below W.heap.size W w1 → Calls Tryd.prog 22 #[.agg #[.slice b1 b.calls.length k1, .slice b2 b.kept.length k2, .int .i64 b.gar], .agg #[.slice c1 c.calls.length m1, .slice c2 c.kept.length m2, .int .i64 c.gar]] w1 fun e w' => e = .returned (.bool Bbc) ∧ Below w1.heap.size w1 w') := Lib.hid (fun w1 h => by
    have h5 := better_any b1 b2 c1 c2 k1 k2 m1 m2 b.calls b.kept c.calls c.kept b.gar c.gar Any w1 (HR.out.2.2.1.stays (Stays.of_below h)) (HR.out.2.2.2.1.stays (Stays.of_below h)) nb1 nb2 sb (HR.out.2.2.2.2.1.stays (Stays.of_below h)) (HR.out.2.2.2.2.2.stays (Stays.of_below h)) nc1 nc2 sc
    rw [eb, ec, ← hBbc] at h5
    exact h5)
  have HAC : Hid (∀ w1, Below W.heap.size W w1 → Calls Tryd.prog 22 #[.agg #[.slice a1 a.calls.length j1, .slice a2 a.kept.length j2, .int .i64 a.gar], .agg #[.slice c1 c.calls.length m1, .slice c2 c.kept.length m2, .int .i64 c.gar]] w1 fun e w' => e = .returned (.bool Bac) ∧ Below w1.heap.size w1 w') := Lib.hid (fun w1 h => by
    have h5 := better_any a1 a2 c1 c2 j1 j2 m1 m2 a.calls a.kept c.calls c.kept a.gar c.gar Any w1 (HR.out.1.stays (Stays.of_below h)) (HR.out.2.1.stays (Stays.of_below h)) na1 na2 sa (HR.out.2.2.2.2.1.stays (Stays.of_below h)) (HR.out.2.2.2.2.2.stays (Stays.of_below h)) nc1 nc2 sc
    rw [ea, ec, ← hBac] at h5
    exact h5)
  have hirr : decide (xa < xa ∨ xa = xa ∧ a.gar < a.gar) = false := decide_eq_false (fun h => by rcases h with h | h <;> omega)
  have HAA : Hid (∀ w1, Below W.heap.size W w1 → Calls Tryd.prog 22 #[.agg #[.slice a1 a.calls.length j1, .slice a2 a.kept.length j2, .int .i64 a.gar], .agg #[.slice a1 a.calls.length j1, .slice a2 a.kept.length j2, .int .i64 a.gar]] w1 fun e w' => e = .returned (.bool false) ∧ Below w1.heap.size w1 w') := Lib.hid (fun w1 h => by
    have h5 := better_any a1 a2 a1 a2 j1 j2 j1 j2 a.calls a.kept a.calls a.kept a.gar a.gar Any w1 (HR.out.1.stays (Stays.of_below h)) (HR.out.2.1.stays (Stays.of_below h)) na1 na2 sa (HR.out.1.stays (Stays.of_below h)) (HR.out.2.1.stays (Stays.of_below h)) na1 na2 sa
    rw [ea, hirr] at h5
    exact h5)
  have HTR : Hid (Bab = true → Bbc = true → Bac = true) := Lib.hid (fun h1 h2 => by
    rw [hBab] at h1; rw [hBbc] at h2; rw [hBac]
    have h1 := of_decide_eq_true h1
    have h2 := of_decide_eq_true h2
    exact decide_eq_true (by omega))
  have hbe : ∀ p q : Int, (p == q) = decide (p = q) := fun p q => by by_cases h : p = q <;> simp [h]
  have hcase : (decide (xa < xb) = true ∧ (xa == xb) = false ∧ Bab = true ∧ Bba = false) ∨ (decide (xa < xb) = false ∧ (xa == xb) = false ∧ Bab = false ∧ Bba = true) ∨ (decide (xa < xb) = false ∧ (xa == xb) = true ∧ decide (a.gar < b.gar) = true ∧ (a.gar == b.gar) = false ∧ Bab = true ∧ Bba = false) ∨
      (decide (xa < xb) = false ∧ (xa == xb) = true ∧ decide (a.gar < b.gar) = false ∧ (a.gar == b.gar) = false ∧ Bab = false ∧ Bba = true) ∨ (decide (xa < xb) = false ∧ (xa == xb) = true ∧ decide (a.gar < b.gar) = false ∧ (a.gar == b.gar) = true ∧ Bab = false ∧ Bba = false) := by
    rw [hBab, hBba, hbe, hbe]
    simp only [decide_eq_true_eq, decide_eq_false_iff_not]
    omega
  clear hBab hBba hBbc hBac hirr ea sa eb sb ec sc na1 na2 nb1 nb2 nc1 nc2 HSA HSB HSC HAW HOA HOB HOC hbe
  have hxx : (xa != xa) = false := by simp
  have HF : Hid (∀ w1, Below W.heap.size W w1 → Below w.heap.size w w1) := Lib.hid (fun w1 h => HB.out.trans (h.mono HB.out.size))
  have HXX : Hid (∀ w1, Below W.heap.size W w1 → w1.cell? ⟨w.heap.size, 0, none⟩ = some (.slice a1 a.calls.length j1) ∧ w1.cell? ⟨w.heap.size, 1, none⟩ = some (.slice a2 a.kept.length j2) ∧ w1.cell? ⟨w.heap.size, 2, none⟩ = some (.int .i64 a.gar) ∧ w1.cell? ⟨w.heap.size + 1, 0, none⟩ = some (.slice b1 b.calls.length k1) ∧ w1.cell? ⟨w.heap.size + 1, 1, none⟩ = some (.slice b2 b.kept.length k2) ∧ w1.cell? ⟨w.heap.size + 1, 2, none⟩ = some (.int .i64 b.gar) ∧ w1.cell? ⟨w.heap.size + 1 + 1, 0, none⟩ = some (.slice c1 c.calls.length m1) ∧ w1.cell? ⟨w.heap.size + 1 + 1, 1, none⟩ = some (.slice c2 c.kept.length m2) ∧ w1.cell? ⟨w.heap.size + 1 + 1, 2, none⟩ = some (.int .i64 c.gar)) := Lib.hid (fun w1 h => by
    obtain ⟨x0, x1, x2⟩ := cells3 (blk_below h HXA.out)
    obtain ⟨y0, y1, y2⟩ := cells3 (blk_below h HXB.out)
    obtain ⟨z0, z1, z2⟩ := cells3 (blk_below h HXC.out)
    exact ⟨x0, x1, x2, y0, y1, y2, z0, z1, z2⟩)
  have hw5 := HW5.out
  rcases hcase with ⟨q1, q2, rfl, rfl⟩ | ⟨q1, q2, rfl, rfl⟩ | ⟨q1, q2, q3, q4, rfl, rfl⟩ | ⟨q1, q2, q3, q4, rfl, rfl⟩ | ⟨q1, q2, q3, q4, rfl, rfl⟩
  all_goals
    cases Bbc <;> cases Bac <;> first
      | (exact absurd (HTR.out rfl rfl) Bool.false_ne_true)
      | (go_wp2_with fail
         repeat
           (first
           | ((with_reducible refine (HTA.out _ (by (repeat (with_reducible first | exact Below.refl _ _ | refine bel_drew ?_ | refine bel_alloc ?_ | (apply bel_step; focus assumption))))).mono ?_); rintro e w6 ⟨rfl, hb6⟩)
           | ((with_reducible refine (HAB.out _ (by (repeat (with_reducible first | exact Below.refl _ _ | refine bel_drew ?_ | refine bel_alloc ?_ | (apply bel_step; focus assumption))))).mono ?_); rintro e w6 ⟨rfl, hb6⟩)
           | ((with_reducible refine (HBA.out _ (by (repeat (with_reducible first | exact Below.refl _ _ | refine bel_drew ?_ | refine bel_alloc ?_ | (apply bel_step; focus assumption))))).mono ?_); rintro e w6 ⟨rfl, hb6⟩)
           | ((with_reducible refine (HBC.out _ (by (repeat (with_reducible first | exact Below.refl _ _ | refine bel_drew ?_ | refine bel_alloc ?_ | (apply bel_step; focus assumption))))).mono ?_); rintro e w6 ⟨rfl, hb6⟩)
           | ((with_reducible refine (HAC.out _ (by (repeat (with_reducible first | exact Below.refl _ _ | refine bel_drew ?_ | refine bel_alloc ?_ | (apply bel_step; focus assumption))))).mono ?_); rintro e w6 ⟨rfl, hb6⟩)
           | ((with_reducible refine (HAA.out _ (by (repeat (with_reducible first | exact Below.refl _ _ | refine bel_drew ?_ | refine bel_alloc ?_ | (apply bel_step; focus assumption))))).mono ?_); rintro e w6 ⟨rfl, hb6⟩))
           (have hw5 : Below W.heap.size W w6 := (by (repeat (with_reducible first | exact Below.refl _ _ | refine bel_drew ?_ | refine bel_alloc ?_ | (apply bel_step; focus assumption)))))
           (obtain ⟨x0, x1, x2, y0, y1, y2, z0, z1, z2⟩ := HXX.out w6 hw5)
           clear hb6
           go_wp2_with fail
         go_ret
         exact ⟨rfl, HF.out _ hw5⟩)
end Go.Proofs.YtehmmokkjojggaaDoor
