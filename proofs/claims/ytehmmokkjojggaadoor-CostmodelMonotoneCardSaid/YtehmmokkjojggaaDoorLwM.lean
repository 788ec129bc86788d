/- The law CostmodelMonotone. -/
import Derived.Test.YtehmmokkjojggaaDoorCmF
namespace Go.Proofs.YtehmmokkjojggaaDoor
set_option linter.unusedVariables false
set_option linter.unusedSimpArgs false
open Go.RowKit

set_option maxRecDepth 100000 in set_option maxHeartbeats 3200000 in theorem walk_costmodelMonotone (w : World) (ht : Tab w) (lv : Value) (lib : List Fn) (hl : FnsAt Any w lv lib) (name : ByteArray) (hn : name.size ≤ maxLen) (kv : Value) (kept : List ByteArray) (hk : StrsAt Any w kv kept) (more : ByteArray) (hmo : more.size ≤ maxLen) (av : Value) (args : List Vl) (ha : RowsAt VlE Any w av args) :
    Calls Tryd.prog 4 #[lv, .string name, kv, .string more, av] w fun e w' => e = .returned (.bool true) ∧ Below w.heap.size w w' := by
  obtain ⟨hll, la, lc, rfl⟩ := hl.form
  obtain ⟨hkl, ka, kc, rfl⟩ := hk.form
  obtain ⟨hal, aa, ac, rfl⟩ := ha.form
  unfold maxLen at hll hkl hal
  have HT := Lib.hid ht
  have HL := Lib.hid hl
  have HK := Lib.hid hk
  have HA := Lib.hid ha
  clear ht hl hk ha
  go_enter Tryd.func4, Tryd.ntmps4
  go_wp2_with fail
  refine (awake_any _ HT.out).mono ?_
  rintro e w2 ⟨rfl, hb2⟩
  have HB2 := Lib.hid hb2
  go_wp2_with fail
  refine (great43_any _ lib ka kc kept aa ac args Any w2 (HL.out.stays (Stays.of_below hb2)) (HA.out.stays (Stays.of_below hb2))).mono ?_
  rintro e w3 ⟨b, rfl, hg, hb3⟩
  have HB3 := Lib.hid (hb2.trans (hb3.mono hb2.size))
  clear hb2 hb3
  cases b with
  | true =>
    go_wp2
    go_ret
    exact ⟨rfl, HB3.out⟩
  | false =>
    obtain ⟨hgo, hk10⟩ := hg rfl
    have HP := Lib.hid (predict_any la lc lib name ka kc kept aa ac args 400 Any w3 (HL.out.stays (Stays.of_below HB3.out)) (HK.out.stays (Stays.of_below HB3.out)) (HA.out.stays (Stays.of_below HB3.out)) (modest_of hgo) (HT.out.below HB3.out) (vlen_of hgo) (by omega) (by have := hgo.len; omega))
    have HGO := Lib.hid hgo
    obtain ⟨R, hR⟩ : ∃ R, R = predN lib name kept args 400 := ⟨_, rfl⟩
    rw [← hR] at HP
    clear hg hgo
    go_wp2_with fail
    refine HP.out.mono ?_
    rintro e w4 ⟨a1, a2, c1, c2, rfl, hr1, hr2, hgar, hb4⟩
    have HR1 := Lib.hid hr1
    have HR2 := Lib.hid hr2
    have HB4 := Lib.hid hb4
    have HRR := Lib.hid hR
    clear hr1 hr2 hb4 hR HP
    have HB4W := Lib.hid (HB3.out.trans (HB4.out.mono HB3.out.size))
    have HW5 : Hid (Below w.heap.size w ((w4.alloc (.cells #[.slice a1 R.cnt.calls.length c1, .slice a2 R.cnt.kept.length c2, .int .i64 R.gar] 29)).alloc (.cells #[] 9))) := Lib.hid (bel_alloc (bel_alloc HB4W.out))
    have HX5 : Hid (((w4.alloc (.cells #[.slice a1 R.cnt.calls.length c1, .slice a2 R.cnt.kept.length c2, .int .i64 R.gar] 29)).alloc (.cells #[] 9)).heap[w4.heap.size]? = some (.cells #[.slice a1 R.cnt.calls.length c1, .slice a2 R.cnt.kept.length c2, .int .i64 R.gar] 29 (0, 0))) := Lib.hid (at_old _ _ _)
    have HO1 := Lib.hid (names_src (B := w4.heap.size + 1) (names_empty (at_new w4 (.cells #[.slice a1 R.cnt.calls.length c1, .slice a2 R.cnt.kept.length c2, .int .i64 R.gar] 29) (.cells #[] 9)) (Nat.le_refl _)) HK.out HW5.out (Nat.le_succ_of_le HB4W.out.size))
    have HSZ : Hid (w4.heap.size + 1 ≤ ((w4.alloc (.cells #[.slice a1 R.cnt.calls.length c1, .slice a2 R.cnt.kept.length c2, .int .i64 R.gar] 29)).alloc (.cells #[] 9)).heap.size) := Lib.hid (by simp)
    have hsw := HB4W.out.size
    go_wp2_with (first
      | (at_builtin; refine wpl_rows TStr rfl (by decide) rfl (.tmp 32) (.tmp 33) rfl rfl rfl HO1.out.1 HO1.out.2.1 HO1.out.2.2 (by simp; unfold maxLen; omega) (by simp; omega) HSZ.out ?_; intro a5 e5 w5 h5 hg5 hn5; simp only [List.nil_append, List.length_nil, Nat.zero_add] at h5; have HW6 := Lib.hid (names_grown HO1.out.1 HW5.out hg5 (Nat.le_succ_of_le hsw)); have HV6 := Lib.hid (names_grown HO1.out.1 (bel_alloc (bel_alloc (Below.refl w4.heap.size w4))) hg5 (Nat.le_succ _)); have HX6 := Lib.hid (blk_grown HO1.out.1 hg5 HX5.out (Nat.lt_succ_self _)); have HO2 := Lib.hid (names_add h5 hmo); have HSZ6 := Lib.hid (Nat.le_trans HSZ.out (Nat.le_trans hg5.size (bel_alloc (x := .cells #[.string more] 9) (Below.refl w5.heap.size w5)).size)); clear h5 hg5 hn5)
      | (at_builtin; refine wpl_rows TStr rfl (by decide) rfl (.tmp 34) (.tmp 36) rfl rfl rfl HO2.out.1 HO2.out.2.1 HO2.out.2.2 (by simp; unfold maxLen; omega) (by simp; omega) HSZ6.out ?_; intro a7 e7 w7 h7 hg7 hn7; have HW8 := Lib.hid (names_grown HO2.out.1 (bel_alloc HW6.out) hg7 (Nat.le_succ_of_le hsw)); have HV8 := Lib.hid (names_grown HO2.out.1 (bel_alloc HV6.out) hg7 (Nat.le_succ _)); have HX8 := Lib.hid (blk_grown HO2.out.1 hg7 (blk_alloc HX6.out) (Nat.lt_succ_self _)); have HST := Lib.hid (names_shut h7 (by simp; omega)); clear h7 hg7 hn7))
    have hlen : (kept ++ [more]).length = kept.length + 1 := by simp
    have hgo := HGO.out
    have hp2 := predict_any la lc lib name a7 e7 (kept ++ [more]) aa ac args 400 Any w7 (HL.out.stays (Stays.of_below HW8.out)) (by rw [List.length_append]; exact HST.out) (HA.out.stays (Stays.of_below HW8.out)) (modest_of hgo) (HT.out.below HW8.out) (vlen_of hgo) (by omega) (by have := hgo.len; omega)
    obtain ⟨S, hS⟩ : ∃ S, S = predN lib name (kept ++ [more]) args 400 := ⟨_, rfl⟩
    rw [hlen, ← hS] at hp2
    have HP2 := Lib.hid hp2
    have HSS := Lib.hid hS
    have hr := HRR.out
    have HBOTH : Hid (R.err = 0 → S.err = 0 → sumI S.cnt.calls + sumI S.cnt.kept ≤ sumI R.cnt.calls + sumI R.cnt.kept ∧ R.gar ≤ S.gar ∧ (∀ i, 0 ≤ at' R.cnt.calls i) ∧ (∀ i, 0 ≤ at' R.cnt.kept i) ∧ sumI R.cnt.calls + sumI R.cnt.kept ≤ 1152921504606846976 ∧ (∀ i, 0 ≤ at' S.cnt.calls i) ∧ (∀ i, 0 ≤ at' S.cnt.kept i) ∧ sumI S.cnt.calls + sumI S.cnt.kept ≤ 1152921504606846976) := Lib.hid (fun h1 h2 => by
      rw [hr] at h1
      rw [hS] at h2
      have m := pred_monotone (vlen_of hgo) h1 h2
      obtain ⟨p1, p2, p3⟩ := pred_nn (vlen_of hgo) (by omega) h1
      obtain ⟨p4, p5, p6⟩ := pred_nn (vlen_of hgo) (by omega) h2
      rw [hr, hS]
      exact ⟨m.1, m.2, p1, p2, p3, p4, p5, p6⟩)
    clear hp2 hgo hS hr hlen HO1 HO2 HST
    refine HP2.out.mono ?_
    rintro e w8 ⟨b1, b2, d1, d2, rfl, hs1, hs2, hgar2, hb8⟩
    have HB8 := Lib.hid hb8
    have hb9 : Below w7.heap.size w7 (w8.alloc (.cells #[.slice b1 S.cnt.calls.length d1, .slice b2 S.cnt.kept.length d2, .int .i64 S.gar] 29)) := bel_alloc hb8
    have HS1 := Lib.hid (hs1.stays (Stays.of_below (bel_alloc (x := .cells #[.slice b1 S.cnt.calls.length d1, .slice b2 S.cnt.kept.length d2, .int .i64 S.gar] 29) (Below.refl w8.heap.size w8))))
    have HS2 := Lib.hid (hs2.stays (Stays.of_below (bel_alloc (x := .cells #[.slice b1 S.cnt.calls.length d1, .slice b2 S.cnt.kept.length d2, .int .i64 S.gar] 29) (Below.refl w8.heap.size w8))))
    have HX9 := Lib.hid (blk_below hb9 HX8.out)
    have HV9 := Lib.hid (HV8.out.trans (hb9.mono HV8.out.size))
    have HY9 := Lib.hid (at_new0 w8 (.cells #[.slice b1 S.cnt.calls.length d1, .slice b2 S.cnt.kept.length d2, .int .i64 S.gar] 29))
    have HW9 := Lib.hid (HW8.out.trans (hb9.mono HW8.out.size))
    obtain ⟨x0, x1, x2⟩ := cells3 HX9.out
    obtain ⟨y0, y1, y2⟩ := cells3 HY9.out
    clear hs1 hs2 hb8 hb9 HP2
    by_cases h1 : R.err = 0
    case neg =>
      have e1 : (R.err != 0) = true := by simp [h1]
      clear h1
      go_wp2
      go_ret
      exact ⟨rfl, HW9.out⟩
    have e1 : (R.err != 0) = false := by simp [h1]
    by_cases h2 : S.err = 0
    case neg =>
      have e2 : (S.err != 0) = true := by simp [h2]
      clear h1 h2
      go_wp2
      go_ret
      exact ⟨rfl, HW9.out⟩
    have e2 : (S.err != 0) = false := by simp [h2]
    obtain ⟨f1, f2, n1, n2, n3, n4, n5, n6⟩ := HBOTH.out h1 h2
    clear h1 h2
    obtain ⟨W, hW⟩ : ∃ W, W = (w8.alloc (.cells #[.slice b1 S.cnt.calls.length d1, .slice b2 S.cnt.kept.length d2, .int .i64 S.gar] 29)) := ⟨_, rfl⟩
    rw [← hW] at HX9 HY9 HS1 HS2 HW9 HV9
    have HRW : Hid (RowsAt IntE Any W (.slice a1 R.cnt.calls.length c1) R.cnt.calls ∧ RowsAt IntE Any W (.slice a2 R.cnt.kept.length c2) R.cnt.kept) := Lib.hid ⟨HR1.out.stays (stays_any HV9.out), HR2.out.stays (stays_any HV9.out)⟩
    have HTS : Hid (∀ w1, Below W.heap.size W w1 → Calls Tryd.prog 20 #[.agg #[.slice b1 S.cnt.calls.length d1, .slice b2 S.cnt.kept.length d2, .int .i64 S.gar]] w1 fun e w' => e = .returned (.int .i64 (sumI S.cnt.calls + sumI S.cnt.kept)) ∧ Below w1.heap.size w1 w') := Lib.hid (fun w1 h => total_any b1 b2 d1 d2 S.cnt.calls S.cnt.kept S.gar _ w1 (HS1.out.stays (Stays.of_below h)) (HS2.out.stays (Stays.of_below h)) n4 n5 n6)
    have HTR : Hid (∀ w1, Below W.heap.size W w1 → Calls Tryd.prog 20 #[.agg #[.slice a1 R.cnt.calls.length c1, .slice a2 R.cnt.kept.length c2, .int .i64 R.gar]] w1 fun e w' => e = .returned (.int .i64 (sumI R.cnt.calls + sumI R.cnt.kept)) ∧ Below w1.heap.size w1 w') := Lib.hid (fun w1 h => total_any a1 a2 c1 c2 R.cnt.calls R.cnt.kept R.gar Any w1 (HRW.out.1.stays (Stays.of_below h)) (HRW.out.2.stays (Stays.of_below h)) n1 n2 n3)
    have HXX : Hid (∀ w1, Below W.heap.size W w1 → w1.cell? ⟨w4.heap.size, 0, none⟩ = some (.slice a1 R.cnt.calls.length c1) ∧ w1.cell? ⟨w4.heap.size, 1, none⟩ = some (.slice a2 R.cnt.kept.length c2) ∧ w1.cell? ⟨w4.heap.size, 2, none⟩ = some (.int .i64 R.gar) ∧ w1.cell? ⟨w8.heap.size, 0, none⟩ = some (.slice b1 S.cnt.calls.length d1) ∧ w1.cell? ⟨w8.heap.size, 1, none⟩ = some (.slice b2 S.cnt.kept.length d2) ∧ w1.cell? ⟨w8.heap.size, 2, none⟩ = some (.int .i64 S.gar)) := Lib.hid (fun w1 h => by
      obtain ⟨x0, x1, x2⟩ := cells3 (blk_below h HX9.out)
      obtain ⟨y0, y1, y2⟩ := cells3 (blk_below h HY9.out)
      exact ⟨x0, x1, x2, y0, y1, y2⟩)
    have HF : Hid (∀ w1, Below W.heap.size W w1 → Below w.heap.size w w1) := Lib.hid (fun w1 h => HW9.out.trans (h.mono HW9.out.size))
    generalize sumI S.cnt.calls + sumI S.cnt.kept = X at *
    generalize sumI R.cnt.calls + sumI R.cnt.kept = Y at *
    have g1 : decide (X ≤ Y) = true := decide_eq_true f1
    have g2 : decide (R.gar ≤ S.gar) = true := decide_eq_true f2
    clear f1 f2 n1 n2 n3 n4 n5 n6 HBOTH
    subst hW
    go_wp2
    generalize (w8.alloc (.cells #[.slice b1 S.cnt.calls.length d1, .slice b2 S.cnt.kept.length d2, .int .i64 S.gar] 29)) = W at *
    go_region_held3 (fun w1 => w1.cell? ⟨w4.heap.size, 0, none⟩ = some (.slice a1 R.cnt.calls.length c1) ∧ w1.cell? ⟨w4.heap.size, 1, none⟩ = some (.slice a2 R.cnt.kept.length c2) ∧ w1.cell? ⟨w4.heap.size, 2, none⟩ = some (.int .i64 R.gar) ∧ w1.cell? ⟨w8.heap.size, 0, none⟩ = some (.slice b1 S.cnt.calls.length d1) ∧ w1.cell? ⟨w8.heap.size, 1, none⟩ = some (.slice b2 S.cnt.kept.length d2) ∧ w1.cell? ⟨w8.heap.size, 2, none⟩ = some (.int .i64 S.gar)) (with_reducible exact HXX.out _ (by (repeat (with_reducible first | exact Below.refl _ _ | refine bel_drew ?_ | refine bel_alloc ?_ | (apply bel_step; focus assumption)))))
      (first
      | (go_at_call 20; (with_reducible refine (HTS.out _ (by (repeat (with_reducible first | exact Below.refl _ _ | refine bel_drew ?_ | refine bel_alloc ?_ | (apply bel_step; focus assumption))))).mono ?_); rintro e w11 ⟨rfl, hb11⟩)
      | (go_at_call 20; (with_reducible refine (HTR.out _ (by (repeat (with_reducible first | exact Below.refl _ _ | refine bel_drew ?_ | refine bel_alloc ?_ | (apply bel_step; focus assumption))))).mono ?_); rintro e w12 ⟨rfl, hb12⟩))
    all_goals
      go_wp2
      go_ret
      exact ⟨rfl, HF.out _ (by (repeat (with_reducible first | exact Below.refl _ _ | refine bel_drew ?_ | refine bel_alloc ?_ | (apply bel_step; focus assumption))))⟩
end Go.Proofs.YtehmmokkjojggaaDoor
