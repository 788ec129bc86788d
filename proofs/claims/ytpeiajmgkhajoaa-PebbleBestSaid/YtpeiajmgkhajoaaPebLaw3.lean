/- PebbleBest: for every n and every number of pebbles the law returns true: the shortest complete sequence with a bounded peak is that of the reference. No condition. -/
import Derived.Test.YtpeiajmgkhajoaaPebN
import Derived.Test.YtpeiajmgkhajoaaOpen
import Derived.Test.YtpeiajmgkhajoaaPebX
namespace Go.Proofs.Ytpeiajmgkhajoaa
open Go.ChangeShapes Go.WideShapes Go.ChangeAt Go.RowKit
set_option linter.unusedVariables false

set_option maxHeartbeats 3200000 in
theorem walk_pebbleBest (w : World) (n : Int) (hn : -9223372036854775808 ≤ n ∧ n ≤ 9223372036854775807) (p : Int) (hp : -9223372036854775808 ≤ p ∧ p ≤ 9223372036854775807) :
    Calls Try.prog 5 #[.int .i64 n, .int .i64 p] w fun e w' => e = .returned (.bool true) ∧ Below w.heap.size w w' := by
  by_cases h1 : 8 < n ∧ n ≤ 12
  · have d1 : decide (8 < n) = true := by simpa using h1.1
    have d2 : decide (n ≤ 12) = true := by simpa using h1.2
    go_enter Try.func5, Try.ntmps5
    go_wp2_with fail
    refine (awake_any w).mono ?_
    rintro e w1 ⟨rfl, hb1⟩
    have hz := hb1.size
    go_wp2_with fail
    refine (awake_any w1).mono ?_
    rintro e w2 ⟨rfl, hb2⟩
    go_wp2
    go_ret
    exact ⟨rfl, hb1.trans (hb2.mono hz)⟩
  · by_cases hbad : n < 1 ∨ 12 < n ∨ p < 1
    · have hnil : ∀ w0 : World, IntsAt w0 (.slice none 0 0) [] := fun w0 => (Own.nil w0 0 0).ints
      have HNIL := Lib.hid hnil
      clear hnil
      have dd : (false == false) = true := rfl
      by_cases h8 : 8 < n
      · have d1 : decide (8 < n) = true := by simpa using h8
        have d2 : decide (n ≤ 12) = false := by simp; omega
        go_enter Try.func5, Try.ntmps5
        go_wp2_with fail
        refine (awake_any w).mono ?_
        rintro e w1 ⟨rfl, hb1⟩
        have hz := hb1.size
        go_wp2_with fail
        refine (best_bad n p w1 hbad).mono ?_
        rintro e w2 ⟨rfl, rfl⟩
        go_wp2_with fail
        refine (refBest_bad n p w1 hbad).mono ?_
        rintro e w2 ⟨rfl, rfl⟩
        go_wp2_with fail
        refine (ints_any _ _ [] [] w1 (HNIL.out w1) (HNIL.out w1)).mono ?_
        rintro e w2 ⟨rfl, hb2⟩
        rw [decide_eq_true (rfl : ([] : List Int) = [])]
        go_wp2
        go_ret
        exact ⟨rfl, hb1.trans (hb2.mono hz)⟩
      · have d1 : decide (8 < n) = false := by simpa using h8
        go_enter Try.func5, Try.ntmps5
        go_wp2_with fail
        refine (awake_any w).mono ?_
        rintro e w1 ⟨rfl, hb1⟩
        have hz := hb1.size
        go_wp2_with fail
        refine (best_bad n p w1 hbad).mono ?_
        rintro e w2 ⟨rfl, rfl⟩
        go_wp2_with fail
        refine (refBest_bad n p w1 hbad).mono ?_
        rintro e w2 ⟨rfl, rfl⟩
        go_wp2_with fail
        refine (ints_any _ _ [] [] w1 (HNIL.out w1) (HNIL.out w1)).mono ?_
        rintro e w2 ⟨rfl, hb2⟩
        rw [decide_eq_true (rfl : ([] : List Int) = [])]
        go_wp2
        go_ret
        exact ⟨rfl, hb1.trans (hb2.mono hz)⟩
    · have d1 : decide (8 < n) = false := by simp; omega
      obtain ⟨N, rfl⟩ : ∃ N : Nat, n = N := ⟨n.toNat, by omega⟩
      have d1 : decide (8 < (N : Int)) = false := by simp; omega
      have hgood := good_p (n := N) (p := p) (by omega) (by omega) (by omega)
      have hzz := zeros_p (n := N) (p := p) (by omega) (by omega) (by omega)
      have HG := Lib.hid hgood
      have HZ := Lib.hid hzz
      clear hgood hzz
      go_enter Try.func5, Try.ntmps5
      go_wp2_with fail
      refine (awake_any w).mono ?_
      rintro e w1 ⟨rfl, hb1⟩
      have hz1 := hb1.size
      go_wp2_with fail
      refine (best_any N p w1 (by omega) (by omega) (by omega) hp.2 HG.out).mono ?_
      rintro e w2 ⟨v2, rfl, hv2, hb2⟩
      have hz2 := hb2.size
      go_wp2_with fail
      refine (refBest_any N p w2 (by omega) (by omega) (by omega) hp.2 HG.out HZ.out).mono ?_
      rintro e w3 ⟨v3, rfl, hv3, hb3⟩
      have hz3 := hb3.size
      have hB := (hb1.trans (hb2.mono hz1)).trans (hb3.mono (by omega))
      have i2 := (hv2.below hb3).ints
      generalize bestOk N p = ok at *
      have qq : (ok == ok) = true := by simp
      clear hb1 hb2 hb3 hv2
      go_wp2_with fail
      refine (ints_any _ _ _ _ w3 i2 hv3.ints).mono ?_
      rintro e w4 ⟨rfl, hb4⟩
      rw [decide_eq_true (rfl : bestL N p = bestL N p)]
      have hB4 := hB.trans (hb4.mono (by omega))
      clear hB hb4 i2 hv3
      go_wp2
      go_ret
      exact ⟨rfl, hB4⟩

set_option maxRecDepth 100000 in
theorem lifted_pebbleBest (os : Os) (started : os.Started) (H : Type) (enc : TypeId × Value → H) :
    ReturnsInHanded {} Try.checked os 5 .any (Rows.pebbleBestSpec.pre6 enc Try.prog Try.f5 Rows.pebbleBestRow.domain false) (Rows.pebbleBestSpec.post enc Try.prog Try.f5 false true false false) := by
  refine returnsInHanded_of_change_sized (C := Try.checked) own started (by kernel_rfl) Try.func5
    (ChangeSpec.witness6 (enc := enc) (C := Try.checked) false ⟨#[], #[.int .i64 0, .int .i64 0], []⟩ 8 (by kernel_rfl) (by kernel_rfl) (by kernel_rfl) (by kernel_rfl)) ?_
  intro W base args ds gs before hval0 hW hcnd hsz0 _
  have hsz : (DataW.weightsEach Try.prog (Try.f5.params.toList ++ Rows.pebbleBestSpec.plain.varTypes Try.prog) (ds ++ gs)).all (· ≤ reachBytes) = true := hsz0
  have hval : ∀ (j : Nat) t v, Try.f5.params[j]? = some t → args[j]? = some v → Value.okWide Try.prog W .any base t v := hval0
  have hW' := hW
  obtain ⟨p, q, hA0, hV, rfl, hfz, hnd⟩ := hW
  have hA : DataW.TrodAll enc Try.prog W 0 (fun _ => true) true Try.f5.params.toList args.toList ds p := hA0
  rw [Try.params5] at hA hval hsz
  obtain ⟨v0, vs0, d0, ds0, p0, q0, hargs, rfl, rfl, h0, r0⟩ := trodAll_cons hA
  obtain ⟨v1, vs1, d1, ds1, p1, q1, rfl, rfl, rfl, h1, r1⟩ := trodAll_cons r0
  obtain ⟨rfl, rfl, rfl⟩ := trodAll_nil r1
  obtain rfl : args = #[v0, v1] := by cases args; simp_all
  obtain ⟨rfl, rfl⟩ := trodVars_none hV
  obtain ⟨a0, rfl, rfl, rfl, w0⟩ := open_int Try.underlying3 (hval 0 3 v0 rfl rfl) h0
  obtain ⟨a1, rfl, rfl, rfl, w1⟩ := open_int Try.underlying3 (hval 1 3 v1 rfl rfl) h1
  clear hA0 hval0
  refine (walk_pebbleBest W a0 (rangeI64 w0) a1 (rangeI64 w1)).mono fun e W' ⟨he, bel⟩ => ?_
  subst he
  exact ⟨_, rfl, _, _, _, [], _, [], hW', trodAll_mk1 (shut_bool Try.underlying4 _), (trodAll_cons_mk (shut_int Try.underlying3 w0) (trodAll_cons_mk (shut_int Try.underlying3 w1) trodAll_mk0)), rfl, bel.frame _, fun h => by cases h⟩

/-- the given statement -/
theorem proved_pebbleBest : Rows.PebbleBestSaid :=
  OpenClaim.holds_of_wide 5 Try.f5 rfl rfl rfl rfl rfl rfl rfl ⟨rfl, rfl, rfl, rfl, rfl⟩ rfl rfl rfl rfl rfl (by kernel_rfl) Try.func5 (by kernel_rfl)
    (of_decide_eq_true (by kernel_rfl)) (by unfold Func.isWrapper; first | (rw [if_pos (by decide +kernel)]; kernel_rfl) | (rw [if_neg (by decide +kernel)]; exact ⟨rfl, rfl⟩))
    (fun os started H enc _ => lifted_pebbleBest os started H enc)
#print axioms proved_pebbleBest

end Go.Proofs.Ytpeiajmgkhajoaa
