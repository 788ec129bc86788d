/- PebbleBennett: for every n and k the law returns true: Bennett's strategy is that of the reference. No condition. -/
import Derived.Test.YtpeiajmgkhajoaaPebN
import Derived.Test.YtpeiajmgkhajoaaOpen
namespace Go.Proofs.Ytpeiajmgkhajoaa
open Go.ChangeShapes Go.WideShapes Go.ChangeAt Go.RowKit
set_option linter.unusedVariables false

set_option maxHeartbeats 3200000 in
theorem walk_pebbleBennett (w : World) (n : Int) (hn : -9223372036854775808 ≤ n ∧ n ≤ 9223372036854775807) (k : Int) (hk : -9223372036854775808 ≤ k ∧ k ≤ 9223372036854775807) :
    Calls Try.prog 3 #[.int .i64 n, .int .i64 k] w fun e w' => e = .returned (.bool true) ∧ Below w.heap.size w w' := by
  by_cases h1 : 300 < n
  · have d1 : decide (300 < n) = true := by simpa using h1
    by_cases h2 : n ≤ 500
    · have d2 : decide (n ≤ 500) = true := by simpa using h2
      go_enter Try.func3, Try.ntmps3
      go_wp2_with fail
      refine (awake_any w).mono ?_
      rintro e w1 ⟨rfl, hb1⟩
      have hz := hb1.size
      go_wp2_with fail
      refine (awake_any w1).mono ?_
      rintro e w2 ⟨rfl, hb2⟩
      go_wp2
      go_ret
      exact ⟨rfl, hb1.trans (hb2.mono hz)⟩
    · have d2 : decide (n ≤ 500) = false := by simpa using h2
      have d3 : decide (n < 1) = false := by simp; omega
      have d4 : decide (500 < n) = true := by simp; omega
      go_enter Try.func3, Try.ntmps3
      go_wp2_with fail
      refine (awake_any w).mono ?_
      rintro e w1 ⟨rfl, hb1⟩
      have hz := hb1.size
      go_wp2_with fail
      refine (bennett_bad n k w1 (by omega)).mono ?_
      rintro e w2 ⟨rfl, hb2⟩
      go_wp2
      go_ret
      exact ⟨rfl, hb1.trans (hb2.mono hz)⟩
  · have d1 : decide (300 < n) = false := by simpa using h1
    have d4 : decide (500 < n) = false := by simp; omega
    by_cases hbad : n < 1 ∨ k < 2 ∨ 500 < k
    · go_enter Try.func3, Try.ntmps3
      go_wp2_with fail
      refine (awake_any w).mono ?_
      rintro e w1 ⟨rfl, hb1⟩
      have hz := hb1.size
      go_wp2_with fail
      refine (bennett_bad n k w1 (by omega)).mono ?_
      rintro e w2 ⟨rfl, hb2⟩
      have hB := hb1.trans (hb2.mono hz)
      by_cases h3 : n < 1
      · have d3 : decide (n < 1) = true := by simpa using h3
        go_wp2
        go_ret
        exact ⟨rfl, hB⟩
      have d3 : decide (n < 1) = false := by simpa using h3
      by_cases h5 : k < 2
      · have d5 : decide (k < 2) = true := by simpa using h5
        go_wp2
        go_ret
        exact ⟨rfl, hB⟩
      have d5 : decide (k < 2) = false := by simpa using h5
      have d6 : decide (500 < k) = true := by simp; omega
      go_wp2
      go_ret
      exact ⟨rfl, hB⟩
    · obtain ⟨N, rfl⟩ : ∃ N : Nat, n = N := ⟨n.toNat, by omega⟩
      obtain ⟨K, rfl⟩ : ∃ K : Nat, k = K := ⟨k.toNat, by omega⟩
      have d3 : decide ((N : Int) < 1) = false := by simp; omega
      have d5 : decide ((K : Int) < 2) = false := by simp; omega
      have d6 : decide (500 < (K : Int)) = false := by simp; omega
      go_enter Try.func3, Try.ntmps3
      go_wp2_with fail
      refine (awake_any w).mono ?_
      rintro e w1 ⟨rfl, hb1⟩
      have hz := hb1.size
      go_wp2_with fail
      refine (bennett_good N K w1 (by omega) (by omega) (by omega) (by omega)).mono ?_
      rintro e w2 ⟨v2, rfl, hv2, hb2⟩
      have hz2 := hb2.size
      go_wp2_with fail
      refine (refBennett_any N K 0 N _ _ w2 rfl rfl (by omega) (by omega) (by omega) (by omega) (by omega)).mono ?_
      rintro e w3 ⟨v3, rfl, hv3, hb3⟩
      have hz3 := hb3.size
      go_wp2_with fail
      refine (ints_any v2 v3 _ _ w3 (hv2.below hb3).ints hv3.ints).mono ?_
      rintro e w4 ⟨rfl, hb4⟩
      rw [decide_eq_true (rfl : strat N K 0 N = strat N K 0 N)]
      have hB := ((hb1.trans (hb2.mono hz)).trans (hb3.mono (by omega))).trans (hb4.mono (by omega))
      clear hb1 hb2 hb3 hb4 hv2 hv3
      go_wp2
      go_ret
      exact ⟨rfl, hB⟩

set_option maxRecDepth 100000 in
theorem lifted_pebbleBennett (os : Os) (started : os.Started) (H : Type) (enc : TypeId × Value → H) :
    ReturnsInHanded {} Try.checked os 3 .any (Rows.pebbleBennettSpec.pre6 enc Try.prog Try.f3 Rows.pebbleBennettRow.domain false) (Rows.pebbleBennettSpec.post enc Try.prog Try.f3 false true false false) := by
  refine returnsInHanded_of_change_sized (C := Try.checked) own started (by kernel_rfl) Try.func3
    (ChangeSpec.witness6 (enc := enc) (C := Try.checked) false ⟨#[], #[.int .i64 0, .int .i64 0], []⟩ 8 (by kernel_rfl) (by kernel_rfl) (by kernel_rfl) (by kernel_rfl)) ?_
  intro W base args ds gs before hval0 hW hcnd hsz0 _
  have hsz : (DataW.weightsEach Try.prog (Try.f3.params.toList ++ Rows.pebbleBennettSpec.plain.varTypes Try.prog) (ds ++ gs)).all (· ≤ reachBytes) = true := hsz0
  have hval : ∀ (j : Nat) t v, Try.f3.params[j]? = some t → args[j]? = some v → Value.okWide Try.prog W .any base t v := hval0
  have hW' := hW
  obtain ⟨p, q, hA0, hV, rfl, hfz, hnd⟩ := hW
  have hA : DataW.TrodAll enc Try.prog W 0 (fun _ => true) true Try.f3.params.toList args.toList ds p := hA0
  rw [Try.params3] at hA hval hsz
  obtain ⟨v0, vs0, d0, ds0, p0, q0, hargs, rfl, rfl, h0, r0⟩ := trodAll_cons hA
  obtain ⟨v1, vs1, d1, ds1, p1, q1, rfl, rfl, rfl, h1, r1⟩ := trodAll_cons r0
  obtain ⟨rfl, rfl, rfl⟩ := trodAll_nil r1
  obtain rfl : args = #[v0, v1] := by cases args; simp_all
  obtain ⟨rfl, rfl⟩ := trodVars_none hV
  obtain ⟨a0, rfl, rfl, rfl, w0⟩ := open_int Try.underlying3 (hval 0 3 v0 rfl rfl) h0
  obtain ⟨a1, rfl, rfl, rfl, w1⟩ := open_int Try.underlying3 (hval 1 3 v1 rfl rfl) h1
  clear hA0 hval0
  refine (walk_pebbleBennett W a0 (rangeI64 w0) a1 (rangeI64 w1)).mono fun e W' ⟨he, bel⟩ => ?_
  subst he
  exact ⟨_, rfl, _, _, _, [], _, [], hW', trodAll_mk1 (shut_bool Try.underlying4 _), (trodAll_cons_mk (shut_int Try.underlying3 w0) (trodAll_cons_mk (shut_int Try.underlying3 w1) trodAll_mk0)), rfl, bel.frame _, fun h => by cases h⟩

/-- the given statement -/
theorem proved_pebbleBennett : Rows.PebbleBennettSaid :=
  OpenClaim.holds_of_wide 3 Try.f3 rfl rfl rfl rfl rfl rfl rfl ⟨rfl, rfl, rfl, rfl, rfl⟩ rfl rfl rfl rfl rfl (by kernel_rfl) Try.func3 (by kernel_rfl)
    (of_decide_eq_true (by kernel_rfl)) (by unfold Func.isWrapper; first | (rw [if_pos (by decide +kernel)]; kernel_rfl) | (rw [if_neg (by decide +kernel)]; exact ⟨rfl, rfl⟩))
    (fun os started H enc _ => lifted_pebbleBennett os started H enc)
#print axioms proved_pebbleBennett

end Go.Proofs.Ytpeiajmgkhajoaa
