/- PebbleLegal: for every n and every list of moves the law returns true: the first move that is not legal, whether a sequence is complete, the peak and the inverse are those of the reference. No condition. -/
import Derived.Test.YtpeiajmgkhajoaaPebN
import Derived.Test.YtpeiajmgkhajoaaPebV
import Derived.Test.YtpeiajmgkhajoaaOpen
namespace Go.Proofs.Ytpeiajmgkhajoaa
open Go.ChangeShapes Go.WideShapes Go.ChangeAt Go.RowKit
set_option linter.unusedVariables false

set_option maxHeartbeats 6400000 in
theorem walk_pebbleLegal (w : World) (n : Int) (hn : -9223372036854775808 ≤ n ∧ n ≤ 9223372036854775807) (v : Value) (l : List Int) (hv : IntsAt w v l) :
    Calls Try.prog 6 #[.int .i64 n, v] w fun e w' => e = .returned (.bool true) ∧ Below w.heap.size w w' := by
  cases hgr : greatB l with
  | true =>
    have HGR := Lib.hid hgr
    clear hgr
    go_enter Try.func6, Try.ntmps6
    go_wp2_with fail
    refine (awake_any w).mono ?_
    rintro e w1 ⟨rfl, hb1⟩
    have hz := hb1.size
    go_wp2_with fail
    refine (great_any v l w1 (hv.below hb1)).mono ?_
    rintro e w2 ⟨rfl, rfl⟩
    rw [HGR.out]
    go_wp2_with fail
    refine (awake_any w1).mono ?_
    rintro e w2 ⟨rfl, hb2⟩
    go_wp2
    go_ret
    exact ⟨rfl, hb1.trans (hb2.mono hz)⟩
  | false =>
    obtain ⟨hsm, hlen⟩ := greatB_false hgr
    have HGR := Lib.hid hgr
    clear hgr
    by_cases hn3 : 300 < n
    · have d1 : decide (300 < n) = true := by simpa using hn3
      go_enter Try.func6, Try.ntmps6
      go_wp2_with fail
      refine (awake_any w).mono ?_
      rintro e w1 ⟨rfl, hb1⟩
      have hz := hb1.size
      go_wp2_with fail
      refine (great_any v l w1 (hv.below hb1)).mono ?_
      rintro e w2 ⟨rfl, rfl⟩
      rw [HGR.out]
      go_wp2_with fail
      refine (awake_any w1).mono ?_
      rintro e w2 ⟨rfl, hb2⟩
      go_wp2
      go_ret
      exact ⟨rfl, hb1.trans (hb2.mono hz)⟩
    · have d1 : decide (300 < n) = false := by simpa using hn3
      go_enter Try.func6, Try.ntmps6
      go_wp2_with fail
      refine (awake_any w).mono ?_
      rintro e w1 ⟨rfl, hb1⟩
      have hv1 := hv.below hb1
      have hz1 := hb1.size
      clear hv
      go_wp2_with fail
      refine (great_any _ l w1 hv1).mono ?_
      rintro e w2 ⟨rfl, rfl⟩
      rw [HGR.out]
      go_wp2_with fail
      refine (legal_any n _ l w1 hv1 hsm hn.1 (by omega)).mono ?_
      rintro e w2 ⟨rfl, hb2⟩
      have hv2 := hv1.below hb2
      have hz2 := hb2.size
      have hB2 := hb1.trans (hb2.mono hz1)
      clear hv1 hb1 hb2
      go_wp2_with fail
      refine (refLegal_any n _ l w2 hv2 hsm hn.1 (by omega)).mono ?_
      rintro e w3 ⟨rfl, hb3⟩
      have hv3 := hv2.below hb3
      have hz3 := hb3.size
      have hB3 := hB2.trans (hb3.mono (by omega))
      clear hv2 hb3 hB2
      generalize legalM n l = r at *
      obtain ⟨r1, r2⟩ := r
      have q1 : ((r1 : Int) == (r1 : Int)) = true := by simp
      have q2 : (r2 == r2) = true := by simp
      have q3 : (peakOf l == peakOf l) = true := by simp
      go_wp2_with fail
      refine (peak_any _ l w3 hv3).mono ?_
      rintro e w4 ⟨rfl, rfl⟩
      go_wp2_with fail
      refine (refPeak_any _ l w3 hv3).mono ?_
      rintro e w4 ⟨rfl, rfl⟩
      go_wp2_with fail
      refine (inverse_any _ l w3 hv3 hsm).mono ?_
      rintro e w4 ⟨v4, rfl, h4, hb4⟩
      have hv4 := hv3.below hb4
      have hz4 := hb4.size
      have hB4 := hB3.trans (hb4.mono (by omega))
      clear hv3 hb4 hB3
      go_wp2_with fail
      refine (refInverse_any _ l w4 hv4 hsm).mono ?_
      rintro e w5 ⟨v5, rfl, h5, hb5⟩
      have h4' := h4.below hb5
      have hz5 := hb5.size
      have hB5 := hB4.trans (hb5.mono (by omega))
      clear hv4 h4 hb5 hB4
      go_wp2_with fail
      refine (ints_any _ _ _ _ w5 h4'.ints h5.ints).mono ?_
      rintro e w6 ⟨rfl, hb6⟩
      rw [decide_eq_true (rfl : negRev l = negRev l)]
      have hB6 := hB5.trans (hb6.mono (by omega))
      clear hB5 hb6 h4' h5
      go_wp2
      go_ret
      exact ⟨rfl, hB6⟩

set_option maxRecDepth 100000 in
theorem lifted_pebbleLegal (os : Os) (started : os.Started) (H : Type) (enc : TypeId × Value → H) :
    ReturnsInHanded {} Try.checked os 6 .any (Rows.pebbleLegalSpec.pre6 enc Try.prog Try.f6 Rows.pebbleLegalRow.domain false) (Rows.pebbleLegalSpec.post enc Try.prog Try.f6 false true false false) := by
  refine returnsInHanded_of_change_sized (C := Try.checked) own started (by kernel_rfl) Try.func6
    (ChangeSpec.witness6 (enc := enc) (C := Try.checked) false ⟨#[], #[.int .i64 0, .slice none 0 0], []⟩ 8 (by kernel_rfl) (by kernel_rfl) (by kernel_rfl) (by kernel_rfl)) ?_
  intro W base args ds gs before hval0 hW hcnd hsz0 _
  have hsz : (DataW.weightsEach Try.prog (Try.f6.params.toList ++ Rows.pebbleLegalSpec.plain.varTypes Try.prog) (ds ++ gs)).all (· ≤ reachBytes) = true := hsz0
  have hval : ∀ (j : Nat) t v, Try.f6.params[j]? = some t → args[j]? = some v → Value.okWide Try.prog W .any base t v := hval0
  have hW' := hW
  obtain ⟨p, q, hA0, hV, rfl, hfz, hnd⟩ := hW
  have hA : DataW.TrodAll enc Try.prog W 0 (fun _ => true) true Try.f6.params.toList args.toList ds p := hA0
  rw [Try.params6] at hA hval hsz
  obtain ⟨v0, vs0, d0, ds0, p0, q0, hargs, rfl, rfl, h0, r0⟩ := trodAll_cons hA
  obtain ⟨v1, vs1, d1, ds1, p1, q1, rfl, rfl, rfl, h1, r1⟩ := trodAll_cons r0
  obtain ⟨rfl, rfl, rfl⟩ := trodAll_nil r1
  obtain rfl : args = #[v0, v1] := by cases args; simp_all
  obtain ⟨rfl, rfl⟩ := trodVars_none hV
  obtain ⟨a0, rfl, rfl, rfl, w0⟩ := open_int Try.underlying3 (hval 0 3 v0 rfl rfl) h0
  have k1 := h1
  have lt1 : ∀ x ∈ p1, x.block < W.heap.size := by obtain ⟨m, hm⟩ := k1; exact DataW.trod_lt m _ _ _ hm
  obtain ⟨l1, i1⟩ := openInts (hval 1 23 v1 rfl rfl) h1 (fun elems spare e => sized_slice hsz (j := 1) rfl (by rw [e]; rfl) Try.underlying23)
  clear hA0 hval0
  refine (walk_pebbleLegal W a0 (rangeI64 w0) v1 l1 i1).mono fun e W' ⟨he, bel⟩ => ?_
  subst he
  exact ⟨_, rfl, _, _, _, [], _, [], hW', trodAll_mk1 (shut_bool Try.underlying4 _), (trodAll_cons_mk (shut_int Try.underlying3 w0) (trodAll_cons_mk (Below.trod laidOut (by kernel_rfl) (of_decide_eq_true (by kernel_rfl)) k1 bel lt1) trodAll_mk0)), rfl, bel.frame _, fun h => by cases h⟩

/-- the given statement -/
theorem proved_pebbleLegal : Rows.PebbleLegalSaid :=
  OpenClaim.holds_of_wide 6 Try.f6 rfl rfl rfl rfl rfl rfl rfl ⟨rfl, rfl, rfl, rfl, rfl⟩ rfl rfl rfl rfl rfl (by kernel_rfl) Try.func6 (by kernel_rfl)
    (of_decide_eq_true (by kernel_rfl)) (by unfold Func.isWrapper; first | (rw [if_pos (by decide +kernel)]; kernel_rfl) | (rw [if_neg (by decide +kernel)]; exact ⟨rfl, rfl⟩))
    (fun os started H enc _ => lifted_pebbleLegal os started H enc)
#print axioms proved_pebbleLegal

end Go.Proofs.Ytpeiajmgkhajoaa
