/- PebbleReach: for every n and every number of pebbles the law returns true: a complete sequence exists exactly up to the length that Reach returns. No condition. -/
import Derived.Test.YtpeiajmgkhajoaaPebN
import Derived.Test.YtpeiajmgkhajoaaOpen
import Derived.Test.YtpeiajmgkhajoaaPebT6
namespace Go.Proofs.Ytpeiajmgkhajoaa
open Go.ChangeShapes Go.WideShapes Go.ChangeAt Go.RowKit
set_option linter.unusedVariables false

/-- what the law asks, for a chain of a nodes and p pebbles -/
def reachOk (a p : Nat) : Bool :=
  ((bestT a (cap a p)).isSome == decide (a ≤ 2 ^ (p - 1))) &&
  match bestT a (cap a p) with
  | none => true
  | some l => (match bestT a (cap a ((p : Int) + 1)) with | none => false | some m => decide (m.length ≤ l.length)) && decide (legalM a l = (l.length, true)) && decide (peakOf l ≤ p) && l.all (fun x => decide (-100 ≤ x) && decide (x ≤ 100)) && decide (l.length ≤ 100)
theorem reach_all : ∀ a : Fin 8, ∀ p : Fin 7, reachOk (a.val + 1) (p.val + 1) = true := by decide +kernel
theorem first_all : ∀ a : Fin 8, (match bestT (a.val + 1) (cap (a.val + 1) 1) with | none => true | some l => decide (l.length ≤ 100)) = true := by decide +kernel

set_option maxRecDepth 100000 in
set_option maxHeartbeats 3200000 in
theorem walk_pebbleReach (w : World) (k : Int) (hk : 0 ≤ k ∧ k ≤ 255) (p : Int) (hp : 0 ≤ p ∧ p ≤ 255) :
    Calls Try.prog 10 #[.int .u8 k, .int .u8 p] w fun e w' => e = .returned (.bool true) ∧ Below w.heap.size w w' := by
  obtain ⟨k0, hk0⟩ := Int.eq_ofNat_of_zero_le hk.1
  subst hk0
  obtain ⟨p0, hp0⟩ := Int.eq_ofNat_of_zero_le hp.1
  subst hp0
  obtain ⟨a, ha⟩ : ∃ a : Nat, a = 1 + k0 % 8 := ⟨_, rfl⟩
  obtain ⟨q, hq⟩ : ∃ q : Nat, q = p0 % 8 := ⟨_, rfl⟩
  have ha1 : 1 + (k0 : Int) % 8 = (a : Int) := by omega
  have hq1 : (p0 : Int) % 8 = (q : Int) := by omega
  have ha2 : 1 ≤ a ∧ a ≤ 8 := by omega
  have hq2 : q ≤ 7 := by omega
  clear ha hq
  have hgood1 := good_p (p := (q : Int) + 1) ha2.1 ha2.2 (by omega)
  obtain ⟨hb1, hb2⟩ := best_p (p := (q : Int) + 1) ha2.1 ha2.2 (by omega)
  have HG1 := Lib.hid hgood1
  have HB1 := Lib.hid hb1
  have HB2 := Lib.hid hb2
  clear hgood1 hb1 hb2
  by_cases hq0 : q = 0
  · subst hq0
    have hd0 : decide ((a : Int) ≤ 0) = false := by simp; omega
    go_enter Try.func10, Try.ntmps10
    go_wp2_with fail
    refine (awake_any w).mono ?_
    rintro e w1 ⟨rfl, hB1⟩
    have hz1 := hB1.size
    go_wp2_with fail
    refine (best_bad a 0 w1 (by omega)).mono ?_
    rintro e w2 ⟨rfl, rfl⟩
    go_wp2_with fail
    refine (best_any a 1 w1 ha2.1 ha2.2 (by omega) (by omega) HG1.out).mono ?_
    rintro e w2 ⟨v2, rfl, hv2, hB2⟩
    have hB := hB1.trans (hB2.mono hz1)
    go_wp2_with fail
    refine (reach_any 0 w2 (by omega) (by omega)).mono ?_
    rintro e w3 ⟨rfl, rfl⟩
    rw [if_pos (by omega)]
    go_wp2_with fail
    refine (reach_any 0 w2 (by omega) (by omega)).mono ?_
    rintro e w3 ⟨rfl, rfl⟩
    rw [if_pos (by omega)]
    go_wp2_with fail
    refine (reach_any 1 w2 (by omega) (by omega)).mono ?_
    rintro e w3 ⟨rfl, rfl⟩
    rw [if_neg (by omega)]
    go_wp2
    go_ret
    exact ⟨rfl, hB⟩
  · have hq3 : 1 ≤ q := by omega
    obtain ⟨R, hR⟩ : ∃ R : Nat, R = 2 ^ (q - 1) := ⟨_, rfl⟩
    obtain ⟨R1, hR1⟩ : ∃ R1 : Nat, R1 = 2 ^ q := ⟨_, rfl⟩
    have hRb : 1 ≤ R ∧ R ≤ 64 := by
      rw [hR]; exact ⟨Nat.pow_pos (by decide), Nat.pow_le_pow_right (n := 2) (by decide) (show q - 1 ≤ 6 by omega)⟩
    have hRR : R1 = 2 * R := by
      have e : 2 ^ q = 2 ^ (q - 1) * 2 := by rw [← Nat.pow_succ, show (q - 1).succ = q by omega]
      rw [hR, hR1, e, Nat.mul_comm]
    have hlt2 : decide ((R1 : Int) < (R : Int)) = false := by simp; omega
    have hlt3 : decide (R1 < R) = false := by simp; omega
    have hne : ((R : Int) != (R : Int)) = false := by simp
    have hge : decide (1 ≤ (q : Int)) = true := by simp; omega
    have hge2 : decide (1 ≤ q) = true := by simp; omega
    have eR : (if ((q : Int) < 1) then (0 : Int) else 2 ^ ((q : Int).toNat - 1)) = (R : Int) := by
      rw [if_neg (by omega), hR]; simp
    have eR1 : (if ((q : Int) + 1 < 1) then (0 : Int) else 2 ^ (((q : Int) + 1).toNat - 1)) = (R1 : Int) := by
      rw [if_neg (by omega), hR1]; simp
    have eRm : (if (-(q : Int) < 1) then (0 : Int) else 2 ^ ((-(q : Int)).toNat - 1)) = 0 := by rw [if_pos (by omega)]
    have hw : wrap64 ((2 : Int) ^ (q - 1)) = (R : Int) := by
      have e : ((2 : Int) ^ (q - 1)) = ((2 ^ (q - 1) : Nat) : Int) := by simp
      rw [e, ← hR]; exact IntWalk.wrap64_in _ (by omega)
    have hgood := good_p (p := (q : Int)) ha2.1 ha2.2 (by omega)
    obtain ⟨hc1, hc2⟩ := best_p (p := (q : Int)) ha2.1 ha2.2 (by omega)
    have hre : reachOk a q = true := by
      have := reach_all ⟨a - 1, by omega⟩ ⟨q - 1, by omega⟩
      simp only at this
      rw [show a - 1 + 1 = a by omega, show q - 1 + 1 = q by omega] at this
      exact this
    rw [reachOk, ← hR] at hre
    have HR := Lib.hid hR
    have HG := Lib.hid hgood
    have HC1 := Lib.hid hc1
    have HC2 := Lib.hid hc2
    have ER := Lib.hid eR
    have ER1 := Lib.hid eR1
    have ERM := Lib.hid eRm
    clear hR hR1 hgood hc1 hc2 hRR eR eR1 eRm
    cases hbt : bestT a (cap a (q : Int)) with
    | none =>
      rw [hbt] at HC1 HC2 hre
      have HC1 : Hid (bestOk a (q : Int) = false) := HC1.out
      have HC2 : Hid (bestL a (q : Int) = []) := HC2.out
      have hdec : decide (a ≤ R) = false := by simpa using hre
      have hdec2 : decide ((a : Int) ≤ (R : Int)) = false := by simpa using hdec
      clear hre hbt
      go_enter Try.func10, Try.ntmps10
      go_wp2_with fail
      refine (awake_any w).mono ?_
      rintro e w1 ⟨rfl, hB1⟩
      have hz1 := hB1.size
      go_wp2_with fail
      refine (best_any a q w1 ha2.1 ha2.2 (by omega) (by omega) HG.out).mono ?_
      rintro e w2 ⟨v2, rfl, hv2, hB2⟩
      rw [HC1.out]
      rw [HC2.out] at hv2
      obtain ⟨a2, c2, rfl⟩ := hv2.form
      have hz2 := hB2.size
      go_wp2_with fail
      refine (best_any a ((q : Int) + 1) w2 ha2.1 ha2.2 (by omega) (by omega) HG1.out).mono ?_
      rintro e w3 ⟨v3, rfl, hv3, hB3⟩
      have hB := (hB1.trans (hB2.mono hz1)).trans (hB3.mono (by omega))
      clear hv2 hv3 hB1 hB2 hB3
      go_wp2_with fail
      refine (reach_any q w3 (by omega) (by omega)).mono ?_
      rintro e w4 ⟨rfl, rfl⟩
      rw [ER.out]
      go_wp2_with fail
      refine (reach_any (-(q : Int)) w3 (by omega) (by omega)).mono ?_
      rintro e w4 ⟨rfl, rfl⟩
      rw [ERM.out]
      go_wp2_with fail
      refine (reach_any ((q : Int) + 1) w3 (by omega) (by omega)).mono ?_
      rintro e w4 ⟨rfl, rfl⟩
      rw [ER1.out]
      go_wp2
      go_ret
      exact ⟨rfl, hB⟩
    | some l =>
      rw [hbt] at HC1 HC2 hre
      have HC1 : Hid (bestOk a (q : Int) = true) := HC1.out
      have HC2 : Hid (bestL a (q : Int) = l) := HC2.out
      simp only [Bool.and_eq_true, Option.isSome_some, beq_iff_eq] at hre
      obtain ⟨hdec0, ⟨⟨⟨hmore, hleg0⟩, hpk⟩, hsm⟩, hll0⟩ := hre
      have hdec := hdec0.symm
      clear hdec0
      have hdec2 : decide ((a : Int) ≤ (R : Int)) = true := by simpa using hdec
      cases hbt1 : bestT a (cap a ((q : Int) + 1)) with
      | none => rw [hbt1] at hmore; simp at hmore
      | some m =>
        rw [hbt1] at hmore HB1 HB2
        have HB1 : Hid (bestOk a ((q : Int) + 1) = true) := HB1.out
        have HB2 : Hid (bestL a ((q : Int) + 1) = m) := HB2.out
        have hml : m.length ≤ l.length := by simpa using hmore
        have hll : l.length ≤ 100 := by simpa using hll0
        have hleg := Lib.hid (of_decide_eq_true hleg0)
        have hs : Small l := fun x hx => by
          have := List.all_eq_true.1 hsm x hx
          simp at this; omega
        have hd5 : decide ((l.length : Int) < (m.length : Int)) = false := by simp; omega
        have hd6 : decide (l.length < m.length) = false := by simp; omega
        have hd7 : decide (peakOf l ≤ (q : Int)) = true := hpk
        have hd8 : ((l.length : Int) == (l.length : Int)) = true := by simp
        clear hmore hbt hbt1 hsm hpk hll0 hleg0
        go_enter Try.func10, Try.ntmps10
        go_wp2_with fail
        refine (awake_any w).mono ?_
        rintro e w1 ⟨rfl, hB1⟩
        have hz1 := hB1.size
        go_wp2_with fail
        refine (best_any a q w1 ha2.1 ha2.2 (by omega) (by omega) HG.out).mono ?_
        rintro e w2 ⟨v2, rfl, hv2, hB2⟩
        rw [HC1.out]
        rw [HC2.out] at hv2
        obtain ⟨a2, c2, rfl⟩ := hv2.form
        have hz2 := hB2.size
        go_wp2_with fail
        refine (best_any a ((q : Int) + 1) w2 ha2.1 ha2.2 (by omega) (by omega) HG1.out).mono ?_
        rintro e w3 ⟨v3, rfl, hv3, hB3⟩
        rw [HB1.out]
        rw [HB2.out] at hv3
        obtain ⟨a3, c3, rfl⟩ := hv3.form
        have hz3 := hB3.size
        have hB := (hB1.trans (hB2.mono hz1)).trans (hB3.mono (by omega))
        have hi := (hv2.below hB3).ints
        clear hv2 hv3 hB1 hB2 hB3
        go_wp2_with fail
        refine (reach_any q w3 (by omega) (by omega)).mono ?_
        rintro e w4 ⟨rfl, rfl⟩
        rw [ER.out]
        go_wp2_with fail
        refine (reach_any (-(q : Int)) w3 (by omega) (by omega)).mono ?_
        rintro e w4 ⟨rfl, rfl⟩
        rw [ERM.out]
        go_wp2_with fail
        refine (reach_any ((q : Int) + 1) w3 (by omega) (by omega)).mono ?_
        rintro e w4 ⟨rfl, rfl⟩
        rw [ER1.out]
        go_wp2_with fail
        refine (legal_any a _ _ w3 hi hs (by omega) (by omega)).mono ?_
        rintro e w4 ⟨rfl, hB4⟩
        rw [hleg.out]
        have hi4 := hi.below hB4
        have hBB := hB.trans (hB4.mono (by omega))
        clear hi hB hB4
        go_wp2_with fail
        refine (peak_any _ _ w4 hi4).mono ?_
        rintro e w5 ⟨rfl, rfl⟩
        go_wp2
        go_ret
        exact ⟨rfl, hBB⟩

set_option maxRecDepth 100000 in
theorem lifted_pebbleReach (os : Os) (started : os.Started) (H : Type) (enc : TypeId × Value → H) :
    ReturnsInHanded {} Try.checked os 10 .any (Rows.pebbleReachSpec.pre6 enc Try.prog Try.f10 Rows.pebbleReachRow.domain false) (Rows.pebbleReachSpec.post enc Try.prog Try.f10 false true false false) := by
  refine returnsInHanded_of_change_sized (C := Try.checked) own started (by kernel_rfl) Try.func10
    (ChangeSpec.witness6 (enc := enc) (C := Try.checked) false ⟨#[], #[.int .u8 0, .int .u8 0], []⟩ 8 (by kernel_rfl) (by kernel_rfl) (by kernel_rfl) (by kernel_rfl)) ?_
  intro W base args ds gs before hval0 hW hcnd hsz0 _
  have hsz : (DataW.weightsEach Try.prog (Try.f10.params.toList ++ Rows.pebbleReachSpec.plain.varTypes Try.prog) (ds ++ gs)).all (· ≤ reachBytes) = true := hsz0
  have hval : ∀ (j : Nat) t v, Try.f10.params[j]? = some t → args[j]? = some v → Value.okWide Try.prog W .any base t v := hval0
  have hW' := hW
  obtain ⟨p, q, hA0, hV, rfl, hfz, hnd⟩ := hW
  have hA : DataW.TrodAll enc Try.prog W 0 (fun _ => true) true Try.f10.params.toList args.toList ds p := hA0
  rw [Try.params10] at hA hval hsz
  obtain ⟨v0, vs0, d0, ds0, p0, q0, hargs, rfl, rfl, h0, r0⟩ := trodAll_cons hA
  obtain ⟨v1, vs1, d1, ds1, p1, q1, rfl, rfl, rfl, h1, r1⟩ := trodAll_cons r0
  obtain ⟨rfl, rfl, rfl⟩ := trodAll_nil r1
  obtain rfl : args = #[v0, v1] := by cases args; simp_all
  obtain ⟨rfl, rfl⟩ := trodVars_none hV
  obtain ⟨a0, rfl, rfl, rfl, w0⟩ := open_int Try.underlying5 (hval 0 5 v0 rfl rfl) h0
  obtain ⟨a1, rfl, rfl, rfl, w1⟩ := open_int Try.underlying5 (hval 1 5 v1 rfl rfl) h1
  clear hA0 hval0
  refine (walk_pebbleReach W a0 (rangeU8 w0) a1 (rangeU8 w1)).mono fun e W' ⟨he, bel⟩ => ?_
  subst he
  exact ⟨_, rfl, _, _, _, [], _, [], hW', trodAll_mk1 (shut_bool Try.underlying4 _), (trodAll_cons_mk (shut_int Try.underlying5 w0) (trodAll_cons_mk (shut_int Try.underlying5 w1) trodAll_mk0)), rfl, bel.frame _, fun h => by cases h⟩

/-- the given statement -/
theorem proved_pebbleReach : Rows.PebbleReachSaid :=
  OpenClaim.holds_of_wide 10 Try.f10 rfl rfl rfl rfl rfl rfl rfl ⟨rfl, rfl, rfl, rfl, rfl⟩ rfl rfl rfl rfl rfl (by kernel_rfl) Try.func10 (by kernel_rfl)
    (of_decide_eq_true (by kernel_rfl)) (by unfold Func.isWrapper; first | (rw [if_pos (by decide +kernel)]; kernel_rfl) | (rw [if_neg (by decide +kernel)]; exact ⟨rfl, rfl⟩))
    (fun os started H enc _ => lifted_pebbleReach os started H enc)
#print axioms proved_pebbleReach

end Go.Proofs.Ytpeiajmgkhajoaa
