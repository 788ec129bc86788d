/- PebbleComplete: for every n and k the law returns true: Bennett's strategy is complete, and needs at most p (k - 1) + 1 pebbles. No condition. -/
import Derived.Test.YtpeiajmgkhajoaaPebN
import Derived.Test.YtpeiajmgkhajoaaOpen
import Derived.Test.YtpeiajmgkhajoaaPebU
namespace Go.Proofs.Ytpeiajmgkhajoaa
open Go.ChangeShapes Go.WideShapes Go.ChangeAt Go.RowKit
set_option linter.unusedVariables false

set_option maxRecDepth 100000 in
set_option maxHeartbeats 6400000 in
theorem walk_pebbleComplete (w : World) (n : Int) (hn : 0 ≤ n ∧ n ≤ 65535) (k : Int) (hk : 0 ≤ k ∧ k ≤ 65535) :
    Calls Try.prog 7 #[.int .u16 n, .int .u16 k] w fun e w' => e = .returned (.bool true) ∧ Below w.heap.size w w' := by
  obtain ⟨n0, hn0⟩ := Int.eq_ofNat_of_zero_le hn.1
  subst hn0
  obtain ⟨k0, hk0⟩ := Int.eq_ofNat_of_zero_le hk.1
  subst hk0
  obtain ⟨a, ha⟩ : ∃ a : Nat, a = 1 + n0 % 300 := ⟨_, rfl⟩
  obtain ⟨b, hb⟩ : ∃ b : Nat, b = 2 + k0 % 60 := ⟨_, rfl⟩
  have ha1 : 1 + (n0 : Int) % 300 = (a : Int) := by omega
  have hb1 : 2 + (k0 : Int) % 60 = (b : Int) := by omega
  have ha2 : 1 ≤ a ∧ a ≤ 300 := by omega
  have hb2 : 2 ≤ b ∧ b ≤ 61 := by omega
  clear ha hb
  have HLG := Lib.hid (strat_legal a b hb2.1 ha2.1)
  have HPK := Lib.hid (fun L hL => strat_peak a b L hb2.1 ha2.1 hL)
  have hsb : Small (strat a b 0 a) := (within_strat a b 0 a hb2.1 ha2.1 (Nat.le_refl _)).small (by omega)
  have hll : (strat a b 0 a).length ≤ 125000000 := Nat.le_trans (strat_len a b 0 a hb2.1 ha2.1 (Nat.le_refl _)) (cube_le (by omega))
  go_enter Try.func7, Try.ntmps7
  go_wp2_with fail
  refine (awake_any w).mono ?_
  rintro e w1 ⟨rfl, hB1⟩
  have hz1 := hB1.size
  go_wp2_with fail
  refine (bennett_good a b w1 ha2.1 (by omega) hb2.1 (by omega)).mono ?_
  rintro e w2 ⟨vb, rfl, hvb, hB2⟩
  have hz2 := hB2.size
  have hB := hB1.trans (hB2.mono hz1)
  generalize strat a b 0 a = bl at *
  obtain ⟨ab, cb, rfl⟩ := hvb.form
  have hi := hvb.ints
  clear hB1 hB2 hvb
  go_wp2_with fail
  refine (legal_any a _ bl w2 hi hsb (by omega) (by omega)).mono ?_
  rintro e w3 ⟨rfl, hB3⟩
  rw [HLG.out]
  have hi3 := hi.below hB3
  have hB' := hB.trans (hB3.mono (by omega))
  clear hi hB hB3
  go_wp2
  go_loopg [11, 12] (a - 1) (fun g s11 s12 wr => w3 = wr ∧ ∃ L z : Nat, z = b ^ L ∧ g = a - z ∧ 1 ≤ z ∧ z ≤ 20000 ∧ L ≤ 300 ∧ L ≤ z ∧ s11 = .int .i64 L ∧ s12 = .int .i64 z)
  case atStart => exact ⟨rfl, 0, 1, by simp, rfl, by omega, by omega, by omega, by omega, rfl, rfl⟩
  case round =>
    obtain ⟨rfl, L, z, hz, rfl, hz1, hz2, hL3, hLz, rfl, rfl⟩ := hrel
    have HZ : Hid (z = b ^ L) := hz
    clear hz
    by_cases hlt : z < a
    · obtain ⟨c, hc⟩ : ∃ c : Nat, c = z * b := ⟨_, rfl⟩
      have hc1 : (z : Int) * (b : Int) = (c : Int) := by rw [hc]; simp
      have hc5 : c ≤ 300 * 61 := by rw [hc]; exact Nat.mul_le_mul (by omega) hb2.2
      have hc6 : z * 2 ≤ c := by rw [hc]; exact Nat.mul_le_mul_left _ hb2.1
      have HC := Lib.hid hc
      clear hc
      go_wp2
      go_roundg (a - c)
      case measure => omega
      case rel => exact ⟨rfl, L + 1, c, by rw [HC.out, HZ.out, Nat.pow_succ], rfl, by omega, by omega, by omega, by omega, by go_num, rfl⟩
    · have hpk := HPK.out L (by rw [← HZ.out]; omega)
      obtain ⟨t, ht⟩ : ∃ t : Nat, t = L * (b - 1) := ⟨_, rfl⟩
      have ht1 : (L : Int) * ((b : Int) - 1) = (t : Int) := by rw [ht, show ((b : Int) - 1) = ((b - 1 : Nat) : Int) by omega]; simp
      have ht2 : t ≤ 300 * 60 := by rw [ht]; exact Nat.mul_le_mul hL3 (by omega)
      rw [← ht] at hpk
      have hd : decide (peakOf bl ≤ (t : Int) + 1) = true := decide_eq_true (by omega)
      have q1 : ((bl.length : Int) == (bl.length : Int)) = true := by simp
      clear ht hpk
      go_wp2_with fail
      refine (peak_any _ bl w3 hi3).mono ?_
      rintro e w5 ⟨rfl, rfl⟩
      go_wp2
      go_ret
      exact ⟨rfl, hB'⟩

set_option maxRecDepth 100000 in
theorem lifted_pebbleComplete (os : Os) (started : os.Started) (H : Type) (enc : TypeId × Value → H) :
    ReturnsInHanded {} Try.checked os 7 .any (Rows.pebbleCompleteSpec.pre6 enc Try.prog Try.f7 Rows.pebbleCompleteRow.domain false) (Rows.pebbleCompleteSpec.post enc Try.prog Try.f7 false true false false) := by
  refine returnsInHanded_of_change_sized (C := Try.checked) own started (by kernel_rfl) Try.func7
    (ChangeSpec.witness6 (enc := enc) (C := Try.checked) false ⟨#[], #[.int .u16 0, .int .u16 0], []⟩ 8 (by kernel_rfl) (by kernel_rfl) (by kernel_rfl) (by kernel_rfl)) ?_
  intro W base args ds gs before hval0 hW hcnd hsz0 _
  have hsz : (DataW.weightsEach Try.prog (Try.f7.params.toList ++ Rows.pebbleCompleteSpec.plain.varTypes Try.prog) (ds ++ gs)).all (· ≤ reachBytes) = true := hsz0
  have hval : ∀ (j : Nat) t v, Try.f7.params[j]? = some t → args[j]? = some v → Value.okWide Try.prog W .any base t v := hval0
  have hW' := hW
  obtain ⟨p, q, hA0, hV, rfl, hfz, hnd⟩ := hW
  have hA : DataW.TrodAll enc Try.prog W 0 (fun _ => true) true Try.f7.params.toList args.toList ds p := hA0
  rw [Try.params7] at hA hval hsz
  obtain ⟨v0, vs0, d0, ds0, p0, q0, hargs, rfl, rfl, h0, r0⟩ := trodAll_cons hA
  obtain ⟨v1, vs1, d1, ds1, p1, q1, rfl, rfl, rfl, h1, r1⟩ := trodAll_cons r0
  obtain ⟨rfl, rfl, rfl⟩ := trodAll_nil r1
  obtain rfl : args = #[v0, v1] := by cases args; simp_all
  obtain ⟨rfl, rfl⟩ := trodVars_none hV
  obtain ⟨a0, rfl, rfl, rfl, w0⟩ := open_int Try.underlying39 (hval 0 39 v0 rfl rfl) h0
  obtain ⟨a1, rfl, rfl, rfl, w1⟩ := open_int Try.underlying39 (hval 1 39 v1 rfl rfl) h1
  clear hA0 hval0
  refine (walk_pebbleComplete W a0 (rangeU16 w0) a1 (rangeU16 w1)).mono fun e W' ⟨he, bel⟩ => ?_
  subst he
  exact ⟨_, rfl, _, _, _, [], _, [], hW', trodAll_mk1 (shut_bool Try.underlying4 _), (trodAll_cons_mk (shut_int Try.underlying39 w0) (trodAll_cons_mk (shut_int Try.underlying39 w1) trodAll_mk0)), rfl, bel.frame _, fun h => by cases h⟩

/-- the given statement -/
theorem proved_pebbleComplete : Rows.PebbleCompleteSaid :=
  OpenClaim.holds_of_wide 7 Try.f7 rfl rfl rfl rfl rfl rfl rfl ⟨rfl, rfl, rfl, rfl, rfl⟩ rfl rfl rfl rfl rfl (by kernel_rfl) Try.func7 (by kernel_rfl)
    (of_decide_eq_true (by kernel_rfl)) (by unfold Func.isWrapper; first | (rw [if_pos (by decide +kernel)]; kernel_rfl) | (rw [if_neg (by decide +kernel)]; exact ⟨rfl, rfl⟩))
    (fun os started H enc _ => lifted_pebbleComplete os started H enc)
#print axioms proved_pebbleComplete

end Go.Proofs.Ytpeiajmgkhajoaa
