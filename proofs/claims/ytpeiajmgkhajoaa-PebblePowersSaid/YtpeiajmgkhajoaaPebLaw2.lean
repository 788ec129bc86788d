/- PebblePowers: for every k and p the law returns true: for a power of the branching factor the strategy has as many moves as the same power of 2 k - 1. No condition. -/
import Derived.Test.YtpeiajmgkhajoaaPebN
import Derived.Test.YtpeiajmgkhajoaaOpen
namespace Go.Proofs.Ytpeiajmgkhajoaa
open Go.ChangeShapes Go.WideShapes Go.ChangeAt Go.RowKit
set_option linter.unusedVariables false

theorem pres_all (g : Nat → List Int) (L n : Nat) (h : ∀ i, i < n → (g i).length = L) : (pres g n).length = n * L := by
  induction n with
  | zero => simp [pres]
  | succ n ih => rw [pres, List.length_append, ih (fun i hi => h i (by omega)), h n (by omega), Nat.succ_mul]
theorem sufs_all (g : Nat → List Int) (L p c : Nat) (hc : c < p) (h : ∀ i, i < p → (g i).length = L) : (sufs g p c).length = c * L := by
  induction c with
  | zero => simp [sufs]
  | succ c ih => rw [sufs, List.length_append, ih (by omega), negRev_len, h _ (by omega), Nat.succ_mul]

theorem strat_pow (f j b a : Nat) (hb : 2 ≤ b) (hf : b ^ j ≤ f) : (strat f b a (b ^ j)).length = (2 * b - 1) ^ j := by
  induction j generalizing f a with
  | zero =>
    obtain ⟨f, rfl⟩ : ∃ f', f = f' + 1 := ⟨f - 1, by simp at hf; omega⟩
    simp [strat]
  | succ j ih =>
    have hpos : 1 ≤ b ^ j := Nat.pow_pos (by omega)
    have hle : b ≤ b ^ (j + 1) := by rw [Nat.pow_succ]; exact Nat.le_mul_of_pos_left _ hpos
    have h2 : 2 * b ^ j ≤ b ^ (j + 1) := by rw [Nat.pow_succ, Nat.mul_comm]; exact Nat.mul_le_mul_left _ hb
    obtain ⟨f, rfl⟩ : ∃ f', f = f' + 1 := ⟨f - 1, by omega⟩
    have hmin : min b (b ^ (j + 1)) = b := by omega
    have hsz : ∀ i, sz (b ^ (j + 1)) b i = b ^ j := fun i => by
      have h1 : b ^ (j + 1) / b = b ^ j := by rw [Nat.pow_succ]; exact Nat.mul_div_cancel _ (by omega)
      have h0 : b ^ (j + 1) % b = 0 := by rw [Nat.pow_succ]; exact Nat.mul_mod_left _ _
      rw [sz, h1, h0]; simp
    have hpart : ∀ i, (partOf f b a (b ^ (j + 1)) i).length = (2 * b - 1) ^ j := fun i => by
      rw [partOf, hmin, hsz]; exact ih f _ (by omega)
    rw [strat_succ f b a _ (by omega), hmin, List.length_append, pres_all _ _ b (fun i _ => hpart i), sufs_all _ _ b (b - 1) (by omega) (fun i _ => hpart i), ← Nat.add_mul, Nat.pow_succ, Nat.mul_comm]
    congr 1; omega

set_option maxHeartbeats 3200000 in
theorem walk_pebblePowers (w : World) (k : Int) (hk : 0 ≤ k ∧ k ≤ 255) (p : Int) (hp : 0 ≤ p ∧ p ≤ 255) :
    Calls Try.prog 4 #[.int .u8 k, .int .u8 p] w fun e w' => e = .returned (.bool true) ∧ Below w.heap.size w w' := by
  obtain ⟨k0, hk0⟩ := Int.eq_ofNat_of_zero_le hk.1
  subst hk0
  obtain ⟨p0, hp0⟩ := Int.eq_ofNat_of_zero_le hp.1
  subst hp0
  obtain ⟨b, hb⟩ : ∃ b : Nat, b = 2 + k0 % 9 := ⟨_, rfl⟩
  obtain ⟨r, hr⟩ : ∃ r : Nat, r = p0 % 6 := ⟨_, rfl⟩
  have hb1 : 2 + (k0 : Int) % 9 = (b : Int) := by omega
  have hr1 : (p0 : Int) % 6 = (r : Int) := by omega
  have hb2 : 2 ≤ b ∧ b ≤ 10 := by omega
  have hr2 : r ≤ 5 := by omega
  clear hb hr
  go_enter Try.func4, Try.ntmps4
  go_wp2_with fail
  refine (awake_any w).mono ?_
  rintro e w1 ⟨rfl, hB1⟩
  have hz := hB1.size
  go_wp2
  go_loopg [6, 7, 19] r (fun g s6 s7 s19 wr => w1 = wr ∧ ∃ i j n q : Nat, i ≤ r ∧ g = r - i ∧ s19 = .int .i64 i ∧ s6 = .int .i64 n ∧ s7 = .int .i64 q ∧ n = b ^ j ∧ q = (2 * b - 1) ^ j ∧ 1 ≤ n ∧ n ≤ 500)
  case atStart => exact ⟨rfl, 0, 0, 1, 1, by omega, rfl, rfl, rfl, rfl, rfl, rfl, by omega, by omega⟩
  case round =>
    obtain ⟨rfl, i, j, n, q, hi, rfl, rfl, rfl, rfl, hn, hq, hn1, hn5⟩ := hrel
    have hlen : (strat n b 0 n).length = q := by
      rw [hq]
      have := strat_pow n j b 0 hb2.1 (by omega)
      rw [← hn] at this; exact this
    have hq8 : q ≤ 125000000 := by rw [← hlen]; exact Nat.le_trans (strat_len n b 0 n hb2.1 hn1 (Nat.le_refl _)) (cube_le hn5)
    obtain ⟨c, hc⟩ : ∃ c : Nat, c = n * b := ⟨_, rfl⟩
    have hc1 : (n : Int) * (b : Int) = (c : Int) := by rw [hc]; simp
    have hc5 : c ≤ 5000 := by rw [hc]; exact Nat.mul_le_mul hn5 hb2.2
    obtain ⟨d, hd⟩ : ∃ d : Nat, d = q * (2 * b - 1) := ⟨_, rfl⟩
    have hd1 : (q : Int) * (2 * (b : Int) - 1) = (d : Int) := by
      rw [hd, show (2 * (b : Int) - 1) = ((2 * b - 1 : Nat) : Int) by omega]; simp
    have hd5 : d ≤ 125000000 * 19 := by rw [hd]; exact Nat.mul_le_mul hq8 (by omega)
    have HN : Hid (n = b ^ j) := hn
    have HQ : Hid (q = (2 * b - 1) ^ j) := hq
    have HC := Lib.hid hc
    have HD := Lib.hid hd
    have HL := Lib.hid hlen
    clear hn hq hc hd hlen
    by_cases hlt : i < r
    · by_cases h5 : c ≤ 500
      · go_wp2
        go_roundg (r - (i + 1))
        case measure => omega
        case rel => exact ⟨rfl, i + 1, j + 1, c, d, by omega, rfl, by go_num, rfl, rfl, by rw [HC.out, HN.out, Nat.pow_succ], by rw [HD.out, HQ.out, Nat.pow_succ], by rw [HC.out]; exact Nat.mul_pos hn1 (by omega), h5⟩
      · go_wp2
        go_roundg (r - (i + 1))
        case measure => omega
        case rel => exact ⟨rfl, i + 1, j, n, q, by omega, rfl, by go_num, rfl, rfl, HN.out, HQ.out, hn1, hn5⟩
    · clear hc1 hd1
      go_wp2_with fail
      refine (bennett_good n b w1 hn1 hn5 hb2.1 (by omega)).mono ?_
      rintro e w2 ⟨v2, rfl, hv2, hB2⟩
      obtain ⟨a2, c2, rfl⟩ := hv2.form
      rw [HL.out]
      have hqq : ((q : Int) == (q : Int)) = true := by simp
      go_wp2
      go_ret
      exact ⟨rfl, hB1.trans (hB2.mono hz)⟩

set_option maxRecDepth 100000 in
theorem lifted_pebblePowers (os : Os) (started : os.Started) (H : Type) (enc : TypeId × Value → H) :
    ReturnsInHanded {} Try.checked os 4 .any (Rows.pebblePowersSpec.pre6 enc Try.prog Try.f4 Rows.pebblePowersRow.domain false) (Rows.pebblePowersSpec.post enc Try.prog Try.f4 false true false false) := by
  refine returnsInHanded_of_change_sized (C := Try.checked) own started (by kernel_rfl) Try.func4
    (ChangeSpec.witness6 (enc := enc) (C := Try.checked) false ⟨#[], #[.int .u8 0, .int .u8 0], []⟩ 8 (by kernel_rfl) (by kernel_rfl) (by kernel_rfl) (by kernel_rfl)) ?_
  intro W base args ds gs before hval0 hW hcnd hsz0 _
  have hsz : (DataW.weightsEach Try.prog (Try.f4.params.toList ++ Rows.pebblePowersSpec.plain.varTypes Try.prog) (ds ++ gs)).all (· ≤ reachBytes) = true := hsz0
  have hval : ∀ (j : Nat) t v, Try.f4.params[j]? = some t → args[j]? = some v → Value.okWide Try.prog W .any base t v := hval0
  have hW' := hW
  obtain ⟨p, q, hA0, hV, rfl, hfz, hnd⟩ := hW
  have hA : DataW.TrodAll enc Try.prog W 0 (fun _ => true) true Try.f4.params.toList args.toList ds p := hA0
  rw [Try.params4] at hA hval hsz
  obtain ⟨v0, vs0, d0, ds0, p0, q0, hargs, rfl, rfl, h0, r0⟩ := trodAll_cons hA
  obtain ⟨v1, vs1, d1, ds1, p1, q1, rfl, rfl, rfl, h1, r1⟩ := trodAll_cons r0
  obtain ⟨rfl, rfl, rfl⟩ := trodAll_nil r1
  obtain rfl : args = #[v0, v1] := by cases args; simp_all
  obtain ⟨rfl, rfl⟩ := trodVars_none hV
  obtain ⟨a0, rfl, rfl, rfl, w0⟩ := open_int Try.underlying5 (hval 0 5 v0 rfl rfl) h0
  obtain ⟨a1, rfl, rfl, rfl, w1⟩ := open_int Try.underlying5 (hval 1 5 v1 rfl rfl) h1
  clear hA0 hval0
  refine (walk_pebblePowers W a0 (rangeU8 w0) a1 (rangeU8 w1)).mono fun e W' ⟨he, bel⟩ => ?_
  subst he
  exact ⟨_, rfl, _, _, _, [], _, [], hW', trodAll_mk1 (shut_bool Try.underlying4 _), (trodAll_cons_mk (shut_int Try.underlying5 w0) (trodAll_cons_mk (shut_int Try.underlying5 w1) trodAll_mk0)), rfl, bel.frame _, fun h => by cases h⟩

/-- the given statement -/
theorem proved_pebblePowers : Rows.PebblePowersSaid :=
  OpenClaim.holds_of_wide 4 Try.f4 rfl rfl rfl rfl rfl rfl rfl ⟨rfl, rfl, rfl, rfl, rfl⟩ rfl rfl rfl rfl rfl (by kernel_rfl) Try.func4 (by kernel_rfl)
    (of_decide_eq_true (by kernel_rfl)) (by unfold Func.isWrapper; first | (rw [if_pos (by decide +kernel)]; kernel_rfl) | (rw [if_neg (by decide +kernel)]; exact ⟨rfl, rfl⟩))
    (fun os started H enc _ => lifted_pebblePowers os started H enc)
#print axioms proved_pebblePowers

end Go.Proofs.Ytpeiajmgkhajoaa
