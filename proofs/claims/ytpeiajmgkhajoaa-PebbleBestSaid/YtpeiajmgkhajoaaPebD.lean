/- Walks of the small functions of package pebble and of its reference: after, count, Reach. -/
import Derived.Test.YtpeiajmgkhajoaaPebC
namespace Go.Proofs.Ytpeiajmgkhajoaa
set_option linter.unusedVariables false
open Go.RowKit

set_option maxHeartbeats 1600000 in
theorem after_any (n c : Nat) (m : Int) (w : World) (hn : n ≤ 12) (h1 : c < 4096) (hm0 : -n ≤ m) (hm1 : m ≤ n) :
    Calls Try.prog 28 #[.int .i64 n, .int .i64 c, .int .i64 m] w fun e w' => e = .returned (.int .i64 (afterTo n c m)) ∧ w = w' := by
  by_cases hz : m = 0
  · subst hz
    have hd0 : decide ((n : Int) < 0) = false := by simp
    go_enter Try.func28, Try.ntmps28
    go_wp2
    go_ret
    exact ⟨rfl, rfl⟩
  obtain ⟨k, hk⟩ : ∃ k : Nat, k = m.natAbs := ⟨_, rfl⟩
  have hB := two_pow_le k (by omega)
  obtain ⟨B, hBe⟩ : ∃ B : Nat, B = 2 ^ (k - 1) := ⟨_, rfl⟩
  have hbit : bitOf m = B := by rw [bitOf, ← hk, hBe]
  have ha1 := i64_and_nat c B (by omega) (by omega)
  have ha2 := i64_and_nat c (B / 2) (by omega) (by omega)
  have ha3 := i64_xor_nat c B (by omega) (by omega)
  have hw : wrap64 ((2 : Int) ^ (k - 1)) = (B : Int) := by
    rw [IntWalk.wrap64_in]
    · rw [hBe]; simp
    · have e : ((2 : Int) ^ (k - 1)) = ((2 ^ (k - 1) : Nat) : Int) := by simp
      rw [e]; omega
  have hdiv : ((B / 2 : Nat) : Int) = (B : Int) / 2 := by simp
  rw [hdiv] at ha2
  have H : Hid (∀ x y : Bool, ((c &&& (B / 2)) == 0) = x → ((c &&& B) == 0) = y → moveOk c m = (!(decide (1 < k) && x) && !((!y) == decide (0 < m)))) := by
    intro x y hx hy
    have : (m == 0) = false := by simpa using hz
    rw [moveOk, hbit, hx, this, ← hk, bne, hy]; rfl
  have HT : Hid (afterTo n c m = if moveOk c m = true then ((c ^^^ B : Nat) : Int) else -1) := by
    have hkn : k ≤ n := by omega
    show afterTo n c m = _
    rw [afterTo, hbit, ← hk]; simp [hkn]
  clear hbit hdiv
  have HB := Lib.hid hBe
  clear hBe hB
  have key : ∀ x y : Bool, decide (c &&& (B / 2) = 0) = x → decide (c &&& B = 0) = y → (((c &&& (B / 2) : Nat) : Int) == 0) = x ∧ (((c &&& B : Nat) : Int) != 0) = !y ∧ ((c &&& (B / 2)) == 0) = x ∧ ((c &&& B) == 0) = y := by
    rintro x y rfl rfl
    refine ⟨by rw [Bool.eq_iff_iff]; simp, by rw [Bool.eq_iff_iff]; simp, rfl, rfl⟩
  cases hx : decide (c &&& (B / 2) = 0) <;> cases hy : decide (c &&& B = 0) <;> by_cases h1k : 1 < k
  all_goals
    obtain ⟨k1, k2, k3, k4⟩ := key _ _ hx hy
    have G := Lib.hid (H.out _ _ k3 k4)
    clear key H hx hy k3 k4
    rcases Int.lt_or_gt_of_ne hz with hneg | hpos
    · obtain rfl : m = -(k : Int) := by omega
      have hd1 : decide ((k : Int) < 0) = false := by simp
      have hd2 : decide (0 < -(k : Int)) = false := by simp
      have hd3 : decide ((n : Int) < k) = false := by simp; omega
      have hd4 : decide (n < k) = false := by simp; omega
      have hd5 : decide ((k : Int) < 1) = false := by simp; omega
      clear hk
      go_enter Try.func28, Try.ntmps28
      go_wp2
      go_ret
      exact ⟨by rw [HT.out, G.out, hd2]; simp [h1k], rfl⟩
    · obtain rfl : m = (k : Int) := by omega
      have hd1 : decide (0 < k) = true := by simp; omega
      have hd2 : decide (0 < (k : Int)) = true := by simp; omega
      have hd3 : decide ((n : Int) < k) = false := by simp; omega
      have hd4 : decide (n < k) = false := by simp; omega
      have hd5 : decide ((k : Int) < 1) = false := by simp; omega
      clear hk
      go_enter Try.func28, Try.ntmps28
      go_wp2
      go_ret
      exact ⟨by rw [HT.out, G.out, hd2]; simp [h1k], rfl⟩

theorem pop_zero (f : Nat) : pop f 0 = 0 := by induction f with
  | zero => rfl
  | succ f ih => simp [pop, ih]

theorem pop_le (f c : Nat) : pop f c ≤ f := by induction f generalizing c with
  | zero => simp [pop]
  | succ f ih => have := ih (c / 2); simp only [pop]; omega

set_option maxHeartbeats 800000 in
theorem count_any (c : Nat) (w : World) (h1 : c < 4096) :
    Calls Try.prog 29 #[.int .i64 c] w fun e w' => e = .returned (.int .i64 (pop 12 c)) ∧ w = w' := by
  go_enter Try.func29, Try.ntmps29
  go_wp2
  go_loop [0, 3] (fun i n => ∃ f k q : Nat, k < 2 ^ f ∧ f ≤ 12 ∧ q + f ≤ 12 ∧ q + pop f k = pop 12 c ∧ i = .int .i64 k ∧ n = .int .i64 q) (fun i _ => (intOf i).toNat)
  case atStart => exact ⟨12, c, 0, h1, Nat.le_refl _, Nat.le_refl _, by omega, rfl, rfl⟩
  case round =>
    obtain ⟨f, k, q, hk, hf, hqf, hq, rfl, rfl⟩ := hrel
    have HQ := Lib.hid hq
    clear hq
    by_cases hk0 : 0 < k
    · cases f with
      | zero => simp at hk; omega
      | succ f =>
        have hm : (k : Int) % 2 = ((k % 2 : Nat) : Int) := by simp
        have hd : (k : Int) / 2 = ((k / 2 : Nat) : Int) := by simp
        have h2 : k < 2 * 2 ^ f := by rw [Nat.pow_succ] at hk; omega
        have h12 : 2 ^ (f + 1) ≤ 2 ^ 12 := Nat.pow_le_pow_right (by decide) hf
        have hkb : k < 4096 := by omega
        clear h12 hm hd hk
        go_wp2
        go_round
        case rel => exact ⟨f, k / 2, q + k % 2, by omega, by omega, by omega, by rw [← HQ.out, pop]; omega, by go_num, by go_num⟩
        case measure => simp [intOf]; omega
    · obtain rfl : k = 0 := by omega
      go_wp2
      go_ret
      exact ⟨by rw [← HQ.out, pop_zero]; simp, rfl⟩
end Go.Proofs.Ytpeiajmgkhajoaa
