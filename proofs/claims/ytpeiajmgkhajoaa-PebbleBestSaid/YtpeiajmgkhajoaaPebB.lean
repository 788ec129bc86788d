/- Walks of the small functions of package pebble and of its reference: moves as bits. -/
import Derived.Test.YtpeiajmgkhajoaaPebA
import Derived.Test.YtpeiajmgkhajoaaPebQ
namespace Go.Proofs.Ytpeiajmgkhajoaa
set_option linter.unusedVariables false
open Go.RowKit

theorem ofInt_i64 (a : Nat) (ha : a < 4611686018427387904) : (BitVec.ofInt 64 (a : Int)).toNat = a := by
  rw [BitVec.ofInt_natCast, BitVec.toNat_ofNat]; exact Nat.mod_eq_of_lt (by omega)
theorem i64_and_nat (a b : Nat) (ha : a < 4611686018427387904) (hb : b < 4611686018427387904) : bits .and .i64 (a : Int) (b : Int) = ((a &&& b : Nat) : Int) := by
  have hx : a &&& b < 2 ^ 62 := Nat.and_lt_two_pow _ (by omega)
  show IntKind.i64.wrap ((BitVec.ofInt 64 (a : Int) &&& BitVec.ofInt 64 (b : Int)).toNat : Int) = _
  rw [BitVec.toNat_and, ofInt_i64 a ha, ofInt_i64 b hb]
  exact IntWalk.i64_in _ (by omega)
theorem i64_xor_nat (a b : Nat) (ha : a < 4611686018427387904) (hb : b < 4611686018427387904) : bits .xor .i64 (a : Int) (b : Int) = ((a ^^^ b : Nat) : Int) := by
  have hx : a ^^^ b < 2 ^ 62 := Nat.xor_lt_two_pow (by omega) (by omega)
  show IntKind.i64.wrap ((BitVec.ofInt 64 (a : Int) ^^^ BitVec.ofInt 64 (b : Int)).toNat : Int) = _
  rw [BitVec.toNat_xor, ofInt_i64 a ha, ofInt_i64 b hb]
  exact IntWalk.i64_in _ (by omega)

theorem two_pow_le (k : Nat) (h : k ≤ 12) : 2 ^ (k - 1) ≤ 2048 := Nat.pow_le_pow_right (n := 2) (by decide) (show k - 1 ≤ 11 by omega)

set_option maxHeartbeats 800000 in
theorem move_any (c : Nat) (m : Int) (w : World) (h1 : c < 4096) (hm0 : -12 ≤ m) (hm1 : m ≤ 12) :
    Calls Try.prog 27 #[.int .i64 c, .int .i64 m] w fun e w' => e = .returned (.tuple #[.int .i64 (moveTo c m : Nat), .bool (moveOk c m)]) ∧ w = w' := by
  by_cases hz : m = 0
  · subst hz
    go_enter Try.func27, Try.ntmps27
    go_wp2
    go_ret2
    exact ⟨rfl, rfl⟩
  obtain ⟨k, hk⟩ : ∃ k : Nat, k = m.natAbs := ⟨_, rfl⟩
  have hB := two_pow_le k (by omega)
  obtain ⟨B, hBe⟩ : ∃ B : Nat, B = 2 ^ (k - 1) := ⟨_, rfl⟩
  have hbit : bitOf m = B := by rw [bitOf, ← hk, hBe]
  have ha1 := i64_and_nat c B (by omega) (by omega)
  have ha2 := i64_and_nat c (B / 2) (by omega) (by omega)
  have ha3 := i64_xor_nat c B (by omega) (by omega)
  have hw : wrap64 ((2 : Int) ^ (k - 1)) = (B : Int) := by
    rw [IntWalk.wrap64_in]
    · rw [hBe]; simp
    · have e : ((2 : Int) ^ (k - 1)) = ((2 ^ (k - 1) : Nat) : Int) := by simp
      rw [e]; omega
  have hdiv : ((B / 2 : Nat) : Int) = (B : Int) / 2 := by simp
  rw [hdiv] at ha2
  have H : Hid (∀ x y : Bool, ((c &&& (B / 2)) == 0) = x → ((c &&& B) == 0) = y → moveOk c m = (!(decide (1 < k) && x) && !((!y) == decide (0 < m)))) := by
    intro x y hx hy
    have : (m == 0) = false := by simpa using hz
    rw [moveOk, hbit, hx, this, ← hk, bne, hy]; rfl
  have HT : Hid (moveTo c m = if moveOk c m then c ^^^ B else 0) := by rw [moveTo, hbit]; rfl
  clear hbit hdiv
  have HB := Lib.hid hBe
  clear hBe hB
  have key : ∀ x y : Bool, decide (c &&& (B / 2) = 0) = x → decide (c &&& B = 0) = y → (((c &&& (B / 2) : Nat) : Int) == 0) = x ∧ (((c &&& B : Nat) : Int) != 0) = !y ∧ ((c &&& (B / 2)) == 0) = x ∧ ((c &&& B) == 0) = y := by
    rintro x y rfl rfl
    refine ⟨by rw [Bool.eq_iff_iff]; simp, by rw [Bool.eq_iff_iff]; simp, rfl, rfl⟩
  cases hx : decide (c &&& (B / 2) = 0) <;> cases hy : decide (c &&& B = 0) <;> by_cases h1k : 1 < k
  all_goals
    obtain ⟨k1, k2, k3, k4⟩ := key _ _ hx hy
    have G := Lib.hid (H.out _ _ k3 k4)
    clear key H hx hy k3 k4
    rcases Int.lt_or_gt_of_ne hz with hneg | hpos
    · obtain rfl : m = -(k : Int) := by omega
      have hd1 : decide ((k : Int) < 0) = false := by simp
      have hd2 : decide (0 < -(k : Int)) = false := by simp
      clear hk
      go_enter Try.func27, Try.ntmps27
      go_wp2
      go_ret2
      exact ⟨by rw [HT.out, G.out, hd2]; simp [h1k], rfl⟩
    · obtain rfl : m = (k : Int) := by omega
      have hd1 : decide (0 < k) = true := by simp; omega
      have hd2 : decide (0 < (k : Int)) = true := by simp; omega
      clear hk
      go_enter Try.func27, Try.ntmps27
      go_wp2
      go_ret2
      exact ⟨by rw [HT.out, G.out, hd2]; simp [h1k], rfl⟩
end Go.Proofs.Ytpeiajmgkhajoaa
