/- Walk of Best. -/
import Derived.Test.YtpeiajmgkhajoaaPebJ
namespace Go.Proofs.Ytpeiajmgkhajoaa
set_option linter.unusedVariables false
open Go.RowKit

set_option maxHeartbeats 1600000 in
theorem best_bad (n p : Int) (w : World) (h : n < 1 ∨ 12 < n ∨ p < 1) :
    Calls Try.prog 15 #[.int .i64 n, .int .i64 p] w fun e w' => e = .returned (.tuple #[.slice none 0 0, .bool false]) ∧ w = w' := by
  by_cases h1 : n < 1
  · have d1 : decide (n < 1) = true := by simpa using h1
    go_enter Try.func15, Try.ntmps15
    go_wp2
    go_ret2
    exact ⟨rfl, rfl⟩
  have d1 : decide (n < 1) = false := by simpa using h1
  by_cases h2 : 12 < n
  · have d2 : decide (12 < n) = true := by simpa using h2
    go_enter Try.func15, Try.ntmps15
    go_wp2
    go_ret2
    exact ⟨rfl, rfl⟩
  have d2 : decide (12 < n) = false := by simpa using h2
  have d3 : decide (p < 1) = true := by simp; omega
  go_enter Try.func15, Try.ntmps15
  go_wp2
  go_ret2
  exact ⟨rfl, rfl⟩

set_option maxHeartbeats 3200000 in
theorem best_any (n : Nat) (p : Int) (w : World) (hn1 : 1 ≤ n) (hn8 : n ≤ 8) (hp : 1 ≤ p) (hp2 : p ≤ 9223372036854775807) (hgood : Good n p) :
    Calls Try.prog 15 #[.int .i64 n, .int .i64 p] w fun e w' => ∃ v, e = .returned (.tuple #[v, .bool (bestOk n p)]) ∧ Own w' w.heap.size 3 v (bestL n p) ∧ Below w.heap.size w w' := by
  obtain ⟨N, hN⟩ : ∃ N : Nat, N = 2 ^ n := ⟨_, rfl⟩
  have hN8 : N ≤ 256 := by rw [hN]; exact Nat.pow_le_pow_right (n := 2) (by decide) hn8
  obtain ⟨G, hG⟩ : ∃ G : Nat, G = 2 ^ (n - 1) := ⟨_, rfl⟩
  have hGN : G < N := by rw [hN, hG]; exact Nat.pow_lt_pow_right (by decide) (by omega)
  have hw : wrap64 ((2 : Int) ^ (n - 1)) = (G : Int) := by
    have e : ((2 : Int) ^ (n - 1)) = ((2 ^ (n - 1) : Nat) : Int) := by simp
    rw [e, ← hG]; exact IntWalk.wrap64_in _ (by omega)
  have HD := Lib.hid (distances_any n p w hn1 hn8 hp hp2 hgood.1)
  rw [← hG] at HD
  have hlen : (farOf n p).length = N := by rw [hN]; exact (bfs_inv hn1 p (2 ^ n)).1
  have H2 := Lib.hid hgood.2
  have HN := Lib.hid hN
  have HG := Lib.hid hG
  have HL : Hid (bestL n p = if nth (farOf n p) 0 < 0 then [] else (gr n (farOf n p) 100).1) := rfl
  have HO : Hid (bestOk n p = decide (0 ≤ nth (farOf n p) 0)) := rfl
  rw [show (bfs n p (2 ^ n)).1 = farOf n p from rfl] at HD
  generalize farOf n p = far at *
  have HLN := Lib.hid hlen
  obtain ⟨L, hL⟩ : ∃ L : Nat, L = 100 := ⟨_, rfl⟩
  rw [← hL] at H2 HL
  have hL1 : L ≤ 100 := by omega
  clear hL
  clear hN hG hgood hlen
  have d1 : decide ((n : Int) < 1) = false := by simp; omega
  have d2 : decide (12 < (n : Int)) = false := by simp; omega
  have d3 : decide (p < 1) = false := by simp; omega
  go_enter Try.func15, Try.ntmps15
  go_wp2_with fail
  refine HD.out.mono ?_
  rintro e w1 ⟨v1, rfl, hfar, hb1⟩
  have hsz1 := hb1.size
  obtain ⟨g, cap, rfl, hgl, hfz, hcl⟩ := hfar.at (by rw [HLN.out]; omega)
  rw [HLN.out]
  have hc0 := hcl 0 (by rw [HLN.out]; omega)
  by_cases hneg : nth far 0 < 0
  · have HO1 : Hid (bestOk n p = false) := by show _ = _; rw [HO.out]; simpa using hneg
    have HL1 : Hid (bestL n p = []) := by show _ = _; rw [HL.out, if_pos hneg]
    go_wp2
    go_ret2
    exact ⟨_, by rw [HO1.out]; rfl, by rw [HL1.out]; exact Own.nil _ _ _, hb1⟩
  · have HO1 : Hid (bestOk n p = true) := by show _ = _; rw [HO.out]; simpa using hneg
    have HL1 : Hid (bestL n p = (gr n far L).1) := by show _ = _; rw [HL.out, if_neg hneg]
    obtain ⟨hg1, hg2⟩ := H2.out (by omega)
    have HG1 := Lib.hid hg1
    have HG2 := Lib.hid hg2
    clear hg1 hg2
    go_wp2
    clear hc0
    go_loopg [8, 9] L (fun k mv sc wx => ∃ t : Nat, t ≤ L ∧ k = L - t ∧ sc = .int .i64 ((gr n far t).2 : Nat) ∧ Own wx w.heap.size 3 mv (gr n far t).1 ∧ Sep mv (.slice (some ⟨g, 0, none⟩) N cap) ∧ Own wx w.heap.size 3 (.slice (some ⟨g, 0, none⟩) N cap) far ∧ Below w.heap.size w wx)
    case atStart => exact ⟨0, by omega, rfl, rfl, Own.nil _ _ _, fun k h => by simp [Value.ownBlock] at h, by rw [← HLN.out]; exact hfar, hb1⟩
    case round =>
      obtain ⟨t, ht, rfl, rfl, hown, hsep, hfx, hblx⟩ := hrel
      clear hcl hfz hfar hgl
      have hct := gr_lt hn1 far t
      rw [← HN.out] at hct
      have hlent := gr_len n far t
      have hsucc : gr n far (t + 1) = gStep n far (gr n far t) := rfl
      have hgt := HG2.out t
      have hstay := gr_stays (n := n) (far := far) (t := t) (u := L)
      rw [← HG.out] at hgt hstay
      have hend := HG1.out
      rw [← HG.out] at hend
      rw [gStep, ← HG.out] at hsucc
      have hszx := hblx.size
      have hgL : t = L → (gr n far t).2 = G := by rintro rfl; exact hend
      generalize gr n far t = st at *
      obtain ⟨mv, c⟩ := st
      simp only at hown hct hlent hgt hstay hsucc hgL
      have HST := Lib.hid hstay
      have HGT := Lib.hid hgt
      have HS := Lib.hid hsucc
      have HGL := Lib.hid hgL
      clear hstay hgt hsucc hend hgL
      by_cases hcg : c = G
      · have hb : ((c : Int) != (G : Int)) = false := by simp [hcg]
        have HC := Lib.hid hcg
        clear hcg
        go_wp2
        go_ret2
        exact ⟨_, by rw [HO1.out]; rfl, by rw [HL1.out, HST.out HC.out ht]; exact hown, hblx⟩
      · have hb : ((c : Int) != (G : Int)) = true := by simp only [bne_iff_ne, ne_eq]; omega
        have htL : t < L := by
          apply Classical.byContradiction
          intro h
          exact hcg (HGL.out (by omega))
        have hsome := HGT.out htL hcg
        have HSM := Lib.hid hsome
        have hs2 := HS.out
        rw [if_neg hcg] at hs2
        have HS2 := Lib.hid hs2
        have HCG := Lib.hid hcg
        clear hsome hs2 HST HGT HS HGL hcg
        go_wp2
        go_loopg [8, 9, 10] (2 * n + 1) (fun k v8 v9 sm wy => ∃ i : Nat, i ≤ 2 * n + 1 ∧ k = 2 * n + 1 - i ∧ sm = .int .i64 ((i : Int) - n) ∧ v8 = u8 ∧ v9 = .int .i64 c ∧ (∀ j, j < i → pick n far c j = false) ∧ Own wy w.heap.size 3 u8 mv ∧ Own wy w.heap.size 3 (.slice (some ⟨g, 0, none⟩) N cap) far ∧ Below w.heap.size w wy)
        case atStart => exact ⟨0, by omega, rfl, by simp, rfl, rfl, fun j hj => absurd hj (by omega), hown, hfx, hblx⟩
        case round =>
          clear hown hfx hblx hszx
          obtain ⟨i, hi, rfl, rfl, rfl, rfl, hno, hown, hfx, hblx⟩ := hrel
          have HNO := Lib.hid hno
          clear hno
          have hszx := hblx.size
          by_cases hlt : i < 2 * n + 1
          · have hto : moveTo c ((i : Int) - n) < N := by rw [HN.out]; exact moveTo_lt (by rw [← HN.out]; exact hct) (by omega)
            obtain ⟨g', cap', he, hgl, hfz, hcl⟩ := hfx.at (by rw [HLN.out]; omega)
            obtain ⟨rfl, rfl⟩ : g = g' ∧ cap = cap' := by simp at he; exact ⟨he.1, he.2.2⟩
            have hcd := hcl (moveTo c ((i : Int) - n)) (by rw [HLN.out]; omega)
            have hcc := hcl c (by rw [HLN.out]; omega)
            have hpk : pick n far c i = (moveOk c ((i : Int) - n) && (nth far (moveTo c ((i : Int) - n)) == wrap64 (nth far c - 1))) := rfl
            have hm1 : -12 ≤ (i : Int) - n := by omega
            have hm2 : (i : Int) - n ≤ 12 := by omega
            have HMV := Lib.hid (move_any c ((i : Int) - n) wr (by omega) hm1 hm2)
            generalize htoe : moveTo c ((i : Int) - n) = d at *
            generalize hoke : moveOk c ((i : Int) - n) = ok at *
            have HPK := Lib.hid hpk
            have HTO := Lib.hid htoe
            clear he hcl hfz hpk htoe hoke
            cases ok with
            | false =>
              go_wp2_with fail
              refine HMV.out.mono ?_
              rintro e w3 ⟨rfl, rfl⟩
              go_wp2
              go_quiet (fail)
              go_wp2
              go_roundg (2 * n + 1 - (i + 1))
              case measure => omega
              case rel => exact ⟨i + 1, by omega, rfl, by go_num, rfl, rfl, fun j hj => (by
                by_cases e : j = i
                · rw [e]; exact HPK.out
                · exact HNO.out j (by omega)), hown, hfx, below_drewN hblx _⟩
            | true =>
              cases heq : (nth far d == wrap64 (nth far c - 1)) with
              | false =>
                rw [heq] at HPK
                go_wp2_with fail
                refine HMV.out.mono ?_
                rintro e w3 ⟨rfl, rfl⟩
                go_wp2
                go_quiet (fail)
                go_wp2
                go_roundg (2 * n + 1 - (i + 1))
                case measure => omega
                case rel => exact ⟨i + 1, by omega, rfl, by go_num, rfl, rfl, fun j hj => (by
                  by_cases e : j = i
                  · rw [e]; exact HPK.out
                  · exact HNO.out j (by omega)), hown, hfx, below_drewN hblx _⟩
              | true =>
                rw [heq] at HPK
                go_wp2_with fail
                refine HMV.out.mono ?_
                rintro e w3 ⟨rfl, rfl⟩
                go_wp2
                go_quiet (fail)
                have HSF := Lib.hid (HS2.out)
                rw [gFind_some HNO.out hlt HPK.out] at HSF
                simp only [HTO.out] at HSF
                have hown3 : Own (wr.drewN nq) w.heap.size 3 u8 mv := hown
                have hfx3 : Own (wr.drewN nq) w.heap.size 3 (.slice (some ⟨g, 0, none⟩) N cap) far := hfx
                have hbl3 := below_drewN hblx nq
                generalize wr.drewN nq = w4 at *
                have hsz4 := hbl3.size
                have hmb : -9223372036854775808 ≤ (i : Int) - n ∧ (i : Int) - n ≤ 9223372036854775807 := by omega
                go_wp2_with (at_builtin; refine wpl_append1 TI rfl _ _ rfl rfl rfl hown3 hmb (by omega) hsz4 ?_)
                intro v5 w5 h51 h52 h53
                have hfx5 := hfx3.grown h52 hsep.symm
                have hsep5 := (hsep.symm.new hfx3.lies h53).symm
                have hbl5 := below_grown hbl3 hown3 h52 hsz4
                clear h52 h53 hfx3 hown3 hsep hbl3 hown hfx hblx hcd hcc
                go_wp2
                go_roundg (L - (t + 1))
                case measure => omega
                case rel => exact ⟨t + 1, by omega, rfl, by rw [HSF.out], by rw [HSF.out]; exact h51, hsep5, hfx5, hbl5⟩
          · exfalso
            have h0 := HSM.out
            rw [gFind_none HNO.out (by omega)] at h0
            simp at h0
end Go.Proofs.Ytpeiajmgkhajoaa
