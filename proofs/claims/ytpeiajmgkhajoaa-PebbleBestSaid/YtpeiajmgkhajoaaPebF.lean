/- Walks of Peak, the reference's Peak and Inverse, Reach, great. -/
import Derived.Test.YtpeiajmgkhajoaaPebE
import Derived.Test.YtpeiajmgkhajoaaPebL
namespace Go.Proofs.Ytpeiajmgkhajoaa
set_option linter.unusedVariables false
open Go.RowKit

def peakTo (l : List Int) (k : Nat) : Int × Int := (l.take k).foldl peakStep (0, 0)

theorem peakTo_succ (l : List Int) (k : Nat) (h : k < l.length) : peakTo l (k + 1) = peakStep (peakTo l k) (nth l k) := by
  rw [peakTo, take_snoc' l k h, List.foldl_append]; rfl
theorem peakTo_bd (l : List Int) (k : Nat) (h : k ≤ l.length) : -(k : Int) ≤ (peakTo l k).2 ∧ (peakTo l k).2 ≤ k ∧ 0 ≤ (peakTo l k).1 ∧ (peakTo l k).1 ≤ k := by
  induction k with
  | zero => simp [peakTo]
  | succ k ih =>
    have := ih (by omega)
    have hs : -1 ≤ sgn (nth l k) ∧ sgn (nth l k) ≤ 1 := by
      unfold sgn
      split
      · omega
      · split <;> omega
    rw [peakTo_succ l k (by omega)]
    simp only [peakStep]
    omega

set_option maxHeartbeats 800000 in
theorem peak_any (v : Value) (l : List Int) (w : World) (hv : IntsAt w v l) :
    Calls Try.prog 20 #[v] w fun e w' => e = .returned (.int .i64 (peakOf l)) ∧ w = w' := by
  obtain ⟨hlen, hfit, a, cap, rfl, _, hcell⟩ := hv
  go_enter Try.func20, Try.ntmps20
  go_wp2
  go_loop [3, 4, 9] (fun p n i => ∃ k : Nat, k ≤ l.length ∧ i = .int .i64 k ∧ p = .int .i64 (peakTo l k).1 ∧ n = .int .i64 (peakTo l k).2) (fun _ _ i => l.length - (intOf i).toNat)
  case atStart => exact ⟨0, Nat.zero_le _, rfl, rfl, rfl⟩
  case round =>
    obtain ⟨k, hk, rfl, rfl, rfl⟩ := hrel
    have hbd := peakTo_bd l k hk
    by_cases hlt : k < l.length
    · obtain ⟨b, off, rfl, hb, hc⟩ := hcell (by omega)
      have hx := hc k hlt
      clear hc hcell
      have HS := Lib.hid (peakTo_succ l k hlt)
      have HP : Hid (sgn (nth l k) = if 0 < nth l k then 1 else if nth l k < 0 then -1 else 0) := rfl
      generalize peakTo l k = p at *
      generalize nth l k = x at *
      obtain ⟨p, q⟩ := p
      simp only at hbd
      by_cases h1 : 0 < x
      · have HE : Hid (sgn x = 1) := by show _ = _; rw [HP.out, if_pos h1]
        clear HP
        by_cases hpq : p ≤ q + 1
        all_goals
          go_wp2
          go_round
          case rel => exact ⟨k + 1, by omega, by go_num, by rw [HS.out, peakStep, HE.out]; congr 1; simp; omega, by rw [HS.out, peakStep, HE.out]⟩
          case measure => simp [intOf]; omega
      · by_cases h2 : x < 0
        · have HE : Hid (sgn x = -1) := by show _ = _; rw [HP.out, if_neg h1, if_pos h2]
          clear HP
          by_cases hpq : p ≤ q - 1
          all_goals
            go_wp2
            go_round
            case rel => exact ⟨k + 1, by omega, by go_num, by rw [HS.out, peakStep, HE.out]; congr 1; simp; omega, by rw [HS.out, peakStep, HE.out]; rfl⟩
            case measure => simp [intOf]; omega
        · have HE : Hid (sgn x = 0) := by show _ = _; rw [HP.out, if_neg h1, if_neg h2]
          clear HP
          by_cases hpq : p ≤ q
          all_goals
            go_wp2
            go_round
            case rel => exact ⟨k + 1, by omega, by go_num, by rw [HS.out, peakStep, HE.out]; congr 1; simp; omega, by rw [HS.out, peakStep, HE.out]; congr 1; simp⟩
            case measure => simp [intOf]; omega
    · obtain rfl : k = l.length := by omega
      go_wp2
      go_ret
      exact ⟨by rw [peakOf, ← List.take_length (l := l)]; simp [peakTo], rfl⟩

set_option maxHeartbeats 800000 in
theorem refPeak_any (v : Value) (l : List Int) (w : World) (hv : IntsAt w v l) :
    Calls Try.prog 21 #[v] w fun e w' => e = .returned (.int .i64 (peakOf l)) ∧ w = w' := by
  obtain ⟨hlen, hfit, a, cap, rfl, _, hcell⟩ := hv
  go_enter Try.func21, Try.ntmps21
  go_wp2
  go_loop [3, 4, 5] (fun p n i => ∃ k : Nat, k ≤ l.length ∧ i = .int .i64 k ∧ p = .int .i64 (peakTo l k).1 ∧ n = .int .i64 (peakTo l k).2) (fun _ _ i => l.length - (intOf i).toNat)
  case atStart => exact ⟨0, Nat.zero_le _, rfl, rfl, rfl⟩
  case round =>
    obtain ⟨k, hk, rfl, rfl, rfl⟩ := hrel
    have hbd := peakTo_bd l k hk
    by_cases hlt : k < l.length
    · obtain ⟨b, off, rfl, hb, hc⟩ := hcell (by omega)
      have hx := hc k hlt
      clear hc hcell
      have HS := Lib.hid (peakTo_succ l k hlt)
      have HP : Hid (sgn (nth l k) = if 0 < nth l k then 1 else if nth l k < 0 then -1 else 0) := rfl
      generalize peakTo l k = p at *
      generalize nth l k = x at *
      obtain ⟨p, q⟩ := p
      simp only at hbd
      by_cases h1 : 0 < x
      · have HE : Hid (sgn x = 1) := by show _ = _; rw [HP.out, if_pos h1]
        clear HP
        by_cases hpq : p < q + 1
        all_goals
          go_wp2
          go_round
          case rel => exact ⟨k + 1, by omega, by go_num, by rw [HS.out, peakStep, HE.out]; congr 1; simp; omega, by rw [HS.out, peakStep, HE.out]⟩
          case measure => simp [intOf]; omega
      · by_cases h2 : x < 0
        · have HE : Hid (sgn x = -1) := by show _ = _; rw [HP.out, if_neg h1, if_pos h2]
          clear HP
          by_cases hpq : p < q - 1
          all_goals
            go_wp2
            go_round
            case rel => exact ⟨k + 1, by omega, by go_num, by rw [HS.out, peakStep, HE.out]; congr 1; simp; omega, by rw [HS.out, peakStep, HE.out]; rfl⟩
            case measure => simp [intOf]; omega
        · have HE : Hid (sgn x = 0) := by show _ = _; rw [HP.out, if_neg h1, if_neg h2]
          clear HP
          by_cases hpq : p < q
          all_goals
            go_wp2
            go_round
            case rel => exact ⟨k + 1, by omega, by go_num, by rw [HS.out, peakStep, HE.out]; congr 1; simp; omega, by rw [HS.out, peakStep, HE.out]; congr 1; simp⟩
            case measure => simp [intOf]; omega
    · obtain rfl : k = l.length := by omega
      go_wp2
      go_ret
      exact ⟨by rw [peakOf, ← List.take_length (l := l)]; simp [peakTo], rfl⟩

set_option maxHeartbeats 800000 in
theorem refInverse_any (v : Value) (l : List Int) (w : World) (hi : IntsAt w v l) (hs : Small l) :
    Calls Try.prog 23 #[v] w fun e w' => ∃ v, e = .returned v ∧ Own w' w.heap.size 3 v (negRev l) ∧ Below w.heap.size w w' := by
  obtain ⟨hlen, hfit, a, cap, rfl, _, hcell⟩ := hi
  go_enter Try.func23, Try.ntmps23
  go_wp2
  go_loopw [3, 4] (fun v i wr => ∃ k : Nat, k ≤ l.length ∧ i = .int .i64 ((k : Int) - 1) ∧ Own wr w.heap.size 3 v (negRev (l.drop k)) ∧ Below w.heap.size w wr)
    (fun _ i _ => (intOf i + 1).toNat)
  case atStart => exact ⟨l.length, Nat.le_refl _, rfl, by simpa [negRev] using Own.nil _ _ _, Below.refl _ _⟩
  case round =>
    obtain ⟨k, hk, rfl, hown, hbl⟩ := hrel
    by_cases hk0 : 0 < k
    · obtain ⟨b, off, rfl, hlt, hc⟩ := hcell (by omega)
      obtain ⟨k, rfl⟩ : ∃ k', k = k' + 1 := ⟨k - 1, by omega⟩
      have hcx : wr.cell? ⟨b, off + k, none⟩ = some (.int .i64 (nth l k)) := (hbl.cell (by exact hlt)).trans (hc k (by omega))
      have hsm := hs _ (nth_mem (l := l) (j := k) (by omega))
      have hb1 : -9223372036854775808 ≤ - nth l k ∧ - nth l k ≤ 9223372036854775807 := by omega
      have hb2 : ((negRev (l.drop (k + 1))).length + 1) * 8 ≤ 140737488351232 := by rw [negRev_len]; simp; omega
      have hb3 := hbl.size
      have hd := Lib.hid (negRev_drop (l := l) (k := k) (by omega))
      clear hcell hc
      go_wp2_with (at_builtin; refine wpl_append1 TI rfl _ _ rfl rfl rfl hown hb1 hb2 hb3 ?_)
      intro v' w1 h1 h2 _
      have h3 := below_grown hbl hown h2 hb3
      clear h2 hown hcx
      go_wp2
      go_roundw
      case rel => exact ⟨k, by omega, by go_num, by rw [hd.out]; exact h1, h3⟩
      case measure => simp [intOf]
    · obtain rfl : k = 0 := by omega
      go_wp2
      go_ret
      exact ⟨_, rfl, by simpa using hown, hbl⟩

/-- beyond what the statements examine -/
def greatB (l : List Int) : Bool := l.any (fun x => decide (2147483648 < x) || decide (x < -2147483648)) || decide (600 < l.length)

theorem greatB_false {l : List Int} (h : greatB l = false) : Small l ∧ l.length ≤ 600 := by
  simp only [greatB, Bool.or_eq_false_iff, List.any_eq_false, decide_eq_false_iff_not] at h
  refine ⟨fun x hx => ?_, by omega⟩
  have := h.1 x hx
  simp at this
  omega

set_option maxHeartbeats 800000 in
theorem great_any (v : Value) (l : List Int) (w : World) (hv : IntsAt w v l) :
    Calls Try.prog 17 #[v] w fun e w' => e = .returned (.bool (greatB l)) ∧ w = w' := by
  obtain ⟨hlen, hfit, a, cap, rfl, _, hcell⟩ := hv
  go_enter Try.func17, Try.ntmps17
  go_wp2
  go_loop [7] (fun i => ∃ k : Nat, k ≤ l.length ∧ i = .int .i64 k ∧ (∀ j, j < k → nth l j ≤ 2147483648 ∧ -2147483648 ≤ nth l j)) (fun i => l.length - (intOf i).toNat)
  case atStart => exact ⟨0, Nat.zero_le _, rfl, fun j hj => absurd hj (by omega)⟩
  case round =>
    obtain ⟨k, hk, rfl, hsm⟩ := hrel
    have HS := Lib.hid hsm
    clear hsm
    by_cases hlt : k < l.length
    · obtain ⟨b, off, rfl, hb, hc⟩ := hcell (by omega)
      have hx := hc k hlt
      clear hc hcell
      by_cases hgood : nth l k ≤ 2147483648 ∧ -2147483648 ≤ nth l k
      · have hd1 : decide (2147483648 < nth l k) = false := by simp; omega
        have hd2 : decide (nth l k < -2147483648) = false := by simp; omega
        have HG := Lib.hid hgood
        clear hgood
        go_wp2
        go_round
        case rel => exact ⟨k + 1, by omega, by go_num, fun j hj => by
            by_cases e : j = k
            · rw [e]; exact HG.out
            · exact HS.out j (by omega)⟩
        case measure => simp [intOf]; omega
      · have hG : greatB l = true := by
          simp only [greatB, Bool.or_eq_true, List.any_eq_true]
          refine .inl ⟨nth l k, nth_mem hlt, ?_⟩
          simp; omega
        have HG := Lib.hid hG
        clear hG
        by_cases h1 : 2147483648 < nth l k
        · have hd1 : decide (2147483648 < nth l k) = true := by simpa using h1
          go_wp2
          go_ret
          exact ⟨by rw [HG.out]; rfl, rfl⟩
        · have hd1 : decide (2147483648 < nth l k) = false := by simpa using h1
          have hd2 : decide (nth l k < -2147483648) = true := by simp; omega
          go_wp2
          go_ret
          exact ⟨by rw [HG.out]; rfl, rfl⟩
    · have hG : greatB l = decide (600 < l.length) := by
        have : l.any (fun x => decide (2147483648 < x) || decide (x < -2147483648)) = false := by
          simp only [List.any_eq_false]
          intro x hx
          obtain ⟨j, hj, rfl⟩ := List.getElem_of_mem hx
          have := HS.out j (by omega)
          simp only [nth, List.getElem?_eq_getElem hj, Option.getD_some] at this
          simp; omega
        rw [greatB, this, Bool.false_or]
      have HG := Lib.hid hG
      clear hG
      go_wp2
      go_ret
      exact ⟨by rw [HG.out]; simp; omega, rfl⟩

set_option maxHeartbeats 800000 in
theorem reach_any (p : Int) (w : World) (h0 : -100 ≤ p) (h1 : p ≤ 62) :
    Calls Try.prog 24 #[.int .i64 p] w fun e w' => e = .returned (.int .i64 (if p < 1 then 0 else 2 ^ (p.toNat - 1))) ∧ w = w' := by
  by_cases hp : p < 1
  · rw [if_pos hp]
    go_enter Try.func24, Try.ntmps24
    go_wp2
    go_ret
    exact ⟨rfl, rfl⟩
  · rw [if_neg hp]
    obtain ⟨k, rfl⟩ : ∃ k : Nat, p = (k : Int) := ⟨p.toNat, by omega⟩
    have hw : wrap64 ((2 : Int) ^ (k - 1)) = 2 ^ (k - 1) := by
      have h2 : 2 ^ (k - 1) ≤ 2 ^ 62 := Nat.pow_le_pow_right (n := 2) (by decide) (by omega)
      have e : ((2 : Int) ^ (k - 1)) = ((2 ^ (k - 1) : Nat) : Int) := by simp
      rw [e]
      generalize 2 ^ (k - 1) = y at h2
      exact IntWalk.wrap64_in _ (by omega)
    go_enter Try.func24, Try.ntmps24
    go_wp2
    go_ret
    exact ⟨by simp, rfl⟩
end Go.Proofs.Ytpeiajmgkhajoaa
