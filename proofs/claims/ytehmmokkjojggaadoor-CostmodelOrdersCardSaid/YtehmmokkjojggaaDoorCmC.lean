/- Walks of package backsteplaw43: the sum of a cost's counts. -/
import Derived.Test.YtehmmokkjojggaaDoorZk09
namespace Go.Proofs.YtehmmokkjojggaaDoor
set_option linter.unusedVariables false
set_option linter.unusedSimpArgs false
open Go.RowKit

theorem at_nth2 (l : List Int) (j : Nat) : at' l j = nth l j := by simp [at', nth, List.getD_eq_getElem?_getD]
theorem sum_le {l : List Int} {k : Nat} (hk : k ≤ l.length) (h : ∀ j, j < k → 0 ≤ at' l j ∧ at' l j ≤ 1000000) : 0 ≤ sumI (l.take k) ∧ sumI (l.take k) ≤ 1000000 * k := by
  induction k with
  | zero => simp [sumI]
  | succ k ih =>
    have h1 := ih (by omega) (fun j hj => h j (by omega))
    have h2 := h k (by omega)
    rw [sumI_take l k (by omega)]
    push_cast
    omega
def SumOk (l m : List Int) (k j : Nat) (x : Int) : Prop := l.length ≤ 20 ∧ m.length ≤ 20 ∧ (∀ i, i < k → 0 ≤ at' l i ∧ at' l i ≤ 1000000) ∧ (∀ i, i < j → 0 ≤ at' m i ∧ at' m i ≤ 1000000) ∧ x = sumI (l.take k) + sumI (m.take j)
theorem sumok_l {l m : List Int} {k : Nat} {x : Int} (h : SumOk l m k 0 x) (hk : k < l.length) (h1 : 0 ≤ nth l k) (h2 : nth l k ≤ 1000000) : SumOk l m (k + 1) 0 (wrap64 (x + nth l k)) := by
  obtain ⟨a, b, c, d, rfl⟩ := h
  rw [← at_nth2] at h1 h2 ⊢
  have hb := sum_le (Nat.le_of_lt hk) c
  refine ⟨a, b, fun i hi => ?_, d, ?_⟩
  · by_cases e : i = k
    · rw [e]; exact ⟨h1, h2⟩
    · exact c i (by omega)
  · rw [List.take_zero, sumI, sumI_take l k hk]; unfold wrap64; omega
theorem sumok_m {l m : List Int} {k : Nat} {x : Int} (h : SumOk l m l.length k x) (hk : k < m.length) (h1 : 0 ≤ nth m k) (h2 : nth m k ≤ 1000000) : SumOk l m l.length (k + 1) (wrap64 (x + nth m k)) := by
  obtain ⟨a, b, c, d, rfl⟩ := h
  rw [← at_nth2] at h1 h2 ⊢
  have hb := sum_le (Nat.le_of_lt hk) d
  have hc := sum_le (Nat.le_refl _) c
  refine ⟨a, b, c, fun i hi => ?_, ?_⟩
  · by_cases e : i = k
    · rw [e]; exact ⟨h1, h2⟩
    · exact d i (by omega)
  · rw [sumI_take m k hk]; unfold wrap64; omega
def SumPost (l m : List Int) (w : World) (e : Ending) (w' : World) : Prop := ∃ (x : Int) (ok : Bool), e = .returned (.tuple #[.int .i64 x, .bool ok]) ∧ (ok = true → SumOk l m l.length m.length x) ∧ Below w.heap.size w w'
set_option maxRecDepth 100000 in set_option maxHeartbeats 3200000 in theorem sum_any (a1 a2 : Option Addr) (c1 c2 : Nat) (l m : List Int) (g : Int) (A : Nat → Prop) (w : World) (h1 : RowsAt IntE A w (.slice a1 l.length c1) l) (h2 : RowsAt IntE A w (.slice a2 m.length c2) m) :
    Calls Tryd.prog 21 #[.agg #[.slice a1 l.length c1, .slice a2 m.length c2, .int .i64 g]] w (SumPost l m w) := by
  have hl1 := h1.form.1
  have hl2 := h2.form.1
  unfold maxLen at hl1 hl2
  have hB : Below w.heap.size w (w.alloc (.cells #[.slice a1 l.length c1, .slice a2 m.length c2, .int .i64 g] 29)) := bel_alloc (Below.refl _ _)
  have HB := Lib.hid hB
  have H1 := Lib.hid (h1.stays (Stays.of_below hB))
  have H2 := Lib.hid (h2.stays (Stays.of_below hB))
  have HBOX := Lib.hid (at_new0 w (.cells #[.slice a1 l.length c1, .slice a2 m.length c2, .int .i64 g] 29))
  obtain ⟨x0, x1, x2⟩ := cells3 HBOX.out
  have H20 : ∀ ok0 : Bool, (ok0 = true → l.length ≤ 20 ∧ m.length ≤ 20) → (ok0 = true → SumOk l m 0 0 0) := fun ok0 h e => by
    obtain ⟨a, b⟩ := h e
    exact ⟨a, b, fun i hi => absurd hi (by omega), fun i hi => absurd hi (by omega), by simp [sumI]⟩
  have H20 := Lib.hid H20
  clear h1 h2 hB
  go_enter Tryd.func21, Tryd.ntmps21
  obtain ⟨ok0, hok0, hif⟩ : ∃ ok0 : Bool, (ok0 = true → SumOk l m 0 0 0) ∧ (decide ((l.length : Int) ≤ 20) = true ∧ decide ((m.length : Int) ≤ 20) = ok0 ∨ decide ((l.length : Int) ≤ 20) = false ∧ ok0 = false) := by
    by_cases q1 : (l.length : Int) ≤ 20
    · refine ⟨decide ((m.length : Int) ≤ 20), H20.out _ (fun h => ?_), .inl ⟨decide_eq_true q1, rfl⟩⟩
      have := of_decide_eq_true h
      exact ⟨by omega, by omega⟩
    · exact ⟨false, fun h => by simp at h, .inr ⟨decide_eq_false q1, rfl⟩⟩
  have HOK := Lib.hid hok0
  clear hok0 H20
  rcases hif with ⟨q1, q2⟩ | ⟨q1, q2⟩
  all_goals
    go_wp2
    go_quiet (fail)
    go_wp2
    generalize (w.alloc (.cells #[.slice a1 l.length c1, .slice a2 m.length c2, .int .i64 g] 29)) = W at *
    go_loopw [4, 5, 23] (fun s o i wr => ∃ (k : Nat) (x : Int) (ok : Bool), k ≤ l.length ∧ i = .int .i64 k ∧ s = .int .i64 x ∧ o = .bool ok ∧ (ok = true → SumOk l m k 0 x) ∧ Below W.heap.size W wr) (fun _ _ i _ => l.length - (intOf i).toNat)
    case atStart => exact ⟨0, 0, ok0, Nat.zero_le _, rfl, rfl, by first | rfl | (rw [q2]; rfl) | (subst q2; rfl), HOK.out, below_drewN (Below.refl _ _) _⟩
    case round =>
      obtain ⟨k, x, ok, hk, rfl, rfl, rfl, hok, hbl⟩ := hrel
      have HOK2 := Lib.hid hok
      have HBL := Lib.hid hbl
      clear hok
      by_cases hlt : k < l.length
      · obtain ⟨b, off, cap, he, hb, hcap, hcell, hin⟩ := ints_at (H1.out.stays (Stays.of_below hbl)) hlt
        simp only [Value.slice.injEq] at he
        obtain ⟨rfl, -, rfl⟩ := he
        clear hbl
        cases ok with
        | false =>
          go_wp2
          go_roundw
          case rel => exact ⟨k + 1, _, false, by omega, by go_num, rfl, rfl, fun h => by simp at h, HBL.out⟩
          case measure => simp [intOf]; omega
        | true =>
          by_cases g0 : 0 ≤ nth l k
          · by_cases g1 : nth l k ≤ 1000000
            · have HS := Lib.hid (sumok_l (HOK2.out rfl) hlt g0 g1)
              go_wp2
              go_roundw
              case rel => exact ⟨k + 1, _, true, by omega, by go_num, rfl, rfl, fun _ => HS.out, HBL.out⟩
              case measure => simp [intOf]; omega
            · go_wp2
              go_roundw
              case rel => exact ⟨k + 1, _, false, by omega, by go_num, rfl, rfl, fun h => by simp at h, HBL.out⟩
              case measure => simp [intOf]; omega
          · go_wp2
            go_roundw
            case rel => exact ⟨k + 1, _, false, by omega, by go_num, rfl, rfl, fun h => by simp at h, HBL.out⟩
            case measure => simp [intOf]; omega
      · obtain rfl : k = l.length := by omega
        have hlt' : ¬ (l.length : Int) < (l.length : Int) := by omega
        obtain ⟨y0, y1, y2⟩ := cells3 (blk_below hbl HBOX.out)
        clear x0 x1 x2 hbl hlt hk
        go_wp2
        go_loopw [4, 5, 43] (fun s o i wr => ∃ (k : Nat) (x : Int) (ok : Bool), k ≤ m.length ∧ i = .int .i64 k ∧ s = .int .i64 x ∧ o = .bool ok ∧ (ok = true → SumOk l m l.length k x) ∧ Below W.heap.size W wr) (fun _ _ i _ => m.length - (intOf i).toNat)
        case atStart => exact ⟨0, _, _, Nat.zero_le _, rfl, rfl, rfl, HOK2.out, HBL.out⟩
        case round =>
          obtain ⟨k, x, ok, hk, rfl, rfl, rfl, hok, hbq⟩ := hrel
          have HOK3 := Lib.hid hok
          have HBQ := Lib.hid hbq
          clear hok
          by_cases hlt : k < m.length
          · obtain ⟨b, off, cap, he, hb, hcap, hcell, hin⟩ := ints_at (H2.out.stays (Stays.of_below hbq)) hlt
            simp only [Value.slice.injEq] at he
            obtain ⟨rfl, -, rfl⟩ := he
            clear hbq
            cases ok with
            | false =>
              go_wp2
              go_roundw
              case rel => exact ⟨k + 1, _, false, by omega, by go_num, rfl, rfl, fun h => by simp at h, HBQ.out⟩
              case measure => simp [intOf]; omega
            | true =>
              by_cases g0 : 0 ≤ nth m k
              · by_cases g1 : nth m k ≤ 1000000
                · have HS := Lib.hid (sumok_m (HOK3.out rfl) hlt g0 g1)
                  go_wp2
                  go_roundw
                  case rel => exact ⟨k + 1, _, true, by omega, by go_num, rfl, rfl, fun _ => HS.out, HBQ.out⟩
                  case measure => simp [intOf]; omega
                · go_wp2
                  go_roundw
                  case rel => exact ⟨k + 1, _, false, by omega, by go_num, rfl, rfl, fun h => by simp at h, HBQ.out⟩
                  case measure => simp [intOf]; omega
              · go_wp2
                go_roundw
                case rel => exact ⟨k + 1, _, false, by omega, by go_num, rfl, rfl, fun h => by simp at h, HBQ.out⟩
                case measure => simp [intOf]; omega
          · obtain rfl : k = m.length := by omega
            have hlt2 : ¬ (m.length : Int) < (m.length : Int) := by omega
            clear hbq hlt
            go_wp2
            go_ret2
            exact ⟨_, _, rfl, HOK3.out, HB.out.trans (HBQ.out.mono HB.out.size)⟩
end Go.Proofs.YtehmmokkjojggaaDoor
