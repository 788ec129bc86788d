/- Walks of ints, Peak, the reference's Peak and Inverse, Reach, great. -/
import Derived.Test.YtpeiajmgkhajoaaPebD
namespace Go.Proofs.Ytpeiajmgkhajoaa
set_option linter.unusedVariables false
open Go.RowKit

theorem take_snoc' (l : List Int) (k : Nat) (h : k < l.length) : l.take (k + 1) = l.take k ++ [nth l k] := by
  rw [List.take_add_one, nth, List.getElem?_eq_getElem h]; rfl

theorem eq_of_cells (l m : List Int) (hl : l.length = m.length) (h : ∀ j, j < l.length → nth l j = nth m j) : l = m := by
  apply List.ext_getElem hl
  intro i h1 h2
  have := h i h1
  simpa [nth, List.getElem?_eq_getElem h1, List.getElem?_eq_getElem h2] using this

set_option maxHeartbeats 800000 in
theorem ints_any (v u : Value) (l m : List Int) (w : World) (hv : IntsAt w v l) (hu : IntsAt w u m) :
    Calls Try.prog 13 #[v, u] w fun e w' => e = .returned (.bool (decide (l = m))) ∧ Below w.heap.size w w' := by
  obtain ⟨hlen, hfit, a, cap, rfl, _, hcell⟩ := hv
  obtain ⟨hlen', hfit', a', cap', rfl, _, hcell'⟩ := hu
  by_cases hne : l.length = m.length
  · have hq : ((l.length : Int) != (m.length : Int)) = false := by simp [hne]
    have HN := Lib.hid hne
    clear hne
    go_enter Try.func13, Try.ntmps13
    go_wp2
    go_loopw [13, 5] (fun i _ wr => ∃ k : Nat, k ≤ l.length ∧ i = .int .i64 k ∧ (∀ j, j < k → nth l j = nth m j) ∧ Below w.heap.size w wr) (fun i _ _ => l.length - (intOf i).toNat)
    case atStart => exact ⟨0, Nat.zero_le _, rfl, fun j hj => absurd hj (by omega), Below.refl _ _⟩
    case round =>
      obtain ⟨k, hk, rfl, hsame, hbl⟩ := hrel
      have HS := Lib.hid hsame
      clear hsame
      by_cases hlt : k < l.length
      · have hlt' : k < m.length := by have := HN.out; omega
        obtain ⟨b, off, rfl, hb, hc⟩ := hcell (by omega)
        obtain ⟨b', off', rfl, hb', hc'⟩ := hcell' (by omega)
        have hx : wr.cell? ⟨b, off + k, none⟩ = some (.int .i64 (nth l k)) := (hbl.cell (by exact hb)).trans (hc k hlt)
        have hx' : wr.cell? ⟨b', off' + k, none⟩ = some (.int .i64 (nth m k)) := (hbl.cell (by exact hb')).trans (hc' k hlt')
        clear hc hc' hcell hcell'
        by_cases heq : nth l k = nth m k
        · have he : (nth l k != nth m k) = false := by simp [heq]
          have HE := Lib.hid heq
          clear heq
          go_wp2
          go_quiet (fail)
          go_wp2
          go_roundw
          case rel => exact ⟨k + 1, by omega, by go_num, fun j hj => (by
            by_cases e : j = k
            · rw [e]; exact HE.out
            · exact HS.out j (by omega)), below_drewN hbl _⟩
          case measure => simp [intOf]; omega
        · have he : (nth l k != nth m k) = true := by simp [heq]
          go_wp2
          go_quiet (fail)
          go_wp2
          go_ret
          have hd : decide (l = m) = false := decide_eq_false (fun h => heq (by rw [h]))
          exact ⟨by rw [hd]; rfl, below_drewN hbl _⟩
      · go_wp2
        go_ret
        have hd : decide (l = m) = true := decide_eq_true (eq_of_cells l m HN.out (fun j hj => HS.out j (by omega)))
        exact ⟨by rw [hd]; rfl, hbl⟩
  · have hq : ((l.length : Int) != (m.length : Int)) = true := by simp; omega
    go_enter Try.func13, Try.ntmps13
    go_wp2
    go_ret
    have hd : decide (l = m) = false := decide_eq_false (fun h => hne (by rw [h]))
    exact ⟨by rw [hd]; rfl, Below.refl _ _⟩
end Go.Proofs.Ytpeiajmgkhajoaa
