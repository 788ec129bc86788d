/- Walks of the small functions of package pebble and of its reference. -/
import Derived.Test.YtpeiajmgkhajoaaRows
import Derived.Test.YtpeiajmgkhajoaaPebP
import Derived.BigQuiet
import Derived.Deep.QuietTactic
namespace Go.Proofs.Ytpeiajmgkhajoaa
set_option linter.unusedVariables false
open Go.RowKit

theorem TI : RowT Try.prog 23 3 (.int .i64 0) 1 8 := ⟨Try.underlying23, by kernel_rfl⟩

set_option maxHeartbeats 800000 in
theorem inverse_any (v : Value) (l : List Int) (w : World) (hi : IntsAt w v l) (hs : Small l) :
    Calls Try.prog 22 #[v] w fun e w' => ∃ v, e = .returned v ∧ Own w' w.heap.size 3 v (negRev l) ∧ Below w.heap.size w w' := by
  obtain ⟨hlen, hfit, a, cap, rfl, _, hcell⟩ := hi
  go_enter Try.func22, Try.ntmps22
  go_wp2
  go_loopw [3, 4] (fun v i wr => ∃ k : Nat, k ≤ l.length ∧ i = .int .i64 ((k : Int) - 1) ∧ Own wr w.heap.size 3 v (negRev (l.drop k)) ∧ Below w.heap.size w wr)
    (fun _ i _ => (intOf i + 1).toNat)
  case atStart => exact ⟨l.length, Nat.le_refl _, rfl, by simpa [negRev] using Own.nil _ _ _, Below.refl _ _⟩
  case round =>
    obtain ⟨k, hk, rfl, hown, hbl⟩ := hrel
    by_cases hk0 : 0 < k
    · obtain ⟨b, off, rfl, hlt, hc⟩ := hcell (by omega)
      obtain ⟨k, rfl⟩ : ∃ k', k = k' + 1 := ⟨k - 1, by omega⟩
      have hcx : wr.cell? ⟨b, off + k, none⟩ = some (.int .i64 (nth l k)) := (hbl.cell (by exact hlt)).trans (hc k (by omega))
      have hsm := hs _ (nth_mem (l := l) (j := k) (by omega))
      have hb1 : -9223372036854775808 ≤ - nth l k ∧ - nth l k ≤ 9223372036854775807 := by omega
      have hb2 : ((negRev (l.drop (k + 1))).length + 1) * 8 ≤ 140737488351232 := by rw [negRev_len]; simp; omega
      have hb3 := hbl.size
      have hd := Lib.hid (negRev_drop (l := l) (k := k) (by omega))
      clear hcell hc
      go_wp2_with (at_builtin; refine wpl_append1 TI rfl _ _ rfl rfl rfl hown hb1 hb2 hb3 ?_)
      intro v' w1 h1 h2 _
      have h3 := below_grown hbl hown h2 hb3
      clear h2 hown hcx
      go_wp2
      go_roundw
      case rel => exact ⟨k, by omega, by go_num, by rw [hd.out]; exact h1, h3⟩
      case measure => simp [intOf]
    · obtain rfl : k = 0 := by omega
      go_wp2
      go_ret
      exact ⟨_, rfl, by simpa using hown, hbl⟩
end Go.Proofs.Ytpeiajmgkhajoaa
