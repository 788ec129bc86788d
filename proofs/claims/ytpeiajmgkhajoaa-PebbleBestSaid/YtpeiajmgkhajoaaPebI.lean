/- Walk of Bennett. -/
import Derived.Test.YtpeiajmgkhajoaaPebH
import Derived.Laws.EntriesVeiled
namespace Go.Proofs.Ytpeiajmgkhajoaa
set_option linter.unusedVariables false
open Go.RowKit

set_option maxHeartbeats 1600000 in
theorem bennett_bad (n k : Int) (w : World) (h : n < 1 ∨ 500 < n ∨ k < 2 ∨ 500 < k) :
    Calls Try.prog 12 #[.int .i64 n, .int .i64 k] w fun e w' => e = .returned (.tuple #[.slice none 0 0, .int .i64 2]) ∧ Below w.heap.size w w' := by
  by_cases h1 : n < 1
  · have d1 : decide (n < 1) = true := by simpa using h1
    go_enter Try.func12, Try.ntmps12
    go_wp2
    go_ret2
    exact ⟨rfl, (Below.refl _ _).alloc (Nat.le_refl _) _⟩
  have d1 : decide (n < 1) = false := by simpa using h1
  by_cases h2 : 500 < n
  · have d2 : decide (500 < n) = true := by simpa using h2
    go_enter Try.func12, Try.ntmps12
    go_wp2
    go_ret2
    exact ⟨rfl, (Below.refl _ _).alloc (Nat.le_refl _) _⟩
  have d2 : decide (500 < n) = false := by simpa using h2
  by_cases h3 : k < 2
  · have d3 : decide (k < 2) = true := by simpa using h3
    go_enter Try.func12, Try.ntmps12
    go_wp2
    go_ret2
    exact ⟨rfl, (Below.refl _ _).alloc (Nat.le_refl _) _⟩
  have d3 : decide (k < 2) = false := by simpa using h3
  have d4 : decide (500 < k) = true := by simp; omega
  go_enter Try.func12, Try.ntmps12
  go_wp2
  go_ret2
  exact ⟨rfl, (Below.refl _ _).alloc (Nat.le_refl _) _⟩

set_option maxHeartbeats 1600000 in
theorem bennett_good (n k : Nat) (w : World) (h1 : 1 ≤ n) (h2 : n ≤ 500) (h3 : 2 ≤ k) (h4 : k ≤ 500) :
    Calls Try.prog 12 #[.int .i64 n, .int .i64 k] w fun e w' => ∃ v, e = .returned (.tuple #[v, .int .i64 0]) ∧ Own w' w.heap.size 3 v (strat n k 0 n) ∧ Below w.heap.size w w' := by
  have d1 : decide ((n : Int) < 1) = false := by simp; omega
  have d2 : decide (500 < (n : Int)) = false := by simp; omega
  have d3 : decide ((k : Int) < 2) = false := by simp; omega
  have d4 : decide (500 < (k : Int)) = false := by simp; omega
  have hmf : ∀ (fn : Fn) (first cap : Array Value) (w : World), (Instr.makeFunc fn first cap).run Try.prog w = .ok (.func fn first cap) w := fun _ _ _ _ => rfl
  go_enter Try.func12, Try.ntmps12
  go_wp2_with fail
  refine (strat_any n k 0 n _ _ w.heap.size (w.heap.size + 1) _ rfl rfl (Nat.le_refl _) h1 (by omega) h3 h4 (by simp; omega) (by simp) ?_ ?_).mono ?_
  · rw [World.cell?_alloc_past _ _ _ (by simp), World.cell?_alloc_at _ _ _ _ rfl]; rfl
  · rw [World.cell?_alloc_at _ _ _ _ (by simp)]; rfl
  rintro e w1 ⟨v1, rfl, hv1, hb1⟩
  have hb : Below w.heap.size w w1 := (((Below.refl _ _).alloc (Nat.le_refl _) _).alloc (by simp) _).trans (hb1.mono (by simp; omega))
  have ho := hv1.mono (show w.heap.size ≤ _ by simp; omega)
  clear hv1 hb1
  go_wp2
  go_ret2
  exact ⟨_, rfl, ho, hb⟩
end Go.Proofs.Ytpeiajmgkhajoaa
