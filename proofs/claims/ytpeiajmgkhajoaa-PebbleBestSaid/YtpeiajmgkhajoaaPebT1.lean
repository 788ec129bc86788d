/- The distances of the search of Best, as the kernel reckons them (printed by wip/gen/pebtab.py). -/
import Derived.Test.YtpeiajmgkhajoaaPebR
namespace Go.Proofs.Ytpeiajmgkhajoaa
set_option linter.unusedVariables false
open Go.RowKit

/-- along each move the distance grows by at most one -/
def edges0 (n q : Nat) (far : List Int) : Bool := (List.range (2 ^ n)).all fun c => (List.range (2 * n + 1)).all fun i =>
  !(moveOk c ((i : Int) - n)) || decide (nth far (moveTo c ((i : Int) - n)) < 0) || decide (q < pop 12 c) || (decide (0 ≤ nth far c) && decide (nth far c ≤ nth far (moveTo c ((i : Int) - n)) + 1))
/-- the distance is 0 at the goal alone, and never great -/
def zeros (n : Nat) (far : List Int) : Bool := (List.range (2 ^ n)).all fun c => (!(nth far c == 0) || c == 2 ^ (n - 1)) && decide (nth far c ≤ 1000) && decide (-1 ≤ nth far c)
def edges (n q : Nat) (far : List Int) : Bool := edges0 n q far && zeros n far
/-- what is asked of the distances, and of the best sequence -/
def Tab (n q : Nat) (b : Option (List Int)) : Prop :=
  Good n q ∧ bestOk n q = b.isSome ∧ bestL n q = b.getD [] ∧ edges n q (farOf n q) = true ∧ (∀ l, b = some l → nth (farOf n q) 0 = l.length) ∧ (b = none → nth (farOf n q) 0 < 0) ∧ nth (farOf n q) (2 ^ (n - 1)) = 0
theorem tab_of {n q : Nat} {b : Option (List Int)} {far : List Int} (h1 : bfs n q (2 ^ n) = (far, [])) (h2 : (decide (nth far 0 < 0) || runs n far 100 0) = true) (h3 : decide (0 ≤ nth far 0) = b.isSome)
    (h4 : (if nth far 0 < 0 then [] else (gr n far 100).1) = b.getD []) (h5 : edges n q far = true) (h6 : (match b with | some l => decide (nth far 0 = l.length) | none => decide (nth far 0 < 0)) = true) (h7 : nth far (2 ^ (n - 1)) = 0) : Tab n q b := by
  have e : farOf n q = far := by rw [farOf, h1]
  refine ⟨good_of (by rw [h1]) (by rw [e]; exact h2), by rw [bestOk, e]; exact h3, by rw [bestL, e]; exact h4, by rw [e]; exact h5, fun l hl => ?_, fun hn => ?_, by rw [e]; exact h7⟩
  · subst hl; rw [e]; simpa using h6
  · subst hn; rw [e]; simpa using h6

set_option maxRecDepth 100000 in
theorem tab_1_1 : Tab 1 1 (some [1]) :=
  tab_of (far := [1, 0]) (by decide +kernel) (by decide +kernel) (by decide +kernel) (by decide +kernel) (by decide +kernel) (by decide +kernel) (by decide +kernel)
set_option maxRecDepth 100000 in
theorem tab_2_1 : Tab 2 1 (none) :=
  tab_of (far := [(-1), (-1), 0, (-1)]) (by decide +kernel) (by decide +kernel) (by decide +kernel) (by decide +kernel) (by decide +kernel) (by decide +kernel) (by decide +kernel)
set_option maxRecDepth 100000 in
theorem tab_2_2 : Tab 2 2 (some [1, 2, (-1)]) :=
  tab_of (far := [3, 2, 0, 1]) (by decide +kernel) (by decide +kernel) (by decide +kernel) (by decide +kernel) (by decide +kernel) (by decide +kernel) (by decide +kernel)
set_option maxRecDepth 100000 in
theorem tab_3_1 : Tab 3 1 (none) :=
  tab_of (far := [(-1), (-1), (-1), (-1), 0, (-1), (-1), (-1)]) (by decide +kernel) (by decide +kernel) (by decide +kernel) (by decide +kernel) (by decide +kernel) (by decide +kernel) (by decide +kernel)
set_option maxRecDepth 100000 in
theorem tab_3_2 : Tab 3 2 (none) :=
  tab_of (far := [(-1), (-1), (-1), (-1), 0, 1, (-1), (-1)]) (by decide +kernel) (by decide +kernel) (by decide +kernel) (by decide +kernel) (by decide +kernel) (by decide +kernel) (by decide +kernel)
set_option maxRecDepth 100000 in
theorem tab_3_3 : Tab 3 3 (some [1, 2, 3, (-2), (-1)]) :=
  tab_of (far := [5, 4, 4, 3, 0, 1, 3, 2]) (by decide +kernel) (by decide +kernel) (by decide +kernel) (by decide +kernel) (by decide +kernel) (by decide +kernel) (by decide +kernel)
set_option maxRecDepth 100000 in
theorem tab_4_1 : Tab 4 1 (none) :=
  tab_of (far := [(-1), (-1), (-1), (-1), (-1), (-1), (-1), (-1), 0, (-1), (-1), (-1), (-1), (-1), (-1), (-1)]) (by decide +kernel) (by decide +kernel) (by decide +kernel) (by decide +kernel) (by decide +kernel) (by decide +kernel) (by decide +kernel)
set_option maxRecDepth 100000 in
theorem tab_4_2 : Tab 4 2 (none) :=
  tab_of (far := [(-1), (-1), (-1), (-1), (-1), (-1), (-1), (-1), 0, 1, (-1), (-1), (-1), (-1), (-1), (-1)]) (by decide +kernel) (by decide +kernel) (by decide +kernel) (by decide +kernel) (by decide +kernel) (by decide +kernel) (by decide +kernel)
set_option maxRecDepth 100000 in
theorem tab_4_3 : Tab 4 3 (some [1, 2, (-1), 3, 4, (-3), 1, (-2), (-1)]) :=
  tab_of (far := [9, 8, 6, 7, 8, 7, 5, 6, 0, 1, 3, 2, 9, 8, 4, (-1)]) (by decide +kernel) (by decide +kernel) (by decide +kernel) (by decide +kernel) (by decide +kernel) (by decide +kernel) (by decide +kernel)
set_option maxRecDepth 100000 in
theorem tab_4_4 : Tab 4 4 (some [1, 2, 3, 4, (-3), (-2), (-1)]) :=
  tab_of (far := [7, 6, 6, 5, 6, 5, 5, 4, 0, 1, 3, 2, 5, 4, 4, 3]) (by decide +kernel) (by decide +kernel) (by decide +kernel) (by decide +kernel) (by decide +kernel) (by decide +kernel) (by decide +kernel)
set_option maxRecDepth 100000 in
theorem tab_5_1 : Tab 5 1 (none) :=
  tab_of (far := [(-1), (-1), (-1), (-1), (-1), (-1), (-1), (-1), (-1), (-1), (-1), (-1), (-1), (-1), (-1), (-1), 0, (-1), (-1), (-1), (-1), (-1), (-1), (-1), (-1), (-1), (-1), (-1), (-1), (-1), (-1), (-1)]) (by decide +kernel) (by decide +kernel) (by decide +kernel) (by decide +kernel) (by decide +kernel) (by decide +kernel) (by decide +kernel)
set_option maxRecDepth 100000 in
theorem tab_5_2 : Tab 5 2 (none) :=
  tab_of (far := [(-1), (-1), (-1), (-1), (-1), (-1), (-1), (-1), (-1), (-1), (-1), (-1), (-1), (-1), (-1), (-1), 0, 1, (-1), (-1), (-1), (-1), (-1), (-1), (-1), (-1), (-1), (-1), (-1), (-1), (-1), (-1)]) (by decide +kernel) (by decide +kernel) (by decide +kernel) (by decide +kernel) (by decide +kernel) (by decide +kernel) (by decide +kernel)
set_option maxRecDepth 100000 in
theorem tab_5_3 : Tab 5 3 (none) :=
  tab_of (far := [(-1), (-1), (-1), (-1), (-1), (-1), (-1), (-1), (-1), (-1), (-1), (-1), (-1), (-1), (-1), (-1), 0, 1, 3, 2, (-1), (-1), 4, (-1), (-1), (-1), (-1), (-1), (-1), (-1), (-1), (-1)]) (by decide +kernel) (by decide +kernel) (by decide +kernel) (by decide +kernel) (by decide +kernel) (by decide +kernel) (by decide +kernel)
set_option maxRecDepth 100000 in
theorem tab_5_4 : Tab 5 4 (some [1, 2, (-1), 3, 4, 5, (-4), (-3), 1, (-2), (-1)]) :=
  tab_of (far := [11, 10, 8, 9, 8, 7, 7, 8, 10, 9, 7, 8, 7, 6, 6, 7, 0, 1, 3, 2, 5, 4, 4, 3, 9, 8, 6, 7, 6, 5, 5, (-1)]) (by decide +kernel) (by decide +kernel) (by decide +kernel) (by decide +kernel) (by decide +kernel) (by decide +kernel) (by decide +kernel)
set_option maxRecDepth 100000 in
theorem tab_5_5 : Tab 5 5 (some [1, 2, 3, 4, 5, (-4), (-3), (-2), (-1)]) :=
  tab_of (far := [9, 8, 8, 7, 8, 7, 7, 6, 8, 7, 7, 6, 7, 6, 6, 5, 0, 1, 3, 2, 5, 4, 4, 3, 7, 6, 6, 5, 6, 5, 5, 4]) (by decide +kernel) (by decide +kernel) (by decide +kernel) (by decide +kernel) (by decide +kernel) (by decide +kernel) (by decide +kernel)
end Go.Proofs.Ytpeiajmgkhajoaa
