/- The best sequences for n = 1 .. 8, whatever the number of pebbles (printed by wip/gen/pebtab.py). -/
import Derived.Test.YtpeiajmgkhajoaaPebT2
import Derived.Test.YtpeiajmgkhajoaaPebT3
import Derived.Test.YtpeiajmgkhajoaaPebT4
import Derived.Test.YtpeiajmgkhajoaaPebT5
namespace Go.Proofs.Ytpeiajmgkhajoaa
set_option linter.unusedVariables false
open Go.RowKit

/-- the best sequence, if there is one -/
def bestT (n q : Nat) : Option (List Int) := match n, q with
  | 1, 1 => some [1]
  | 2, 2 => some [1, 2, (-1)]
  | 3, 3 => some [1, 2, 3, (-2), (-1)]
  | 4, 3 => some [1, 2, (-1), 3, 4, (-3), 1, (-2), (-1)]
  | 4, 4 => some [1, 2, 3, 4, (-3), (-2), (-1)]
  | 5, 4 => some [1, 2, (-1), 3, 4, 5, (-4), (-3), 1, (-2), (-1)]
  | 5, 5 => some [1, 2, 3, 4, 5, (-4), (-3), (-2), (-1)]
  | 6, 4 => some [1, 2, (-1), 3, 4, (-3), 5, 6, (-5), 3, (-4), (-3), 1, (-2), (-1)]
  | 6, 5 => some [1, 2, (-1), 3, 4, 5, 6, (-5), (-4), (-3), 1, (-2), (-1)]
  | 6, 6 => some [1, 2, 3, 4, 5, 6, (-5), (-4), (-3), (-2), (-1)]
  | 7, 4 => some [1, 2, 3, (-2), (-1), 4, 5, (-4), 6, 7, (-6), 4, (-5), (-4), 1, 2, (-3), (-2), (-1)]
  | 7, 5 => some [1, 2, (-1), 3, 4, (-3), 5, 6, 7, (-6), (-5), 1, 3, (-4), (-3), (-2), (-1)]
  | 7, 6 => some [1, 2, (-1), 3, 4, 5, 6, 7, (-6), (-5), (-4), (-3), 1, (-2), (-1)]
  | 7, 7 => some [1, 2, 3, 4, 5, 6, 7, (-6), (-5), (-4), (-3), (-2), (-1)]
  | 8, 4 => some [1, 2, 3, 4, (-3), (-2), (-1), 5, 6, (-5), 7, 8, (-7), 5, (-6), (-5), 1, 2, (-1), 3, (-4), (-3), 1, (-2), (-1)]
  | 8, 5 => some [1, 2, (-1), 3, 4, (-3), 5, 6, (-5), 7, 8, (-7), 5, (-6), (-5), 1, 3, (-4), (-3), (-2), (-1)]
  | 8, 6 => some [1, 2, (-1), 3, 4, (-3), 5, 6, 7, 8, (-7), (-6), (-5), 1, 3, (-4), (-3), (-2), (-1)]
  | 8, 7 => some [1, 2, (-1), 3, 4, 5, 6, 7, 8, (-7), (-6), (-5), (-4), (-3), 1, (-2), (-1)]
  | 8, 8 => some [1, 2, 3, 4, 5, 6, 7, 8, (-7), (-6), (-5), (-4), (-3), (-2), (-1)]
  | _, _ => none

theorem tabs (n q : Nat) (h1 : 1 ≤ n) (h2 : n ≤ 8) (h3 : 1 ≤ q) (h4 : q ≤ n) : Tab n q (bestT n q) := by
  obtain rfl | rfl | rfl | rfl | rfl | rfl | rfl | rfl : n = 1 ∨ n = 2 ∨ n = 3 ∨ n = 4 ∨ n = 5 ∨ n = 6 ∨ n = 7 ∨ n = 8 := by omega
  · obtain rfl : q = 1 := by omega
    exact tab_1_1
  · obtain rfl | rfl : q = 1 ∨ q = 2 := by omega
    · exact tab_2_1
    · exact tab_2_2
  · obtain rfl | rfl | rfl : q = 1 ∨ q = 2 ∨ q = 3 := by omega
    · exact tab_3_1
    · exact tab_3_2
    · exact tab_3_3
  · obtain rfl | rfl | rfl | rfl : q = 1 ∨ q = 2 ∨ q = 3 ∨ q = 4 := by omega
    · exact tab_4_1
    · exact tab_4_2
    · exact tab_4_3
    · exact tab_4_4
  · obtain rfl | rfl | rfl | rfl | rfl : q = 1 ∨ q = 2 ∨ q = 3 ∨ q = 4 ∨ q = 5 := by omega
    · exact tab_5_1
    · exact tab_5_2
    · exact tab_5_3
    · exact tab_5_4
    · exact tab_5_5
  · obtain rfl | rfl | rfl | rfl | rfl | rfl : q = 1 ∨ q = 2 ∨ q = 3 ∨ q = 4 ∨ q = 5 ∨ q = 6 := by omega
    · exact tab_6_1
    · exact tab_6_2
    · exact tab_6_3
    · exact tab_6_4
    · exact tab_6_5
    · exact tab_6_6
  · obtain rfl | rfl | rfl | rfl | rfl | rfl | rfl : q = 1 ∨ q = 2 ∨ q = 3 ∨ q = 4 ∨ q = 5 ∨ q = 6 ∨ q = 7 := by omega
    · exact tab_7_1
    · exact tab_7_2
    · exact tab_7_3
    · exact tab_7_4
    · exact tab_7_5
    · exact tab_7_6
    · exact tab_7_7
  · obtain rfl | rfl | rfl | rfl | rfl | rfl | rfl | rfl : q = 1 ∨ q = 2 ∨ q = 3 ∨ q = 4 ∨ q = 5 ∨ q = 6 ∨ q = 7 ∨ q = 8 := by omega
    · exact tab_8_1
    · exact tab_8_2
    · exact tab_8_3
    · exact tab_8_4
    · exact tab_8_5
    · exact tab_8_6
    · exact tab_8_7
    · exact tab_8_8

/-- the number of pebbles that can be of use -/
def cap (n : Nat) (p : Int) : Nat := min p.toNat n
theorem cap_ok {n : Nat} {p : Int} (h1 : 1 ≤ n) (hp : 1 ≤ p) : 1 ≤ cap n p ∧ cap n p ≤ n := by unfold cap; omega
theorem farOf_p {n : Nat} {p : Int} (h1 : 1 ≤ n) (hp : 1 ≤ p) : farOf n p = farOf n (cap n p : Nat) := by
  by_cases h : (n : Int) ≤ p
  · have e : cap n p = n := by unfold cap; omega
    rw [e]; exact farOf_cap h1 h
  · have e : ((cap n p : Nat) : Int) = p := by unfold cap; omega
    rw [e]
theorem good_p {n : Nat} {p : Int} (h1 : 1 ≤ n) (h2 : n ≤ 8) (hp : 1 ≤ p) : Good n p := by
  have hc := cap_ok (p := p) h1 hp
  have ht := (tabs n (cap n p) h1 h2 hc.1 hc.2).1
  by_cases h : (n : Int) ≤ p
  · have e : cap n p = n := by unfold cap; omega
    rw [e] at ht; exact ht.cap h1 h
  · have e : ((cap n p : Nat) : Int) = p := by unfold cap; omega
    rw [e] at ht; exact ht
theorem best_p {n : Nat} {p : Int} (h1 : 1 ≤ n) (h2 : n ≤ 8) (hp : 1 ≤ p) : bestOk n p = (bestT n (cap n p)).isSome ∧ bestL n p = (bestT n (cap n p)).getD [] := by
  have hc := cap_ok (p := p) h1 hp
  have ht := tabs n (cap n p) h1 h2 hc.1 hc.2
  refine ⟨?_, ?_⟩
  · rw [← ht.2.1, bestOk, bestOk, farOf_p h1 hp]
  · rw [← ht.2.2.1, bestL, bestL, farOf_p h1 hp]
end Go.Proofs.Ytpeiajmgkhajoaa
