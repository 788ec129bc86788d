/- Walks of package backsteplaw43: length. -/
import Derived.Test.YtehmmokkjojggaaDoorKidsL
import Derived.Test.YtehmmokkjojggaaDoorPAwk
namespace Go.Proofs.YtehmmokkjojggaaDoor
set_option linter.unusedVariables false
set_option linter.unusedSimpArgs false
open Go.RowKit

theorem nd_lit {A : Nat → Prop} {w : World} {k i : Int} {s : ByteArray} {v : Value} {l : List Nd} (h : KidsAt A w v l) (hk : 0 ≤ k ∧ k ≤ 255) (hi : In64 i) (hs : s.size ≤ maxLen) : NdAt A w (.agg #[.int .u8 k, .int .i64 i, .string s, v]) (.mk k i s l) := ⟨⟨hk, hi, hs⟩, _, rfl, h⟩
theorem in64_8 : In64 8 := by unfold In64; omega
theorem in64_1 : In64 1 := by unfold In64; omega
theorem xs_size : (⟨#[120, 115]⟩ : ByteArray).size ≤ maxLen := by unfold maxLen; decide
theorem len_size : lenS.size ≤ maxLen := by unfold maxLen; decide
theorem no_size : (⟨#[]⟩ : ByteArray).size ≤ maxLen := by unfold maxLen; decide
theorem exlen_fns {w : World} {A : Nat → Prop} {g1 g2 g4 g6 g7 g8 g9 : Nat}
    (h1 : w.heap[g1]? = some (.cells #[.int .u8 81, .int .i64 0, .string ⟨#[120, 115]⟩, .slice none 0 0] 66 (0, 0)))
    (h2 : w.heap[g2]? = some (.cells #[.int .u8 89, .int .i64 0, .string ⟨#[]⟩, .slice (some ⟨g1, 0, none⟩) 1 1] 66 (0, 0)))
    (h4 : w.heap[g4]? = some (.cells #[.int .u8 80, .int .i64 1, .string ⟨#[]⟩, .slice none 0 0, .int .u8 85, .int .i64 0, .string ⟨#[108, 101, 110]⟩, .slice (some ⟨g2, 0, none⟩) 1 1] 66 (0, 0)))
    (h6 : w.heap[g6]? = some (.cells #[.string ⟨#[120, 115]⟩, .bool true] 101 (0, 0)))
    (h7 : w.heap[g7]? = some (.cells #[.int .u8 81, .int .i64 0, .string ⟨#[120, 115]⟩, .slice none 0 0] 66 (0, 0)))
    (h8 : w.heap[g8]? = some (.cells #[.int .u8 90, .int .i64 0, .string ⟨#[]⟩, .slice (some ⟨g7, 0, none⟩) 1 1, .int .u8 80, .int .i64 0, .string ⟨#[]⟩, .slice none 0 0, .int .u8 82, .int .i64 8, .string ⟨#[]⟩, .slice (some ⟨g4, 0, none⟩) 2 2] 66 (0, 0)))
    (h9 : w.heap[g9]? = some (.cells #[.string ⟨#[108, 101, 110]⟩, .slice (some ⟨g6, 0, none⟩) 1 1, .bool false, .int .u8 83, .int .i64 0, .string ⟨#[]⟩, .slice (some ⟨g8, 0, none⟩) 3 3] 68 (0, 0)))
    (a1 : A g1) (a2 : A g2) (a4 : A g4) (a6 : A g6) (a7 : A g7) (a8 : A g8) (a9 : A g9) : FnsAt A w (.slice (some ⟨g9, 0, none⟩) 1 1) exLen := by
  have l6 : g6 < w.heap.size := by rw [Array.getElem?_eq_some_iff] at h6; exact h6.1
  have l9 : g9 < w.heap.size := by rw [Array.getElem?_eq_some_iff] at h9; exact h9.1
  have hp : ParsAt A w (.slice (some ⟨g6, 0, none⟩) 1 1) [⟨⟨#[120, 115]⟩, true⟩] := by
    refine ⟨fun j i => if i = 0 then .string ⟨#[120, 115]⟩ else .bool true, ⟨by unfold maxLen; simp, _, _, rfl, Nat.le_refl _, nofun, fun _ => ⟨g6, 0, rfl, l6, a6, fun j hj i hi => ?_⟩⟩, fun j hj => ?_⟩
    · obtain rfl : j = 0 := by simp at hj; exact hj
      match i, hi with
      | 0, _ => exact cell_blk h6 0 rfl
      | 1, _ => exact cell_blk h6 1 rfl
    · obtain rfl : j = 0 := by simp at hj; exact hj
      exact ⟨rfl, rfl, xs_size⟩
  have k255 : ∀ k : Int, 80 ≤ k → k ≤ 90 → 0 ≤ k ∧ k ≤ 255 := fun k h h' => ⟨by omega, by omega⟩
  have hx : NdAt A w (.agg #[.int .u8 81, .int .i64 0, .string ⟨#[120, 115]⟩, .slice none 0 0]) xsN := nd_lit (KidsAt.nil _) (k255 _ (by omega) (by omega)) in64_0 xs_size
  have k1 : KidsAt A w (.slice (some ⟨g1, 0, none⟩) 1 1) [xsN] := kids_1 h1 a1 hx
  have k2 : KidsAt A w (.slice (some ⟨g2, 0, none⟩) 1 1) [.mk 89 0 ⟨#[]⟩ [xsN]] := kids_1 h2 a2 (nd_lit k1 (k255 _ (by omega) (by omega)) in64_0 no_size)
  have k4 : KidsAt A w (.slice (some ⟨g4, 0, none⟩) 2 2) [.mk 80 1 ⟨#[]⟩ [], .mk 85 0 lenS [.mk 89 0 ⟨#[]⟩ [xsN]]] := kids_2 h4 a4 (nd_lit (KidsAt.nil _) (k255 _ (by omega) (by omega)) in64_1 no_size) (nd_lit k2 (k255 _ (by omega) (by omega)) in64_0 len_size)
  have k7 : KidsAt A w (.slice (some ⟨g7, 0, none⟩) 1 1) [xsN] := kids_1 h7 a7 hx
  have hk : KidsAt A w (.slice (some ⟨g8, 0, none⟩) 3 3) (at' exLen 0).body.kids := kids_3 h8 a8 (nd_lit k7 (k255 _ (by omega) (by omega)) in64_0 no_size) (nd_lit (KidsAt.nil _) (k255 _ (by omega) (by omega)) in64_0 no_size) (nd_lit k4 (k255 _ (by omega) (by omega)) in64_8 no_size)
  refine ⟨fun j i => #[Value.string ⟨#[108, 101, 110]⟩, .slice (some ⟨g6, 0, none⟩) 1 1, .bool false, .int .u8 83, .int .i64 0, .string ⟨#[]⟩, .slice (some ⟨g8, 0, none⟩) 3 3].getD i undef, ⟨by unfold maxLen; decide, _, _, rfl, Nat.le_refl _, nofun, fun _ => ⟨g9, 0, rfl, l9, a9, fun j hj i hi => ?_⟩⟩, fun j hj => ?_⟩
  · obtain rfl : j = 0 := by simpa [exLen] using hj
    match i, hi with
    | 0, _ => exact cell_blk h9 0 rfl
    | 1, _ => exact cell_blk h9 1 rfl
    | 2, _ => exact cell_blk h9 2 rfl
    | 3, _ => exact cell_blk h9 3 rfl
    | 4, _ => exact cell_blk h9 4 rfl
    | 5, _ => exact cell_blk h9 5 rfl
    | 6, _ => exact cell_blk h9 6 rfl
  · obtain rfl : j = 0 := by simpa [exLen] using hj
    exact ⟨rfl, len_size, hp, rfl, rfl, rfl, rfl, ⟨⟨by decide, by decide⟩, by unfold In64; exact ⟨by decide, by decide⟩, no_size⟩, hk⟩
set_option maxRecDepth 100000 in set_option maxHeartbeats 3200000 in theorem length_any (w : World) : Calls Tryd.prog 26 #[] w fun e w' => (∃ a c, e = .returned (.slice a 1 c) ∧ FnsAt (Up w.heap.size) w' (.slice a 1 c) exLen) ∧ Below w.heap.size w w' := by
  go_enter Tryd.func26, Tryd.ntmps26
  go_wp2
  go_ret
  refine ⟨⟨_, _, rfl, exlen_fns (g1 := w.heap.size + 1) (g2 := w.heap.size + 1 + 1) (g4 := w.heap.size + 1 + 1 + 1 + 1) (g6 := w.heap.size + 1 + 1 + 1 + 1 + 1 + 1) (g7 := w.heap.size + 1 + 1 + 1 + 1 + 1 + 1 + 1) (g8 := w.heap.size + 1 + 1 + 1 + 1 + 1 + 1 + 1 + 1) (by (repeat (with_reducible first | (refine blk_new ?_; (simp; done)) | (refine blk_new ?_; rfl) | refine blk_drew ?_ | refine blk_alloc ?_ | (apply blk_below; focus assumption)))) (by (repeat (with_reducible first | (refine blk_new ?_; (simp; done)) | (refine blk_new ?_; rfl) | refine blk_drew ?_ | refine blk_alloc ?_ | (apply blk_below; focus assumption)))) (by (repeat (with_reducible first | (refine blk_new ?_; (simp; done)) | (refine blk_new ?_; rfl) | refine blk_drew ?_ | refine blk_alloc ?_ | (apply blk_below; focus assumption)))) (by (repeat (with_reducible first | (refine blk_new ?_; (simp; done)) | (refine blk_new ?_; rfl) | refine blk_drew ?_ | refine blk_alloc ?_ | (apply blk_below; focus assumption)))) (by (repeat (with_reducible first | (refine blk_new ?_; (simp; done)) | (refine blk_new ?_; rfl) | refine blk_drew ?_ | refine blk_alloc ?_ | (apply blk_below; focus assumption)))) (by (repeat (with_reducible first | (refine blk_new ?_; (simp; done)) | (refine blk_new ?_; rfl) | refine blk_drew ?_ | refine blk_alloc ?_ | (apply blk_below; focus assumption)))) (by (repeat (with_reducible first | (refine blk_new ?_; (simp; done)) | (refine blk_new ?_; rfl) | refine blk_drew ?_ | refine blk_alloc ?_ | (apply blk_below; focus assumption)))) ?_ ?_ ?_ ?_ ?_ ?_ ?_⟩, (by (repeat (with_reducible first | exact Below.refl _ _ | refine bel_drew ?_ | refine bel_alloc ?_ | (apply bel_step; focus assumption))))⟩
  all_goals (unfold Up; omega)
end Go.Proofs.YtehmmokkjojggaaDoor
