/- Walks of package backsteplaw41: procs, returned. -/
import Derived.Test.YtehmmokkjojggabGreatDoorKgK
namespace Go.Proofs.YtehmmokkjojggabGreatDoor
set_option linter.unusedVariables false
set_option linter.unusedSimpArgs false
open Go.RowKit

set_option maxRecDepth 100000 in set_option maxHeartbeats 3200000 in theorem procs_T (nm : ByteArray) (D : List Dcl) (B : Nd) (xa ya xa' ya' : Option Addr) (xc yc xc' yc' : Nat) (w : World) (h : PrOk w D B xa xc ya yc) (h' : PrOk w D B xa' xc' ya' yc') :
    Calls Tryz.prog 78 #[prW nm D B xa xc ya yc, prW nm D B xa' xc' ya' yc'] w fun e w' => e = .returned (.bool true) ∧ Below w.heap.size w w' := by
  obtain ⟨W, hW⟩ : ∃ W, W = ((w.alloc (prC nm D B xa xc ya yc)).alloc (prC nm D B xa' xc' ya' yc')).alloc (.cells #[.int .u8 57, .int .i64 0, .string ⟨#[]⟩, .slice none 0 0] 35 (0, 0)) := ⟨_, rfl⟩
  have hA : Below w.heap.size w W := by subst hW; exact bel_alloc (bel_alloc (bel_alloc (Below.refl _ _)))
  have HA := Lib.hid hA
  have HN : Hid (W.heap[w.heap.size]? = some (prC nm D B xa xc ya yc)) := Lib.hid (by subst hW; exact blk_alloc (at_old _ _ _))
  have HN' : Hid (W.heap[w.heap.size + 1]? = some (prC nm D B xa' xc' ya' yc')) := Lib.hid (by subst hW; exact blk_alloc (at_new _ _ _))
  have HX : Hid (∀ w1, Below W.heap.size W w1 → w1.heap[w.heap.size]? = some (prC nm D B xa xc ya yc) ∧ w1.heap[w.heap.size + 1]? = some (prC nm D B xa' xc' ya' yc')) := Lib.hid (fun w1 hw => ⟨blk_below hw HN.out, blk_below hw HN'.out⟩)
  have HS : Hid (∀ w1 g g', Below W.heap.size W w1 → w1.heap[g]? = some (prC nm D B xa xc ya yc) → w1.heap[g']? = some (prC nm D B xa' xc' ya' yc') → Calls Tryz.prog 109 #[.agg #[.slice none 0 0, .slice (some ⟨g, 0, none⟩) 1 1, .int .u8 57, .int .i64 0, .string ⟨#[]⟩, .slice none 0 0], .agg #[.slice none 0 0, .slice (some ⟨g', 0, none⟩) 1 1, .int .u8 57, .int .i64 0, .string ⟨#[]⟩, .slice none 0 0]] w1 fun e w' => e = .returned (.bool true) ∧ Below w1.heap.size w1 w') := Lib.hid (fun w1 g g' hw h1 h2 => same_T nm D B xa ya xa' ya' xc yc xc' yc' g g' w1 ((h.below hA).below hw) ((h'.below hA).below hw) h1 h2)
  clear h h' hA
  subst hW
  change Calls Tryz.prog 78 #[.agg #[.string nm, .slice xa D.length xc, .int .u8 B.kind, .int .i64 B.num, .string B.name, .slice ya B.kids.length yc], .agg #[.string nm, .slice xa' D.length xc', .int .u8 B.kind, .int .i64 B.num, .string B.name, .slice ya' B.kids.length yc']] w _
  go_enter Tryz.func78, Tryz.ntmps78
  go_wp2_with (go_at_call 109; refine (HS.out _ _ _ (bel_alloc (bel_alloc (Below.refl _ _))) (by (repeat (with_reducible first | (refine blk_new ?_; (simp; done)) | (refine blk_new ?_; rfl) | refine blk_drew ?_ | refine blk_alloc ?_ | (apply blk_below; focus assumption)))) (by (repeat (with_reducible first | (refine blk_new ?_; (simp; done)) | (refine blk_new ?_; rfl) | refine blk_drew ?_ | refine blk_alloc ?_ | (apply blk_below; focus assumption))))).mono ?_; rintro e w2 ⟨rfl, hb2⟩)
  go_ret
  exact ⟨rfl, HA.out.trans (Below.mono (bel_step hb2 (bel_alloc (bel_alloc (Below.refl _ _)))) HA.out.size)⟩
theorem zeroOk (w : World) : PrOk w [] (.mk 0 0 ⟨#[]⟩ []) none 0 none 0 := ⟨RowsAt.nil DclE _ _, ⟨⟨by show (0 : Int) ≤ 0 ∧ (0 : Int) ≤ 255; omega, by unfold In64; show (-9223372036854775808 : Int) ≤ 0 ∧ (0 : Int) ≤ 9223372036854775807; omega, Nat.zero_le _⟩, _, rfl, KidsAt.nil _⟩⟩
set_option maxRecDepth 100000 in set_option maxHeartbeats 3200000 in theorem returned_T (nm : ByteArray) (D : List Dcl) (B : Nd) (xa ya xa' ya' : Option Addr) (xc yc xc' yc' : Nat) (L : Int) (w : World) (hL : L = limE D.length B) (h : PrOk w D B xa xc ya yc) (h' : PrOk w D B xa' xc' ya' yc') (hz : sizeN B ≤ 1000000) (hx : D.length ≤ 1000) :
    Calls Tryz.prog 31 #[if L = 0 then prW nm D B xa xc ya yc else zeroP, .int .i64 L, prW nm D B xa' xc' ya' yc'] w fun e w' => e = .returned (.bool true) ∧ Below w.heap.size w w' := by
  by_cases h0 : L = 0
  · rw [if_pos h0]
    obtain ⟨W, hW⟩ : ∃ W, W = (w.alloc (prC nm D B xa xc ya yc)).alloc (prC nm D B xa' xc' ya' yc') := ⟨_, rfl⟩
    have hA : Below w.heap.size w W := by subst hW; exact bel_alloc (bel_alloc (Below.refl _ _))
    have HA := Lib.hid hA
    have HN : Hid (W.heap[w.heap.size]? = some (prC nm D B xa xc ya yc)) := Lib.hid (by subst hW; exact at_old _ _ _)
    have HN' : Hid (W.heap[w.heap.size + 1]? = some (prC nm D B xa' xc' ya' yc')) := Lib.hid (by subst hW; exact at_new _ _ _)
    have H1 : Hid (∀ w1, Below W.heap.size W w1 → Calls Tryz.prog 77 #[.agg #[.string nm, .slice xa' D.length xc', .int .u8 B.kind, .int .i64 B.num, .string B.name, .slice ya' B.kids.length yc']] w1 fun e w' => e = .returned (.int .i64 0) ∧ Below w1.heap.size w1 w') := Lib.hid (fun w1 hw => by
      have q := limited_L nm xa' D.length xc' B.kind B.num B.name ya' B.kids.length yc' B w1 ((h'.below hA).below hw).b hz hx
      rw [← hL, h0] at q
      exact q)
    have H2 : Hid (∀ w1, Below W.heap.size W w1 → Calls Tryz.prog 78 #[.agg #[.string nm, .slice xa D.length xc, .int .u8 B.kind, .int .i64 B.num, .string B.name, .slice ya B.kids.length yc], .agg #[.string nm, .slice xa' D.length xc', .int .u8 B.kind, .int .i64 B.num, .string B.name, .slice ya' B.kids.length yc']] w1 fun e w' => e = .returned (.bool true) ∧ Below w1.heap.size w1 w') := Lib.hid (fun w1 hw => procs_T nm D B xa ya xa' ya' xc yc xc' yc' w1 ((h.below hA).below hw) ((h'.below hA).below hw))
    clear h h' hA hL
    subst h0
    subst hW
    change Calls Tryz.prog 31 #[.agg #[.string nm, .slice xa D.length xc, .int .u8 B.kind, .int .i64 B.num, .string B.name, .slice ya B.kids.length yc], .int .i64 0, .agg #[.string nm, .slice xa' D.length xc', .int .u8 B.kind, .int .i64 B.num, .string B.name, .slice ya' B.kids.length yc']] w _
    go_enter Tryz.func31, Tryz.ntmps31
    go_wp2_with (first
      | (go_at_call 77; refine (H1.out _ (by (repeat (with_reducible first | exact Below.refl _ _ | refine bel_drew ?_ | refine bel_alloc ?_ | (apply bel_step; focus assumption))))).mono ?_; rintro e w2 ⟨rfl, hb2⟩; obtain ⟨x0, x1, x2, x3, x4, x5⟩ := cells6 (blk_below hb2 HN.out); obtain ⟨y0, y1, y2, y3, y4, y5⟩ := cells6 (blk_below hb2 HN'.out))
      | (go_at_call 78; refine (H2.out _ (by (repeat (with_reducible first | exact Below.refl _ _ | refine bel_drew ?_ | refine bel_alloc ?_ | (apply bel_step; focus assumption))))).mono ?_; rintro e w3 ⟨rfl, hb3⟩))
    go_ret
    exact ⟨rfl, HA.out.trans (Below.mono (bel_step hb3 hb2) HA.out.size)⟩
  · rw [if_neg h0]
    obtain ⟨W, hW⟩ : ∃ W, W = (w.alloc (.cells #[.string ⟨#[]⟩, .slice none 0 0, .int .u8 0, .int .i64 0, .string ⟨#[]⟩, .slice none 0 0] 52 (0, 0))).alloc (prC nm D B xa' xc' ya' yc') := ⟨_, rfl⟩
    have hA : Below w.heap.size w W := by subst hW; exact bel_alloc (bel_alloc (Below.refl _ _))
    have HA := Lib.hid hA
    have HN : Hid (W.heap[w.heap.size]? = some (.cells #[.string ⟨#[]⟩, .slice none 0 0, .int .u8 0, .int .i64 0, .string ⟨#[]⟩, .slice none 0 0] 52 (0, 0))) := Lib.hid (by subst hW; exact at_old _ _ _)
    have HN' : Hid (W.heap[w.heap.size + 1]? = some (prC nm D B xa' xc' ya' yc')) := Lib.hid (by subst hW; exact at_new _ _ _)
    have H1 : Hid (∀ w1, Below W.heap.size W w1 → Calls Tryz.prog 77 #[.agg #[.string nm, .slice xa' D.length xc', .int .u8 B.kind, .int .i64 B.num, .string B.name, .slice ya' B.kids.length yc']] w1 fun e w' => e = .returned (.int .i64 L) ∧ Below w1.heap.size w1 w') := Lib.hid (fun w1 hw => by
      have q := limited_L nm xa' D.length xc' B.kind B.num B.name ya' B.kids.length yc' B w1 ((h'.below hA).below hw).b hz hx
      rw [← hL] at q
      exact q)
    have H2 : Hid (∀ w1, Below W.heap.size W w1 → Calls Tryz.prog 78 #[.agg #[.string ⟨#[]⟩, .slice none 0 0, .int .u8 0, .int .i64 0, .string ⟨#[]⟩, .slice none 0 0], .agg #[.string ⟨#[]⟩, .slice none 0 0, .int .u8 0, .int .i64 0, .string ⟨#[]⟩, .slice none 0 0]] w1 fun e w' => e = .returned (.bool true) ∧ Below w1.heap.size w1 w') := Lib.hid (fun w1 hw => procs_T ⟨#[]⟩ [] (.mk 0 0 ⟨#[]⟩ []) none none none none 0 0 0 0 w1 (zeroOk w1) (zeroOk w1))
    have d0 : (L == 0) = false := by simp [h0]
    have d1 : (L == L) = true := by simp
    clear h h' hA hL h0
    subst hW
    change Calls Tryz.prog 31 #[.agg #[.string ⟨#[]⟩, .slice none 0 0, .int .u8 0, .int .i64 0, .string ⟨#[]⟩, .slice none 0 0], .int .i64 L, .agg #[.string nm, .slice xa' D.length xc', .int .u8 B.kind, .int .i64 B.num, .string B.name, .slice ya' B.kids.length yc']] w _
    go_enter Tryz.func31, Tryz.ntmps31
    go_wp2_with (first
      | (go_at_call 77; refine (H1.out _ (by (repeat (with_reducible first | exact Below.refl _ _ | refine bel_drew ?_ | refine bel_alloc ?_ | (apply bel_step; focus assumption))))).mono ?_; rintro e w2 ⟨rfl, hb2⟩; obtain ⟨x0, x1, x2, x3, x4, x5⟩ := cells6 (blk_below hb2 HN.out); obtain ⟨y0, y1, y2, y3, y4, y5⟩ := cells6 (blk_below hb2 HN'.out))
      | (go_at_call 78; refine (H2.out _ (by (repeat (with_reducible first | exact Below.refl _ _ | refine bel_drew ?_ | refine bel_alloc ?_ | (apply bel_step; focus assumption))))).mono ?_; rintro e w3 ⟨rfl, hb3⟩))
    go_ret
    exact ⟨rfl, HA.out.trans (Below.mono (bel_step hb3 hb2) HA.out.size)⟩
end Go.Proofs.YtehmmokkjojggabGreatDoor
