/- Walks: slices.Equal at declarations, ast.sameProc, slices.EqualFunc at procedures, ast.Same, backsteplaw41.procs: what is equal. -/
import Derived.Test.YtehmmokkjojggabGreatDoorKgC
import Derived.Test.YtehmmokkjojggabGreatDoorKgI
namespace Go.Proofs.YtehmmokkjojggabGreatDoor
set_option linter.unusedVariables false
set_option linter.unusedSimpArgs false
open Go.RowKit

theorem dcls_at {A : Nat → Prop} {w : World} {va : Option Addr} {n vc : Nat} {D : List Dcl} (h : RowsAt DclE A w (.slice va n vc) D) {k : Nat} (hl : k < D.length) :
    ∃ b off, va = some ⟨b, off, none⟩ ∧ b < w.heap.size ∧ w.cell? ⟨b, off + k * 3, none⟩ = some (.string (at' D k).name) ∧ w.cell? ⟨b, off + k * 3 + 1, none⟩ = some (.int .u8 (at' D k).kind) ∧ w.cell? ⟨b, off + k * 3 + 2, none⟩ = some (.int .i64 0) := by
  obtain ⟨b, off, cap, cs, e, hb, _, _, hcl, hC⟩ := h.at hl
  simp only [Value.slice.injEq] at e
  obtain ⟨rfl, -, rfl⟩ := e
  have c0 := hcl 0 (by decide)
  have c1 := hcl 1 (by decide)
  have c2 := hcl 2 (by decide)
  obtain ⟨e0, e1, e2, _⟩ := hC
  rw [e0] at c0
  rw [e1] at c1
  rw [e2] at c2
  exact ⟨b, off, rfl, hb, c0, c1, c2⟩
set_option maxRecDepth 100000 in set_option maxHeartbeats 3200000 in theorem eqDcl (D : List Dcl) (xa xa' : Option Addr) (xc xc' : Nat) (A A' : Nat → Prop) (w : World) (hv : RowsAt DclE A w (.slice xa D.length xc) D) (hv' : RowsAt DclE A' w (.slice xa' D.length xc') D) :
    Calls Tryz.prog 127 #[.slice xa D.length xc, .slice xa' D.length xc'] w fun e w' => e = .returned (.bool true) ∧ Below w.heap.size w w' := by
  have hlen := hv.form.1
  have HV := Lib.hid hv
  have HV' := Lib.hid hv'
  unfold maxLen at hlen
  clear hv hv'
  go_enter Tryz.func127, Tryz.ntmps127
  go_wp2
  go_loopw [13] (fun i wr => ∃ k : Nat, k ≤ D.length ∧ i = .int .i64 k ∧ Below w.heap.size w wr) (fun i _ => D.length - (intOf i).toNat)
  case atStart => exact ⟨0, Nat.zero_le _, rfl, Below.refl _ _⟩
  case round =>
    obtain ⟨k, hkk, rfl, hbl⟩ := hrel
    have HBL := Lib.hid hbl
    by_cases hlt : k < D.length
    · obtain ⟨b, off, he, hb, c0, c1, c2⟩ := dcls_at (HV.out.stays (Stays.of_below hbl)) hlt
      obtain ⟨b', off', he', hb', c0', c1', c2'⟩ := dcls_at (HV'.out.stays (Stays.of_below hbl)) hlt
      subst he
      subst he'
      have i0 : (0 : Int) ≤ (k : Int) := by omega
      have i1 : (k : Int) < (D.length : Int) := by omega
      clear hbl
      go_wp2
      go_quiet (fail)
      go_wp2
      go_roundw
      case rel => exact ⟨k + 1, by omega, by go_num, below_drewN HBL.out _⟩
      case measure => simp [intOf]; omega
    · obtain rfl : k = D.length := by omega
      have hlt' : ¬ (D.length : Int) < (D.length : Int) := by omega
      clear hbl
      go_wp2
      go_ret
      exact ⟨rfl, HBL.out⟩
/-- a procedure as a value -/
abbrev prW (nm : ByteArray) (D : List Dcl) (B : Nd) (xa : Option Addr) (xc : Nat) (ya : Option Addr) (yc : Nat) : Value := .agg #[.string nm, .slice xa D.length xc, .int .u8 B.kind, .int .i64 B.num, .string B.name, .slice ya B.kids.length yc]
abbrev prC (nm : ByteArray) (D : List Dcl) (B : Nd) (xa : Option Addr) (xc : Nat) (ya : Option Addr) (yc : Nat) : Obj := .cells #[.string nm, .slice xa D.length xc, .int .u8 B.kind, .int .i64 B.num, .string B.name, .slice ya B.kids.length yc] 52 (0, 0)
structure PrOk (w : World) (D : List Dcl) (B : Nd) (xa : Option Addr) (xc : Nat) (ya : Option Addr) (yc : Nat) : Prop where
  d : RowsAt DclE Any w (.slice xa D.length xc) D
  b : NdAt Any w (.agg #[.int .u8 B.kind, .int .i64 B.num, .string B.name, .slice ya B.kids.length yc]) B
theorem PrOk.below {w w' : World} {D : List Dcl} {B : Nd} {xa : Option Addr} {xc : Nat} {ya : Option Addr} {yc : Nat} (h : PrOk w D B xa xc ya yc) (hb : Below w.heap.size w w') : PrOk w' D B xa xc ya yc := ⟨h.d.stays (Stays.of_below hb), h.b.stays (Stays.of_below hb)⟩
set_option maxRecDepth 100000 in set_option maxHeartbeats 3200000 in theorem sameProc_T (nm : ByteArray) (D : List Dcl) (B : Nd) (xa ya xa' ya' : Option Addr) (xc yc xc' yc' : Nat) (w : World) (h : PrOk w D B xa xc ya yc) (h' : PrOk w D B xa' xc' ya' yc') :
    Calls Tryz.prog 129 #[prW nm D B xa xc ya yc, prW nm D B xa' xc' ya' yc'] w fun e w' => e = .returned (.bool true) ∧ Below w.heap.size w w' := by
  obtain ⟨W, hW⟩ : ∃ W, W = (w.alloc (prC nm D B xa xc ya yc)).alloc (prC nm D B xa' xc' ya' yc') := ⟨_, rfl⟩
  have hA : Below w.heap.size w W := by subst hW; exact bel_alloc (bel_alloc (Below.refl _ _))
  have HA := Lib.hid hA
  have HN : Hid (W.heap[w.heap.size]? = some (prC nm D B xa xc ya yc)) := Lib.hid (by subst hW; exact at_old _ _ _)
  have HN' : Hid (W.heap[w.heap.size + 1]? = some (prC nm D B xa' xc' ya' yc')) := Lib.hid (by subst hW; exact at_new _ _ _)
  have H1 : Hid (∀ w1, Below W.heap.size W w1 → Calls Tryz.prog 127 #[.slice xa D.length xc, .slice xa' D.length xc'] w1 fun e w' => e = .returned (.bool true) ∧ Below w1.heap.size w1 w') := Lib.hid (fun w1 hw => eqDcl D xa xa' xc xc' Any Any w1 ((h.below hA).below hw).d ((h'.below hA).below hw).d)
  have H2 : Hid (∀ w1, Below W.heap.size W w1 → Calls Tryz.prog 59 #[.agg #[.int .u8 B.kind, .int .i64 B.num, .string B.name, .slice ya B.kids.length yc], .agg #[.int .u8 B.kind, .int .i64 B.num, .string B.name, .slice ya' B.kids.length yc']] w1 fun e w' => e = .returned (.bool true) ∧ Below w1.heap.size w1 w') := Lib.hid (fun w1 hw => equal_any B _ _ Any Any w1 ((h.below hA).below hw).b ((h'.below hA).below hw).b)
  clear h h' hA
  subst hW
  change Calls Tryz.prog 129 #[.agg #[.string nm, .slice xa D.length xc, .int .u8 B.kind, .int .i64 B.num, .string B.name, .slice ya B.kids.length yc], .agg #[.string nm, .slice xa' D.length xc', .int .u8 B.kind, .int .i64 B.num, .string B.name, .slice ya' B.kids.length yc']] w _
  go_enter Tryz.func129, Tryz.ntmps129
  go_wp2_with (first
    | (go_at_call 127; refine (H1.out _ (by (repeat (with_reducible first | exact Below.refl _ _ | refine bel_drew ?_ | refine bel_alloc ?_ | (apply bel_step; focus assumption))))).mono ?_; rintro e w2 ⟨rfl, hb2⟩; obtain ⟨x0, x1, x2, x3, x4, x5⟩ := cells6 (blk_below hb2 HN.out); obtain ⟨y0, y1, y2, y3, y4, y5⟩ := cells6 (blk_below hb2 HN'.out))
    | (go_at_call 59; refine (H2.out _ (by (repeat (with_reducible first | exact Below.refl _ _ | refine bel_drew ?_ | refine bel_alloc ?_ | (apply bel_step; focus assumption))))).mono ?_; rintro e w3 ⟨rfl, hb3⟩))
  go_ret
  exact ⟨rfl, HA.out.trans (Below.mono (bel_step hb3 hb2) HA.out.size)⟩
theorem enters_same : ∀ (args : Array Value) (w : World), (callFunc 129 args).run Tryz.prog w = .ok (.enter 129 args) w := fun args w => by kernel_rfl
set_option maxRecDepth 100000 in set_option maxHeartbeats 3200000 in theorem eqProcs (nm : ByteArray) (D : List Dcl) (B : Nd) (xa ya xa' ya' : Option Addr) (xc yc xc' yc' : Nat) (g g' : Nat) (w : World) (h : PrOk w D B xa xc ya yc) (h' : PrOk w D B xa' xc' ya' yc') (hg : w.heap[g]? = some (prC nm D B xa xc ya yc)) (hg' : w.heap[g']? = some (prC nm D B xa' xc' ya' yc')) :
    Calls Tryz.prog 128 #[.slice (some ⟨g, 0, none⟩) 1 1, .slice (some ⟨g', 0, none⟩) 1 1, .func (.func 129) #[] #[]] w fun e w' => e = .returned (.bool true) ∧ Below w.heap.size w w' := by
  have hF := enters_same
  have H1 : Hid (∀ w1, Below w.heap.size w w1 → Calls Tryz.prog 129 #[.agg #[.string nm, .slice xa D.length xc, .int .u8 B.kind, .int .i64 B.num, .string B.name, .slice ya B.kids.length yc], .agg #[.string nm, .slice xa' D.length xc', .int .u8 B.kind, .int .i64 B.num, .string B.name, .slice ya' B.kids.length yc']] w1 fun e w' => e = .returned (.bool true) ∧ Below w1.heap.size w1 w') := Lib.hid (fun w1 hw => sameProc_T nm D B xa ya xa' ya' xc yc xc' yc' w1 (h.below hw) (h'.below hw))
  have HG := Lib.hid hg
  have HG' := Lib.hid hg'
  clear h h' hg hg'
  go_enter Tryz.func128, Tryz.ntmps128
  go_wp2
  go_loopw [17] (fun i wr => (i = .int .i64 0 ∨ i = .int .i64 1) ∧ Below w.heap.size w wr) (fun i _ => 1 - (intOf i).toNat)
  case atStart => exact ⟨.inl rfl, Below.refl _ _⟩
  case round =>
    obtain ⟨hi, hbl⟩ := hrel
    have HBL := Lib.hid hbl
    rcases hi with rfl | rfl
    · obtain ⟨x0, x1, x2, x3, x4, x5⟩ := cells6 (blk_below hbl HG.out)
      obtain ⟨y0, y1, y2, y3, y4, y5⟩ := cells6 (blk_alloc (x := (prC nm D B xa xc ya yc)) (blk_below hbl HG'.out))
      clear hbl
      go_wp2_with (go_at_call 129; refine (H1.out _ (bel_alloc (bel_alloc HBL.out))).mono ?_; rintro e w2 ⟨rfl, hb2⟩)
      have hB2 : Below w.heap.size w w2 := bel_step hb2 (bel_alloc (bel_alloc HBL.out))
      go_roundw
      case rel => exact ⟨.inr (by go_num), hB2⟩
      case measure => simp [intOf]
    · clear hbl
      go_wp2
      go_ret
      exact ⟨rfl, HBL.out⟩
set_option maxRecDepth 100000 in set_option maxHeartbeats 3200000 in theorem same_T (nm : ByteArray) (D : List Dcl) (B : Nd) (xa ya xa' ya' : Option Addr) (xc yc xc' yc' : Nat) (g g' : Nat) (w : World) (h : PrOk w D B xa xc ya yc) (h' : PrOk w D B xa' xc' ya' yc') (hg : w.heap[g]? = some (prC nm D B xa xc ya yc)) (hg' : w.heap[g']? = some (prC nm D B xa' xc' ya' yc')) :
    Calls Tryz.prog 109 #[.agg #[.slice none 0 0, .slice (some ⟨g, 0, none⟩) 1 1, .int .u8 57, .int .i64 0, .string ⟨#[]⟩, .slice none 0 0], .agg #[.slice none 0 0, .slice (some ⟨g', 0, none⟩) 1 1, .int .u8 57, .int .i64 0, .string ⟨#[]⟩, .slice none 0 0]] w fun e w' => e = .returned (.bool true) ∧ Below w.heap.size w w' := by
  obtain ⟨W, hW⟩ : ∃ W, W = (w.alloc (.cells #[.slice none 0 0, .slice (some ⟨g, 0, none⟩) 1 1, .int .u8 57, .int .i64 0, .string ⟨#[]⟩, .slice none 0 0] 133)).alloc (.cells #[.slice none 0 0, .slice (some ⟨g', 0, none⟩) 1 1, .int .u8 57, .int .i64 0, .string ⟨#[]⟩, .slice none 0 0] 133) := ⟨_, rfl⟩
  have hA : Below w.heap.size w W := by subst hW; exact bel_alloc (bel_alloc (Below.refl _ _))
  have HA := Lib.hid hA
  have HN : Hid (W.heap[w.heap.size]? = some (.cells #[.slice none 0 0, .slice (some ⟨g, 0, none⟩) 1 1, .int .u8 57, .int .i64 0, .string ⟨#[]⟩, .slice none 0 0] 133 (0, 0))) := Lib.hid (by subst hW; exact at_old _ _ _)
  have HN' : Hid (W.heap[w.heap.size + 1]? = some (.cells #[.slice none 0 0, .slice (some ⟨g', 0, none⟩) 1 1, .int .u8 57, .int .i64 0, .string ⟨#[]⟩, .slice none 0 0] 133 (0, 0))) := Lib.hid (by subst hW; exact at_new _ _ _)
  have H1 : Hid (∀ w1, Below W.heap.size W w1 → Calls Tryz.prog 127 #[.slice none 0 0, .slice none 0 0] w1 fun e w' => e = .returned (.bool true) ∧ Below w1.heap.size w1 w') := Lib.hid (fun w1 hw => eqDcl [] none none 0 0 Any Any w1 (RowsAt.nil DclE _ _) (RowsAt.nil DclE _ _))
  have H2 : Hid (∀ w1, Below W.heap.size W w1 → Calls Tryz.prog 128 #[.slice (some ⟨g, 0, none⟩) 1 1, .slice (some ⟨g', 0, none⟩) 1 1, .func (.func 129) #[] #[]] w1 fun e w' => e = .returned (.bool true) ∧ Below w1.heap.size w1 w') := Lib.hid (fun w1 hw => eqProcs nm D B xa ya xa' ya' xc yc xc' yc' g g' w1 ((h.below hA).below hw) ((h'.below hA).below hw) (blk_below hw (blk_below hA hg)) (blk_below hw (blk_below hA hg')))
  have H3 : Hid (∀ w1, Below W.heap.size W w1 → Calls Tryz.prog 59 #[.agg #[.int .u8 57, .int .i64 0, .string ⟨#[]⟩, .slice none 0 0], .agg #[.int .u8 57, .int .i64 0, .string ⟨#[]⟩, .slice none 0 0]] w1 fun e w' => e = .returned (.bool true) ∧ Below w1.heap.size w1 w') := Lib.hid (fun w1 hw => equal_any (blockN []) _ _ Any Any w1 (nd_node (k := 57) (KidsAt.nil _) (by omega) (Nat.zero_le _)) (nd_node (k := 57) (KidsAt.nil _) (by omega) (Nat.zero_le _)))
  clear h h' hA hg hg'
  subst hW
  go_enter Tryz.func109, Tryz.ntmps109
  go_wp2_with (first
    | (go_at_call 127; refine (H1.out _ (by (repeat (with_reducible first | exact Below.refl _ _ | refine bel_drew ?_ | refine bel_alloc ?_ | (apply bel_step; focus assumption))))).mono ?_; rintro e w2 ⟨rfl, hb2⟩; obtain ⟨x0, x1, x2, x3, x4, x5⟩ := cells6 (blk_below hb2 HN.out); obtain ⟨y0, y1, y2, y3, y4, y5⟩ := cells6 (blk_below hb2 HN'.out))
    | (go_at_call 128; refine (H2.out _ (by (repeat (with_reducible first | exact Below.refl _ _ | refine bel_drew ?_ | refine bel_alloc ?_ | (apply bel_step; focus assumption))))).mono ?_; rintro e w3 ⟨rfl, hb3⟩; obtain ⟨s0, s1, s2, s3, s4, s5⟩ := cells6 (blk_below hb3 (blk_below hb2 HN.out)); obtain ⟨t0, t1, t2, t3, t4, t5⟩ := cells6 (blk_below hb3 (blk_below hb2 HN'.out)))
    | (go_at_call 59; refine (H3.out _ (by (repeat (with_reducible first | exact Below.refl _ _ | refine bel_drew ?_ | refine bel_alloc ?_ | (apply bel_step; focus assumption))))).mono ?_; rintro e w4 ⟨rfl, hb4⟩))
  go_ret
  exact ⟨rfl, HA.out.trans (Below.mono (bel_step hb4 (bel_step hb3 hb2)) HA.out.size)⟩
end Go.Proofs.YtehmmokkjojggabGreatDoor
