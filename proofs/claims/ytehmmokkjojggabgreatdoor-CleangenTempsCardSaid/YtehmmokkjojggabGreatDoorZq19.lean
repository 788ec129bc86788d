/- Contracts and plain lemmas (RefA, RefB, RefC): no statement of the seat is proved here. -/
import Derived.Test.YtehmmokkjojggabGreatDoorZq13
import Derived.Test.YtehmmokkjojggabGreatDoorZq07
set_option linter.unusedSimpArgs false
set_option linter.unusedVariables false
set_option linter.unusedSectionVars false
/- Walks of package backstepref40: node, v, num, plus. -/
namespace Go.Proofs.YtehmmokkjojggabGreatDoor
set_option linter.unusedVariables false
open Go.RowKit

theorem set1_3 {w : World} {b e : Nat} {v0 v1 v2 v3 : Value} (h : w.heap[b]? = some (.cells #[v0, v1, v2, v3] e (0, 0))) (x : Value) : (w.setCell ⟨b, 3, none⟩ x).heap[b]? = some (.cells #[v0, v1, v2, x] e (0, 0)) := by
  have h3 := heap_setCell_same w b 3 _ _ x h
  simpa only [List.setIfInBounds_toArray, List.set_cons_zero, List.set_cons_succ] using h3
theorem blk_set {w : World} {g o b : Nat} {y : Obj} {x : Value} (h : w.heap[b]? = some y) (hne : b ≠ g) : (w.setCell ⟨g, o, none⟩ x).heap[b]? = some y := by
  have hb : b < w.heap.size := by rw [Array.getElem?_eq_some_iff] at h; exact h.1
  rw [(keeps_set w g o x).block b hb hne]; exact h

set_option maxRecDepth 100000 in
set_option maxHeartbeats 3200000 in
theorem refNode_C (k : Int) (s : ByteArray) (ka : Option Addr) (kn kc : Nat) (l : List Nd) (A : Nat → Prop) (w : World) (hk : KidsAt A w (.slice ka kn kc) l) (hl : l.length ≤ 100000) :
    Calls Tryz.prog 41 #[.int .u8 k, .string s, .slice ka kn kc] w fun e w' => ∃ a c, e = .returned (.agg #[.int .u8 k, .int .i64 0, .string s, .slice a l.length c]) ∧ KidsAt (NewB A w) w' (.slice a l.length c) l ∧ Below w.heap.size w w' := by
  have hA1 : Below w.heap.size w (w.alloc (.cells #[.int .u8 0, .int .i64 0, .string ⟨#[]⟩, .slice none 0 0] 35)) := (Below.refl _ _).alloc (Nat.le_refl _) _
  have hA : Below w.heap.size w ((w.alloc (.cells #[.int .u8 0, .int .i64 0, .string ⟨#[]⟩, .slice none 0 0] 35)).alloc (.cells #[.int .u8 k, .int .i64 0, .string s, .slice none 0 0] 35)) := hA1.alloc hA1.size _
  have HZ := Lib.hid (at_old w (.cells #[.int .u8 0, .int .i64 0, .string ⟨#[]⟩, .slice none 0 0] 35) (.cells #[.int .u8 k, .int .i64 0, .string s, .slice none 0 0] 35))
  have HN := Lib.hid (at_new w (.cells #[.int .u8 0, .int .i64 0, .string ⟨#[]⟩, .slice none 0 0] 35) (.cells #[.int .u8 k, .int .i64 0, .string s, .slice none 0 0] 35))
  have HSZ : Hid (((w.alloc (.cells #[.int .u8 0, .int .i64 0, .string ⟨#[]⟩, .slice none 0 0] 35)).alloc (.cells #[.int .u8 k, .int .i64 0, .string s, .slice none 0 0] 35)).heap.size = w.heap.size + 1 + 1) := Lib.hid (by simp)
  have HU : Hid (RowsAt NdE (fun j => A j ∧ j < w.heap.size) ((w.alloc (.cells #[.int .u8 0, .int .i64 0, .string ⟨#[]⟩, .slice none 0 0] 35)).alloc (.cells #[.int .u8 k, .int .i64 0, .string s, .slice none 0 0] 35)) (.slice ka kn kc) l) := Lib.hid ((kids_rows.1 hk).stays ⟨hA.size, fun b hb a => ⟨hA.block b hb, a, hb⟩⟩)
  have HO := Lib.hid (RowsOwn.nil NdE 35 (fun j => A j ∧ j < w.heap.size) (w.heap.size + 1 + 1) ((w.alloc (.cells #[.int .u8 0, .int .i64 0, .string ⟨#[]⟩, .slice none 0 0] 35)).alloc (.cells #[.int .u8 k, .int .i64 0, .string s, .slice none 0 0] 35)))
  have HD : Hid (∀ b, b < ((w.alloc (.cells #[.int .u8 0, .int .i64 0, .string ⟨#[]⟩, .slice none 0 0] 35)).alloc (.cells #[.int .u8 k, .int .i64 0, .string s, .slice none 0 0] 35)).heap.size → (A b ∧ b < w.heap.size) → (A b ∧ b < w.heap.size) ∧ (Value.slice none 0 0).ownBlock ≠ some b) := Lib.hid (fun b _ a => ⟨a, nofun⟩)
  clear hk hA1
  go_enter Tryz.func41, Tryz.ntmps41
  go_wp2_with (at_builtin; refine wpl_rows TNd rfl (by decide) rfl (.tmp 12) (.tmp 13) rfl rfl rfl HO.out HU.out HD.out (by simp; unfold maxLen; omega) (by simp; omega) (by rw [HSZ.out]; omega) ?_; intro a' c' w3 h3 hg3 hn3; have H3 := Lib.hid h3; have hb3 : Below _ _ w3 := (Below.refl (w.heap.size + 1 + 1) _).grown hg3 (by rw [HSZ.out]; omega) (fun j e => by cases e); have hz3 : w3.heap[w.heap.size]? = _ := (hb3.block w.heap.size (by omega)).trans HZ.out; have hm3 : w3.heap[w.heap.size + 1]? = _ := (hb3.block (w.heap.size + 1) (by omega)).trans HN.out; obtain ⟨z0, z1, z2, z3⟩ := cells4 hz3; obtain ⟨m0, m1, m2, m3⟩ := cells4 hm3; have zf := unfrozen hz3; have mf := unfrozen hm3; have HZ3 := Lib.hid hz3; have HM3 := Lib.hid hm3; have HB3 := Lib.hid hb3; clear h3 hg3 hn3 hz3 hm3 hb3)
  (try simp only [Exit.inBlock, Exit.then])
  refine bodyPost_ret (results_cell_row (P := Tryz.prog) rfl _ _ w.heap.size _ _ _ _ rfl (set4 (blk_set HZ3.out (by omega)) _ _ _ _) Tryz.underlying35 rfl (by kernel_rfl)) rfl ?_
  have h3 := H3.out
  simp only [List.length_nil, Nat.zero_add, List.nil_append] at h3 ⊢
  have hK := keeps_set w3 (w.heap.size + 1) 3 (.slice a' l.length c')
  have hK4 := (((keeps_set (w3.setCell ⟨w.heap.size + 1, 3, none⟩ (.slice a' l.length c')) w.heap.size 0 (.int .u8 k)).same (keeps_set _ w.heap.size 1 (.int .i64 0))).same (keeps_set _ w.heap.size 2 (.string s))).same (keeps_set _ w.heap.size 3 (.slice a' l.length c'))
  have hkk2 : KidsAt (LD A w) w3 (.slice a' l.length c') l := kids_rows.2 (h3.shut (fun j a => .inl a) (fun j e => .inr (by have := (h3.lt e).1; omega)) (by unfold maxLen; omega))
  refine ⟨_, _, rfl, ?_, bel_sets4 (((hA.trans (HB3.out.mono (by omega)))).setCell (by show w.heap.size ≤ w.heap.size + 1; omega) _) (Nat.le_refl _)⟩
  refine (hkk2.stays (A' := LD A w) ⟨hK.size, fun b hb a => ⟨hK.block b hb (fun e => ?_), a⟩⟩).stays ⟨hK4.size, fun b hb a => ⟨hK4.block b hb (fun e => ?_), ?_⟩⟩
  · rcases a with ⟨_, a⟩ | a <;> omega
  · rcases a with ⟨_, a⟩ | a <;> omega
  · rcases a with ⟨a, _⟩ | a
    · exact .inl a
    · exact .inr (by omega)
theorem KidsAt.empty {A A' : Nat → Prop} {w w' : World} {v : Value} (h : KidsAt A w v []) : KidsAt A' w' v [] := by
  obtain ⟨cs, ⟨h0, a, cap, e, h1, h2, h3⟩, _⟩ := kids_rows.1 h
  exact kids_rows.2 ⟨cs, ⟨h0, a, cap, e, h1, h2, fun h => absurd h (by simp)⟩, fun j hj => absurd hj (by simp)⟩

set_option maxHeartbeats 800000 in
theorem refV_C (s : ByteArray) (w : World) (hs : s.size ≤ maxLen) :
    Calls Tryz.prog 42 #[.string s] w fun e w' => ∃ a c, e = .returned (.agg #[.int .u8 2, .int .i64 0, .string s, .slice a 0 c]) ∧ NdAt (Up w.heap.size) w' (.agg #[.int .u8 2, .int .i64 0, .string s, .slice a 0 c]) (vN s) ∧ Below w.heap.size w w' := by
  have hA : Below w.heap.size w (w.alloc (.cells #[.int .u8 0, .int .i64 0, .string ⟨#[]⟩, .slice none 0 0] 35)) := (Below.refl _ _).alloc (Nat.le_refl _) _
  have HZ := Lib.hid (at_new0 w (.cells #[.int .u8 0, .int .i64 0, .string ⟨#[]⟩, .slice none 0 0] 35))
  have HN := Lib.hid (refNode_C 2 s none 0 0 [] Any (w.alloc (.cells #[.int .u8 0, .int .i64 0, .string ⟨#[]⟩, .slice none 0 0] 35)) (KidsAt.nil _) (by simp))
  go_enter Tryz.func42, Tryz.ntmps42
  go_wp2_with (go_at_call 41; refine HN.out.mono ?_; rintro e w1 ⟨a, c, rfl, hk1, hb1⟩; have hr := blk_below hb1 HZ.out; obtain ⟨r0, r1, r2, r3⟩ := cells4 hr; have f := unfrozen hr; have HR := Lib.hid hr; have HK1 := Lib.hid hk1; clear hr hk1)
  (try simp only [Exit.inBlock, Exit.then])
  refine bodyPost_ret (results_cell_row (P := Tryz.prog) rfl _ _ w.heap.size _ _ _ _ rfl (set4 HR.out _ _ _ _) Tryz.underlying35 rfl (by kernel_rfl)) rfl ?_
  exact ⟨_, _, rfl, nd_node HK1.out.empty (by omega) hs, bel_sets4 (hA.trans (hb1.mono hA.size)) (Nat.le_refl _)⟩

theorem refNum_C (x : Int) (w : World) :
    Calls Tryz.prog 44 #[.int .i64 x] w fun e w' => e = .returned (.agg #[.int .u8 1, .int .i64 x, .string ⟨#[]⟩, .slice none 0 0]) ∧ Below w.heap.size w w' := by
  go_enter Tryz.func44, Tryz.ntmps44
  go_wp2
  go_returns
  exact ⟨rfl, (Below.refl _ _).alloc (Nat.le_refl _) _⟩

set_option maxRecDepth 100000 in
set_option maxHeartbeats 3200000 in
theorem refPlus_C (s : ByteArray) (v : Value) (x : Nd) (A : Nat → Prop) (w : World) (hv : NdAt A w v x) (hs : s.size ≤ maxLen) :
    Calls Tryz.prog 84 #[.string s, v] w fun e w' => ∃ a c, e = .returned (.agg #[.int .u8 40, .int .i64 0, .string ⟨#[]⟩, .slice a 2 c]) ∧ NdAt (NewB A w) w' (.agg #[.int .u8 40, .int .i64 0, .string ⟨#[]⟩, .slice a 2 c]) (plusN s x) ∧ Below w.heap.size w w' := by
  obtain ⟨hok, hlen, ka, kc, rfl, hk⟩ := hv.open
  have hA1 : Below w.heap.size w (w.alloc (.cells #[.int .u8 x.kind, .int .i64 x.num, .string x.name, .slice ka x.kids.length kc] 35)) := (Below.refl _ _).alloc (Nat.le_refl _) _
  have hA : Below w.heap.size w ((w.alloc (.cells #[.int .u8 x.kind, .int .i64 x.num, .string x.name, .slice ka x.kids.length kc] 35)).alloc (.cells #[.int .u8 0, .int .i64 0, .string ⟨#[]⟩, .slice none 0 0] 35)) := hA1.alloc hA1.size _
  have HX := Lib.hid (at_old w (.cells #[.int .u8 x.kind, .int .i64 x.num, .string x.name, .slice ka x.kids.length kc] 35) (.cells #[.int .u8 0, .int .i64 0, .string ⟨#[]⟩, .slice none 0 0] 35))
  have HZ := Lib.hid (at_new w (.cells #[.int .u8 x.kind, .int .i64 x.num, .string x.name, .slice ka x.kids.length kc] 35) (.cells #[.int .u8 0, .int .i64 0, .string ⟨#[]⟩, .slice none 0 0] 35))
  have HSZ : Hid (((w.alloc (.cells #[.int .u8 x.kind, .int .i64 x.num, .string x.name, .slice ka x.kids.length kc] 35)).alloc (.cells #[.int .u8 0, .int .i64 0, .string ⟨#[]⟩, .slice none 0 0] 35)).heap.size = w.heap.size + 1 + 1) := Lib.hid (by simp)
  have HV : Hid (NdAt (LD A w) ((w.alloc (.cells #[.int .u8 x.kind, .int .i64 x.num, .string x.name, .slice ka x.kids.length kc] 35)).alloc (.cells #[.int .u8 0, .int .i64 0, .string ⟨#[]⟩, .slice none 0 0] 35)) (.agg #[.int .u8 x.kind, .int .i64 x.num, .string x.name, .slice ka x.kids.length kc]) x) := Lib.hid (hv.stays ⟨hA.size, fun b hb a => ⟨hA.block b hb, .inl ⟨a, hb⟩⟩⟩)
  clear hv hk hA1 hok hlen
  go_enter Tryz.func84, Tryz.ntmps84
  go_wp2
  generalize ((w.alloc (.cells #[.int .u8 x.kind, .int .i64 x.num, .string x.name, .slice ka x.kids.length kc] 35)).alloc (.cells #[.int .u8 0, .int .i64 0, .string ⟨#[]⟩, .slice none 0 0] 35)) = W at *
  go_region_held3 (fun w1 => w1.cell? ⟨w.heap.size, 0, none⟩ = some (.int .u8 x.kind) ∧ w1.cell? ⟨w.heap.size, 1, none⟩ = some (.int .i64 x.num) ∧ w1.cell? ⟨w.heap.size, 2, none⟩ = some (.string x.name) ∧ w1.cell? ⟨w.heap.size, 3, none⟩ = some (.slice ka x.kids.length kc))
    ((refine cells4 (e := 35) ?_; (repeat (with_reducible first | exact HX.out | refine blk_drew ?_ | refine blk_alloc ?_ | (apply blk_below; focus assumption) | (refine blk_sets4 ?_ (Nat.ne_of_lt (Nat.lt_succ_self _)))))))
    (first
    | (go_at_call 42; refine (refV_C _ _ hs).mono ?_; rintro e w3 ⟨a3, c3, rfl, hk3, hb3⟩; have HK3 := Lib.hid hk3; have hw3 : Below W.heap.size W w3 := (by (repeat (with_reducible first | exact Below.refl _ _ | refine bel_drew ?_ | refine bel_alloc ?_ | (apply bel_step; focus assumption)))); have HL : Hid (KidsAt (LD A w) (w3.alloc (.cells #[.int .u8 2, .int .i64 0, .string s, .slice a3 0 c3, .int .u8 x.kind, .int .i64 x.num, .string x.name, .slice ka x.kids.length kc] 35)) (.slice (some ⟨w3.heap.size, 0, none⟩) 2 2) [vN s, x]) := Lib.hid (kids_2 (heap_alloc_new w3 _) (.inr (by have := hw3.size; have := HSZ.out; omega)) ((hk3.stays (Stays.of_below ((Below.refl _ _).alloc (Nat.le_refl _) _))).stays ⟨Nat.le_refl _, fun b _ a => ⟨rfl, .inr (by have h1 : W.heap.size ≤ b := a; have := HSZ.out; omega)⟩⟩) (HV.out.stays (Stays.of_below (bel_alloc hw3)))); clear hk3)
    | (go_at_call 41; refine (refNode_C 40 ⟨#[]⟩ (some ⟨w3.heap.size, 0, none⟩) 2 2 [vN s, x] (LD A w) _ HL.out (by simp)).mono ?_; rintro e w4 ⟨a4, c4, rfl, hk4, hb4⟩; have hr : w4.heap[w.heap.size + 1]? = some (.cells #[.int .u8 0, .int .i64 0, .string ⟨#[]⟩, .slice none 0 0] 35) := (by (repeat (with_reducible first | exact HZ.out | refine blk_drew ?_ | refine blk_alloc ?_ | (apply blk_below; focus assumption)))); obtain ⟨r0, r1, r2, r3⟩ := cells4 hr; have f := unfrozen hr; have HRB := Lib.hid hr; have HK4 := Lib.hid hk4; clear hr hk4))
  all_goals
    go_wp2
    (try simp only [Exit.inBlock, Exit.then])
    refine bodyPost_ret (results_cell_row (P := Tryz.prog) rfl _ _ (w.heap.size + 1) _ _ _ _ rfl (set4 HRB.out _ _ _ _) Tryz.underlying35 rfl (by kernel_rfl)) rfl ?_
    have hB4 : Below w.heap.size w w4 := by (repeat (with_reducible first | exact hA | exact Below.refl _ _ | refine bel_drew ?_ | refine bel_alloc ?_ | (apply bel_step; focus assumption)))
    have hz3 := hw3.size
    have hzz := HSZ.out
    refine ⟨_, _, rfl, nd_node ?_ (by omega) (Nat.zero_le _), bel_sets4 hB4 (by omega)⟩
    have hK4 := (((keeps_set w4 (w.heap.size + 1) 0 (.int .u8 40)).same (keeps_set _ (w.heap.size + 1) 1 (.int .i64 0))).same (keeps_set _ (w.heap.size + 1) 2 (.string ⟨#[]⟩))).same (keeps_set _ (w.heap.size + 1) 3 (.slice a4 2 c4))
    refine HK4.out.stays ⟨hK4.size, fun b hb a => ⟨hK4.block b hb (fun e => ?_), ?_⟩⟩
    · rcases a with (⟨_, a⟩ | a) | a
      · omega
      · omega
      · simp at a; omega
    · rcases a with (⟨a, _⟩ | a) | a
      · exact .inl a
      · exact .inr (by omega)
      · exact .inr (by simp at a; omega)
end Go.Proofs.YtehmmokkjojggabGreatDoor
/- Walks of package backstepref40: call; v, plus and node with data from a block on. -/
namespace Go.Proofs.YtehmmokkjojggabGreatDoor
set_option linter.unusedVariables false
open Go.RowKit

set_option maxRecDepth 100000 in
set_option maxHeartbeats 3200000 in
theorem refNode_nil (k : Int) (s : ByteArray) (w : World) :
    Calls Tryz.prog 41 #[.int .u8 k, .string s, .slice none 0 0] w fun e w' => e = .returned (.agg #[.int .u8 k, .int .i64 0, .string s, .slice none 0 0]) ∧ Below w.heap.size w w' := by
  have hA1 : Below w.heap.size w (w.alloc (.cells #[.int .u8 0, .int .i64 0, .string ⟨#[]⟩, .slice none 0 0] 35)) := (Below.refl _ _).alloc (Nat.le_refl _) _
  have hA : Below w.heap.size w ((w.alloc (.cells #[.int .u8 0, .int .i64 0, .string ⟨#[]⟩, .slice none 0 0] 35)).alloc (.cells #[.int .u8 k, .int .i64 0, .string s, .slice none 0 0] 35)) := hA1.alloc hA1.size _
  have HZ := Lib.hid (at_old w (.cells #[.int .u8 0, .int .i64 0, .string ⟨#[]⟩, .slice none 0 0] 35) (.cells #[.int .u8 k, .int .i64 0, .string s, .slice none 0 0] 35))
  have hz := HZ.out
  have hm := at_new w (.cells #[.int .u8 0, .int .i64 0, .string ⟨#[]⟩, .slice none 0 0] 35) (.cells #[.int .u8 k, .int .i64 0, .string s, .slice none 0 0] 35)
  obtain ⟨z0, z1, z2, z3⟩ := cells4 hz
  obtain ⟨m0, m1, m2, m3⟩ := cells4 hm
  have zf := unfrozen hz
  have mf := unfrozen hm
  obtain ⟨i, hi, _, _, _⟩ := info_parts TNd.inf
  have HI := Lib.hid hi
  clear hA1 hi hz hm
  go_enter Tryz.func41, Tryz.ntmps41
  go_wp2_with (at_builtin; refine wpList_append_own_none rfl (.tmp 12) (.tmp 13) 33 rfl 0 35 i 4 TNd.und HI.out (.slice none 0 0) 0 [] rfl (World.ownsRow_nil _ _ _ _) rfl ?_)
  (try simp only [Exit.inBlock, Exit.then])
  refine bodyPost_ret (results_cell_row (P := Tryz.prog) rfl _ _ w.heap.size _ _ _ _ rfl (at_old w _ _) Tryz.underlying35 rfl (by kernel_rfl)) rfl ?_
  exact ⟨rfl, ((Below.refl _ _).alloc (Nat.le_refl _) _).alloc (by simp) _⟩

theorem refV_U (B : Nat) (s : ByteArray) (w : World) (hB : B ≤ w.heap.size) (hs : s.size ≤ maxLen) :
    Calls Tryz.prog 42 #[.string s] w fun e w' => ∃ a c, e = .returned (.agg #[.int .u8 2, .int .i64 0, .string s, .slice a 0 c]) ∧ NdAt (Up B) w' (.agg #[.int .u8 2, .int .i64 0, .string s, .slice a 0 c]) (vN s) ∧ Below w.heap.size w w' :=
  (refV_C s w hs).mono fun e w' ⟨a, c, he, h, hb⟩ => ⟨a, c, he, h.stays (stays_upup hB), hb⟩
theorem refPlus_U (B : Nat) (s : ByteArray) (v : Value) (x : Nd) (w : World) (hB : B ≤ w.heap.size) (hv : NdAt (Up B) w v x) (hs : s.size ≤ maxLen) :
    Calls Tryz.prog 84 #[.string s, v] w fun e w' => ∃ a c, e = .returned (.agg #[.int .u8 40, .int .i64 0, .string ⟨#[]⟩, .slice a 2 c]) ∧ NdAt (Up B) w' (.agg #[.int .u8 40, .int .i64 0, .string ⟨#[]⟩, .slice a 2 c]) (plusN s x) ∧ Below w.heap.size w w' :=
  (refPlus_C s v x (Up B) w hv hs).mono fun e w' ⟨a, c, he, h, hb⟩ => ⟨a, c, he, h.stays (stays_newB_up hB), hb⟩
theorem refNode_U (B : Nat) (k : Int) (s : ByteArray) (ka : Option Addr) (kn kc : Nat) (l : List Nd) (w : World) (hB : B ≤ w.heap.size) (hk : KidsAt (Up B) w (.slice ka kn kc) l) (hl : l.length ≤ 100000) (h0 : 0 ≤ k ∧ k ≤ 255) (hs : s.size ≤ maxLen) :
    Calls Tryz.prog 41 #[.int .u8 k, .string s, .slice ka kn kc] w fun e w' => ∃ a n c, e = .returned (.agg #[.int .u8 k, .int .i64 0, .string s, .slice a n c]) ∧ NdAt (Up B) w' (.agg #[.int .u8 k, .int .i64 0, .string s, .slice a n c]) (nodeN k s l) ∧ Below w.heap.size w w' :=
  (refNode_C k s ka kn kc l (Up B) w hk hl).mono fun e w' ⟨a, c, he, h, hb⟩ => ⟨a, _, c, he, nd_node (h.stays (stays_newB_up hB)) h0 hs, hb⟩

/-- the loop of call: k arguments are done -/
structure CallSt (p : ByteArray) (args : List ByteArray) (w : World) (g k : Nat) (a : Option Addr) (c : Nat) (wr : World) : Prop where
  zero : wr.heap[w.heap.size]? = some (.cells #[.int .u8 0, .int .i64 0, .string ⟨#[]⟩, .slice none 0 0] 35 (0, 0))
  m : wr.heap[g]? = some (.cells #[.int .u8 50, .int .i64 0, .string p, .slice a k c] 35 (0, 0))
  row : RowsOwn NdE 35 (fun b => w.heap.size + 1 ≤ b ∧ b ≠ g) (w.heap.size + 1) wr (.slice a k c) ((args.take k).map vN)
  ne : (Value.slice a k c).ownBlock ≠ some g
  h : w.heap.size < g
  below : Below w.heap.size w wr

theorem callT_start {p : ByteArray} {args : List ByteArray} {w w1 : World} (h : w1.heap[w.heap.size]? = some (.cells #[.int .u8 0, .int .i64 0, .string ⟨#[]⟩, .slice none 0 0] 35)) (hb : Below w.heap.size w w1) (hs : w.heap.size < w1.heap.size) :
    CallSt p args w w1.heap.size 0 none 0 (w1.alloc (.cells #[.int .u8 50, .int .i64 0, .string p, .slice none 0 0] 35)) :=
  ⟨blk_alloc h, blk_new rfl, by rw [List.take_zero]; exact RowsOwn.nil _ _ _ _ _, by simp [Value.ownBlock], hs, bel_alloc hb⟩

/-- what the append of the k-th argument needs -/
theorem callT_rows {p s : ByteArray} {args : List ByteArray} {w wr w3 : World} {g k a3c : Nat} {a a3 : Option Addr} {c : Nat} (h : CallSt p args w g k a c wr) (hl : ((args.take k).map vN).length = k) (hb : Below wr.heap.size wr w3) (hk : NdAt (Up wr.heap.size) w3 (.agg #[.int .u8 2, .int .i64 0, .string s, .slice a3 0 a3c]) (vN s)) :
    RowsOwn NdE 35 (fun b => w.heap.size + 1 ≤ b ∧ b ≠ g) (w.heap.size + 1) (w3.alloc (.cells #[.int .u8 2, .int .i64 0, .string s, .slice a3 0 a3c] 35)) (.slice a ((args.take k).map vN).length c) ((args.take k).map vN) ∧
    RowsAt NdE (Up wr.heap.size) (w3.alloc (.cells #[.int .u8 2, .int .i64 0, .string s, .slice a3 0 a3c] 35)) (.slice (some ⟨w3.heap.size, 0, none⟩) 1 1) [vN s] ∧
    ∀ b, b < (w3.alloc (.cells #[.int .u8 2, .int .i64 0, .string s, .slice a3 0 a3c] 35)).heap.size → Up wr.heap.size b → (w.heap.size + 1 ≤ b ∧ b ≠ g) ∧ (Value.slice a ((args.take k).map vN).length c).ownBlock ≠ some b := by
  rw [hl]
  have hgl : g < wr.heap.size := by have h := h.m; rw [Array.getElem?_eq_some_iff] at h; exact h.1
  have hh := h.h
  have hBa : Below w3.heap.size w3 (w3.alloc (.cells #[.int .u8 2, .int .i64 0, .string s, .slice a3 0 a3c] 35)) := (Below.refl _ _).alloc (Nat.le_refl _) _
  refine ⟨(h.row.below hb).below hBa, kids_rows.1 (kids_1 (heap_alloc_new w3 _) hb.size (hk.stays (Stays.of_below hBa))), fun b _ hu => ⟨⟨?_, ?_⟩, fun e => ?_⟩⟩
  · have : wr.heap.size ≤ b := hu
    omega
  · have : wr.heap.size ≤ b := hu
    omega
  · have : wr.heap.size ≤ b := hu
    have := (h.row.lt e).2
    omega

/-- behind the append: what was there -/
theorem callT_after {p : ByteArray} {args : List ByteArray} {w wr w3 w4 : World} {o : Obj} {g k : Nat} {a : Option Addr} {c n : Nat} (h : CallSt p args w g k a c wr) (hb : Below wr.heap.size wr w3) (hg : (w3.alloc o).grownBy w4 (Value.slice a n c).ownBlock) :
    w4.heap[g]? = some (.cells #[.int .u8 50, .int .i64 0, .string p, .slice a k c] 35 (0, 0)) ∧ w4.heap[w.heap.size]? = some (.cells #[.int .u8 0, .int .i64 0, .string ⟨#[]⟩, .slice none 0 0] 35) ∧ Below w.heap.size w w4 := by
  have e : (Value.slice a n c).ownBlock = (Value.slice a k c).ownBlock := by cases a <;> rfl
  rw [e] at hg
  have hgl : g < wr.heap.size := by have h := h.m; rw [Array.getElem?_eq_some_iff] at h; exact h.1
  have hzl : w.heap.size < wr.heap.size := by have := h.h; omega
  have hs := hb.size
  have hB : Below w.heap.size w (w3.alloc o) := bel_alloc (h.below.trans (hb.mono h.below.size))
  refine ⟨(hg.block g (by simp; omega) (fun e => h.ne e.symm)).trans (blk_alloc (blk_below hb h.m)), (hg.block w.heap.size (by simp; omega) (fun e => by have := (h.row.lt e.symm).1; omega)).trans (blk_alloc (blk_below hb h.zero)), hB.grown hg hB.size (fun j e => by have := (h.row.lt e).1; omega)⟩

theorem callT_step {p : ByteArray} {args : List ByteArray} {w wr w4 : World} {g k : Nat} {a a' : Option Addr} {c c' : Nat} {s : ByteArray} (h : CallSt p args w g k a c wr) (hs : wr.heap.size ≤ w4.heap.size) (hm : w4.heap[g]? = some (.cells #[.int .u8 50, .int .i64 0, .string p, .slice a k c] 35 (0, 0)) ∧ w4.heap[w.heap.size]? = some (.cells #[.int .u8 0, .int .i64 0, .string ⟨#[]⟩, .slice none 0 0] 35) ∧ Below w.heap.size w w4)
    (hl : ((args.take k).map vN).length = k) (h4 : RowsOwn NdE 35 (fun b => w.heap.size + 1 ≤ b ∧ b ≠ g) (w.heap.size + 1) w4 (.slice a' (((args.take k).map vN).length + [vN s].length) c') ((args.take k).map vN ++ [vN s])) (ht : (args.take (k + 1)).map vN = (args.take k).map vN ++ [vN s])
    (hn : ∀ j, (Value.slice a' (((args.take k).map vN).length + [vN s].length) c').ownBlock = some j → (Value.slice a ((args.take k).map vN).length c).ownBlock = some j ∨ wr.heap.size ≤ j) :
    CallSt p args w g (k + 1) a' c' (w4.setCell ⟨g, 3, none⟩ (.slice a' (k + 1) c')) := by
  obtain ⟨m1, m2, m3⟩ := hm
  have hK := keeps_set w4 g 3 (.slice a' (k + 1) c')
  have hh := h.h
  have hgl : g < wr.heap.size := by have h := h.m; rw [Array.getElem?_eq_some_iff] at h; exact h.1
  rw [hl] at h4 hn
  have hne : (Value.slice a' (k + 1) c').ownBlock ≠ some g := fun e => by
    rcases hn g e with e | e
    · exact h.ne e
    · omega
  refine ⟨blk_set m2 (by omega), set1_3 m1 _, ?_, hne, hh, m3.setCell (by show w.heap.size ≤ g; omega) _⟩
  rw [ht]
  exact h4.keeps hK (fun j e e2 => hne (by rw [← e2]; exact e)) (fun j _ d e => d.2 e)

set_option maxRecDepth 100000 in
set_option maxHeartbeats 3200000 in
theorem refCall_C (p : ByteArray) (av : Value) (args : List ByteArray) (A : Nat → Prop) (w : World) (ha : StrsAt A w av args) (hp : p.size ≤ maxLen) (hl : args.length ≤ 200000) :
    Calls Tryz.prog 40 #[.string p, av] w fun e w' => ∃ a n c, e = .returned (.agg #[.int .u8 50, .int .i64 0, .string p, .slice a n c]) ∧ NdAt (Up w.heap.size) w' (.agg #[.int .u8 50, .int .i64 0, .string p, .slice a n c]) (callN p args) ∧ Below w.heap.size w w' := by
  obtain ⟨hll, aa, ac, rfl⟩ := ha.form
  have hA : Below w.heap.size w (w.alloc (.cells #[.int .u8 0, .int .i64 0, .string ⟨#[]⟩, .slice none 0 0] 35)) := (Below.refl _ _).alloc (Nat.le_refl _) _
  have HZ := Lib.hid (at_new0 w (.cells #[.int .u8 0, .int .i64 0, .string ⟨#[]⟩, .slice none 0 0] 35))
  have HSZ : Hid ((w.alloc (.cells #[.int .u8 0, .int .i64 0, .string ⟨#[]⟩, .slice none 0 0] 35)).heap.size = w.heap.size + 1) := Lib.hid (by simp)
  have HA := Lib.hid ha
  clear ha
  go_enter Tryz.func40, Tryz.ntmps40
  go_wp2_with fail
  generalize (w.alloc (.cells #[.int .u8 0, .int .i64 0, .string ⟨#[]⟩, .slice none 0 0] 35)) = W at *
  refine (refNode_nil 50 p _).mono ?_
  rintro e w1 ⟨rfl, hb1⟩
  have hB1 : Below w.heap.size w w1 := hA.trans (hb1.mono hA.size)
  have hlt : w.heap.size < w1.heap.size := by have := hb1.size; have := HSZ.out; omega
  have HST := Lib.hid (callT_start (p := p) (args := args) (blk_below hb1 HZ.out) hB1 hlt)
  clear HSZ
  go_wp2
  generalize hg : w1.heap.size = g at *
  generalize (w1.alloc (.cells #[.int .u8 50, .int .i64 0, .string p, .slice none 0 0] 35)) = W2 at *
  clear hg
  go_loopw [6] (fun i wr => ∃ (k : Nat) (a : Option Addr) (c : Nat), i = .int .i64 k ∧ k ≤ args.length ∧ CallSt p args w g k a c wr) (fun i _ => args.length - (intOf i).toNat)
  case atStart => exact ⟨0, none, 0, rfl, Nat.zero_le _, HST.out⟩
  case round =>
    obtain ⟨k, a, c, rfl, hk, hst⟩ := hrel
    have HS := Lib.hid hst
    obtain ⟨m0, m1, m2, m3⟩ := cells4 hst.m
    have mf := unfrozen hst.m
    have hbl := hst.below
    clear hst
    by_cases hlt2 : k < args.length
    · obtain ⟨b, off, cap, he, hb, _, _, c0, hsz⟩ := HA.out.at hlt2
      simp only [Value.slice.injEq] at he
      obtain ⟨rfl, -, rfl⟩ := he
      have HTK : Hid ((args.take (k + 1)).map vN = (args.take k).map vN ++ [vN (at' args k)]) := Lib.hid (by rw [List.take_add_one, List.getElem?_eq_getElem hlt2, at_eq hlt2, List.map_append]; rfl)
      have hS := HS.out
      have hgl : g < wr.heap.size := by have h := hS.m; rw [Array.getElem?_eq_some_iff] at h; exact h.1
      have hlk : ((args.take k).map vN).length = k := by simp; omega
      have HLK := Lib.hid hlk
      have HC : Hid (∀ w1, Below wr.heap.size wr w1 → w1.cell? ⟨g, 3, none⟩ = some (.slice a k c) ∧ w1.cell? ⟨b, off + k, none⟩ = some (.string (at' args k))) := Lib.hid (fun w1 hw => ⟨(cells4 (blk_below hw HS.out.m)).2.2.2, ((hbl.trans (hw.mono hbl.size)).cell (p := ⟨b, off + k, none⟩) hb).trans c0⟩)
      have cr := (HC.out wr (Below.refl _ _)).2
      have i0 : (0 : Int) ≤ (k : Int) := by omega
      clear hS hlk
      go_wp2
      obtain ⟨t1, t2⟩ := HC.out wr (Below.refl _ _)
      go_region_law
        (first
        | (go_simp; go_at_call 42; refine (refV_U wr.heap.size _ _ (Below.size (by (repeat (with_reducible first | exact Below.refl _ _ | refine bel_drew ?_ | refine bel_alloc ?_ | (apply bel_step; focus assumption))))) hsz).mono ?_; rintro e w3 ⟨a3, c3, rfl, hk3, hb3⟩; have HK3 := Lib.hid hk3; have hw3 : Below wr.heap.size wr w3 := (by (repeat (with_reducible first | exact Below.refl _ _ | refine bel_drew ?_ | refine bel_alloc ?_ | (apply bel_step; focus assumption)))); have HR := Lib.hid (callT_rows HS.out HLK.out hw3 hk3); clear hk3; obtain ⟨q1, q2⟩ := HC.out w3 hw3; obtain ⟨q3, q4⟩ := HC.out _ (bel_alloc (x := .cells #[.int .u8 2, .int .i64 0, .string (at' args k), .slice a3 0 c3] 35) hw3))
        | (refine step_rows TNd rfl (by decide) (by rfl) (.tmp 16) (.tmp 22) (by rfl) (by rw [HLK.out]; rfl) (by rfl) HR.out.1 HR.out.2.1 HR.out.2.2 (by rw [HLK.out]; unfold maxLen; simp; omega) (by rw [HLK.out]; simp; omega) (by have := hw3.size; simp; omega) ?_; intro a' c' w4 h4 hg4 hn4; have H4 := Lib.hid h4; have hm4 := callT_after HS.out hw3 hg4; obtain ⟨p0, p1, p2, p3⟩ := cells4 hm4.1; have pf := unfrozen hm4.1; have HB4 := Lib.hid hm4.2.2; have HM4 := Lib.hid hm4; have HG4 := Lib.hid hg4; have HN4 := Lib.hid hn4; clear h4 hg4 hn4 hm4))
      all_goals
        go_wp2
        have hs4 : wr.heap.size ≤ w4.heap.size := by
          have h1 := HG4.out.size
          have h2 := hw3.size
          simp at h1; omega
        have hnn : ∀ j, (Value.slice a' (((args.take k).map vN).length + [vN (at' args k)].length) c').ownBlock = some j → (Value.slice a ((args.take k).map vN).length c).ownBlock = some j ∨ wr.heap.size ≤ j := fun j e => (HN4.out j e).imp id (fun h => by
          have h2 := hw3.size
          simp at h; omega)
        exact ⟨⟨k + 1, a', c', by go_num, by omega, callT_step HS.out hs4 HM4.out HLK.out H4.out HTK.out hnn⟩, by simp [intOf]; omega⟩
    · obtain rfl : k = args.length := by omega
      have hlt' : ¬ (args.length : Int) < (args.length : Int) := by omega
      obtain ⟨z0, z1, z2, z3⟩ := cells4 HS.out.zero
      have zf := unfrozen HS.out.zero
      go_wp2
      (try simp only [Exit.inBlock, Exit.then])
      refine bodyPost_ret (results_cell_row (P := Tryz.prog) rfl _ _ w.heap.size _ _ _ _ rfl (set4 HS.out.zero _ _ _ _) Tryz.underlying35 rfl (by kernel_rfl)) rfl ?_
      have hst := HS.out
      have hrow := hst.row
      rw [List.take_length] at hrow
      have hkk : KidsAt (fun b => w.heap.size + 1 ≤ b) wr (.slice a args.length c) (args.map vN) := kids_rows.2 (by
        have := hrow.shut (A := fun b => w.heap.size + 1 ≤ b) (fun j d => d.1) (fun j e => (hrow.lt (by simpa using e)).1) (by unfold maxLen; simp; omega)
        simpa using this)
      have hK4 := (((keeps_set wr w.heap.size 0 (.int .u8 50)).same (keeps_set _ w.heap.size 1 (.int .i64 0))).same (keeps_set _ w.heap.size 2 (.string p))).same (keeps_set _ w.heap.size 3 (.slice a args.length c))
      refine ⟨_, _, _, rfl, nd_node (k := 50) (hkk.stays ⟨hK4.size, fun b hb h => ⟨hK4.block b hb (fun e => ?_), ?_⟩⟩) (by omega) hp, bel_sets4 hst.below (Nat.le_refl _)⟩
      · have : w.heap.size + 1 ≤ b := h
        omega
      · have : w.heap.size + 1 ≤ b := h
        unfold Up; omega
theorem refCall_U (B : Nat) (p : ByteArray) (aa : Option Addr) (an ac : Nat) (args : List ByteArray) (w : World) {A : Nat → Prop} (hB : B ≤ w.heap.size) (ha : StrsAt A w (.slice aa an ac) args) (hp : p.size ≤ maxLen) (hl : args.length ≤ 200000) :
    Calls Tryz.prog 40 #[.string p, .slice aa an ac] w fun e w' => ∃ a n c, e = .returned (.agg #[.int .u8 50, .int .i64 0, .string p, .slice a n c]) ∧ NdAt (Up B) w' (.agg #[.int .u8 50, .int .i64 0, .string p, .slice a n c]) (callN p args) ∧ Below w.heap.size w w' :=
  (refCall_C p _ args A w ha hp hl).mono fun e w' ⟨a, n, c, he, h, hb⟩ => ⟨a, n, c, he, h.stays (stays_upup hB), hb⟩
end Go.Proofs.YtehmmokkjojggabGreatDoor
/- Words for the walks of backstepref40.one. -/
namespace Go.Proofs.YtehmmokkjojggabGreatDoor
set_option linter.unusedVariables false
open Go.RowKit

theorem strs_open {A : Nat → Prop} {w : World} {av : Option Addr} {ac : Nat} {args : List ByteArray} (h : StrsAt A w (.slice av args.length ac) args) (h0 : 0 < args.length) :
    ∃ b off, av = some ⟨b, off, none⟩ ∧ args.length ≤ ac ∧ ∀ w1, Below w.heap.size w w1 → w1.cell? ⟨b, off, none⟩ = some (.string (argN args 0)) ∧ (1 < args.length → w1.cell? ⟨b, off + 1, none⟩ = some (.string (argN args 1))) := by
  obtain ⟨cs, ⟨_, a, cap, he, h1, h2, h3⟩, hf⟩ := h
  simp only [Value.slice.injEq, true_and] at he
  obtain ⟨rfl, rfl⟩ := he
  obtain ⟨b, off, rfl, hb, _, hc⟩ := h3 h0
  have e : ∀ j, j < args.length → at' args j = argN args j := fun j hj => by
    rw [at_eq hj, argN, List.getD_eq_getElem?_getD, List.getElem?_eq_getElem hj]; rfl
  refine ⟨b, off, rfl, h1, fun w1 hw => ⟨?_, fun hl => ?_⟩⟩
  · have := hc 0 h0 0 (by omega)
    rw [(hf 0 h0).1, e 0 h0] at this
    exact (hw.cell (p := ⟨b, off, none⟩) hb).trans (by simpa using this)
  · have := hc 1 hl 0 (by omega)
    rw [(hf 1 hl).1, e 1 hl] at this
    exact (hw.cell (p := ⟨b, off + 1, none⟩) hb).trans (by simpa using this)

/-- what Block leaves -/
def BlockPost (l : List Nd) (w : World) (e : Ending) (w' : World) : Prop := ∃ a n c, e = .returned (.agg #[.int .u8 57, .int .i64 0, .string ⟨#[]⟩, .slice a n c]) ∧ NdAt (Up w.heap.size) w' (.agg #[.int .u8 57, .int .i64 0, .string ⟨#[]⟩, .slice a n c]) (blockN l) ∧ Below w.heap.size w w'

mutual
/-- no node has the kind 0 -/
def nzN : Nd → Bool
  | .mk k _ _ kids => decide (k ≠ 0) && nzL kids
def nzL : List Nd → Bool
  | [] => true
  | n :: r => nzN n && nzL r
end
theorem nz_at : ∀ (l : List Nd) (j : Nat), nzL l = true → j < l.length → (at' l j).kind ≠ 0 ∧ nzL (at' l j).kids = true
  | [], j, _, h => by simp at h
  | .mk k m s kids :: r, 0, h, _ => by
    rw [nzL, nzN, Bool.and_eq_true, Bool.and_eq_true] at h
    exact ⟨by show k ≠ 0; simpa using h.1.1, h.1.2⟩
  | n :: r, j + 1, h, hj => by
    rw [nzL, Bool.and_eq_true] at h
    exact nz_at r j h.2 (by simpa using hj)
/-- data do not lie in a zero tree's block -/
theorem kids_off_zero {A : Nat → Prop} {w : World} {g : Nat} (hz : w.heap[g]? = some (.cells #[.int .u8 0, .int .i64 0, .string ⟨#[]⟩, .slice none 0 0] 35)) {v : Value} {kids : List Nd} (h : KidsAt A w v kids) : nzL kids = true → KidsAt (fun b => A b ∧ b ≠ g) w v kids := by
  induction h with
  | mk v kids cs h hf hk ih =>
    intro hn
    refine .mk v kids cs ?_ hf (fun j hj => ih j hj (nz_at kids j hn hj).2)
    obtain ⟨h0, a, cap, rfl, h1, h2, h3⟩ := h
    refine ⟨h0, a, cap, rfl, h1, h2, fun hp => ?_⟩
    obtain ⟨b, off, rfl, hb, hA, hc⟩ := h3 hp
    refine ⟨b, off, rfl, hb, ⟨hA, fun e => ?_⟩, hc⟩
    subst e
    have c := hc 0 hp 0 (by omega)
    rw [(hf 0 hp).1] at c
    have hk0 := (nz_at kids 0 hn hp).1
    simp only [World.cell?, hz, Nat.zero_mul, Nat.add_zero] at c
    match off, c with
    | 0, c => simp at c; exact hk0 c.symm
    | 1, c => simp at c
    | 2, c => simp at c
    | 3, c => simp at c
    | n + 4, c => simp at c

/-- a block of one statement in a variable of the call's own -/
def CutQ (w0 : World) (box : Obj) (x : Nd) (s : Value) (w : World) : Prop :=
  ∃ g a n c, s = .pointer (some ⟨g, 0, none⟩) ∧ w.heap[g]? = some (.cells #[.int .u8 57, .int .i64 0, .string ⟨#[]⟩, .slice a n c] 35 (0, 0)) ∧ w0.heap.size < g ∧ KidsAt (fun b => Up w0.heap.size b ∧ b ≠ g) w (.slice a n c) [x] ∧ w.heap[w0.heap.size]? = some box ∧ Below w0.heap.size w0 w
theorem nd_kids {A : Nat → Prop} {w : World} {a b c d : Value} {n : Nd} (h : NdAt A w (.agg #[a, b, c, d]) n) : KidsAt A w d n.kids := (nd_cells h).2.2.2.1
theorem cutQ_new {w0 w w4 : World} {box : Obj} {x : Nd} {g : Nat} {a : Option Addr} {n c : Nat} (h : NewBlk w0 w g (.cells #[.int .u8 57, .int .i64 0, .string ⟨#[]⟩, .slice a n c] 35 (0, 0))) (hk : KidsAt (Up w0.heap.size) w4 (.slice a n c) [x]) (hw : Below w4.heap.size w4 w) (hg : w4.heap.size ≤ g) (h0 : w0.heap.size < g) (hb : w.heap[w0.heap.size]? = some box) (hB : Below w0.heap.size w0 w) :
    CutQ w0 box x (.pointer (some ⟨g, 0, none⟩)) w := ⟨g, a, n, c, rfl, h.1, h0, hk.stays ⟨hw.size, fun b hb a => ⟨hw.block b hb, a, by omega⟩⟩, hb, hB⟩
theorem cutQ_set {w0 w w4 : World} {box : Obj} {x : Nd} {g : Nat} {a : Option Addr} {n c : Nat} (h : NewBlk w0 w g (.cells #[.int .u8 0, .int .i64 0, .string ⟨#[]⟩, .slice none 0 0] 35)) (hk : KidsAt (Up w0.heap.size) w4 (.slice a n c) [x]) (hw : Below w4.heap.size w4 w) (hx : nzL [x] = true) (h0 : w0.heap.size < g) (hb : w.heap[w0.heap.size]? = some box) (hB : Below w0.heap.size w0 w) :
    CutQ w0 box x (.pointer (some ⟨g, 0, none⟩)) ((((w.setCell ⟨g, 0, none⟩ (.int .u8 57)).setCell ⟨g, 1, none⟩ (.int .i64 0)).setCell ⟨g, 2, none⟩ (.string ⟨#[]⟩)).setCell ⟨g, 3, none⟩ (.slice a n c)) := by
  have hK4 := (((keeps_set w g 0 (.int .u8 57)).same (keeps_set _ g 1 (.int .i64 0))).same (keeps_set _ g 2 (.string ⟨#[]⟩))).same (keeps_set _ g 3 (.slice a n c))
  exact ⟨g, a, n, c, rfl, set4 h.1 _ _ _ _, h0, (kids_off_zero h.1 (hk.stays (Stays.of_below hw)) hx).stays ⟨hK4.size, fun b hb a => ⟨hK4.block b hb a.2, a⟩⟩, blk_sets4 hb (by omega), bel_sets4 hB (by omega)⟩
end Go.Proofs.YtehmmokkjojggabGreatDoor
