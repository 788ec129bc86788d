/- Walks of package backstepref40: Body. -/
import Derived.Test.YtehmmokkjojggabGreatDoorZq30
namespace Go.Proofs.YtehmmokkjojggabGreatDoor
set_option linter.unusedVariables false
set_option linter.unusedSimpArgs false
open Go.RowKit

/-- the body under way: the statements so far -/
structure OSt (A : Nat → Prop) (w : World) (ka : Option Addr) (kn kc : Nat) (l : List Nd) (a : Option Addr) (n c : Nat) (wr : World) : Prop where
  box : wr.heap[w.heap.size]? = some (.cells #[.int .u8 57, .int .i64 0, .string ⟨#[]⟩, .slice ka kn kc] 35 (0, 0))
  z : wr.heap[w.heap.size + 1]? = some (.cells #[.int .u8 0, .int .i64 0, .string ⟨#[]⟩, .slice none 0 0] 35)
  o : wr.heap[w.heap.size + 2]? = some (.cells #[.int .u8 57, .int .i64 0, .string ⟨#[]⟩, .slice a n c] 35 (0, 0))
  row : RowsOwn NdE 35 (RD A w) (w.heap.size + 3) wr (.slice a n c) l
  len : n = l.length
  below : Below w.heap.size w wr
theorem up_of {B k : Nat} (h : B ≤ k) : Up B k := h
abbrev OW (w : World) (ka : Option Addr) (kn kc : Nat) : World := ((w.alloc (.cells #[.int .u8 57, .int .i64 0, .string ⟨#[]⟩, .slice ka kn kc] 35)).alloc (.cells #[.int .u8 0, .int .i64 0, .string ⟨#[]⟩, .slice none 0 0] 35)).alloc (.cells #[.int .u8 57, .int .i64 0, .string ⟨#[]⟩, .slice none 0 0] 35)
theorem ow_start (A : Nat → Prop) (w : World) (ka : Option Addr) (kn kc : Nat) : OSt A w ka kn kc [] none 0 0 (OW w ka kn kc) :=
  ⟨blk_alloc (blk_alloc (blk_new rfl)), blk_alloc (blk_new (by simp)), blk_new (by simp), RowsOwn.nil _ _ _ _ _, rfl, bel_alloc (bel_alloc (bel_alloc (Below.refl _ _)))⟩
theorem OSt.size {A : Nat → Prop} {w : World} {ka : Option Addr} {kn kc : Nat} {l : List Nd} {a : Option Addr} {n c : Nat} {wr : World} (h : OSt A w ka kn kc l a n c wr) : w.heap.size + 3 ≤ wr.heap.size := by
  have h := h.o
  rw [Array.getElem?_eq_some_iff] at h
  have := h.1; omega
/-- what the append asks: new statements in later blocks, or statements that were there -/
theorem OSt.rows {A : Nat → Prop} {w : World} {ka : Option Addr} {kn kc : Nat} {l m : List Nd} {a : Option Addr} {n c : Nat} {wr w3 : World} {ua : Option Addr} {un uc : Nat} (h : OSt A w ka kn kc l a n c wr) (hb : Below wr.heap.size wr w3) (hk : KidsAt (NewB (fun j => A j ∧ j < w.heap.size) wr) w3 (.slice ua un uc) m) :
    RowsOwn NdE 35 (RD A w) (w.heap.size + 3) w3 (.slice a n c) l ∧ RowsAt NdE (NewB (fun j => A j ∧ j < w.heap.size) wr) w3 (.slice ua un uc) m ∧ ∀ b, b < w3.heap.size → NewB (fun j => A j ∧ j < w.heap.size) wr b → RD A w b ∧ (Value.slice a n c).ownBlock ≠ some b :=
  ⟨h.row.below hb, kids_rows.1 hk, fun b _ d => ⟨RD.new d h.size, fun e => by
    have := h.row.lt e
    rcases d with d | d <;> omega⟩⟩
/-- behind the append -/
theorem OSt.after {A : Nat → Prop} {w : World} {ka : Option Addr} {kn kc : Nat} {l : List Nd} {a : Option Addr} {n c : Nat} {wr w3 w4 : World} (h : OSt A w ka kn kc l a n c wr) (hb : Below wr.heap.size wr w3) (hg : w3.grownBy w4 (Value.slice a n c).ownBlock) :
    w4.heap[w.heap.size]? = some (.cells #[.int .u8 57, .int .i64 0, .string ⟨#[]⟩, .slice ka kn kc] 35 (0, 0)) ∧ w4.heap[w.heap.size + 1]? = some (.cells #[.int .u8 0, .int .i64 0, .string ⟨#[]⟩, .slice none 0 0] 35) ∧ w4.heap[w.heap.size + 2]? = some (.cells #[.int .u8 57, .int .i64 0, .string ⟨#[]⟩, .slice a n c] 35 (0, 0)) ∧ Below w.heap.size w w4 := by
  have hs := hb.size
  have hz := h.size
  have hB : Below w.heap.size w w3 := h.below.trans (hb.mono h.below.size)
  have hk : ∀ q, q < w.heap.size + 3 → w4.heap[q]? = w3.heap[q]? := fun q hq => hg.block q (by omega) (fun e => by have := (h.row.lt e.symm).1; omega)
  exact ⟨(hk _ (by omega)).trans (blk_below hb h.box), (hk _ (by omega)).trans (blk_below hb h.z), (hk _ (by omega)).trans (blk_below hb h.o), hB.grown hg hB.size (fun j e => by have := (h.row.lt e).1; omega)⟩
theorem OSt.step {A : Nat → Prop} {w : World} {ka : Option Addr} {kn kc : Nat} {l m : List Nd} {a a' : Option Addr} {n c c' n' : Nat} {wr w4 : World} (h : OSt A w ka kn kc l a n c wr)
    (hm : w4.heap[w.heap.size]? = some (.cells #[.int .u8 57, .int .i64 0, .string ⟨#[]⟩, .slice ka kn kc] 35 (0, 0)) ∧ w4.heap[w.heap.size + 1]? = some (.cells #[.int .u8 0, .int .i64 0, .string ⟨#[]⟩, .slice none 0 0] 35) ∧ w4.heap[w.heap.size + 2]? = some (.cells #[.int .u8 57, .int .i64 0, .string ⟨#[]⟩, .slice a n c] 35 (0, 0)) ∧ Below w.heap.size w w4)
    (h4 : RowsOwn NdE 35 (RD A w) (w.heap.size + 3) w4 (.slice a' n' c') (l ++ m)) (hn : n' = (l ++ m).length) :
    OSt A w ka kn kc (l ++ m) a' n' c' (w4.setCell ⟨w.heap.size + 2, 3, none⟩ (.slice a' n' c')) := by
  obtain ⟨m1, m2, m3, m4⟩ := hm
  have hK := keeps_set w4 (w.heap.size + 2) 3 (.slice a' n' c')
  exact ⟨blk_set m1 (by omega), blk_set m2 (by omega), set1_3 m3 _, h4.keeps hK (fun j e e2 => by have := (h4.lt e).1; omega) (fun j _ d e => by rcases d with d | d <;> omega), hn, m4.setCell (by show w.heap.size ≤ w.heap.size + 2; omega) _⟩

/-- what a one-element append asks -/
theorem OSt.rows1 {A : Nat → Prop} {w : World} {ka : Option Addr} {kn kc : Nat} {l : List Nd} {a : Option Addr} {n c : Nat} {wr w5 : World} {x0 x1 x2 x3 : Value} {x : Nd} (h : OSt A w ka kn kc l a n c wr) (hb : Below wr.heap.size wr w5) (hk : NdAt (Up wr.heap.size) w5 (.agg #[x0, x1, x2, x3]) x) :
    RowsOwn NdE 35 (RD A w) (w.heap.size + 3) (w5.alloc (.cells #[x0, x1, x2, x3] 35)) (.slice a n c) l ∧ RowsAt NdE (NewB (fun j => A j ∧ j < w.heap.size) wr) (w5.alloc (.cells #[x0, x1, x2, x3] 35)) (.slice (some ⟨w5.heap.size, 0, none⟩) 1 1) [x] ∧ ∀ b, b < (w5.alloc (.cells #[x0, x1, x2, x3] 35)).heap.size → NewB (fun j => A j ∧ j < w.heap.size) wr b → RD A w b ∧ (Value.slice a n c).ownBlock ≠ some b :=
  h.rows (bel_alloc hb) ((kids_1 (A := Up wr.heap.size) (heap_alloc_new w5 _) hb.size (hk.stays (Stays.of_below (bel_alloc (Below.refl _ _))))).stays ⟨Nat.le_refl _, fun _ _ a => ⟨rfl, .inr a⟩⟩)
/-- the cells of the body under way, in every later world -/
theorem OSt.cells {A : Nat → Prop} {w : World} {ka : Option Addr} {kn kc : Nat} {l : List Nd} {a : Option Addr} {n c : Nat} {wr : World} (h : OSt A w ka kn kc l a n c wr) : ∀ w1, Below wr.heap.size wr w1 → w1.cell? ⟨w.heap.size + 1 + 1, 3, none⟩ = some (.slice a n c) ∧ w1.cell? ⟨w.heap.size, 0, none⟩ = some (.int .u8 57) ∧ w1.cell? ⟨w.heap.size, 1, none⟩ = some (.int .i64 0) ∧ w1.cell? ⟨w.heap.size, 2, none⟩ = some (.string ⟨#[]⟩) ∧ w1.cell? ⟨w.heap.size, 3, none⟩ = some (.slice ka kn kc) := fun w1 hw =>
  ⟨(cells4 (blk_below hw h.o)).2.2.2, cells4 (blk_below hw h.box)⟩
/-- the copy of the result -/
def copyN (lb : Bool) (res : ByteArray) : Nd := if lb then callN ⟨#[108, 99, 111, 112, 121]⟩ [res, ⟨#[111, 117, 116]⟩] else nodeN 42 ⟨#[]⟩ [vN ⟨#[111, 117, 116]⟩, vN res]
theorem field_nd3 (a b c d : Value) (w : World) : (Instr.field 35 (.agg #[a, b, c, d]) 3).run Tryz.prog w = .ok d w := by kernel_rfl
/-- the loop of the temporaries -/
def LocR (ts : List Par) (n : Nd) (A : Nat → Prop) (w : World) (j : Int) (wr : World) : Prop :=
  ∃ (ka : Option Addr) (kn kc : Nat), wr.heap[w.heap.size + 2]? = some (.cells #[.int .u8 57, .int .i64 0, .string ⟨#[]⟩, .slice ka kn kc] 35 (0, 0)) ∧ wr.heap[w.heap.size + 1]? = some (.cells #[.int .u8 0, .int .i64 0, .string ⟨#[]⟩, .slice none 0 0] 35) ∧
    NdAt (RD A w) wr (.agg #[.int .u8 57, .int .i64 0, .string ⟨#[]⟩, .slice ka kn kc]) ((ts.drop (j + 1).toNat).foldr locN n) ∧ Below w.heap.size w wr
theorem OSt.loc {A : Nat → Prop} {w : World} {ka : Option Addr} {kn kc : Nat} {l : List Nd} {a : Option Addr} {n c : Nat} {wr : World} (h : OSt A w ka kn kc l a n c wr) (ts : List Par) (hl : l.length ≤ 100000) : LocR ts (blockN l) A w ((ts.length : Int) - 1) wr := by
  refine ⟨a, n, c, h.o, h.z, ?_, h.below⟩
  rw [show ((ts.length : Int) - 1 + 1).toNat = ts.length by omega, List.drop_length]
  have hr := h.row
  rw [h.len] at hr ⊢
  exact nd_node (k := 57) (kids_rows.2 (hr.shut (A := RD A w) (fun j d => d) (fun j e => .inr (hr.lt e).1) (by unfold maxLen; omega))) (by omega) (Nat.zero_le _)
theorem rd_up {A : Nat → Prop} {w w1 w2 : World} {v : Value} {l : List Nd} (h : KidsAt (NewB (RD A w) w1) w2 v l) (hs : w.heap.size + 3 ≤ w1.heap.size) : KidsAt (RD A w) w2 v l := h.stays ⟨Nat.le_refl _, fun j _ d => ⟨rfl, by
  rcases d with d | d
  · exact d
  · exact .inr (by omega)⟩⟩
theorem locR_step {ts : List Par} {n : Nd} {A : Nat → Prop} {w wr w8 : World} {q : Nat} {x : Nd} {ka : Option Addr} {kn kc : Nat} {a0 : Option Addr} {n0 c0 : Nat} (hq : q < ts.length)
    (hbox : wr.heap[w.heap.size + 2]? = some (.cells #[.int .u8 57, .int .i64 0, .string ⟨#[]⟩, .slice a0 n0 c0] 35 (0, 0))) (hz : wr.heap[w.heap.size + 1]? = some (.cells #[.int .u8 0, .int .i64 0, .string ⟨#[]⟩, .slice none 0 0] 35))
    (hx : blockN [x] = locN (at' ts q) ((ts.drop (q + 1)).foldr locN n)) (hk : KidsAt (RD A w) w8 (.slice ka kn kc) [x]) (hb : Below w.heap.size w wr) (hb8 : Below wr.heap.size wr w8) :
    LocR ts n A w ((q : Int) - 1) ((((w8.setCell ⟨w.heap.size + 2, 0, none⟩ (.int .u8 57)).setCell ⟨w.heap.size + 2, 1, none⟩ (.int .i64 0)).setCell ⟨w.heap.size + 2, 2, none⟩ (.string ⟨#[]⟩)).setCell ⟨w.heap.size + 2, 3, none⟩ (.slice ka kn kc)) := by
  have hK4 := (((keeps_set w8 (w.heap.size + 2) 0 (.int .u8 57)).same (keeps_set _ (w.heap.size + 2) 1 (.int .i64 0))).same (keeps_set _ (w.heap.size + 2) 2 (.string ⟨#[]⟩))).same (keeps_set _ (w.heap.size + 2) 3 (.slice ka kn kc))
  refine ⟨ka, kn, kc, set4 (blk_below hb8 hbox) _ _ _ _, blk_sets4 (blk_below hb8 hz) (by omega), ?_, below_sets4 (hb.trans (hb8.mono hb.size)) (by omega)⟩
  rw [show ((q : Int) - 1 + 1).toNat = q by omega, locals_drop ts n q hq, ← hx]
  refine nd_node (hk.stays ⟨hK4.size, fun b hb a => ⟨hK4.block b hb (fun e => ?_), a⟩⟩) (by omega) (Nat.zero_le _)
  rcases a with ⟨_, a⟩ | a <;> omega
theorem in64_z : In64 0 := by unfold In64; omega
theorem rd_ge {A : Nat → Prop} {w : World} {g : Nat} (h : w.heap.size + 3 ≤ g) : RD A w g := .inr h
/-- the statements of the body -/
def bodyL (cl : List Nd) (lb : Bool) (res : ByteArray) : List Nd := cl ++ [copyN lb res] ++ (invL cl).reverse
theorem kids_drew {A : Nat → Prop} {w w5 : World} {v : Value} {l : List Nd} (h : KidsAt (NewB A w.drew) w5 v l) : KidsAt (NewB A w) w5 v l := h.stays ⟨Nat.le_refl _, fun _ _ d => ⟨rfl, d⟩⟩
theorem grown_n {a : Option Addr} {n m c : Nat} {w w' : World} (h : w.grownBy w' (Value.slice a n c).ownBlock) : w.grownBy w' (Value.slice a m c).ownBlock := by
  have e : (Value.slice a n c).ownBlock = (Value.slice a m c).ownBlock := by cases a <;> rfl
  rw [← e]; exact h

set_option maxRecDepth 100000 in
set_option maxHeartbeats 16000000 in
theorem body_R (cl : List Nd) (ts : List Par) (lb : Bool) (res : ByteArray) (ka pa : Option Addr) (kc pc : Nat) (A : Nat → Prop) (w : World) (hv : NdAt A w (.agg #[.int .u8 57, .int .i64 0, .string ⟨#[]⟩, .slice ka cl.length kc]) (blockN cl)) (hp : ParsAt Any w (.slice pa ts.length pc) ts) (hr : res.size ≤ maxLen) (hcl : cl.length ≤ 20000) (hts : ts.length ≤ 10000) (hI : Hid (RInv (blockN cl) (blockN (invL cl).reverse))) :
    Calls Tryz.prog 16 #[.agg #[.int .u8 57, .int .i64 0, .string ⟨#[]⟩, .slice ka cl.length kc], .slice pa ts.length pc, .bool lb, .string res] w fun e w' => ∃ a n c, e = .returned (.agg #[.int .u8 57, .int .i64 0, .string ⟨#[]⟩, .slice a n c]) ∧ NdAt (NewB A w) w' (.agg #[.int .u8 57, .int .i64 0, .string ⟨#[]⟩, .slice a n c]) (localsN ts (blockN (bodyL cl lb res))) ∧ Below w.heap.size w w' := by
  have HST := Lib.hid (ow_start A w ka cl.length kc)
  have HK : Hid (KidsAt (fun j => A j ∧ j < w.heap.size) w (.slice ka cl.length kc) cl) := Lib.hid ((nd_kids hv).stays ⟨Nat.le_refl _, fun j hj a => ⟨rfl, a, hj⟩⟩)
  have HR0 := Lib.hid (HST.out.rows (m := cl) (Below.refl _ _) ((HK.out.stays (Stays.of_below HST.out.below)).stays ⟨Nat.le_refl _, fun _ _ a => ⟨rfl, .inl a⟩⟩))
  have HP := Lib.hid hp
  have HV : Hid (NdAt (fun j => A j ∧ j < w.heap.size) w (.agg #[.int .u8 57, .int .i64 0, .string ⟨#[]⟩, .slice ka cl.length kc]) (blockN cl)) := Lib.hid (hv.stays ⟨Nat.le_refl _, fun j hj a => ⟨rfl, a, hj⟩⟩)
  have HSZ := Lib.hid HST.out.size
  clear hv hp
  go_enter Tryz.func16, Tryz.ntmps16
  go_upto_if 18 with (at_builtin; refine wpl_rows TNd rfl (by decide) rfl (.tmp 13) (.tmp 15) rfl rfl rfl HR0.out.1 HR0.out.2.1 HR0.out.2.2 (by unfold maxLen; simp; omega) (by simp; omega) HSZ.out ?_; intro a1 c1 w3 h3 hg3 hn3; have HM3 := Lib.hid (HST.out.after (Below.refl _ _) hg3); have HO1 := Lib.hid (HST.out.step HM3.out h3 (by simp)); obtain ⟨o0, o1, o2, o3⟩ := cells4 HM3.out.2.2.1; have fo := unfrozen HM3.out.2.2.1; clear h3 hg3 hn3)
  simp only [List.nil_append, List.length_nil, Nat.zero_add] at HO1
  have HO1' : Hid (OSt A w ka cl.length kc cl a1 cl.length c1 (w3.setCell ⟨w.heap.size + 1 + 1, 3, none⟩ (.slice a1 cl.length c1))) := HO1
  clear HO1 HM3 o0 o1 o2 o3 fo HR0
  generalize (w3.setCell ⟨w.heap.size + 1 + 1, 3, none⟩ (.slice a1 cl.length c1)) = W1 at *
  have HC := Lib.hid (OSt.cells HO1'.out)
  obtain ⟨q0, -, -, -, -⟩ := HC.out W1 (Below.refl _ _)
  go_cut [9] (fun s wx => s = .pointer (some ⟨w.heap.size + 1 + 1, 0, none⟩) ∧ ∃ a n c, OSt A w ka cl.length kc (cl ++ [copyN lb res]) a n c wx)
  case first =>
    have hzu : ∀ w1 : World, Below W1.heap.size W1 w1 → W1.heap.size ≤ w1.heap.size := fun w1 h => h.size
    have hout : (⟨#[111, 117, 116]⟩ : ByteArray).size ≤ maxLen := by unfold maxLen; decide
    have h0s : (⟨#[]⟩ : ByteArray).size ≤ maxLen := by unfold maxLen; decide
    have k42 : (0 : Int) ≤ 42 ∧ (42 : Int) ≤ 255 := ⟨by decide, by decide⟩
    cases lb
    · go_wp2
      go_region_law
        (first
        | (go_simp; go_at_call 42; with_reducible refine (refV_U W1.heap.size ⟨#[111, 117, 116]⟩ _ (hzu _ (by (repeat (with_reducible first | exact Below.refl _ _ | refine bel_drew ?_ | refine bel_alloc ?_ | (apply bel_step; focus assumption))))) hout).mono ?_; rintro e w5 ⟨a5, c5, rfl, hk5, hb5⟩; have HK5 := Lib.hid hk5; clear hk5; have hw5 : Below W1.heap.size W1 w5 := (by (repeat (with_reducible first | exact Below.refl _ _ | refine bel_drew ?_ | refine bel_alloc ?_ | (apply bel_step; focus assumption)))); obtain ⟨r0, -, -, -, -⟩ := HC.out w5 hw5)
        | (go_simp; go_at_call 42; with_reducible refine (refV_U W1.heap.size res _ (hzu _ (by (repeat (with_reducible first | exact Below.refl _ _ | refine bel_drew ?_ | refine bel_alloc ?_ | (apply bel_step; focus assumption))))) hr).mono ?_; rintro e w6 ⟨a6, c6, rfl, hk6, hb6⟩; have HK6 := Lib.hid hk6; clear hk6; have hw6 : Below W1.heap.size W1 w6 := (by (repeat (with_reducible first | exact Below.refl _ _ | refine bel_drew ?_ | refine bel_alloc ?_ | (apply bel_step; focus assumption)))); have hz6 := hw6.size; obtain ⟨r0, -, -, -, -⟩ := HC.out w6 hw6; obtain ⟨r1, -, -, -, -⟩ := HC.out _ (bel_alloc (x := .cells #[.int .u8 2, .int .i64 0, .string ⟨#[111, 117, 116]⟩, .slice a5 0 c5, .int .u8 2, .int .i64 0, .string res, .slice a6 0 c6] 35) hw6))
        | (go_simp; go_at_call 41; with_reducible refine (refNode_U W1.heap.size 42 ⟨#[]⟩ _ _ _ [vN ⟨#[111, 117, 116]⟩, vN res] _ (hzu _ (by (repeat (with_reducible first | exact Below.refl _ _ | refine bel_drew ?_ | refine bel_alloc ?_ | (apply bel_step; focus assumption))))) (kids_2 (A := Up W1.heap.size) (by (repeat (with_reducible first | (refine blk_new ?_; (simp; done)) | (refine blk_new ?_; rfl) | refine blk_drew ?_ | refine blk_alloc ?_ | (apply blk_below; focus assumption)))) (up_of hz6) (HK5.out.stays (Stays.of_below (by clear hw6; exact (by (repeat (with_reducible first | exact Below.refl _ _ | refine bel_drew ?_ | refine bel_alloc ?_ | (apply bel_step; focus assumption))))))) (HK6.out.stays (Stays.of_below (by (repeat (with_reducible first | exact Below.refl _ _ | refine bel_drew ?_ | refine bel_alloc ?_ | (apply bel_step; focus assumption))))))) (by simp) k42 h0s).mono ?_; rintro e w7 ⟨a7, n7, c7, rfl, hk7, hb7⟩; have hw5 : Below W1.heap.size W1 w7 := (by (repeat (with_reducible first | exact Below.refl _ _ | refine bel_drew ?_ | refine bel_alloc ?_ | (apply bel_step; focus assumption)))); have HR := Lib.hid (HO1'.out.rows1 hw5 hk7); clear hk7; obtain ⟨r0, -, -, -, -⟩ := HC.out w7 hw5; obtain ⟨r1, -, -, -, -⟩ := HC.out _ (bel_alloc (x := .cells #[.int .u8 42, .int .i64 0, .string ⟨#[]⟩, .slice a7 n7 c7] 35) hw5))
        | (refine step_rows TNd rfl (by decide) (by rfl) (.tmp 28) (.tmp 34) (by rfl) (by rfl) (by rfl) HR.out.1 HR.out.2.1 HR.out.2.2 (by unfold maxLen; first | omega | (simp; done) | (simp; omega)) (by first | omega | (simp; done) | (simp; omega)) (Nat.le_trans HO1'.out.size (Below.size (bel_alloc hw5))) ?_; intro a2 c2 w4 h4 hg4 hn4; have hm4 := HO1'.out.after (bel_alloc hw5) hg4; have HO2 := Lib.hid (HO1'.out.step hm4 h4 (by simp)); obtain ⟨p0, p1, p2, p3⟩ := cells4 hm4.2.2.1; have pf := unfrozen hm4.2.2.1; clear h4 hg4 hn4 hm4)
        | fail)
      all_goals
        go_wp2
        go_meet
        exact ⟨rfl, _, _, _, HO2.out⟩
    · go_wp2
      obtain ⟨q1, -, -, -, -⟩ := HC.out _ (bel_alloc (x := .cells #[.string res, .string ⟨#[111, 117, 116]⟩] 9) (Below.refl W1.heap.size W1))
      go_region_law
        (first
        | (go_simp; go_at_call 40; refine (refCall_C ⟨#[108, 99, 111, 112, 121]⟩ _ [res, ⟨#[111, 117, 116]⟩] Any _ (strs_2 (by (repeat (with_reducible first | (refine blk_new ?_; (simp; done)) | (refine blk_new ?_; rfl) | refine blk_drew ?_ | refine blk_alloc ?_ | (apply blk_below; focus assumption)))) trivial hr (by unfold maxLen; decide)) (by unfold maxLen; decide) (by simp)).mono ?_; rintro e w5 ⟨a5, n5, c5, rfl, hk5, hb5⟩; have hw5 : Below W1.heap.size W1 w5 := (by (repeat (with_reducible first | exact Below.refl _ _ | refine bel_drew ?_ | refine bel_alloc ?_ | (apply bel_step; focus assumption)))); have HR := Lib.hid (HO1'.out.rows1 hw5 (hk5.stays (stays_upup (by first | omega | (simp; done) | (simp; omega))))); clear hk5; obtain ⟨r0, -, -, -, -⟩ := HC.out w5 hw5; obtain ⟨r1, -, -, -, -⟩ := HC.out _ (bel_alloc (x := .cells #[.int .u8 50, .int .i64 0, .string ⟨#[108, 99, 111, 112, 121]⟩, .slice a5 n5 c5] 35) hw5))
        | (refine step_rows TNd rfl (by decide) (by rfl) (.tmp 20) (.tmp 24) (by rfl) (by rfl) (by rfl) HR.out.1 HR.out.2.1 HR.out.2.2 (by unfold maxLen; first | omega | (simp; done) | (simp; omega)) (by first | omega | (simp; done) | (simp; omega)) (Nat.le_trans HO1'.out.size (Below.size (bel_alloc hw5))) ?_; intro a2 c2 w4 h4 hg4 hn4; have hm4 := HO1'.out.after (bel_alloc hw5) hg4; have HO2 := Lib.hid (HO1'.out.step hm4 h4 (by simp)); obtain ⟨p0, p1, p2, p3⟩ := cells4 hm4.2.2.1; have pf := unfrozen hm4.2.2.1; clear h4 hg4 hn4 hm4)
        | fail)
      all_goals
        go_wp2
        go_meet
        exact ⟨rfl, _, _, _, HO2.out⟩
  case rest =>
    obtain ⟨rfl, a3, n3, c3, hO⟩ := hcut
    obtain ⟨L1, hL1⟩ : ∃ L, L = cl ++ [copyN lb res] := ⟨_, rfl⟩
    obtain ⟨M, hM⟩ : ∃ L, L = (invL cl).reverse := ⟨_, rfl⟩
    have hl1 : L1.length ≤ 20001 := by rw [hL1]; simp; omega
    have hm1 : M.length ≤ 20000 := by rw [hM, List.length_reverse, invL_len]; exact hcl
    rw [← hL1] at hO
    have HO3 := Lib.hid hO
    have HL1 := Lib.hid hL1
    have HM1 := Lib.hid hM
    clear hL1 hM
    have hw3 := hO.below
    clear hO HC q0 HO1'
    have HC3 := Lib.hid (OSt.cells HO3.out)
    have HI3 : Hid (∀ w1, Below wc.heap.size wc w1 → Calls Tryz.prog 43 #[.agg #[.int .u8 57, .int .i64 0, .string ⟨#[]⟩, .slice ka cl.length kc]] w1 (fun e w' => ∃ xa xn xc, e = .returned (.agg #[.int .u8 57, .int .i64 0, .string ⟨#[]⟩, .slice xa xn xc]) ∧ NdAt (NewB (fun j => A j ∧ j < w.heap.size) w1) w' (.agg #[.int .u8 57, .int .i64 0, .string ⟨#[]⟩, .slice xa xn xc]) (blockN M) ∧ Below w1.heap.size w1 w')) := Lib.hid (fun w1 hw => (hI.out _ _ _ (HV.out.stays (Stays.of_below (hw3.trans (hw.mono hw3.size))))).mono fun e w' ⟨xa, xc, he, h, hb⟩ => ⟨xa, _, xc, he, by rw [HM1.out]; exact h, hb⟩)
    obtain ⟨q0, q1, q2, q3, q4⟩ := HC3.out wc (Below.refl _ _)
    have hfld := fun a b c d w => field_nd3 a b c d w
    go_wp2
    go_cut [9] (fun s wx => s = .pointer (some ⟨w.heap.size + 1 + 1, 0, none⟩) ∧ ∃ a n c, OSt A w ka cl.length kc (L1 ++ M) a n c wx)
    case first =>
      go_region_law
        (first
        | (go_simp; go_at_call 43; with_reducible refine (HI3.out _ (by (repeat (with_reducible first | exact Below.refl _ _ | refine bel_drew ?_ | refine bel_alloc ?_ | (apply bel_step; focus assumption))))).mono ?_; rintro e w5 ⟨xa, xn, xc, rfl, hx5, hb5⟩; have hw5 : Below wc.heap.size wc w5 := (by (repeat (with_reducible first | exact Below.refl _ _ | refine bel_drew ?_ | refine bel_alloc ?_ | (apply bel_step; focus assumption)))); have HR := Lib.hid (HO3.out.rows (m := M) hw5 (kids_drew (nd_kids hx5))); clear hx5; obtain ⟨r0, -, -, -, -⟩ := HC3.out w5 hw5)
        | (refine step_rows TNd rfl (by decide) (by rfl) (.tmp 38) (.tmp 41) (by rfl) (by rfl) (by rfl) HR.out.1 HR.out.2.1 HR.out.2.2 (by unfold maxLen; first | omega | (simp; done) | (simp; omega)) (by first | omega | (simp; done) | (simp; omega)) (Nat.le_trans HO3.out.size (Below.size hw5)) ?_; intro a2 c2 w4 h4 hg4 hn4; have hm4 := HO3.out.after hw5 hg4; have HO2 := Lib.hid (HO3.out.step hm4 h4 (by simp)); obtain ⟨p0, p1, p2, p3⟩ := cells4 hm4.2.2.1; have pf := unfrozen hm4.2.2.1; clear h4 hg4 hn4 hm4)
        | fail)
      all_goals
        go_wp2
        go_meet
        exact ⟨rfl, _, _, _, HO2.out⟩
    case rest =>
      obtain ⟨rfl, a4, n4, c4, hO4⟩ := hcut
      have HR0 := Lib.hid (hO4.loc ts (by rw [List.length_append]; omega))
      have HFIN : Hid (blockN (bodyL cl lb res) = blockN (L1 ++ M)) := Lib.hid (by rw [bodyL, HL1.out, HM1.out])
      clear hO4
      obtain ⟨n, hn⟩ : ∃ n, n = blockN (L1 ++ M) := ⟨_, rfl⟩
      rw [← hn] at HR0 HFIN
      clear hn
      go_wp2
      go_loopw [10] (fun i wr => ∃ j : Int, i = .int .i64 j ∧ -1 ≤ j ∧ j < ts.length ∧ LocR ts n A w j wr) (fun i _ => (intOf i + 1).toNat)
      case atStart => exact ⟨_, rfl, by omega, by omega, HR0.out⟩
      case round =>
        obtain ⟨j, rfl, hj0, hj1, xa, xn, xc, hbox, hzero, hnd, hbl⟩ := hrel
        have HBOX := Lib.hid hbox
        have HZERO := Lib.hid hzero
        have HND := Lib.hid hnd
        have hsz3 : w.heap.size + 3 ≤ wr.heap.size := by
          rw [Array.getElem?_eq_some_iff] at hbox
          have := hbox.1; omega
        clear hbox hzero hnd
        by_cases hpos : 0 ≤ j
        · obtain ⟨q, rfl⟩ := Int.eq_ofNat_of_zero_le hpos
          have hq : q < ts.length := by omega
          have HNQ : Hid (((q : Int) + 1).toNat = q + 1) := Lib.hid (by omega)
          obtain ⟨b, off, cap, he, hb, _, _, c0, c1, hsz⟩ := (HP.out.stays (Stays.of_below hbl)).at hq
          simp only [Value.slice.injEq] at he
          obtain ⟨rfl, -, rfl⟩ := he
          have HS : Hid (∀ w1, Below wr.heap.size wr w1 → w1.cell? ⟨b, off + q * 2, none⟩ = some (.string (at' ts q).name) ∧ w1.cell? ⟨w.heap.size + 1 + 1, 0, none⟩ = some (.int .u8 57) ∧ w1.cell? ⟨w.heap.size + 1 + 1, 1, none⟩ = some (.int .i64 0) ∧ w1.cell? ⟨w.heap.size + 1 + 1, 2, none⟩ = some (.string ⟨#[]⟩) ∧ w1.cell? ⟨w.heap.size + 1 + 1, 3, none⟩ = some (.slice xa xn xc) ∧ b < w1.heap.size ∧ w.heap.size + 1 + 1 < w1.heap.size ∧ ∀ j, w1.frozen? ⟨w.heap.size + 1 + 1, j, none⟩ = false) := Lib.hid (fun w1 h1 => by
            have hr := blk_below h1 HBOX.out
            obtain ⟨r0, r1, r2, r3⟩ := cells4 hr
            exact ⟨(h1.cell (p := ⟨b, off + q * 2, none⟩) hb).trans c0, r0, r1, r2, r3, Nat.lt_of_lt_of_le hb h1.size, by rw [Array.getElem?_eq_some_iff] at hr; exact hr.1, unfrozen hr⟩)
          obtain ⟨s1, s2, s3, s4, s5, -, s7, s6⟩ := HS.out wr (Below.refl _ _)
          have i0 : (0 : Int) ≤ (q : Int) := by omega
          have i1 : (q : Int) < (ts.length : Int) := by omega
          have e1 : (-1 : Int) ≤ (q : Int) - 1 := by omega
          have e2 : (q : Int) - 1 < (ts.length : Int) := by omega
          have e3 : (intOf (.int .i64 ((q : Int) - 1)) + 1).toNat < (intOf (.int .i64 (q : Int)) + 1).toNat := by first | (simp [intOf]; done) | (simp [intOf]; omega)
          have hzc : ∀ w1 : World, Below wr.heap.size wr w1 → w.heap.size + 3 ≤ w1.heap.size := fun w1 h => Nat.le_trans hsz3 h.size
          have HSZ3 := Lib.hid hsz3
          have HBLK := Lib.hid hbl
          have HFIN2 : Hid (∀ (x : Nd) (w8 : World) (a8 : Option Addr) (c8 : Nat), blockN [x] = locN (at' ts q) ((ts.drop (q + 1)).foldr locN n) → Below wr.heap.size wr w8 → KidsAt (RD A w) w8 (.slice a8 1 c8) [x] →
              (∃ j : Int, Value.int .i64 ((q : Int) - 1) = .int .i64 j ∧ -1 ≤ j ∧ j < ts.length ∧ LocR ts n A w j ((((w8.setCell ⟨w.heap.size + 2, 0, none⟩ (.int .u8 57)).setCell ⟨w.heap.size + 2, 1, none⟩ (.int .i64 0)).setCell ⟨w.heap.size + 2, 2, none⟩ (.string ⟨#[]⟩)).setCell ⟨w.heap.size + 2, 3, none⟩ (.slice a8 1 c8))) ∧ (intOf (.int .i64 ((q : Int) - 1)) + 1).toNat < (intOf (.int .i64 (q : Int)) + 1).toNat) := Lib.hid (fun x w8 a8 c8 hx hb8 hk8 =>
            ⟨⟨(q : Int) - 1, rfl, e1, e2, locR_step hq HBOX.out HZERO.out hx hk8 HBLK.out hb8⟩, e3⟩)
          have HUP : Hid (∀ w1 : World, Below wr.heap.size wr w1 → ∀ (w2 : World) (v : Value) (l : List Nd), KidsAt (NewB (RD A w) w1) w2 v l → KidsAt (RD A w) w2 v l) := Lib.hid (fun w1 h w2 v l hk => rd_up hk (Nat.le_trans HSZ3.out h.size))
          have HRD : Hid (∀ g, wr.heap.size ≤ g → RD A w g) := Lib.hid (fun g h => rd_ge (Nat.le_trans HSZ3.out h))
          have HSZN := Lib.hid hsz
          cases hlist : (at' ts q).list with
          | true =>
            have HX : Hid (blockN [nodeN 55 (at' ts q).name [(ts.drop (q + 1)).foldr locN n]] = locN (at' ts q) ((ts.drop (q + 1)).foldr locN n)) := Lib.hid (by rw [locN, hlist]; rfl)
            have HN1 : Hid (∀ (w1 : World) (g : Nat), Below wr.heap.size wr w1 → NewBlk wr w1 g (.cells #[.int .u8 57, .int .i64 0, .string ⟨#[]⟩, .slice xa xn xc] 35 (0, 0)) → Calls Tryz.prog 41 #[.int .u8 55, .string (at' ts q).name, .slice (some ⟨g, 0, none⟩) 1 1] w1 (fun e w' => ∃ a c, e = .returned (.agg #[.int .u8 55, .int .i64 0, .string (at' ts q).name, .slice a 1 c]) ∧ KidsAt (RD A w) w' (.slice a 1 c) [(ts.drop (q + 1)).foldr locN n] ∧ Below w1.heap.size w1 w')) := Lib.hid (fun w1 g h1 hg =>
              (refNode_C 55 (at' ts q).name _ _ _ [(ts.drop (q + 1)).foldr locN n] (RD A w) w1 (kids_1 (A := RD A w) hg.1 (HRD.out g hg.2) (ndL HND.out HNQ.out h1)) (by simp)).mono fun e w' ⟨a, c, he, hk, hb⟩ => ⟨a, c, he, HUP.out w1 h1 w' _ _ hk, hb⟩)
            have HN2 : Hid (∀ (w1 : World) (g : Nat) (a5 : Option Addr) (c5 : Nat), Below wr.heap.size wr w1 → KidsAt (RD A w) w1 (.slice a5 1 c5) [(ts.drop (q + 1)).foldr locN n] → NewBlk wr w1 g (.cells #[.int .u8 55, .int .i64 0, .string (at' ts q).name, .slice a5 1 c5] 35 (0, 0)) → Calls Tryz.prog 41 #[.int .u8 57, .string ⟨#[]⟩, .slice (some ⟨g, 0, none⟩) 1 1] w1 (fun e w' => ∃ a c, e = .returned (.agg #[.int .u8 57, .int .i64 0, .string ⟨#[]⟩, .slice a 1 c]) ∧ KidsAt (RD A w) w' (.slice a 1 c) [nodeN 55 (at' ts q).name [(ts.drop (q + 1)).foldr locN n]] ∧ Below w1.heap.size w1 w')) := Lib.hid (fun w1 g a5 c5 h1 hk5 hg =>
              (refNode_C 57 ⟨#[]⟩ _ _ _ [nodeN 55 (at' ts q).name [(ts.drop (q + 1)).foldr locN n]] (RD A w) w1 (kids_1 (A := RD A w) hg.1 (HRD.out g hg.2) (nd_node hk5 ⟨by decide, by decide⟩ HSZN.out)) (by simp)).mono fun e w' ⟨a, c, he, hk, hb⟩ => ⟨a, c, he, HUP.out w1 h1 w' _ _ hk, hb⟩)
            rw [hlist] at c1
            clear hlist hzc hsz3 e1 e2 e3 hj0 hj1 hpos
            go_wp2
            go_region_law (go_simp; first
              | (go_at_call 41; (with_reducible refine (HN1.out _ _ (by (repeat (with_reducible first | exact Below.refl _ _ | refine bel_drew ?_ | refine bel_alloc ?_ | (apply bel_step; focus assumption)))) (by (repeat (with_reducible first | (refine nb_new ?_ ?_; rotate_left; (focus (simp; done)); (focus ((repeat (with_reducible first | exact hA | exact Below.refl _ _ | refine bel_drew ?_ | refine bel_alloc ?_ | (apply bel_step; focus assumption))); done))) | refine nb_drew ?_ | refine nb_alloc ?_ | (apply nb_below; focus assumption))))).mono ?_); rintro e w4 ⟨a5, c5, rfl, hk5, hb5⟩; have HK5 := Lib.hid hk5; clear hk5; obtain ⟨t1, t2, t3, t4, t5, t7, t8, t6⟩ := HS.out w4 (by (repeat (with_reducible first | exact Below.refl _ _ | refine bel_drew ?_ | refine bel_alloc ?_ | (apply bel_step; focus assumption)))))
              | (go_at_call 41; (with_reducible refine (HN2.out _ _ _ _ (by (repeat (with_reducible first | exact Below.refl _ _ | refine bel_drew ?_ | refine bel_alloc ?_ | (apply bel_step; focus assumption)))) (HK5.out.stays (Stays.of_below (by (repeat (with_reducible first | exact Below.refl _ _ | refine bel_drew ?_ | refine bel_alloc ?_ | (apply bel_step; focus assumption)))))) (by (repeat (with_reducible first | (refine nb_new ?_ ?_; rotate_left; (focus (simp; done)); (focus ((repeat (with_reducible first | exact hA | exact Below.refl _ _ | refine bel_drew ?_ | refine bel_alloc ?_ | (apply bel_step; focus assumption))); done))) | refine nb_drew ?_ | refine nb_alloc ?_ | (apply nb_below; focus assumption))))).mono ?_); rintro e w8 ⟨a8, c8, rfl, hk8, hb8⟩; have HK8 := Lib.hid hk8; clear hk8; obtain ⟨t1, t2, t3, t4, t5, t7, t8, t6⟩ := HS.out w8 (by (repeat (with_reducible first | exact Below.refl _ _ | refine bel_drew ?_ | refine bel_alloc ?_ | (apply bel_step; focus assumption))))))
            all_goals
              go_wp2
              exact HFIN2.out _ _ _ _ HX.out (by (repeat (with_reducible first | exact Below.refl _ _ | refine bel_drew ?_ | refine bel_alloc ?_ | (apply bel_step; focus assumption)))) HK8.out
          | false =>
            have HX : Hid (blockN [nodeN 54 (at' ts q).name [numN 0, (ts.drop (q + 1)).foldr locN n, numN 0]] = locN (at' ts q) ((ts.drop (q + 1)).foldr locN n)) := Lib.hid (by rw [locN, hlist]; rfl)
            have HN1 : Hid (∀ (w1 : World) (g : Nat), Below wr.heap.size wr w1 → NewBlk wr w1 g (.cells #[.int .u8 1, .int .i64 0, .string ⟨#[]⟩, .slice none 0 0, .int .u8 57, .int .i64 0, .string ⟨#[]⟩, .slice xa xn xc, .int .u8 1, .int .i64 0, .string ⟨#[]⟩, .slice none 0 0] 35 (0, 0)) → Calls Tryz.prog 41 #[.int .u8 54, .string (at' ts q).name, .slice (some ⟨g, 0, none⟩) 3 3] w1 (fun e w' => ∃ a c, e = .returned (.agg #[.int .u8 54, .int .i64 0, .string (at' ts q).name, .slice a 3 c]) ∧ KidsAt (RD A w) w' (.slice a 3 c) [numN 0, (ts.drop (q + 1)).foldr locN n, numN 0] ∧ Below w1.heap.size w1 w')) := Lib.hid (fun w1 g h1 hg =>
              (refNode_C 54 (at' ts q).name _ _ _ [numN 0, (ts.drop (q + 1)).foldr locN n, numN 0] (RD A w) w1 (kids_3 (A := RD A w) hg.1 (HRD.out g hg.2) (nd_num in64_z) (ndL HND.out HNQ.out h1) (nd_num in64_z)) (by simp)).mono fun e w' ⟨a, c, he, hk, hb⟩ => ⟨a, c, he, HUP.out w1 h1 w' _ _ hk, hb⟩)
            have HN2 : Hid (∀ (w1 : World) (g : Nat) (a5 : Option Addr) (c5 : Nat), Below wr.heap.size wr w1 → KidsAt (RD A w) w1 (.slice a5 3 c5) [numN 0, (ts.drop (q + 1)).foldr locN n, numN 0] → NewBlk wr w1 g (.cells #[.int .u8 54, .int .i64 0, .string (at' ts q).name, .slice a5 3 c5] 35 (0, 0)) → Calls Tryz.prog 41 #[.int .u8 57, .string ⟨#[]⟩, .slice (some ⟨g, 0, none⟩) 1 1] w1 (fun e w' => ∃ a c, e = .returned (.agg #[.int .u8 57, .int .i64 0, .string ⟨#[]⟩, .slice a 1 c]) ∧ KidsAt (RD A w) w' (.slice a 1 c) [nodeN 54 (at' ts q).name [numN 0, (ts.drop (q + 1)).foldr locN n, numN 0]] ∧ Below w1.heap.size w1 w')) := Lib.hid (fun w1 g a5 c5 h1 hk5 hg =>
              (refNode_C 57 ⟨#[]⟩ _ _ _ [nodeN 54 (at' ts q).name [numN 0, (ts.drop (q + 1)).foldr locN n, numN 0]] (RD A w) w1 (kids_1 (A := RD A w) hg.1 (HRD.out g hg.2) (nd_node hk5 ⟨by decide, by decide⟩ HSZN.out)) (by simp)).mono fun e w' ⟨a, c, he, hk, hb⟩ => ⟨a, c, he, HUP.out w1 h1 w' _ _ hk, hb⟩)
            rw [hlist] at c1
            clear hlist hzc hsz3 e1 e2 e3 hj0 hj1 hpos
            go_wp2
            go_region_law (go_simp; first
              | (go_at_call 44; (with_reducible refine (refNum_C _ _).mono ?_); rintro e w3 ⟨rfl, hb3⟩; obtain ⟨t1, t2, t3, t4, t5, t7, t8, t6⟩ := HS.out w3 (by (repeat (with_reducible first | exact Below.refl _ _ | refine bel_drew ?_ | refine bel_alloc ?_ | (apply bel_step; focus assumption)))))
              | (go_at_call 41; (with_reducible refine (HN1.out _ _ (by (repeat (with_reducible first | exact Below.refl _ _ | refine bel_drew ?_ | refine bel_alloc ?_ | (apply bel_step; focus assumption)))) (by (repeat (with_reducible first | (refine nb_new ?_ ?_; rotate_left; (focus (simp; done)); (focus ((repeat (with_reducible first | exact hA | exact Below.refl _ _ | refine bel_drew ?_ | refine bel_alloc ?_ | (apply bel_step; focus assumption))); done))) | refine nb_drew ?_ | refine nb_alloc ?_ | (apply nb_below; focus assumption))))).mono ?_); rintro e w4 ⟨a5, c5, rfl, hk5, hb5⟩; have HK5 := Lib.hid hk5; clear hk5; obtain ⟨t1, t2, t3, t4, t5, t7, t8, t6⟩ := HS.out w4 (by (repeat (with_reducible first | exact Below.refl _ _ | refine bel_drew ?_ | refine bel_alloc ?_ | (apply bel_step; focus assumption)))))
              | (go_at_call 41; (with_reducible refine (HN2.out _ _ _ _ (by (repeat (with_reducible first | exact Below.refl _ _ | refine bel_drew ?_ | refine bel_alloc ?_ | (apply bel_step; focus assumption)))) (HK5.out.stays (Stays.of_below (by (repeat (with_reducible first | exact Below.refl _ _ | refine bel_drew ?_ | refine bel_alloc ?_ | (apply bel_step; focus assumption)))))) (by (repeat (with_reducible first | (refine nb_new ?_ ?_; rotate_left; (focus (simp; done)); (focus ((repeat (with_reducible first | exact hA | exact Below.refl _ _ | refine bel_drew ?_ | refine bel_alloc ?_ | (apply bel_step; focus assumption))); done))) | refine nb_drew ?_ | refine nb_alloc ?_ | (apply nb_below; focus assumption))))).mono ?_); rintro e w8 ⟨a8, c8, rfl, hk8, hb8⟩; have HK8 := Lib.hid hk8; clear hk8; obtain ⟨t1, t2, t3, t4, t5, t7, t8, t6⟩ := HS.out w8 (by (repeat (with_reducible first | exact Below.refl _ _ | refine bel_drew ?_ | refine bel_alloc ?_ | (apply bel_step; focus assumption))))))
            all_goals
              go_wp2
              exact HFIN2.out _ _ _ _ HX.out (by (repeat (with_reducible first | exact Below.refl _ _ | refine bel_drew ?_ | refine bel_alloc ?_ | (apply bel_step; focus assumption)))) HK8.out
        · obtain rfl : j = -1 := by omega
          have hr := HBOX.out
          obtain ⟨r0, r1, r2, r3⟩ := cells4 hr
          have hz := HZERO.out
          obtain ⟨z0, z1, z2, z3⟩ := cells4 hz
          have zf := unfrozen hz
          clear hr hz
          go_wp2
          (try simp only [Exit.inBlock, Exit.then])
          refine bodyPost_ret (results_cell_row (P := Tryz.prog) rfl _ _ (w.heap.size + 1) _ _ _ _ rfl (set4 HZERO.out _ _ _ _) Tryz.underlying35 rfl (by kernel_rfl)) rfl ?_
          have hK4 := (((keeps_set wr (w.heap.size + 1) 0 (.int .u8 57)).same (keeps_set _ (w.heap.size + 1) 1 (.int .i64 0))).same (keeps_set _ (w.heap.size + 1) 2 (.string ⟨#[]⟩))).same (keeps_set _ (w.heap.size + 1) 3 (.slice xa xn xc))
          refine ⟨_, _, _, rfl, ?_, bel_sets4 hbl (by omega)⟩
          have hfin := HND.out
          rw [show ((-1 : Int) + 1).toNat = 0 by omega, List.drop_zero] at hfin
          rw [HFIN.out]
          refine hfin.stays ⟨hK4.size, fun b hb a => ⟨hK4.block b hb (fun e => ?_), ?_⟩⟩
          · rcases a with ⟨_, a⟩ | a <;> omega
          · rcases a with ⟨a, _⟩ | a
            · exact .inl a
            · exact .inr (by omega)
end Go.Proofs.YtehmmokkjojggabGreatDoor
