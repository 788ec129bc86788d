/- Walks of package keepgen: Proc. -/
import Derived.Test.YtehmmokkjojggabGreatDoorKgA
import Derived.Test.YtehmmokkjojggabGreatDoorKgB
import Derived.Test.YtehmmokkjojggabGreatDoorKgC
import Derived.Test.YtehmmokkjojggabGreatDoorKgE
namespace Go.Proofs.YtehmmokkjojggabGreatDoor
set_option linter.unusedVariables false
set_option linter.unusedSimpArgs false
open Go.RowKit

/-- a temporary goes to the garbage -/
def spillN (t : Par) : Nd := if t.list then callN ⟨#[108, 115, 112, 105, 108, 108]⟩ [t.name, ⟨#[103]⟩] else nodeN 44 ⟨#[103]⟩ [vN t.name]
/-- the body of the kept procedure -/
def procK (g : AFn) (kept : List ByteArray) : Nd := localsN g.temps (blockN (bindsN (keptF kept) g.body ++ [resultN g] ++ g.temps.map spillN))
def paramsK (g : AFn) : List Dcl := paramsN g ++ [⟨⟨#[103]⟩, 3⟩]
def KPost (g : AFn) (kept : List ByteArray) (w : World) (e : Ending) (w' : World) : Prop := ∃ (xa : Option Addr) (xc : Nat) (ya : Option Addr) (yn yc : Nat), e = .returned (.tuple #[if limE (paramsK g).length (procK g kept) = 0 then prV (g.name ++ ⟨#[49]⟩) xa (paramsK g).length xc 57 0 ⟨#[]⟩ ya yn yc else zeroP, .int .i64 (limE (paramsK g).length (procK g kept))]) ∧
  RowsAt DclE Any w' (.slice xa (paramsK g).length xc) (paramsK g) ∧ NdAt Any w' (.agg #[.int .u8 57, .int .i64 0, .string ⟨#[]⟩, .slice ya yn yc]) (procK g kept) ∧ Below w.heap.size w w'
/-- behind the making of a tree that lies in a block -/
def CutM (g : AFn) (pa ta ba : Option Addr) (pc tc bc : Nat) (n : Nd) (w : World) (s : Value) (wx : World) : Prop :=
  ∃ (gb : Nat) (a : Option Addr) (m c : Nat), s = .pointer (some ⟨gb, 0, none⟩) ∧ wx.heap[gb]? = some (.cells #[.int .u8 57, .int .i64 0, .string ⟨#[]⟩, .slice a m c] 35 (0, 0)) ∧ NdAt (Up (w.heap.size + 2)) wx (.agg #[.int .u8 57, .int .i64 0, .string ⟨#[]⟩, .slice a m c]) n ∧ PBox g pa ta ba pc tc bc w wx ∧ Below w.heap.size w wx
theorem PBox.below {g : AFn} {pa ta ba : Option Addr} {pc tc bc : Nat} {w w1 w2 : World} (h : PBox g pa ta ba pc tc bc w w1) (hb : Below w1.heap.size w1 w2) : PBox g pa ta ba pc tc bc w w2 := ⟨blk_below hb h.1, blk_below hb h.2⟩
theorem cutM_new {g : AFn} {pa ta ba : Option Addr} {pc tc bc : Nat} {n : Nd} {w w9 : World} {A : Nat → Prop} {a : Option Addr} {m c : Nat} (hk : NdAt A w9 (.agg #[.int .u8 57, .int .i64 0, .string ⟨#[]⟩, .slice a m c]) n) (hA : ∀ b, A b → w.heap.size + 2 ≤ b) (hp : PBox g pa ta ba pc tc bc w w9) (hb : Below w.heap.size w w9) :
    CutM g pa ta ba pc tc bc n w (.pointer (some ⟨w9.heap.size, 0, none⟩)) (w9.alloc (.cells #[.int .u8 57, .int .i64 0, .string ⟨#[]⟩, .slice a m c] 35)) :=
  ⟨w9.heap.size, a, m, c, rfl, at_new0 _ _, hk.stays ⟨(bel_alloc (Below.refl _ _)).size, fun b hb a => ⟨(bel_alloc (Below.refl w9.heap.size w9)).block b hb, hA b a⟩⟩, hp.below (bel_alloc (Below.refl _ _)), bel_alloc hb⟩
theorem cutM_set {g : AFn} {pa ta ba : Option Addr} {pc tc bc : Nat} {n : Nd} {w wx : World} {A : Nat → Prop} {gb : Nat} {a : Option Addr} {m c : Nat} (hk : NdAt A wx (.agg #[.int .u8 57, .int .i64 0, .string ⟨#[]⟩, .slice a m c]) n) (hz : wx.heap[gb]? = some (.cells #[.int .u8 0, .int .i64 0, .string ⟨#[]⟩, .slice none 0 0] 35)) (hne : ∀ b, b < wx.heap.size → A b → b ≠ gb) (hA : ∀ b, A b → w.heap.size + 2 ≤ b) (hg : w.heap.size + 2 ≤ gb) (hp : PBox g pa ta ba pc tc bc w wx) (hb : Below w.heap.size w wx) :
    CutM g pa ta ba pc tc bc n w (.pointer (some ⟨gb, 0, none⟩)) ((((wx.setCell ⟨gb, 0, none⟩ (.int .u8 57)).setCell ⟨gb, 1, none⟩ (.int .i64 0)).setCell ⟨gb, 2, none⟩ (.string ⟨#[]⟩)).setCell ⟨gb, 3, none⟩ (.slice a m c)) := by
  have hK4 := (((keeps_set wx gb 0 (.int .u8 57)).same (keeps_set _ gb 1 (.int .i64 0))).same (keeps_set _ gb 2 (.string ⟨#[]⟩))).same (keeps_set _ gb 3 (.slice a m c))
  exact ⟨gb, a, m, c, rfl, set4 hz _ _ _ _, hk.stays ⟨hK4.size, fun b hb a => ⟨hK4.block b hb (hne b hb a), hA b a⟩⟩, ⟨blk_sets4 hp.1 (by omega), blk_sets4 hp.2 (by omega)⟩, bel_sets4 hb (by omega)⟩
/-- the statements so far, a row of the call's own -/
def CutI (g : AFn) (pa ta ba : Option Addr) (pc tc bc : Nat) (l : List Nd) (w : World) (s : Value) (wx : World) : Prop :=
  ∃ (a : Option Addr) (c : Nat), s = .slice a l.length c ∧ RowsOwn NdE 35 (Up (w.heap.size + 2)) (w.heap.size + 2) wx (.slice a l.length c) l ∧ PBox g pa ta ba pc tc bc w wx ∧ Below w.heap.size w wx ∧ w.heap.size + 2 ≤ wx.heap.size
theorem app_one {B : Nat} {w5 w6 : World} {a : Option Addr} {n c : Nat} {l : List Nd} {x0 x1 x2 x3 : Value} {x : Nd} (h : RowsOwn NdE 35 (Up B) B w5 (.slice a n c) l) (hb : Below w5.heap.size w5 w6) (hB : B ≤ w5.heap.size) (hk : NdAt (Up w5.heap.size) w6 (.agg #[x0, x1, x2, x3]) x) :
    RowsOwn NdE 35 (Up B) B (w6.alloc (.cells #[x0, x1, x2, x3] 35)) (.slice a n c) l ∧ RowsAt NdE (Up w5.heap.size) (w6.alloc (.cells #[x0, x1, x2, x3] 35)) (.slice (some ⟨w6.heap.size, 0, none⟩) 1 1) [x] ∧ ∀ b, b < (w6.alloc (.cells #[x0, x1, x2, x3] 35)).heap.size → Up w5.heap.size b → Up B b ∧ (Value.slice a n c).ownBlock ≠ some b :=
  ⟨(h.below hb).below (bel_alloc (Below.refl _ _)), kids_rows.1 (kids_1 (A := Up w5.heap.size) (heap_alloc_new w6 _) hb.size (hk.stays (Stays.of_below (bel_alloc (Below.refl _ _))))), fun b _ d => ⟨Nat.le_trans hB d, fun e => by
    have h1 := (h.lt e).2
    have h2 : w5.heap.size ≤ b := d
    omega⟩⟩
theorem cutI_app {g : AFn} {pa ta ba : Option Addr} {pc tc bc : Nat} {l : List Nd} {x : Nd} {w w5 W w4 : World} {a a2 : Option Addr} {c c2 : Nat} (h5 : RowsOwn NdE 35 (Up (w.heap.size + 2)) (w.heap.size + 2) w5 (.slice a l.length c) l) (hp : PBox g pa ta ba pc tc bc w w5) (hb : Below w.heap.size w w5) (hs : w.heap.size + 2 ≤ w5.heap.size) (hW : Below w5.heap.size w5 W)
    (hg : W.grownBy w4 (Value.slice a l.length c).ownBlock) (h4 : RowsOwn NdE 35 (Up (w.heap.size + 2)) (w.heap.size + 2) w4 (.slice a2 (l.length + 1) c2) (l ++ [x])) : CutI g pa ta ba pc tc bc (l ++ [x]) w (.slice a2 (l.length + 1) c2) w4 := by
  have e : (l ++ [x]).length = l.length + 1 := by simp
  have hpW := hp.below hW
  have hbW := hb.trans (hW.mono hb.size)
  have hk : ∀ q, q < w.heap.size + 2 → w4.heap[q]? = W.heap[q]? := fun q hq => hg.block q (by have := hW.size; omega) (fun e => by have := (h5.lt e.symm).1; omega)
  exact ⟨a2, c2, by rw [e], by rw [e]; exact h4, ⟨(hk _ (by omega)).trans hpW.1, (hk _ (by omega)).trans hpW.2⟩, hbW.grown hg hbW.size (fun j e => by have := (h5.lt e).1; omega), by have := hg.size; have := hW.size; omega⟩
theorem paramsK_len (g : AFn) : (paramsK g).length = (paramsN g).length + 1 := by simp [paramsK]
theorem kpost_yes {g : AFn} {kept : List ByteArray} {w w9 : World} {xa ya : Option Addr} {xc yn yc : Nat} (hL : limE (paramsK g).length (procK g kept) = 0) (hb : Below w.heap.size w w9) (hv : RowsAt DclE (Up (w.heap.size + 2)) w9 (.slice xa (paramsK g).length xc) (paramsK g))
    (hn : NdAt (Up (w.heap.size + 2)) w9 (.agg #[.int .u8 57, .int .i64 0, .string ⟨#[]⟩, .slice ya yn yc]) (procK g kept)) (x0 x1 x2 x3 x4 x5 : Value) :
    KPost g kept w (.returned (.tuple #[prV (g.name ++ ⟨#[49]⟩) xa ((paramsN g).length + 1) xc 57 0 ⟨#[]⟩ ya yn yc, .int .i64 0])) ((((((w9.setCell ⟨w.heap.size + 1, 0, none⟩ x0).setCell ⟨w.heap.size + 1, 1, none⟩ x1).setCell ⟨w.heap.size + 1, 2, none⟩ x2).setCell ⟨w.heap.size + 1, 3, none⟩ x3).setCell ⟨w.heap.size + 1, 4, none⟩ x4).setCell ⟨w.heap.size + 1, 5, none⟩ x5) := by
  have hK := keeps_set6 w9 (w.heap.size + 1) x0 x1 x2 x3 x4 x5
  have hs : ∀ b, b < w9.heap.size → Up (w.heap.size + 2) b → ¬ b = w.heap.size + 1 := fun b _ a e => by have : w.heap.size + 2 ≤ b := a; omega
  refine ⟨xa, xc, ya, yn, yc, by rw [if_pos hL, hL, paramsK_len], hv.stays ⟨hK.size, fun b hb a => ⟨hK.block b hb (hs b hb a), trivial⟩⟩, hn.stays ⟨hK.size, fun b hb a => ⟨hK.block b hb (hs b hb a), trivial⟩⟩, below_sets6 hb (by omega)⟩
theorem kpost_no {g : AFn} {kept : List ByteArray} {w w9 : World} {xa ya : Option Addr} {xc yn yc : Nat} {LE : Int} (hE : LE = limE (paramsK g).length (procK g kept)) (hL : ¬ LE = 0) (hb : Below w.heap.size w w9) (hv : RowsAt DclE (Up (w.heap.size + 2)) w9 (.slice xa (paramsK g).length xc) (paramsK g))
    (hn : NdAt (Up (w.heap.size + 2)) w9 (.agg #[.int .u8 57, .int .i64 0, .string ⟨#[]⟩, .slice ya yn yc]) (procK g kept)) (x0 x1 x2 x3 x4 x5 : Value) :
    KPost g kept w (.returned (.tuple #[zeroP, .int .i64 LE])) ((((((w9.setCell ⟨w.heap.size + 1, 0, none⟩ x0).setCell ⟨w.heap.size + 1, 1, none⟩ x1).setCell ⟨w.heap.size + 1, 2, none⟩ x2).setCell ⟨w.heap.size + 1, 3, none⟩ x3).setCell ⟨w.heap.size + 1, 4, none⟩ x4).setCell ⟨w.heap.size + 1, 5, none⟩ x5) := by
  subst hE
  have hK := keeps_set6 w9 (w.heap.size + 1) x0 x1 x2 x3 x4 x5
  have hs : ∀ b, b < w9.heap.size → Up (w.heap.size + 2) b → ¬ b = w.heap.size + 1 := fun b _ a e => by have : w.heap.size + 2 ≤ b := a; omega
  refine ⟨xa, xc, ya, yn, yc, by rw [if_neg hL], hv.stays ⟨hK.size, fun b hb a => ⟨hK.block b hb (hs b hb a), trivial⟩⟩, hn.stays ⟨hK.size, fun b hb a => ⟨hK.block b hb (hs b hb a), trivial⟩⟩, below_sets6 hb (by omega)⟩
theorem cells3 {w : World} {b e : Nat} {v0 v1 v2 : Value} (h : w.heap[b]? = some (.cells #[v0, v1, v2] e (0, 0))) : w.cell? ⟨b, 0, none⟩ = some v0 ∧ w.cell? ⟨b, 1, none⟩ = some v1 ∧ w.cell? ⟨b, 2, none⟩ = some v2 :=
  ⟨cell_blk h 0 rfl, cell_blk h 1 rfl, cell_blk h 2 rfl⟩
theorem dcl_g {A : Nat → Prop} {w : World} {g : Nat} (h : w.heap[g]? = some (.cells #[.string ⟨#[103]⟩, .int .u8 3, .int .i64 0] 59 (0, 0))) (hA : A g) : RowsAt DclE A w (.slice (some ⟨g, 0, none⟩) 1 1) [⟨⟨#[103]⟩, 3⟩] :=
  dcl_1 (s := ⟨#[103]⟩) (b := true) h hA (by unfold maxLen; decide)
theorem dcl_shut {e b : Nat} {D A : Nat → Prop} {w : World} {v : Value} {l : List Dcl} (h : RowsOwn DclE e D b w v l) (hA : ∀ k, b ≤ k → A k) (hl : l.length ≤ maxLen) : RowsAt DclE A w v l := by
  obtain ⟨xs, hx, hf⟩ := h
  have h2 : RowsOwn DclE e A b w v l := ⟨xs, hx, fun j hj => hf j hj⟩
  exact h2.shut (fun _ a => a) (fun k e => hA k (h2.lt e).1) hl
/-- a world that has grown, but for one block -/
def Near (W0 : World) (q : Nat) (w2 : World) : Prop := ∃ w1, Below W0.heap.size W0 w1 ∧ Keeps w1 w2 (fun k => k = q)
theorem near_bel {W0 w1 : World} {q : Nat} (h : Below W0.heap.size W0 w1) : Near W0 q w1 := ⟨w1, h, Keeps.refl _ _⟩
theorem near_drew {W0 w1 : World} {q : Nat} (h : Near W0 q w1) : Near W0 q w1.drew := by obtain ⟨w, a, b⟩ := h; exact ⟨w, a, b.drew 1⟩
theorem near_set {W0 w1 : World} {q j : Nat} {x : Value} (h : Near W0 q w1) : Near W0 q (w1.setCell ⟨q, j, none⟩ x) := by obtain ⟨w, a, b⟩ := h; exact ⟨w, a, b.same (keeps_set _ _ _ _)⟩
set_option maxRecDepth 100000 in
set_option maxHeartbeats 12800000 in
theorem kproc_K (g : AFn) (pa ta ba : Option Addr) (pc tc bc : Nat) (ka : Option Addr) (kc : Nat) (kept : List ByteArray) (w : World) (hp : ParsAt Any w (.slice pa g.params.length pc) g.params) (ht : ParsAt Any w (.slice ta g.temps.length tc) g.temps) (hb : BdsAt Any w (.slice ba g.body.length bc) g.body) (hr : g.result.size ≤ maxLen) (hn : g.name.size ≤ 140737488355328)
    (hz : sizeBs g.body ≤ 10000) (htl : g.temps.length ≤ 4000) (hpl : g.params.length ≤ 8) (hsz : sizeN (procK g kept) ≤ 1000000) (hk : StrsAt Any w (.slice ka kept.length kc) kept) (hks : ∀ s ∈ kept, s.size ≤ 140737488355328) :
    Calls Tryz.prog 30 #[.agg #[.string g.name, .slice pa g.params.length pc, .bool g.list, .slice ta g.temps.length tc, .slice ba g.body.length bc, .string g.result], .slice ka kept.length kc] w (KPost g kept w) := by
  obtain ⟨W, hW⟩ : ∃ W, W = (w.alloc (.cells #[.string g.name, .slice pa g.params.length pc, .bool g.list, .slice ta g.temps.length tc, .slice ba g.body.length bc, .string g.result] 31)).alloc (.cells #[.string ⟨#[]⟩, .slice none 0 0, .int .u8 0, .int .i64 0, .string ⟨#[]⟩, .slice none 0 0] 52) := ⟨_, rfl⟩
  have hB : Below w.heap.size w W := by subst hW; exact bel_alloc (bel_alloc (Below.refl _ _))
  have HBW := Lib.hid hB
  have HWS : Hid (W.heap.size = w.heap.size + 2) := Lib.hid (by subst hW; simp)
  have HBX : Hid (PBox g pa ta ba pc tc bc w W) := Lib.hid (by subst hW; exact ⟨at_old w _ _, at_new w _ _⟩)
  have HFF : Hid (∀ w1, Below W.heap.size W w1 → w1.cell? ⟨w.heap.size, 0, none⟩ = some (.string g.name) ∧ w1.cell? ⟨w.heap.size, 1, none⟩ = some (.slice pa g.params.length pc) ∧ w1.cell? ⟨w.heap.size, 2, none⟩ = some (.bool g.list) ∧ w1.cell? ⟨w.heap.size, 3, none⟩ = some (.slice ta g.temps.length tc) ∧ w1.cell? ⟨w.heap.size, 4, none⟩ = some (.slice ba g.body.length bc) ∧ w1.cell? ⟨w.heap.size, 5, none⟩ = some (.string g.result)) := Lib.hid (fun w1 h => cells6 (blk_below h HBX.out.1))
  have HP := Lib.hid hp
  have HT := Lib.hid ht
  have HC1 : Hid (∀ w1, Below W.heap.size W w1 → Calls Tryz.prog 68 #[.slice ka kept.length kc] w1 (fun e w' => ∃ g, e = .returned (.func (.func 106) #[] #[.pointer (some ⟨g, 0, none⟩)]) ∧ w'.heap[g]? = some (.cells #[.slice ka kept.length kc] 23 (0, 0)) ∧ Below w1.heap.size w1 w')) := Lib.hid (fun w1 _ => caller_K ka kept.length kc w1)
  have HC2 : Hid (∀ w1 gk, Below W.heap.size W w1 → w1.heap[gk]? = some (.cells #[.slice ka kept.length kc] 23 (0, 0)) → Calls Tryz.prog 11 #[.agg #[.string g.name, .slice pa g.params.length pc, .bool g.list, .slice ta g.temps.length tc, .slice ba g.body.length bc, .string g.result], .func (.func 106) #[] #[.pointer (some ⟨gk, 0, none⟩)]] w1 (fun e w' => ∃ a c, e = .returned (.tuple #[.agg #[.int .u8 57, .int .i64 0, .string ⟨#[]⟩, .slice a (bindsN (keptF kept) g.body).length c], .int .i64 0]) ∧ NdAt (fun b => w1.heap.size ≤ b ∧ b < w'.heap.size) w' (.agg #[.int .u8 57, .int .i64 0, .string ⟨#[]⟩, .slice a (bindsN (keptF kept) g.body).length c]) (blockN (bindsN (keptF kept) g.body)) ∧ Below w1.heap.size w1 w')) := Lib.hid (fun w1 gk hw hg =>
    (compute_C g pa ta ba pc tc bc _ (keptF kept) w1 ((hb.stays (Stays.of_below hB)).stays (Stays.of_below hw)) (caller_clos hks hg ((hk.stays (Stays.of_below hB)).stays (Stays.of_below hw))) (by omega)).mono fun e w' ⟨a, n, c, he, h, hb⟩ => by
      obtain ⟨_, a', c', e'⟩ := h.form
      simp only [Value.slice.injEq] at e'
      obtain ⟨rfl, rfl, rfl⟩ := e'
      exact ⟨a, c, he, (nd_node (k := 57) (s := ⟨#[]⟩) h (by omega) (Nat.zero_le _)).stays ⟨Nat.le_refl _, fun b hb a => ⟨rfl, a, hb⟩⟩, hb⟩)
  clear hp ht hb hk hB
  subst hW
  go_enter Tryz.func30, Tryz.ntmps30
  go_wp2
  generalize (w.alloc (.cells #[.string g.name, .slice pa g.params.length pc, .bool g.list, .slice ta g.temps.length tc, .slice ba g.body.length bc, .string g.result] 31)).alloc (.cells #[.string ⟨#[]⟩, .slice none 0 0, .int .u8 0, .int .i64 0, .string ⟨#[]⟩, .slice none 0 0] 52) = W at *
  go_cut [6, 7] (fun s e wx => e = .int .i64 0 ∧ CutM g pa ta ba pc tc bc (blockN (bindsN (keptF kept) g.body)) w s wx)
  case first =>
    go_region_held3 (fun w1 => w1.cell? ⟨w.heap.size, 0, none⟩ = some (.string g.name) ∧ w1.cell? ⟨w.heap.size, 1, none⟩ = some (.slice pa g.params.length pc) ∧ w1.cell? ⟨w.heap.size, 2, none⟩ = some (.bool g.list) ∧ w1.cell? ⟨w.heap.size, 3, none⟩ = some (.slice ta g.temps.length tc) ∧ w1.cell? ⟨w.heap.size, 4, none⟩ = some (.slice ba g.body.length bc) ∧ w1.cell? ⟨w.heap.size, 5, none⟩ = some (.string g.result)) (with_reducible exact HFF.out _ (by (repeat (with_reducible first | exact Below.refl _ _ | refine bel_drew ?_ | refine bel_alloc ?_ | (refine bel_sets4 ?_ ?_; rotate_left; (focus (first | exact Nat.le_refl _ | exact Below.size (by (repeat (with_reducible first | exact Below.refl _ _ | refine bel_drew ?_ | refine bel_alloc ?_ | (apply bel_step; focus assumption))))))) | (apply bel_step; focus assumption)))))
      (first
      | (go_at_call 68; (with_reducible refine (HC1.out _ (by (repeat (with_reducible first | exact Below.refl _ _ | refine bel_drew ?_ | refine bel_alloc ?_ | (apply bel_step; focus assumption))))).mono ?_); rintro e w5 ⟨gk, rfl, hgk, hb5⟩; have HGK := Lib.hid hgk; clear hgk)
      | (go_at_call 11; (with_reducible refine (HC2.out _ _ (by (repeat (with_reducible first | exact Below.refl _ _ | refine bel_drew ?_ | refine bel_alloc ?_ | (apply bel_step; focus assumption)))) (blk_below (by (repeat (with_reducible first | exact Below.refl _ _ | refine bel_drew ?_ | refine bel_alloc ?_ | (apply bel_step; focus assumption)))) HGK.out)).mono ?_); rintro e w9 ⟨a9, c9, rfl, hn9, hb9⟩; have HN9 := Lib.hid hn9; clear hn9; (first | (refine blk_use w9 W.heap.size ?_ (fun g0 g1 g2 g3 gf => ?_); focus ((repeat (with_reducible first | (refine blk_new ?_; (simp; done)) | refine blk_drew ?_ | refine blk_alloc ?_ | (apply blk_below; focus assumption))); done)) | skip); (first | (refine blk_use w9 w5.heap.size ?_ (fun g0 g1 g2 g3 gf => ?_); focus ((repeat (with_reducible first | (refine blk_new ?_; (simp; done)) | refine blk_drew ?_ | refine blk_alloc ?_ | (apply blk_below; focus assumption))); done)) | skip)))
    all_goals
      have hz5 := hb5.size
      have hz9 := hb9.size
      (try simp only [World.size_alloc, World.size_drew] at hz5 hz9)
      have hw9 : Below W.heap.size W w9 := (by (repeat (with_reducible first | exact Below.refl _ _ | refine bel_drew ?_ | refine bel_alloc ?_ | (apply bel_step; focus assumption))))
      have hp9 := HBX.out.below hw9
      have HB9 := Lib.hid (HBW.out.trans (hw9.mono HBW.out.size))
      have hws := HWS.out
      have hsw9 := hw9.size
      clear hw9
      go_wp2
      go_meet
      first
      | (refine ⟨rfl, ?_⟩; (with_reducible refine cutM_new HN9.out ?_ hp9 HB9.out); (focus (intro b ha; (try simp only [World.size_alloc, World.size_drew] at ha); omega)))
      | (refine ⟨rfl, ?_⟩; (with_reducible refine cutM_set HN9.out ?_ ?_ ?_ ?_ hp9 HB9.out); (focus ((repeat (with_reducible first | (refine blk_new ?_; (simp; done)) | refine blk_drew ?_ | refine blk_alloc ?_ | (apply blk_below; focus assumption))); done)); (focus (intro b hb ha; (try simp only [World.size_alloc, World.size_drew] at ha); omega)); (focus (intro b ha; (try simp only [World.size_alloc, World.size_drew] at ha); omega)); (focus omega))
  case rest =>
    obtain ⟨rfl, gb, ca, cn, cc, rfl, hG, hN, hPB, hBw⟩ := hcut
    clear HC1 HC2 HFF HBX HWS HBW
    have HG := Lib.hid hG
    have HN := Lib.hid hN
    have HPB := Lib.hid hPB
    have HBC := Lib.hid hBw
    obtain ⟨f0, f1, f2, f3, f4, f5⟩ := cells6 hPB.1
    obtain ⟨n0, n1, n2, n3⟩ := cells4 hG
    clear hG hN hPB hBw
    have hlb : (bindsN (keptF kept) g.body).length ≤ 20000 := by have := bindsN_len (keptF kept) g.body; have := len_sizeBs g.body; omega
    have HFC : Hid (∀ w1, Below wc.heap.size wc w1 → w1.cell? ⟨gb, 3, none⟩ = some (.slice ca cn cc) ∧ w1.cell? ⟨w.heap.size, 0, none⟩ = some (.string g.name) ∧ w1.cell? ⟨w.heap.size, 1, none⟩ = some (.slice pa g.params.length pc) ∧ w1.cell? ⟨w.heap.size, 2, none⟩ = some (.bool g.list) ∧ w1.cell? ⟨w.heap.size, 3, none⟩ = some (.slice ta g.temps.length tc) ∧ w1.cell? ⟨w.heap.size, 4, none⟩ = some (.slice ba g.body.length bc) ∧ w1.cell? ⟨w.heap.size, 5, none⟩ = some (.string g.result)) := Lib.hid (fun w1 h => ⟨(cells4 (blk_below h HG.out)).2.2.2, cells6 (blk_below h HPB.out.1)⟩)
    have hcs2 : w.heap.size + 2 ≤ wc.heap.size := by
      have := HPB.out.2
      rw [Array.getElem?_eq_some_iff] at this
      have := this.1; omega
    have HCS := Lib.hid hcs2
    have HC3 : Hid (∀ w1, Below wc.heap.size wc w1 → Calls Tryz.prog 69 #[.slice ca cn cc] w1 (fun e w' => ∃ a c, e = .returned (.slice a (bindsN (keptF kept) g.body).length c) ∧ RowsOwn NdE 35 (Up (w.heap.size + 2)) (w.heap.size + 2) w' (.slice a (bindsN (keptF kept) g.body).length c) (bindsN (keptF kept) g.body) ∧ Below w1.heap.size w1 w')) := Lib.hid (fun w1 h => (clone_N _ (bindsN (keptF kept) g.body) (Up (w.heap.size + 2)) w1 (kids_rows.1 ((ndKids HN.out).stays (Stays.of_below h))) (by omega)).mono fun e w' ⟨a, c, he, hr, hb⟩ => ⟨a, c, he, (hr.mono (fun _ a => a.1)).base_le (Nat.le_trans HCS.out h.size), hb⟩)
    have HC4 : Hid (∀ w1, Below wc.heap.size wc w1 → Calls Tryz.prog 70 #[.agg #[.string g.name, .slice pa g.params.length pc, .bool g.list, .slice ta g.temps.length tc, .slice ba g.body.length bc, .string g.result]] w1 (fun e w' => ∃ k ka kn kc, e = .returned (.agg #[.int .u8 k, .int .i64 0, .string (resultN g).name, .slice ka kn kc]) ∧ NdAt (Up w1.heap.size) w' (.agg #[.int .u8 k, .int .i64 0, .string (resultN g).name, .slice ka kn kc]) (resultN g) ∧ Below w1.heap.size w1 w')) := Lib.hid (fun w1 h => result_K g pa ta ba pc tc bc w1 hr)
    clear hcs2
    go_wp2
    go_cut [8] (fun s wx => CutI g pa ta ba pc tc bc (bindsN (keptF kept) g.body ++ [resultN g]) w s wx)
    case first =>
      go_region_law (first
        | (refine step_rows TNd rfl (by decide) (by rfl) (.tmp 25) (.tmp 28) (by rfl) (by rfl) (by rfl) HA6.out.1 HA6.out.2.1 HA6.out.2.2 (by unfold maxLen; simp; omega) (by simp; omega) (Nat.le_trans (Nat.le_trans HCS.out HW5.out.size) (Nat.le_trans HW6.out.size (bel_alloc (Below.refl w6.heap.size w6)).size)) ?_; intro a7 c7 w7 h7 hg7 hn7; have HI7 := Lib.hid (cutI_app HR5.out (HPB.out.below HW5.out) (HBC.out.trans (HW5.out.mono HBC.out.size)) (Nat.le_trans HCS.out HW5.out.size) (bel_alloc HW6.out) hg7 h7); clear h7 hg7 hn7)
        | (go_simp; first
        | (go_at_call 69; (with_reducible refine (HC3.out _ (by (repeat (with_reducible first | exact Below.refl _ _ | refine bel_drew ?_ | refine bel_alloc ?_ | (apply bel_step; focus assumption))))).mono ?_); rintro e w5 ⟨a5, c5, rfl, hr5, hb5⟩; have HR5 := Lib.hid hr5; have HW5 : Hid (Below wc.heap.size wc w5) := Lib.hid (by (repeat (with_reducible first | exact Below.refl _ _ | refine bel_drew ?_ | refine bel_alloc ?_ | (apply bel_step; focus assumption)))); clear hr5; obtain ⟨t0, t1, t2, t3, t4, t5, t6⟩ := HFC.out w5 (by (repeat (with_reducible first | exact Below.refl _ _ | refine bel_drew ?_ | refine bel_alloc ?_ | (apply bel_step; focus assumption)))))
        | (go_at_call 70; (with_reducible refine (HC4.out _ (by (repeat (with_reducible first | exact Below.refl _ _ | refine bel_drew ?_ | refine bel_alloc ?_ | (apply bel_step; focus assumption))))).mono ?_); rintro e w6 ⟨rk, ra, rn, rc, rfl, hn6, hb6⟩; have HA6 := Lib.hid (app_one HR5.out ((by (repeat (with_reducible first | exact Below.refl _ _ | refine bel_drew ?_ | refine bel_alloc ?_ | (apply bel_step; focus assumption)))) : Below w5.heap.size w5 w6) (Nat.le_trans HCS.out HW5.out.size) (hn6.stays (stays_upup (by first | exact Nat.le_refl _ | (simp; done))))); have HW6 : Hid (Below w5.heap.size w5 w6) := Lib.hid (by (repeat (with_reducible first | exact Below.refl _ _ | refine bel_drew ?_ | refine bel_alloc ?_ | (apply bel_step; focus assumption)))); clear hn6; obtain ⟨t0, t1, t2, t3, t4, t5, t6⟩ := HFC.out w6 (by (repeat (with_reducible first | exact Below.refl _ _ | refine bel_drew ?_ | refine bel_alloc ?_ | (apply bel_step; focus assumption)))))
        | fail))
      all_goals
        go_wp2
        go_meet
        exact HI7.out
    case rest =>
      obtain ⟨ia, ic, rfl, hI, hPB2, hB2, hS2⟩ := hcut
      have HPB2 := Lib.hid hPB2
      clear f0 f1 f2 f3 f4 f5 n0 n1 n2 n3
      obtain ⟨f0, f1, f2, f3, f4, f5⟩ := cells6 hPB2.1
      obtain ⟨L0, hL0⟩ : ∃ L0, L0 = bindsN (keptF kept) g.body ++ [resultN g] := ⟨_, rfl⟩
      have hl0 : L0.length ≤ 20001 := by rw [hL0]; simp; omega
      rw [← hL0] at hI ⊢
      have HL0 := Lib.hid hL0
      have HI0 : Hid (CutI g pa ta ba pc tc bc (L0 ++ (g.temps.take 0).map spillN) w (.slice ia L0.length ic) wc) := Lib.hid (by rw [List.take_zero, List.map_nil, List.append_nil]; exact ⟨ia, ic, rfl, hI, hPB2, hB2, hS2⟩)
      clear hL0
      have HTC := Lib.hid (HT.out.stays (Stays.of_below hB2))
      have HBC2 := Lib.hid hB2
      clear hI hPB2 hB2 hS2 HC3 HC4 HFC HCS HN HG HPB HBC
      go_wp2
      go_loopw [8, 33] (fun v i wr => ∃ k : Nat, k ≤ g.temps.length ∧ i = .int .i64 k ∧ CutI g pa ta ba pc tc bc (L0 ++ (g.temps.take k).map spillN) w v wr) (fun _ i _ => g.temps.length - (intOf i).toNat)
      case atStart => exact ⟨0, Nat.zero_le _, rfl, HI0.out⟩
      case round =>
        obtain ⟨k, hk, rfl, ja, jc, rfl, hI, hPBk, hBk, hSk⟩ := hrel
        have HIK := Lib.hid hI
        have HPBK := Lib.hid hPBk
        have HBK := Lib.hid hBk
        have HSK := Lib.hid hSk
        have hlk : (L0 ++ (g.temps.take k).map spillN).length ≤ 25000 := by simp; omega
        by_cases hlt : k < g.temps.length
        · obtain ⟨b, off, cap, he, hb, _, _, c0, c1, hsn⟩ := (HT.out.stays (Stays.of_below hBk)).at hlt
          simp only [Value.slice.injEq] at he
          obtain ⟨rfl, -, rfl⟩ := he
          have HNX : Hid (L0 ++ (g.temps.take (k + 1)).map spillN = (L0 ++ (g.temps.take k).map spillN) ++ [spillN (at' g.temps k)]) := Lib.hid (by rw [List.take_succ_eq_append_getElem hlt, List.map_append, at_eq hlt, List.append_assoc]; rfl)
          have hmea : g.temps.length - (k + 1) < g.temps.length - k := by omega
          have HME := Lib.hid hmea
          have HSN := Lib.hid hsn
          generalize hLL : L0 ++ (g.temps.take k).map spillN = LL at *
          clear hI hPBk hBk hSk hmea hLL
          cases hli : (at' g.temps k).list with
          | true =>
            rw [hli] at c1
            have HSP : Hid (spillN (at' g.temps k) = callN ⟨#[108, 115, 112, 105, 108, 108]⟩ [(at' g.temps k).name, ⟨#[103]⟩]) := Lib.hid (by unfold spillN; rw [if_pos hli])
            clear hli
            have HIV : Hid (∀ (w1 : World) (gq : Nat), Below wr.heap.size wr w1 → w1.heap[gq]? = some (.cells #[.string (at' g.temps k).name, .string ⟨#[103]⟩] 9 (0, 0)) → Calls Tryz.prog 71 #[.string ⟨#[108, 115, 112, 105, 108, 108]⟩, .slice (some ⟨gq, 0, none⟩) 2 2] w1 (fun e w' => ∃ ka kn kc, e = .returned (.agg #[.int .u8 50, .int .i64 0, .string ⟨#[108, 115, 112, 105, 108, 108]⟩, .slice ka kn kc]) ∧ NdAt (Up wr.heap.size) w' (.agg #[.int .u8 50, .int .i64 0, .string ⟨#[108, 115, 112, 105, 108, 108]⟩, .slice ka kn kc]) (callN ⟨#[108, 115, 112, 105, 108, 108]⟩ [(at' g.temps k).name, ⟨#[103]⟩]) ∧ Below w1.heap.size w1 w')) := Lib.hid (fun w1 gq h1 hg => invoke_KV wr.heap.size ⟨#[108, 115, 112, 105, 108, 108]⟩ (some ⟨gq, 0, none⟩) 2 2 [(at' g.temps k).name, ⟨#[103]⟩] w1 (A := Any) h1.size (strs_2 hg trivial HSN.out (by unfold maxLen; decide)) (by unfold maxLen; decide) (by simp))
            go_wp2_with (first
              | (at_builtin; refine wpl_rows TNd rfl (by decide) rfl (.tmp 39) (.tmp 44) rfl rfl rfl HA6.out.1 HA6.out.2.1 HA6.out.2.2 (by simp; unfold maxLen; omega) (by simp; omega) (Nat.le_trans HSK.out (bel_alloc (x := .cells #[.int .u8 50, .int .i64 0, .string ⟨#[108, 115, 112, 105, 108, 108]⟩, .slice xa xn xc] 35) HW6.out).size) ?_; intro a7 c7 w7 h7 hg7 hn7; have HI7 := Lib.hid (cutI_app HIK.out HPBK.out HBK.out HSK.out (bel_alloc HW6.out) hg7 h7); clear h7 hg7 hn7)
              | (go_at_call 71; refine (HIV.out _ _ (by (repeat (with_reducible first | exact Below.refl _ _ | refine bel_drew ?_ | refine bel_alloc ?_ | (apply bel_step; focus assumption)))) (by (repeat (with_reducible first | (refine blk_new ?_; (simp; done)) | (refine blk_new ?_; rfl) | refine blk_drew ?_ | refine blk_alloc ?_ | (apply blk_below; focus assumption))))).mono ?_; rintro e w6 ⟨xa, xn, xc, rfl, hn6, hb6⟩; have HW6 : Hid (Below wr.heap.size wr w6) := Lib.hid (by (repeat (with_reducible first | exact Below.refl _ _ | refine bel_drew ?_ | refine bel_alloc ?_ | (apply bel_step; focus assumption)))); have HA6 := Lib.hid (app_one HIK.out HW6.out HSK.out hn6); clear hn6))
            go_roundw
            case rel => exact ⟨k + 1, by omega, by go_num, by rw [HNX.out, HSP.out]; exact HI7.out⟩
            case measure => simp [intOf]; omega
          | false =>
            rw [hli] at c1
            have HSP : Hid (spillN (at' g.temps k) = nodeN 44 ⟨#[103]⟩ [vN (at' g.temps k).name]) := Lib.hid (by unfold spillN; rw [hli]; rfl)
            clear hli
            have HNV : Hid (∀ (w5 w6 : World), Below wr.heap.size wr w5 → Below (w5.alloc (.cells #[.int .u8 2, .int .i64 0, .string (at' g.temps k).name, .slice none 0 0] 35)).heap.size (w5.alloc (.cells #[.int .u8 2, .int .i64 0, .string (at' g.temps k).name, .slice none 0 0] 35)) w6 → NdAt (Up wr.heap.size) w6 (.agg #[.int .u8 44, .int .i64 0, .string ⟨#[103]⟩, .slice (some ⟨w5.heap.size, 0, none⟩) 1 1]) (nodeN 44 ⟨#[103]⟩ [vN (at' g.temps k).name])) := Lib.hid (fun w5 w6 h5 h6 =>
              nd_node (k := 44) (kids_1 (A := Up wr.heap.size) (blk_below h6 (at_new0 w5 _)) h5.size (nd_v HSN.out)) (by omega) (by unfold maxLen; decide))
            go_wp2_with (first
              | (at_builtin; refine wpl_rows TNd rfl (by decide) rfl (.tmp 46) (.tmp 52) rfl rfl rfl HA6.out.1 HA6.out.2.1 HA6.out.2.2 (by simp; unfold maxLen; omega) (by simp; omega) (Nat.le_trans HSK.out (bel_alloc (x := .cells #[.int .u8 44, .int .i64 0, .string ⟨#[103]⟩, .slice (some ⟨w5.heap.size, 0, none⟩) 1 1] 35) HW6.out).size) ?_; intro a7 c7 w7 h7 hg7 hn7; have HI7 := Lib.hid (cutI_app HIK.out HPBK.out HBK.out HSK.out (bel_alloc HW6.out) hg7 h7); clear h7 hg7 hn7)
              | (go_at_call 73; refine (variable_K _ _).mono ?_; rintro e w5 ⟨rfl, hb5⟩; have HW5 : Hid (Below wr.heap.size wr w5) := Lib.hid (by (repeat (with_reducible first | exact Below.refl _ _ | refine bel_drew ?_ | refine bel_alloc ?_ | (apply bel_step; focus assumption)))))
              | (go_at_call 72; refine (node_K 44 ⟨#[103]⟩ _ _ _ _).mono ?_; rintro e w6 ⟨rfl, hb6⟩; have HW6 : Hid (Below wr.heap.size wr w6) := Lib.hid (by (repeat (with_reducible first | exact Below.refl _ _ | refine bel_drew ?_ | refine bel_alloc ?_ | (apply bel_step; focus assumption)))); have HA6 := Lib.hid (app_one HIK.out HW6.out HSK.out (HNV.out _ _ HW5.out hb6))))
            go_roundw
            case rel => exact ⟨k + 1, by omega, by go_num, by rw [HNX.out, HSP.out]; exact HI7.out⟩
            case measure => simp [intOf]; omega
        · obtain rfl : k = g.temps.length := by omega
          have hlt' : ¬ (g.temps.length : Int) < (g.temps.length : Int) := by omega
          obtain ⟨w5x, hw5x⟩ : ∃ w5x, w5x = wr := ⟨_, rfl⟩
          subst hw5x
          obtain ⟨LL, hLL⟩ : ∃ LL, LL = L0 ++ (g.temps.take g.temps.length).map spillN := ⟨_, rfl⟩
          rw [← hLL] at HIK hlk ⊢
          have HPK : Hid (procK g kept = localsN g.temps (blockN LL)) := Lib.hid (by unfold procK; rw [hLL, List.take_length, HL0.out])
          clear f0 f1 f2 f3 f4 f5 hI hPBk hBk hSk hLL HI0
          obtain ⟨f0, f1, f2, f3, f4, f5⟩ := cells6 HPBK.out.1
          have hb0 : Below w5x.heap.size w5x (w5x.alloc (.cells #[.string ⟨#[103]⟩, .int .u8 3, .int .i64 0] 59)) := bel_alloc (Below.refl _ _)
          have HB0 : Hid (Below w.heap.size w (w5x.alloc (.cells #[.string ⟨#[103]⟩, .int .u8 3, .int .i64 0] 59))) := Lib.hid (HBK.out.trans (hb0.mono HBK.out.size))
          have HST : Hid (((w5x.alloc (.cells #[.string ⟨#[103]⟩, .int .u8 3, .int .i64 0] 59))).heap[w5x.heap.size]? = some (.cells #[.string ⟨#[103]⟩, .int .u8 3, .int .i64 0] 59 (0, 0))) := Lib.hid (at_new0 _ _)
          have HP0 : Hid (PBox g pa ta ba pc tc bc w (w5x.alloc (.cells #[.string ⟨#[103]⟩, .int .u8 3, .int .i64 0] 59))) := Lib.hid (HPBK.out.below hb0)
          have HS0 : Hid (w.heap.size + 2 ≤ ((w5x.alloc (.cells #[.string ⟨#[103]⟩, .int .u8 3, .int .i64 0] 59))).heap.size) := Lib.hid (Nat.le_trans HSK.out hb0.size)
          have HSX : Hid (w5x.heap.size < ((w5x.alloc (.cells #[.string ⟨#[103]⟩, .int .u8 3, .int .i64 0] 59))).heap.size) := Lib.hid (by simp)
          have HI2 : Hid (RowsOwn NdE 35 (Up (w.heap.size + 2)) (w.heap.size + 2) (w5x.alloc (.cells #[.string ⟨#[103]⟩, .int .u8 3, .int .i64 0] 59)) (.slice ja LL.length jc) LL) := Lib.hid (HIK.out.below hb0)
          go_wp2
          generalize (w5x.alloc (.cells #[.string ⟨#[103]⟩, .int .u8 3, .int .i64 0] 59)) = W0 at *
          clear hb0 f0 f1 f2 f3 f4 f5
          have HF0 : Hid (∀ w1, Near W0 (w.heap.size + 1) w1 → w1.cell? ⟨w.heap.size, 0, none⟩ = some (.string g.name) ∧ w1.cell? ⟨w.heap.size, 1, none⟩ = some (.slice pa g.params.length pc) ∧ w1.cell? ⟨w.heap.size, 2, none⟩ = some (.bool g.list) ∧ w1.cell? ⟨w.heap.size, 3, none⟩ = some (.slice ta g.temps.length tc) ∧ w1.cell? ⟨w.heap.size, 4, none⟩ = some (.slice ba g.body.length bc) ∧ w1.cell? ⟨w.heap.size, 5, none⟩ = some (.string g.result) ∧ w1.cell? ⟨w5x.heap.size, 0, none⟩ = some (.string ⟨#[103]⟩) ∧ w1.cell? ⟨w5x.heap.size, 1, none⟩ = some (.int .u8 3) ∧ w1.cell? ⟨w5x.heap.size, 2, none⟩ = some (.int .i64 0)) := Lib.hid (fun w1 ⟨w2, h1, h2⟩ => by
            have e1 : w1.heap[w.heap.size]? = _ := (h2.block w.heap.size (by have := h1.size; have := HS0.out; omega) (by omega)).trans (blk_below h1 HP0.out.1)
            have e2 : w1.heap[w5x.heap.size]? = _ := (h2.block w5x.heap.size (by have := h1.size; have := HSX.out; omega) (by have := HSK.out; omega)).trans (blk_below h1 HST.out)
            obtain ⟨a0, a1, a2, a3, a4, a5⟩ := cells6 e1
            obtain ⟨b0, b1, b2⟩ := cells3 e2
            exact ⟨a0, a1, a2, a3, a4, a5, b0, b1, b2⟩)
          have HC5 : Hid (∀ w1, Below W0.heap.size W0 w1 → Calls Tryz.prog 18 #[.agg #[.string g.name, .slice pa g.params.length pc, .bool g.list, .slice ta g.temps.length tc, .slice ba g.body.length bc, .string g.result]] w1 (fun e w' => ∃ a c, e = .returned (.slice a (paramsN g).length c) ∧ RowsOwn DclE 59 Any w1.heap.size w' (.slice a (paramsN g).length c) (paramsN g) ∧ Below w1.heap.size w1 w')) := Lib.hid (fun w1 h => params_O g pa ta ba pc tc bc w1 (HP.out.stays (Stays.of_below (HB0.out.trans (h.mono HB0.out.size)))) (by omega))
          have HC6 : Hid (∀ w1, Below W0.heap.size W0 w1 → Calls Tryz.prog 75 #[.slice ta g.temps.length tc, .agg #[.int .u8 57, .int .i64 0, .string ⟨#[]⟩, .slice ja LL.length jc]] w1 (fun e w' => ∃ ya yn yc, e = .returned (.agg #[.int .u8 57, .int .i64 0, .string ⟨#[]⟩, .slice ya yn yc]) ∧ NdAt (Up (w.heap.size + 2)) w' (.agg #[.int .u8 57, .int .i64 0, .string ⟨#[]⟩, .slice ya yn yc]) (procK g kept) ∧ Below w1.heap.size w1 w')) := Lib.hid (fun w1 h =>
            (locals_KB g.temps ta tc ja LL.length jc LL (Up (w.heap.size + 2)) w1 (HT.out.stays (Stays.of_below (HB0.out.trans (h.mono HB0.out.size)))) (nd_node (k := 57) (kids_rows.2 ((HI2.out.below h).shut (fun _ a => a) (fun k e => (HI2.out.lt e).1) (by unfold maxLen; omega))) (by omega) (Nat.zero_le _)) (by omega)).mono fun e w' ⟨a, n, c, he, hn, hb⟩ => ⟨a, n, c, he, by
              rw [HPK.out]
              exact hn.stays ⟨Nat.le_refl _, fun b _ a => ⟨rfl, by rcases a with a | a; exact a; exact Nat.le_trans (Nat.le_trans HS0.out h.size) a⟩⟩, hb⟩)
          have HC8 : Hid (∀ w1, Calls Tryz.prog 64 #[.string g.name] w1 (fun e w' => e = .returned (.string (g.name ++ ⟨#[49]⟩)) ∧ w1 = w')) := Lib.hid (fun w1 => name_K g.name w1 hn)
          have hpn : (paramsN g).length ≤ 9 := by simp [paramsN]; omega
          obtain ⟨LE, hLE⟩ : ∃ LE, LE = limE (paramsK g).length (procK g kept) := ⟨_, rfl⟩
          have HC7 : Hid (∀ w1 xa xc ya yn yc, NdAt (Up (w.heap.size + 2)) w1 (.agg #[.int .u8 57, .int .i64 0, .string ⟨#[]⟩, .slice ya yn yc]) (procK g kept) → Calls Tryz.prog 74 #[prV (g.name ++ ⟨#[49]⟩) xa ((paramsN g).length + 1) xc 57 0 ⟨#[]⟩ ya yn yc] w1 (fun e w' => e = .returned (.tuple #[if LE = 0 then prV (g.name ++ ⟨#[49]⟩) xa ((paramsN g).length + 1) xc 57 0 ⟨#[]⟩ ya yn yc else zeroP, .int .i64 LE]) ∧ Below w1.heap.size w1 w')) := Lib.hid (fun w1 xa xc ya yn yc h => by
            have h1 := finish_K (g.name ++ ⟨#[49]⟩) xa ((paramsN g).length + 1) xc 57 0 ⟨#[]⟩ ya yn yc (procK g kept) w1 (h.stays ⟨Nat.le_refl _, fun _ _ _ => ⟨rfl, trivial⟩⟩) hsz (by omega)
            rw [← paramsK_len, ← hLE, paramsK_len] at h1
            exact h1)
          have HLE := Lib.hid hLE
          clear hLE
          by_cases hL0 : LE = 0
          · subst hL0
            simp only [if_true] at HC7
            go_region_held3 (fun w1 => w1.cell? ⟨w.heap.size, 0, none⟩ = some (.string g.name) ∧ w1.cell? ⟨w.heap.size, 1, none⟩ = some (.slice pa g.params.length pc) ∧ w1.cell? ⟨w.heap.size, 2, none⟩ = some (.bool g.list) ∧ w1.cell? ⟨w.heap.size, 3, none⟩ = some (.slice ta g.temps.length tc) ∧ w1.cell? ⟨w.heap.size, 4, none⟩ = some (.slice ba g.body.length bc) ∧ w1.cell? ⟨w.heap.size, 5, none⟩ = some (.string g.result) ∧ w1.cell? ⟨w5x.heap.size, 0, none⟩ = some (.string ⟨#[103]⟩) ∧ w1.cell? ⟨w5x.heap.size, 1, none⟩ = some (.int .u8 3) ∧ w1.cell? ⟨w5x.heap.size, 2, none⟩ = some (.int .i64 0)) (with_reducible refine HF0.out _ ?_; focus ((repeat (with_reducible first | refine near_drew ?_ | refine near_set ?_)); refine near_bel (by (repeat (with_reducible first | exact Below.refl _ _ | refine bel_drew ?_ | refine bel_alloc ?_ | (apply bel_step; focus assumption)))); done))
              (first
              | (refine step_rows TDcl rfl (by decide) (by rfl) (.tmp 60) (.tmp 62) (by rfl) (by rfl) (by rfl) (HO6.out.below (by (repeat (with_reducible first | exact Below.refl _ _ | refine bel_drew ?_ | refine bel_alloc ?_ | (apply bel_step; focus assumption))))) (dcl_g (A := fun b => b = _) (by (repeat (with_reducible first | (refine blk_new ?_; (simp; done)) | (refine blk_new ?_; rfl) | refine blk_drew ?_ | refine blk_alloc ?_ | (apply blk_below; focus assumption)))) rfl) (fun b _ e => ⟨trivial, fun e2 => by have h := HO6.out.lt e2; (try simp only [World.size_alloc, World.size_drew] at h); omega⟩) (by unfold maxLen; simp; omega) (by simp; omega) (by have h := hb6.size; (try simp only [World.size_alloc, World.size_drew] at h ⊢); omega) ?_; intro a7 c7 w7 h7 hg7 hn7; have hb7 : Below W0.heap.size W0 w7 := Below.grown (by (repeat (with_reducible first | exact Below.refl _ _ | refine bel_drew ?_ | refine bel_alloc ?_ | (apply bel_step; focus assumption)))) hg7 (by have h := hb6.size; (try simp only [World.size_alloc, World.size_drew] at h ⊢); omega) (fun k e => by have h := (HO6.out.lt e).1; (try simp only [World.size_alloc, World.size_drew] at h); omega); have HV7 := Lib.hid (dcl_shut (A := Up (w.heap.size + 2)) h7 (fun k h => by have h1 := HS0.out; (try simp only [World.size_alloc, World.size_drew] at h); unfold Up; omega) (by unfold maxLen; simp; omega)); clear h7 hg7 hn7 hb6)
              | (go_simp; first
              | (go_at_call 64; (with_reducible refine (HC8.out _).mono ?_); rintro e w5 ⟨rfl, rfl⟩)
              | (go_at_call 18; (with_reducible refine (HC5.out _ (by (repeat (with_reducible first | exact Below.refl _ _ | refine bel_drew ?_ | refine bel_alloc ?_ | (apply bel_step; focus assumption))))).mono ?_); rintro e w6 ⟨a6, c6, rfl, hr6, hb6⟩; have HO6 := Lib.hid hr6; clear hr6)
              | (go_at_call 76; (with_reducible refine (block_K _ _ _ _).mono ?_); rintro e w8 ⟨rfl, hb8⟩)
              | (go_at_call 75; (with_reducible refine (HC6.out _ (by (repeat (with_reducible first | exact Below.refl _ _ | refine bel_drew ?_ | refine bel_alloc ?_ | (apply bel_step; focus assumption))))).mono ?_); rintro e w9 ⟨ya, yn, yc, rfl, hn9, hb9⟩; have HN9 := Lib.hid hn9; clear hn9)
              | (go_at_call 74; (with_reducible refine (HC7.out _ _ _ _ _ _ HN9.out).mono ?_); rintro e w10 ⟨rfl, hb10⟩; have HW10 : Hid (Below W0.heap.size W0 w10) := Lib.hid (by (repeat (with_reducible first | exact Below.refl _ _ | refine bel_drew ?_ | refine bel_alloc ?_ | (apply bel_step; focus assumption)))); have HZ10 := Lib.hid (blk_below HW10.out HP0.out.2); obtain ⟨z0, z1, z2, z3, z4, z5⟩ := cells6 HZ10.out; have zf := unfrozen HZ10.out)
              | fail))
            all_goals
              have hv10 := HV7.out.stays (Stays.of_below ((by (repeat (with_reducible first | exact Below.refl _ _ | refine bel_drew ?_ | refine bel_alloc ?_ | (apply bel_step; focus assumption)))) : Below w7.heap.size w7 w10))
              have hn10 := HN9.out.stays (Stays.of_below ((by (repeat (with_reducible first | exact Below.refl _ _ | refine bel_drew ?_ | refine bel_alloc ?_ | (apply bel_step; focus assumption)))) : Below w9.heap.size w9 w10))
              have HV10 : Hid (RowsAt DclE (Up (w.heap.size + 2)) w10 (.slice a7 (paramsK g).length c7) (paramsK g)) := Lib.hid (by rw [paramsK_len]; exact hv10)
              have HN10 := Lib.hid hn10
              have HBF := Lib.hid (HB0.out.trans (HW10.out.mono HB0.out.size))
              clear hv10 hn10
              go_wp2
              (try simp only [Exit.inBlock, Exit.then])
              refine bodyPost_ret (results_cell_row2 (P := Tryz.prog) rfl _ _ (w.heap.size + 1) _ _ _ _ _ rfl (set6 HZ10.out _ _ _ _ _ _) rfl Tryz.underlying52 rfl (by kernel_rfl)) rfl ?_
              exact kpost_yes HLE.out.symm HBF.out HV10.out HN10.out _ _ _ _ _ _
          · simp only [if_neg hL0] at HC7
            go_region_held3 (fun w1 => w1.cell? ⟨w.heap.size, 0, none⟩ = some (.string g.name) ∧ w1.cell? ⟨w.heap.size, 1, none⟩ = some (.slice pa g.params.length pc) ∧ w1.cell? ⟨w.heap.size, 2, none⟩ = some (.bool g.list) ∧ w1.cell? ⟨w.heap.size, 3, none⟩ = some (.slice ta g.temps.length tc) ∧ w1.cell? ⟨w.heap.size, 4, none⟩ = some (.slice ba g.body.length bc) ∧ w1.cell? ⟨w.heap.size, 5, none⟩ = some (.string g.result) ∧ w1.cell? ⟨w5x.heap.size, 0, none⟩ = some (.string ⟨#[103]⟩) ∧ w1.cell? ⟨w5x.heap.size, 1, none⟩ = some (.int .u8 3) ∧ w1.cell? ⟨w5x.heap.size, 2, none⟩ = some (.int .i64 0)) (with_reducible refine HF0.out _ ?_; focus ((repeat (with_reducible first | refine near_drew ?_ | refine near_set ?_)); refine near_bel (by (repeat (with_reducible first | exact Below.refl _ _ | refine bel_drew ?_ | refine bel_alloc ?_ | (apply bel_step; focus assumption)))); done))
              (first
              | (refine step_rows TDcl rfl (by decide) (by rfl) (.tmp 60) (.tmp 62) (by rfl) (by rfl) (by rfl) (HO6.out.below (by (repeat (with_reducible first | exact Below.refl _ _ | refine bel_drew ?_ | refine bel_alloc ?_ | (apply bel_step; focus assumption))))) (dcl_g (A := fun b => b = _) (by (repeat (with_reducible first | (refine blk_new ?_; (simp; done)) | (refine blk_new ?_; rfl) | refine blk_drew ?_ | refine blk_alloc ?_ | (apply blk_below; focus assumption)))) rfl) (fun b _ e => ⟨trivial, fun e2 => by have h := HO6.out.lt e2; (try simp only [World.size_alloc, World.size_drew] at h); omega⟩) (by unfold maxLen; simp; omega) (by simp; omega) (by have h := hb6.size; (try simp only [World.size_alloc, World.size_drew] at h ⊢); omega) ?_; intro a7 c7 w7 h7 hg7 hn7; have hb7 : Below W0.heap.size W0 w7 := Below.grown (by (repeat (with_reducible first | exact Below.refl _ _ | refine bel_drew ?_ | refine bel_alloc ?_ | (apply bel_step; focus assumption)))) hg7 (by have h := hb6.size; (try simp only [World.size_alloc, World.size_drew] at h ⊢); omega) (fun k e => by have h := (HO6.out.lt e).1; (try simp only [World.size_alloc, World.size_drew] at h); omega); have HV7 := Lib.hid (dcl_shut (A := Up (w.heap.size + 2)) h7 (fun k h => by have h1 := HS0.out; (try simp only [World.size_alloc, World.size_drew] at h); unfold Up; omega) (by unfold maxLen; simp; omega)); clear h7 hg7 hn7 hb6)
              | (go_simp; first
              | (go_at_call 64; (with_reducible refine (HC8.out _).mono ?_); rintro e w5 ⟨rfl, rfl⟩)
              | (go_at_call 18; (with_reducible refine (HC5.out _ (by (repeat (with_reducible first | exact Below.refl _ _ | refine bel_drew ?_ | refine bel_alloc ?_ | (apply bel_step; focus assumption))))).mono ?_); rintro e w6 ⟨a6, c6, rfl, hr6, hb6⟩; have HO6 := Lib.hid hr6; clear hr6)
              | (go_at_call 76; (with_reducible refine (block_K _ _ _ _).mono ?_); rintro e w8 ⟨rfl, hb8⟩)
              | (go_at_call 75; (with_reducible refine (HC6.out _ (by (repeat (with_reducible first | exact Below.refl _ _ | refine bel_drew ?_ | refine bel_alloc ?_ | (apply bel_step; focus assumption))))).mono ?_); rintro e w9 ⟨ya, yn, yc, rfl, hn9, hb9⟩; have HN9 := Lib.hid hn9; clear hn9)
              | (go_at_call 74; (with_reducible refine (HC7.out _ _ _ _ _ _ HN9.out).mono ?_); rintro e w10 ⟨rfl, hb10⟩; have HW10 : Hid (Below W0.heap.size W0 w10) := Lib.hid (by (repeat (with_reducible first | exact Below.refl _ _ | refine bel_drew ?_ | refine bel_alloc ?_ | (apply bel_step; focus assumption)))); have HZ10 := Lib.hid (blk_below HW10.out HP0.out.2); obtain ⟨z0, z1, z2, z3, z4, z5⟩ := cells6 HZ10.out; have zf := unfrozen HZ10.out)
              | fail))
            all_goals
              have hv10 := HV7.out.stays (Stays.of_below ((by (repeat (with_reducible first | exact Below.refl _ _ | refine bel_drew ?_ | refine bel_alloc ?_ | (apply bel_step; focus assumption)))) : Below w7.heap.size w7 w10))
              have hn10 := HN9.out.stays (Stays.of_below ((by (repeat (with_reducible first | exact Below.refl _ _ | refine bel_drew ?_ | refine bel_alloc ?_ | (apply bel_step; focus assumption)))) : Below w9.heap.size w9 w10))
              have HV10 : Hid (RowsAt DclE (Up (w.heap.size + 2)) w10 (.slice a7 (paramsK g).length c7) (paramsK g)) := Lib.hid (by rw [paramsK_len]; exact hv10)
              have HN10 := Lib.hid hn10
              have HBF := Lib.hid (HB0.out.trans (HW10.out.mono HB0.out.size))
              clear hv10 hn10
              go_wp2
              (try simp only [Exit.inBlock, Exit.then])
              refine bodyPost_ret (results_cell_row2 (P := Tryz.prog) rfl _ _ (w.heap.size + 1) _ _ _ _ _ rfl (set6 HZ10.out _ _ _ _ _ _) rfl Tryz.underlying52 rfl (by kernel_rfl)) rfl ?_
              exact kpost_no HLE.out hL0 HBF.out HV10.out HN10.out _ _ _ _ _ _
end Go.Proofs.YtehmmokkjojggabGreatDoor
