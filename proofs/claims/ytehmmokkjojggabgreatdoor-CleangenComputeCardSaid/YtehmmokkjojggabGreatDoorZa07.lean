/- Contracts and plain lemmas for the law (CgH2, Elem, CcS, CgI, CgJ, CgK, CgL, CgM): no statement of the seat is proved here. -/
import Derived.Test.YtehmmokkjojggabGreatDoorZa06
import Derived.Lib.AppendZerosOnto
import Derived.WalkSpells
import Derived.Deep.RegionLaw
/- Walks of cleangen.bind. -/
namespace Go.Proofs.YtehmmokkjojggabGreatDoor
set_option linter.unusedVariables false
open Go.RowKit
set_option maxRecDepth 100000 in
set_option maxHeartbeats 3200000 in
theorem bind_tail (fv : Value) (tn nm : ByteArray) (l : Bool) (num : Int) (av ha ea : Option Addr) (ac hn hc en ec : Nat) (args : List ByteArray) (cf : CallF) (thn els : List Bd) (w : World) (hs : StrsAt Any w (.slice av args.length ac) args) (htn : tn.size ≤ maxLen) (hnum : In64 num) :
    Calls Tryz.prog 83 #[.agg #[.string tn, .bool l, .int .u8 89, .int .i64 num, .string nm, .slice av args.length ac, .slice ha hn hc, .slice ea en ec], fv] w (StmtsPost (bindN cf (.mk tn l 89 num nm args thn els)) w) := by
  have hA : Below w.heap.size w (w.alloc (.cells #[.string tn, .bool l, .int .u8 89, .int .i64 num, .string nm, .slice av args.length ac, .slice ha hn hc, .slice ea en ec] 88)) := (Below.refl _ _).alloc (Nat.le_refl _) _
  have hn0 := at_new0 w (.cells #[.string tn, .bool l, .int .u8 89, .int .i64 num, .string nm, .slice av args.length ac, .slice ha hn hc, .slice ea en ec] 88)
  have hws : w.heap.size < (w.alloc (.cells #[.string tn, .bool l, .int .u8 89, .int .i64 num, .string nm, .slice av args.length ac, .slice ha hn hc, .slice ea en ec] 88)).heap.size := by simp
  have hz0 := argN_size hs 0
  have hz1 := argN_size hs 1
  have HS := Lib.hid hs
  have HN := Lib.hid hn0
  clear hs hn0
  go_enter Tryz.func83, Tryz.ntmps83
  go_wp2
  generalize (w.alloc (.cells #[.string tn, .bool l, .int .u8 89, .int .i64 num, .string nm, .slice av args.length ac, .slice ha hn hc, .slice ea en ec] 88)) = W at *
  go_region_held3 (fun w1 => w1.cell? ⟨w.heap.size, 0, none⟩ = some (.string tn) ∧ w1.cell? ⟨w.heap.size, 1, none⟩ = some (.bool l) ∧ w1.cell? ⟨w.heap.size, 2, none⟩ = some (.int .u8 89) ∧ w1.cell? ⟨w.heap.size, 3, none⟩ = some (.int .i64 num) ∧ w1.cell? ⟨w.heap.size, 4, none⟩ = some (.string nm) ∧ w1.cell? ⟨w.heap.size, 5, none⟩ = some (.slice av args.length ac) ∧ w1.cell? ⟨w.heap.size, 6, none⟩ = some (.slice ha hn hc) ∧ w1.cell? ⟨w.heap.size, 7, none⟩ = some (.slice ea en ec))
    ((refine cellsB (e := 88) ?_; (repeat (with_reducible first | exact HN.out | (refine blk_new ?_; (simp; done)) | refine blk_drew ?_ | refine blk_alloc ?_ | (apply blk_below; focus assumption)))))
    (first
    | (go_at_call 115; with_reducible refine (arg0_C tn nm l 89 num av ha ea ac hn hc en ec args Any _ (HS.out.stays (Stays.of_below (by (repeat (with_reducible first | exact hA | exact Below.refl _ _ | refine bel_drew ?_ | refine bel_alloc ?_ | (apply bel_step; focus assumption))))))).mono ?_; rintro e w1 ⟨rfl, hb1⟩)
    | (go_at_call 115; with_reducible refine (arg1_C tn nm l 89 num av ha ea ac hn hc en ec args Any _ (HS.out.stays (Stays.of_below (by (repeat (with_reducible first | exact hA | exact Below.refl _ _ | refine bel_drew ?_ | refine bel_alloc ?_ | (apply bel_step; focus assumption))))))).mono ?_; rintro e w2 ⟨rfl, hb2⟩))
  have HB2 : Hid (w2.heap[w.heap.size]? = some (.cells #[.string tn, .bool l, .int .u8 89, .int .i64 num, .string nm, .slice av args.length ac, .slice ha hn hc, .slice ea en ec] 88)) := Lib.hid (by (repeat (with_reducible first | exact HN.out | (refine blk_new ?_; (simp; done)) | refine blk_drew ?_ | refine blk_alloc ?_ | (apply blk_below; focus assumption))))
  obtain ⟨k0, k1, k2, k3, k4, k5, k6, k7⟩ := cellsB HB2.out
  go_wp2
  go_cut [12] (fun s11 wx => CutP w (.cells #[.string tn, .bool l, .int .u8 89, .int .i64 num, .string nm, .slice av args.length ac, .slice ha hn hc, .slice ea en ec] 88) (.int .u8 45) (.int .i64 0) (.string tn) (.int .u8 2) (.int .i64 0) (.string ⟨#[104, 48]⟩) (.slice none 0 0) s11 wx)
  case first =>
    go_region_held3 (fun w1 => w1.cell? ⟨w.heap.size, 0, none⟩ = some (.string tn) ∧ w1.cell? ⟨w.heap.size, 1, none⟩ = some (.bool l) ∧ w1.cell? ⟨w.heap.size, 2, none⟩ = some (.int .u8 89) ∧ w1.cell? ⟨w.heap.size, 3, none⟩ = some (.int .i64 num) ∧ w1.cell? ⟨w.heap.size, 4, none⟩ = some (.string nm) ∧ w1.cell? ⟨w.heap.size, 5, none⟩ = some (.slice av args.length ac) ∧ w1.cell? ⟨w.heap.size, 6, none⟩ = some (.slice ha hn hc) ∧ w1.cell? ⟨w.heap.size, 7, none⟩ = some (.slice ea en ec))
      ((refine cellsB (e := 88) ?_; (repeat (with_reducible first | exact HN.out | (refine blk_new ?_; (simp; done)) | refine blk_drew ?_ | refine blk_alloc ?_ | (apply blk_below; focus assumption) | (refine blk_sets4 ?_ (Nat.ne_of_lt ?_); rotate_left; (focus (first | exact Nat.lt_succ_of_lt (Nat.lt_of_lt_of_le hws (Below.size (by (repeat (with_reducible first | exact Below.refl _ _ | refine bel_drew ?_ | refine bel_alloc ?_ | (apply bel_step; focus assumption)))))) | exact Nat.lt_of_lt_of_le hws (Below.size (by (repeat (with_reducible first | exact Below.refl _ _ | refine bel_drew ?_ | refine bel_alloc ?_ | (apply bel_step; focus assumption))))))))))))
      (first
      | (go_at_call 87; refine (variable_C _ _).mono ?_; rintro e w3 ⟨rfl, hb3⟩; (first | (refine blk_use w3 w2.heap.size ?_ (fun g0 g1 g2 g3 gf => ?_); focus ((repeat (with_reducible first | exact HN.out | (refine blk_new ?_; (simp; done)) | refine blk_drew ?_ | refine blk_alloc ?_ | (apply blk_below; focus assumption))); done)) | skip))
      | (go_at_call 82; refine (node_C _ _ _ _ _ _).mono ?_; rintro e w4 ⟨rfl, hb4⟩; (first | (refine blk_use w4 w2.heap.size ?_ (fun g0 g1 g2 g3 gf => ?_); focus ((repeat (with_reducible first | exact HN.out | (refine blk_new ?_; (simp; done)) | refine blk_drew ?_ | refine blk_alloc ?_ | (apply blk_below; focus assumption))); done)) | skip); (first | (refine blk_use w4 w3.heap.size ?_ (fun g0 g1 g2 g3 gf => ?_); focus ((repeat (with_reducible first | exact HN.out | (refine blk_new ?_; (simp; done)) | refine blk_drew ?_ | refine blk_alloc ?_ | (apply blk_below; focus assumption))); done)) | skip); (first | (refine blk_use w4 (w3.heap.size + 1) ?_ (fun g0 g1 g2 g3 gf => ?_); focus ((repeat (with_reducible first | exact HN.out | (refine blk_new ?_; (simp; done)) | refine blk_drew ?_ | refine blk_alloc ?_ | (apply blk_below; focus assumption))); done)) | skip)))
    all_goals
      have hz3 := hb3.size
      have hz4 := hb4.size
      have hz2 := hb2.size
      have hz1' := hb1.size
      simp only [World.size_alloc, World.size_drew] at hz3 hz4 hz2 hz1'
      go_wp2
      go_meet
      first
      | ((with_reducible apply cutP_new); (focus ((repeat (with_reducible first | (refine nb_new ?_ ?_; rotate_left; (focus (simp; done)); (focus ((repeat (with_reducible first | exact hA | exact Below.refl _ _ | refine bel_drew ?_ | refine bel_alloc ?_ | (apply bel_step; focus assumption))); done))) | refine nb_drew ?_ | refine nb_alloc ?_ | (apply nb_below; focus assumption))); done)); (focus ((repeat (with_reducible first | (refine nb_new ?_ ?_; rotate_left; (focus (simp; done)); (focus ((repeat (with_reducible first | exact hA | exact Below.refl _ _ | refine bel_drew ?_ | refine bel_alloc ?_ | (apply bel_step; focus assumption))); done))) | refine nb_drew ?_ | refine nb_alloc ?_ | (apply nb_below; focus assumption))); done)); (focus ((repeat (with_reducible first | exact HN.out | (refine blk_new ?_; (simp; done)) | refine blk_drew ?_ | refine blk_alloc ?_ | (apply blk_below; focus assumption))); done)); (focus ((repeat (with_reducible first | exact hA | exact Below.refl _ _ | refine bel_drew ?_ | refine bel_alloc ?_ | (apply bel_step; focus assumption))); done)))
      | ((with_reducible apply cutP_set); (focus ((repeat (with_reducible first | (refine nb_new ?_ ?_; rotate_left; (focus (simp; done)); (focus ((repeat (with_reducible first | exact hA | exact Below.refl _ _ | refine bel_drew ?_ | refine bel_alloc ?_ | (apply bel_step; focus assumption))); done))) | refine nb_drew ?_ | refine nb_alloc ?_ | (apply nb_below; focus assumption))); done)); (focus ((repeat (with_reducible first | (refine nb_new ?_ ?_; rotate_left; (focus (simp; done)); (focus ((repeat (with_reducible first | exact hA | exact Below.refl _ _ | refine bel_drew ?_ | refine bel_alloc ?_ | (apply bel_step; focus assumption))); done))) | refine nb_drew ?_ | refine nb_alloc ?_ | (apply nb_below; focus assumption))); done)); (focus omega); (focus omega); (focus ((repeat (with_reducible first | exact HN.out | (refine blk_new ?_; (simp; done)) | refine blk_drew ?_ | refine blk_alloc ?_ | (apply blk_below; focus assumption))); done)); (focus ((repeat (with_reducible first | exact hA | exact Below.refl _ _ | refine bel_drew ?_ | refine bel_alloc ?_ | (apply bel_step; focus assumption))); done)))
  case rest =>
    obtain ⟨g, g', rfl, hG, hG', hBX, hBel⟩ := hcut
    have HG := Lib.hid hG
    have HGB := Lib.hid hG.1
    have HG' := Lib.hid hG'
    have HBX := Lib.hid hBX
    clear hG hG' hBX k0 k1 k2 k3 k4 k5 k6 k7 hb1 hb2 HB2 HN hA hws
    obtain ⟨c0, c1, c2, c3, c4⟩ := cells5 HBX.out HG.out.1
    go_wp2
    go_region_held3 (fun w1 => w1.cell? ⟨w.heap.size, 0, none⟩ = some (.string tn) ∧ w1.cell? ⟨g, 0, none⟩ = some (.int .u8 45) ∧ w1.cell? ⟨g, 1, none⟩ = some (.int .i64 0) ∧ w1.cell? ⟨g, 2, none⟩ = some (.string tn) ∧ w1.cell? ⟨g, 3, none⟩ = some (.slice (some ⟨g', 0, none⟩) 1 1))
      ((refine cells5 (v1 := .bool l) (v2 := .int .u8 89) (v3 := .int .i64 num) (v4 := .string nm) (v5 := .slice av args.length ac) (v6 := .slice ha hn hc) (v7 := .slice ea en ec) (e := 88) (e' := 35) ?_ ?_ <;> (repeat (with_reducible first | exact HBX.out | exact HGB.out | (refine blk_new ?_; (simp; done)) | refine blk_drew ?_ | refine blk_alloc ?_ | (apply blk_below; focus assumption)))))
      (first
      | (go_at_call 86; refine (invoke_U w.heap.size ⟨#[108, 99, 111, 112, 121]⟩ _ _ _ [argN args 0, tn] _ (up_ge (by (repeat (with_reducible first | exact hBel | exact Below.refl _ _ | refine bel_drew ?_ | refine bel_alloc ?_ | (apply bel_step; focus assumption)))) (Nat.le_refl _)) (strsU2 (by (repeat (with_reducible first | exact HG.out | exact HG'.out | (refine nb_new ?_ ?_; rotate_left; (focus (simp; done)); (focus ((repeat (with_reducible first | exact hBel | exact Below.refl _ _ | refine bel_drew ?_ | refine bel_alloc ?_ | (apply bel_step; focus assumption))); done))) | refine nb_drew ?_ | refine nb_alloc ?_ | (apply nb_below; focus assumption)))) (by assumption) htn) (by unfold maxLen; decide) (by simp)).mono ?_; rintro e w6 ⟨ja, jn, jc, rfl, hk6, hb6⟩)
      | (go_at_call 88; refine (number_C _ _).mono ?_; rintro e w3 ⟨rfl, hb3⟩)
      | (go_at_call 37; refine (block_C _ _ _ _).mono ?_; rintro e w8 ⟨rfl, hb8⟩)
      | (go_at_call 82; refine (node_C _ _ _ _ _ _).mono ?_; rintro e w4 ⟨rfl, hb4⟩)
      | (go_at_call 117; refine (list_C _ _ _ _).mono ?_; rintro e w7 ⟨rfl, rfl⟩)
)
    all_goals
      go_wp2
      go_ret
      refine ⟨_, _, _, rfl, (?_ : KidsAt (Up w.heap.size) _ _ [callN ⟨#[108, 99, 111, 112, 121]⟩ [argN args 0, tn], nodeN 54 ⟨#[104, 48]⟩ [numN 0, nodeN 57 ⟨#[]⟩ [nodeN 45 tn [vN ⟨#[104, 48]⟩]], nodeN 4 (argN args 0) []]]), by (repeat (with_reducible first | exact hBel | exact Below.refl _ _ | refine bel_drew ?_ | refine bel_alloc ?_ | (apply bel_step; focus assumption)))⟩
      exact kidsU2 (by (repeat (with_reducible first | exact HG.out | exact HG'.out | (refine nb_new ?_ ?_; rotate_left; (focus (simp; done)); (focus ((repeat (with_reducible first | exact hBel | exact Below.refl _ _ | refine bel_drew ?_ | refine bel_alloc ?_ | (apply bel_step; focus assumption))); done))) | refine nb_drew ?_ | refine nb_alloc ?_ | (apply nb_below; focus assumption)))) (hk6.stays (stays_up (by (repeat (with_reducible first | exact hBel | exact Below.refl _ _ | refine bel_drew ?_ | refine bel_alloc ?_ | (apply bel_step; focus assumption)))))) (nd_node (kidsU3 (by (repeat (with_reducible first | exact HG.out | exact HG'.out | (refine nb_new ?_ ?_; rotate_left; (focus (simp; done)); (focus ((repeat (with_reducible first | exact hBel | exact Below.refl _ _ | refine bel_drew ?_ | refine bel_alloc ?_ | (apply bel_step; focus assumption))); done))) | refine nb_drew ?_ | refine nb_alloc ?_ | (apply nb_below; focus assumption)))) (nd_num (by unfold In64; omega)) (nd_node (kidsU1 (by (repeat (with_reducible first | exact HG.out | exact HG'.out | (refine nb_new ?_ ?_; rotate_left; (focus (simp; done)); (focus ((repeat (with_reducible first | exact hBel | exact Below.refl _ _ | refine bel_drew ?_ | refine bel_alloc ?_ | (apply bel_step; focus assumption))); done))) | refine nb_drew ?_ | refine nb_alloc ?_ | (apply nb_below; focus assumption)))) (nd_node (kidsU1 (by (repeat (with_reducible first | exact HG.out | exact HG'.out | (refine nb_new ?_ ?_; rotate_left; (focus (simp; done)); (focus ((repeat (with_reducible first | exact hBel | exact Below.refl _ _ | refine bel_drew ?_ | refine bel_alloc ?_ | (apply bel_step; focus assumption))); done))) | refine nb_drew ?_ | refine nb_alloc ?_ | (apply nb_below; focus assumption)))) (nd_v (by unfold maxLen; decide))) (by omega) htn)) (by omega) (Nat.zero_le _)) (nd_node (KidsAt.nil _) (by omega) hz0)) (by omega) (by unfold maxLen; decide))
end Go.Proofs.YtehmmokkjojggabGreatDoor
/- Rows of whatever elements: rows that stay, rows of the call's own, append. No function of the program is walked here. -/
namespace Go.Proofs.YtehmmokkjojggabGreatDoor
set_option linter.unusedVariables false
open Go.RowKit

/-- a kind of element: its cells, and what they say -/
structure Elem (α : Type) where
  size : Nat
  C : (Nat → Prop) → World → (Nat → Value) → α → Prop
  stays : ∀ {A A' : Nat → Prop} {w w' : World}, Stays A A' w w' → ∀ {c : Nat → Value} {x : α}, C A w c x → C A' w' c x
  congr : ∀ {A : Nat → Prop} {w : World} {c d : Nat → Value} {x : α}, C A w c x → (∀ i, i < size → d i = c i) → C A w d x
  one : ∀ {A : Nat → Prop} {w : World} {c : Nat → Value} {x : α}, C A w c x → ∀ i, i < size → (c i).oneCell' = true

variable {α : Type} [Inhabited α]

/-- a row that stays -/
def RowsAt (E : Elem α) (A : Nat → Prop) (w : World) (v : Value) (l : List α) : Prop := ∃ cs, RowAt A w E.size v l.length cs ∧ ∀ j, j < l.length → E.C A w (cs j) (at' l j)
theorem RowsAt.stays {E : Elem α} {A A' : Nat → Prop} {w w' : World} (hs : Stays A A' w w') {v : Value} {l : List α} (h : RowsAt E A w v l) : RowsAt E A' w' v l := by
  obtain ⟨cs, h1, h2⟩ := h; exact ⟨cs, h1.stays hs, fun j hj => E.stays hs (h2 j hj)⟩
theorem RowsAt.form {E : Elem α} {A : Nat → Prop} {w : World} {v : Value} {l : List α} (h : RowsAt E A w v l) : l.length ≤ maxLen ∧ ∃ a c, v = .slice a l.length c := by
  obtain ⟨cs, h, _⟩ := h; exact ⟨h.1, h.form⟩
theorem RowsAt.nil (E : Elem α) (A : Nat → Prop) (w : World) : RowsAt E A w (.slice none 0 0) [] := ⟨fun _ _ => undef, RowAt.empty _ _ _, fun j hj => by simp at hj⟩
theorem RowsAt.at {E : Elem α} {A : Nat → Prop} {w : World} {v : Value} {l : List α} (h : RowsAt E A w v l) {j : Nat} (hj : j < l.length) :
    ∃ b off cap cs, v = .slice (some ⟨b, off, none⟩) l.length cap ∧ b < w.heap.size ∧ l.length ≤ cap ∧ A b ∧ (∀ i, i < E.size → w.cell? ⟨b, off + j * E.size + i, none⟩ = some (cs i)) ∧ E.C A w cs (at' l j) := by
  obtain ⟨cs, h, hf⟩ := h
  obtain ⟨b, off, cap, rfl, h1, h2, h3, h4⟩ := h.at hj
  exact ⟨b, off, cap, cs j, rfl, h1, h2, h3, h4, hf j hj⟩

/-- a row of the call's own -/
def RowsOwn (E : Elem α) (e : Nat) (D : Nat → Prop) (base : Nat) (w : World) (v : Value) (l : List α) : Prop := ∃ xs, w.ownsRow base e E.size v l.length xs ∧ ∀ j, j < l.length → E.C (fun k => D k ∧ v.ownBlock ≠ some k) w (fun i => vat xs (j * E.size + i)) (at' l j)
theorem RowsOwn.nil (E : Elem α) (e : Nat) (D : Nat → Prop) (base : Nat) (w : World) : RowsOwn E e D base w (.slice none 0 0) [] := ⟨[], World.ownsRow_nil _ _ _ _, fun j hj => by simp at hj⟩
theorem RowsOwn.form {E : Elem α} {e : Nat} {D : Nat → Prop} {base : Nat} {w : World} {v : Value} {l : List α} (h : RowsOwn E e D base w v l) : ∃ a c, v = .slice a l.length c := by obtain ⟨xs, h, _⟩ := h; exact row_form h
theorem RowsOwn.lt {E : Elem α} {e : Nat} {D : Nat → Prop} {base : Nat} {w : World} {v : Value} {l : List α} (h : RowsOwn E e D base w v l) {k : Nat} (he : v.ownBlock = some k) : base ≤ k ∧ k < w.heap.size := by obtain ⟨xs, h, _⟩ := h; exact h.lt k he
theorem RowsOwn.below {E : Elem α} {e : Nat} {D : Nat → Prop} {base : Nat} {w w' : World} {v : Value} {l : List α} (h : RowsOwn E e D base w v l) (hb : Below w.heap.size w w') : RowsOwn E e D base w' v l := by
  obtain ⟨xs, h1, h2⟩ := h; exact ⟨xs, row_below h1 hb, fun j hj => E.stays (Stays.of_below hb) (h2 j hj)⟩
/-- what is written lies outside of the row and of its elements' data -/
theorem RowsOwn.keeps {E : Elem α} {e : Nat} {D : Nat → Prop} {base : Nat} {w w' : World} {v : Value} {l : List α} {S : Nat → Prop} (h : RowsOwn E e D base w v l) (hk : Keeps w w' S) (h1 : ∀ k, v.ownBlock = some k → ¬ S k) (h2 : ∀ k, k < w.heap.size → D k → ¬ S k) : RowsOwn E e D base w' v l := by
  obtain ⟨xs, hx, hf⟩ := h
  exact ⟨xs, row_keeps hx hk h1, fun j hj => E.stays (hk.stays fun k a hlt => h2 k hlt a.1) (hf j hj)⟩
theorem RowsOwn.mono {E : Elem α} {e : Nat} {D D' : Nat → Prop} {base : Nat} {w : World} {v : Value} {l : List α} (h : RowsOwn E e D base w v l) (hd : ∀ k, D k → D' k) : RowsOwn E e D' base w v l := by
  obtain ⟨xs, hx, hf⟩ := h
  exact ⟨xs, hx, fun j hj => E.stays ⟨Nat.le_refl _, fun b _ a => ⟨rfl, hd b a.1, a.2⟩⟩ (hf j hj)⟩
theorem RowsOwn.shut {E : Elem α} {e : Nat} {D : Nat → Prop} {base : Nat} {w : World} {v : Value} {l : List α} {A : Nat → Prop} (h : RowsOwn E e D base w v l) (hA : ∀ k, D k → A k) (hv : ∀ k, v.ownBlock = some k → A k) (hl : l.length ≤ maxLen) : RowsAt E A w v l := by
  obtain ⟨xs, hx, hf⟩ := h
  have hs : Stays (fun k => D k ∧ v.ownBlock ≠ some k) A w w := ⟨Nat.le_refl _, fun b hb a => ⟨rfl, hA b a.1⟩⟩
  refine ⟨fun j i => vat xs (j * E.size + i), ⟨hl, ?_⟩, fun j hj => E.stays hs (hf j hj)⟩
  obtain ⟨h0, ⟨rfl, h1⟩ | ⟨g, cap, cur, rfl, hg, hh, hn, hm, hc, ht⟩⟩ := hx
  · exact ⟨none, 0, by rw [h1], by omega, fun _ => rfl, fun h => by omega⟩
  · have hgl : g < w.heap.size := by rw [Array.getElem?_eq_some_iff] at hh; exact hh.1
    refine ⟨_, cap, rfl, hn, nofun, fun hp => ⟨g, 0, rfl, hgl, hv g rfl, fun j hj i hi => ?_⟩⟩
    have hlt : j * E.size + i < l.length * E.size := by
      calc j * E.size + i < j * E.size + E.size := by omega
        _ = (j + 1) * E.size := by rw [Nat.add_mul, Nat.one_mul]
        _ ≤ l.length * E.size := Nat.mul_le_mul_right _ hj
    rw [Nat.zero_add]
    simp only [World.cell?, hh, vat, List.getD_eq_getElem?_getD]
    have hx2 : xs[j * E.size + i]? = cur[j * E.size + i]? := by rw [← ht, List.getElem?_take, if_pos (by omega)]; simp
    rw [← hx2, List.getElem?_eq_getElem (by omega)]; rfl

/-- the cells of a row that stays, as the source of an append -/
theorem RowsAt.src {E : Elem α} (hsz : 0 < E.size) {A : Nat → Prop} {w : World} {u : Value} {m : List α} (h : RowsAt E A w u m) :
    ∃ news : List Value, news.length = m.length * E.size ∧ (u = .slice none 0 0 ∧ m.length = 0 ∧ news = [] ∨ ∃ ad c, u = .slice (some ad) m.length c ∧ ∀ j x, news[j]? = some x → w.cell? (ad.add j) = some x) ∧ (∀ x ∈ news, x.oneCell' = true) ∧ ∀ j, j < m.length → E.C A w (fun i => vat news (j * E.size + i)) (at' m j) := by
  obtain ⟨cs, ⟨h0, a, cap, rfl, h1, h2, h3⟩, hf⟩ := h
  have hdiv : ∀ j, j < m.length * E.size → j / E.size < m.length ∧ j % E.size < E.size := fun j hj => ⟨(Nat.div_lt_iff_lt_mul hsz).2 hj, Nat.mod_lt _ hsz⟩
  refine ⟨(List.range (m.length * E.size)).map (fun j => cs (j / E.size) (j % E.size)), by simp, ?_, ?_, ?_⟩
  · cases a with
    | none =>
      have hc := h2 rfl
      have hm : m.length = 0 := by omega
      exact .inl ⟨by rw [hc, hm], hm, by simp [hm]⟩
    | some ad =>
      refine .inr ⟨ad, cap, rfl, fun j x hj => ?_⟩
      have hjl : j < m.length * E.size := by
        rcases Nat.lt_or_ge j (m.length * E.size) with h | h
        · exact h
        · rw [List.getElem?_eq_none (by simpa using h)] at hj; simp at hj
      have hd := hdiv j hjl
      obtain ⟨b, off, he, hb, hA, hc⟩ := h3 (Nat.lt_of_le_of_lt (Nat.zero_le _) hd.1)
      simp only [Option.some.injEq] at he
      subst he
      rw [List.getElem?_map, List.getElem?_range hjl] at hj
      simp only [Option.map_some, Option.some.injEq] at hj
      subst hj
      have e0 : (⟨b, off, none⟩ : Addr).add j = ⟨b, off + j, none⟩ := by
        simp only [Addr.add]; split
        · subst_vars; rfl
        · rfl
      have e1 : off + j / E.size * E.size + j % E.size = off + j := by
        rw [Nat.add_assoc, Nat.mul_comm, Nat.div_add_mod]
      rw [e0, ← hc (j / E.size) hd.1 (j % E.size) hd.2, e1]
  · intro x hx
    simp only [List.mem_map, List.mem_range] at hx
    obtain ⟨j, hj, rfl⟩ := hx
    exact E.one (hf _ (hdiv j hj).1) _ (hdiv j hj).2
  · intro j hj
    refine E.congr (hf j hj) fun i hi => ?_
    have hlt : j * E.size + i < m.length * E.size := by
      calc j * E.size + i < j * E.size + E.size := by omega
        _ = (j + 1) * E.size := by rw [Nat.add_mul, Nat.one_mul]
        _ ≤ m.length * E.size := Nat.mul_le_mul_right _ hj
    simp only [vat, List.getD_eq_getElem?_getD]
    rw [List.getElem?_map, List.getElem?_range hlt]
    have a1 : (j * E.size + i) / E.size = j := by rw [Nat.mul_comm, Nat.mul_add_div hsz, Nat.div_eq_of_lt hi, Nat.add_zero]
    have a2 : (j * E.size + i) % E.size = i := by rw [Nat.mul_comm, Nat.mul_add_mod, Nat.mod_eq_of_lt hi]
    simp [a1, a2]

/-- 'l = append(l, m..)' on a row of the call's own -/
theorem wpl_rows {E : Elem α} {t e bytes : Nat} {z : Value} (R : RowT Tryz.prog t e z E.size bytes) (hzs : z.cells.size = E.size) (hsz : 0 < E.size) {ops : Array Oper} {rest : List Oper} {o : Oper} {a : Act} {Q : Exit → Act → World → Prop} (hgd : o.guard = none) (s x : Operand) (ho : o.op = .call { callee := .builtin .append, args := #[s, x], argTypes := #[t, t] })
    {base : Nat} {w : World} {v u : Value} {l m : List α} {D D' : Nat → Prop} (hs : a.eval s = v) (hx : a.eval x = u) (hown : RowsOwn E e D base w v l) (hu : RowsAt E D' w u m) (hD : ∀ b, b < w.heap.size → D' b → D b ∧ v.ownBlock ≠ some b)
    (hl : l.length + m.length ≤ maxLen) (hby : (l.length + m.length) * bytes ≤ 140737488355328) (hbase : base ≤ w.heap.size)
    (h : ∀ a' c' w1, RowsOwn E e D base w1 (.slice a' (l.length + m.length) c') (l ++ m) → w.grownBy w1 v.ownBlock → NewOr w v (.slice a' (l.length + m.length) c') → wpList Tryz.prog ops Q rest (a.put o.dst (.slice a' (l.length + m.length) c')) w1) :
    wpList Tryz.prog ops Q (o :: rest) a w := by
  obtain ⟨xs, hrow, hf⟩ := hown
  obtain ⟨news, n1, n2, n3, n4⟩ := hu.src hsz
  refine wpl_append R hzs hsz hgd s x ho hs hx hrow n2 n1 n3 hl hby hbase ?_
  intro v' w1 h1 h2 h3
  obtain ⟨a', c', rfl⟩ := row_form h1
  refine h a' c' w1 ⟨xs ++ news, by rw [List.length_append]; exact h1, fun j hj => ?_⟩ h2 h3
  have key : ∀ b, b < w.heap.size → v.ownBlock ≠ some b → w1.heap[b]? = w.heap[b]? ∧ (Value.slice a' (l.length + m.length) c').ownBlock ≠ some b := fun b hb hne => by
    refine ⟨h2.block b hb (fun e => hne e.symm), fun e => ?_⟩
    rcases h3 b e with e | e
    · exact hne e
    · omega
  have hst1 : Stays (fun k => D k ∧ v.ownBlock ≠ some k) (fun k => D k ∧ (Value.slice a' (l.length + m.length) c').ownBlock ≠ some k) w w1 := ⟨h2.size, fun b hb hne => ⟨(key b hb hne.2).1, hne.1, (key b hb hne.2).2⟩⟩
  have hst2 : Stays D' (fun k => D k ∧ (Value.slice a' (l.length + m.length) c').ownBlock ≠ some k) w w1 := ⟨h2.size, fun b hb hd => ⟨(key b hb (hD b hb hd).2).1, (hD b hb hd).1, (key b hb (hD b hb hd).2).2⟩⟩
  have hxl := hrow.1
  have hmul : ∀ p q i, p < q → i < E.size → p * E.size + i < q * E.size := fun p q i hp hi => by
    calc p * E.size + i < p * E.size + E.size := by omega
      _ = (p + 1) * E.size := by rw [Nat.add_mul, Nat.one_mul]
      _ ≤ q * E.size := Nat.mul_le_mul_right _ hp
  by_cases hjl : j < l.length
  · rw [at_append_lt hjl]
    refine E.congr (E.stays hst1 (hf j hjl)) fun i hi => ?_
    simp only [vat, List.getD_eq_getElem?_getD]
    rw [List.getElem?_append_left (by rw [hxl]; exact hmul _ _ _ hjl hi)]
  · have hjm : j - l.length < m.length := by rw [List.length_append] at hj; omega
    rw [at_append_ge (by omega)]
    refine E.congr (E.stays hst2 (n4 _ hjm)) fun i hi => ?_
    simp only [vat, List.getD_eq_getElem?_getD]
    have e1 : l.length * E.size ≤ j * E.size := Nat.mul_le_mul_right _ (by omega)
    rw [List.getElem?_append_right (by omega), show j * E.size + i - xs.length = (j - l.length) * E.size + i by rw [hxl, Nat.sub_mul]; omega]

/-- one new element: a literal row of one -/
theorem rows_1 {E : Elem α} {A : Nat → Prop} {w : World} {g : Nat} {cs : Array Value} {e : Nat} {x : α} (h : w.heap[g]? = some (.cells cs e (0, 0))) (hA : A g) (hs : cs.size = E.size) (hc : E.C A w (fun i => cs.getD i undef) x) : RowsAt E A w (.slice (some ⟨g, 0, none⟩) 1 1) [x] := by
  have hgl : g < w.heap.size := by rw [Array.getElem?_eq_some_iff] at h; exact h.1
  refine ⟨fun j i => cs.getD i undef, ⟨by unfold maxLen; simp, _, _, rfl, Nat.le_refl _, nofun, fun _ => ⟨g, 0, rfl, hgl, hA, fun j hj i hi => ?_⟩⟩, fun j hj => ?_⟩
  · obtain rfl : j = 0 := by simp at hj; exact hj
    simp only [World.cell?, h, Nat.zero_mul, Nat.zero_add]
    rw [Array.getElem?_eq_getElem (by omega), Array.getD_eq_getD_getElem?, Array.getElem?_eq_getElem (by omega)]; rfl
  · obtain rfl : j = 0 := by simp at hj; exact hj
    exact hc

/-- strings as elements -/
def StrE : Elem ByteArray where
  size := 1
  C := fun _ _ c x => c 0 = .string x ∧ x.size ≤ maxLen
  stays := fun _ _ _ h => h
  congr := fun h e => ⟨(e 0 (by omega)).trans h.1, h.2⟩
  one := fun h i hi => by obtain rfl : i = 0 := by omega
                          rw [h.1]; rfl
theorem strs_rows {A : Nat → Prop} {w : World} {v : Value} {l : List ByteArray} : StrsAt A w v l ↔ RowsAt StrE A w v l := Iff.rfl

/-- trees as elements -/
def NdE : Elem Nd where
  size := 4
  C := NdC
  stays := fun hs _ _ h => h.stays hs
  congr := fun h e => h.congr e
  one := fun h i hi => by
    obtain ⟨_, ka, kc, e3⟩ := h.c3.form
    match i, hi with
    | 0, _ => rw [h.c0]; rfl
    | 1, _ => rw [h.c1]; rfl
    | 2, _ => rw [h.c2]; rfl
    | 3, _ => rw [e3]; rfl
theorem kids_rows {A : Nat → Prop} {w : World} {v : Value} {l : List Nd} : KidsAt A w v l ↔ RowsAt NdE A w v l := by
  constructor
  · intro h
    cases h with
    | mk _ _ cs h hf hk => exact ⟨cs, h, fun j hj => by obtain ⟨e0, e1, e2, e3⟩ := hf j hj; exact ⟨e0, e1, e2, hk j hj, e3⟩⟩
  · rintro ⟨cs, h, hf⟩
    exact .mk v l cs h (fun j hj => ⟨(hf j hj).c0, (hf j hj).c1, (hf j hj).c2, (hf j hj).ok⟩) (fun j hj => (hf j hj).c3)
theorem kidsOwn_rows {D : Nat → Prop} {base : Nat} {w : World} {v : Value} {l : List Nd} : KidsOwn D base w v l ↔ RowsOwn NdE 35 D base w v l := Iff.rfl
end Go.Proofs.YtehmmokkjojggabGreatDoor
/- slices.Grow at nil, slices.Concat at strings. -/
namespace Go.Proofs.YtehmmokkjojggabGreatDoor
set_option linter.unusedVariables false
open Go.RowKit

set_option maxRecDepth 100000 in
set_option maxHeartbeats 1600000 in
theorem grow_S (n : Nat) (w : World) (hn : n ≤ 1000000) :
    Calls Tryz.prog 134 #[.slice none 0 0, .int .i64 n] w fun e w' => ∃ a c, e = .returned (.slice a 0 c) ∧ w'.ownsRow w.heap.size 9 1 (.slice a 0 c) 0 [] ∧ Below w.heap.size w w' := by
  have h1 : ¬ ((n : Int) < 0) := by omega
  by_cases hp : 0 < n
  · obtain ⟨i, hi, hz, hsize, hby⟩ := info_parts TStr.inf
    have hrz : ∀ ty, (Builtin.append_ #[23, 3] ty #[.slice none 0 0, .int .i64 n]).run Tryz.prog w = _ := fun ty =>
      Lib.run_append_grow_zeros w 23 3 ty 9 i _ .i64 .i64 TStr.und Tryz.underlying3 hi hz none 0 0 [] (run_firstCells_none w.drew i.size 0 0 0) n hp (by omega) (by omega) (by omega) (by rw [hby]; omega) (growslice_fits (by omega) (by rw [hby]; omega))
    rw [Nat.zero_add] at hrz
    have HG := grownCap_ge w n 0 9
    have HM := grownCap_le_maxLen w n 0 9 (by unfold maxLen; omega)
    have hzc : ∀ k, (Builtin.zeroCells (.string ByteArray.empty : Value).cells k).size = k * 1 := fun k => by simp [Builtin.zeroCells, Value.cells]
    have HOWN : Hid ((w.drew.alloc (.cells (([] : List Value).toArray ++ Builtin.zeroCells (.string ByteArray.empty : Value).cells n ++ Builtin.zeroCells (.string ByteArray.empty : Value).cells (grownCap w n 0 9 - n)) 9)).ownsRow w.heap.size 9 1 (.slice (some ⟨w.heap.size, 0, none⟩) 0 (grownCap w n 0 9)) 0 []) := Lib.hid
      ⟨rfl, .inr ⟨w.heap.size, _, _, rfl, Nat.le_refl _, heap_alloc_new w.drew _, Nat.zero_le _, HM, by simp only [Array.size_append, hzc]; simp; omega, rfl⟩⟩
    generalize (([] : List Value).toArray ++ Builtin.zeroCells (.string ByteArray.empty : Value).cells n ++ Builtin.zeroCells (.string ByteArray.empty : Value).cells (grownCap w n 0 9 - n)) = C at *
    generalize grownCap w n 0 9 = G at *
    have hG : G ≤ 9223372036854775807 := by unfold maxLen at HM; omega
    have hGn : n ≤ G := HG
    have h4 : (0 : Int) < (n : Int) := by omega
    clear HM HG hzc hi hz hsize hby
    go_enter Tryz.func134, Tryz.ntmps134
    go_wp2_with (at_builtin; refine Lib.wpList_append_run _ rfl _ _ _ _ rfl _ _ rfl rfl _ _ (hrz _) ?_)
    go_ret
    exact ⟨_, _, rfl, HOWN.out, ((below_drewN (Below.refl _ _) 1).alloc (Nat.le_refl _) _)⟩
  · obtain rfl : n = 0 := by omega
    go_enter Tryz.func134, Tryz.ntmps134
    go_wp2
    go_ret
    exact ⟨_, _, rfl, World.ownsRow_nil _ _ _ _, Below.refl _ _⟩

/-- the first rows, one behind the other -/
def catN {α : Type} (ls : Nat → List α) : Nat → List α
  | 0 => []
  | k + 1 => catN ls k ++ ls k
theorem catN_len {α : Type} {ls : Nat → List α} {n : Nat} (h : ∀ j, j < n → (ls j).length ≤ 100000) : ∀ {k : Nat}, k ≤ n → (catN ls k).length ≤ 100000 * k
  | 0, _ => by simp [catN]
  | k + 1, hk => by
    rw [catN, List.length_append]
    have := catN_len h (k := k) (by omega)
    have := h k (by omega)
    omega

set_option maxRecDepth 100000 in
set_option maxHeartbeats 3200000 in
theorem concat_S (g n : Nat) (vs : Nat → Value) (ls : Nat → List ByteArray) (A : Nat → Prop) (w : World) (hn : n ≤ 10) (hg : g < w.heap.size) (hc : ∀ j, j < n → w.cell? ⟨g, j, none⟩ = some (vs j)) (hv : ∀ j, j < n → RowsAt StrE A w (vs j) (ls j)) (hl : ∀ j, j < n → (ls j).length ≤ 100000) :
    Calls Tryz.prog 118 #[.slice (some ⟨g, 0, none⟩) n n] w fun e w' => ∃ a c, e = .returned (.slice a (catN ls n).length c) ∧ RowsAt StrE (NewB A w) w' (.slice a (catN ls n).length c) (catN ls n) ∧ Below w.heap.size w w' := by
  have HC := Lib.hid hc
  have HV := Lib.hid hv
  have HLB := Lib.hid hl
  have HCL : Hid (∀ k, k ≤ n → (catN ls k).length ≤ 100000 * k) := Lib.hid (fun k hk => catN_len hl hk)
  clear hc hv hl
  go_enter Tryz.func118, Tryz.ntmps118
  go_wp2
  go_loop [3, 11] (fun s i => ∃ k : Nat, i = .int .i64 k ∧ k ≤ n ∧ s = .int .i64 (catN ls k).length) (fun _ i => n - (intOf i).toNat)
  case atStart => exact ⟨0, rfl, Nat.zero_le _, rfl⟩
  case round =>
    obtain ⟨k, rfl, hk, rfl⟩ := hrel
    have hck := HCL.out k hk
    by_cases hlt : k < n
    · have c0 := HC.out k hlt
      obtain ⟨_, sa, sc, hs⟩ := (HV.out k hlt).form
      have hlk := HLB.out k hlt
      rw [hs] at c0
      have HCS : Hid ((catN ls (k + 1)).length = (catN ls k).length + (ls k).length) := Lib.hid (by rw [catN, List.length_append])
      clear hs
      go_wp2
      go_round
      case rel => exact ⟨k + 1, by go_num, by omega, by rw [HCS.out]; go_num⟩
      case measure => simp [intOf]; omega
    · obtain rfl : k = n := by omega
      have hlt' : ¬ (k : Int) < (k : Int) := by omega
      have hck2 : (catN ls k).length ≤ 1000000 := by omega
      have HGR := Lib.hid (grow_S (catN ls k).length w hck2)
      go_wp2_with (go_at_call 134; refine HGR.out.mono ?_; rintro e w1 ⟨ga, gc, rfl, hown1, hb1⟩; have HO1 := Lib.hid hown1; clear hown1)
      go_loopw [27, 6] (fun i v wr => ∃ q : Nat, i = .int .i64 q ∧ q ≤ k ∧ Below w.heap.size w wr ∧ RowsOwn StrE 9 (fun j => A j ∧ j < w.heap.size) w.heap.size wr v (catN ls q)) (fun i _ _ => k - (intOf i).toNat)
      case atStart => exact ⟨0, rfl, Nat.zero_le _, hb1, ⟨[], HO1.out, fun j hj => by simp [catN] at hj⟩⟩
      case round =>
        obtain ⟨q, rfl, hq, hbl, hown⟩ := hrel
        obtain ⟨va, vc, rfl⟩ := hown.form
        have HOWN := Lib.hid hown
        have hqk := HCL.out q hq
        clear hown
        by_cases hlt2 : q < k
        · have c0 := (hbl.cell (p := ⟨g, q, none⟩) hg).trans (HC.out q hlt2)
          have hrow := (HV.out q hlt2)
          obtain ⟨_, sa, sc, hs⟩ := hrow.form
          have hlq := HLB.out q hlt2
          have HCS : Hid (catN ls (q + 1) = catN ls q ++ ls q) := Lib.hid (by rw [catN])
          have HR : Hid (RowsAt StrE (fun j => A j ∧ j < w.heap.size) wr (vs q) (ls q)) := Lib.hid (hrow.stays ⟨hbl.size, fun b hb a => ⟨hbl.block b hb, a, hb⟩⟩)
          rw [hs] at c0 HR
          have HD : Hid (∀ b, b < wr.heap.size → (A b ∧ b < w.heap.size) → (A b ∧ b < w.heap.size) ∧ (Value.slice va (catN ls q).length vc).ownBlock ≠ some b) := Lib.hid (fun b _ a => ⟨a, fun e => by have := (HOWN.out.lt e).1; omega⟩)
          clear hs hrow
          go_wp2_with (at_builtin; refine wpl_rows TStr rfl (by decide) rfl (.tmp 31) (.tmp 32) rfl rfl rfl HOWN.out HR.out HD.out (by unfold maxLen; omega) (by omega) hbl.size ?_; intro a' c' w3 h3 hg3 hn3; have H3 := Lib.hid h3; have HG3 : Hid (World.grownBy _ w3 (Value.slice va (catN ls q).length vc).ownBlock) := Lib.hid hg3; clear h3 hg3 hn3)
          go_roundw
          case rel => exact ⟨q + 1, by go_num, by omega, hbl.grown HG3.out hbl.size (fun j e => (HOWN.out.lt e).1), by rw [HCS.out]; exact H3.out⟩
          case measure => simp [intOf]; omega
        · obtain rfl : q = k := by omega
          have hlt2' : ¬ (q : Int) < (q : Int) := by omega
          go_wp2
          go_ret
          exact ⟨_, _, rfl, HOWN.out.shut (fun j a => .inl a.1) (fun j e => .inr (HOWN.out.lt e).1) (by unfold maxLen; omega), hbl⟩

/-- three rows -/
theorem concat3_S (g : Nat) (v0 v1 v2 : Value) (l0 l1 l2 : List ByteArray) (A : Nat → Prop) (w : World) (hg : w.heap[g]? = some (.cells #[v0, v1, v2] 23 (0, 0))) (h0 : RowsAt StrE A w v0 l0) (h1 : RowsAt StrE A w v1 l1) (h2 : RowsAt StrE A w v2 l2) (k0 : l0.length ≤ 100000) (k1 : l1.length ≤ 100000) (k2 : l2.length ≤ 100000) :
    Calls Tryz.prog 118 #[.slice (some ⟨g, 0, none⟩) 3 3] w fun e w' => ∃ a n c, e = .returned (.slice a n c) ∧ RowsAt StrE (NewB A w) w' (.slice a n c) (l0 ++ l1 ++ l2) ∧ Below w.heap.size w w' := by
  have hgl : g < w.heap.size := by rw [Array.getElem?_eq_some_iff] at hg; exact hg.1
  have hcat : catN (fun j => [l0, l1, l2].getD j []) 3 = l0 ++ l1 ++ l2 := by simp [catN]
  refine (concat_S g 3 (fun j => [v0, v1, v2].getD j undef) (fun j => [l0, l1, l2].getD j []) A w (by omega) hgl (fun j hj => ?_) (fun j hj => ?_) (fun j hj => ?_)).mono fun e w' h => ?_
  · match j, hj with
    | 0, _ => exact cell_blk hg 0 rfl
    | 1, _ => exact cell_blk hg 1 rfl
    | 2, _ => exact cell_blk hg 2 rfl
  · match j, hj with
    | 0, _ => exact h0
    | 1, _ => exact h1
    | 2, _ => exact h2
  · match j, hj with
    | 0, _ => exact k0
    | 1, _ => exact k1
    | 2, _ => exact k2
  · rw [hcat] at h
    obtain ⟨a, c, he, hr, hb⟩ := h
    exact ⟨a, _, c, he, hr, hb⟩

end Go.Proofs.YtehmmokkjojggabGreatDoor
/- Walks of cleangen.bind. -/
namespace Go.Proofs.YtehmmokkjojggabGreatDoor
set_option linter.unusedVariables false
open Go.RowKit
set_option maxRecDepth 100000 in
set_option maxHeartbeats 3200000 in
theorem bind_if (fv : Value) (tn nm : ByteArray) (l : Bool) (num : Int) (av ha ea : Option Addr) (ac hn hc en ec : Nat) (args : List ByteArray) (cf : CallF) (thn els : List Bd) (w : World) (hs : StrsAt Any w (.slice av args.length ac) args) (htn : tn.size ≤ maxLen) (hnum : In64 num) (HT1 : Hid (∀ w1, Below w.heap.size w w1 → Calls Tryz.prog 38 #[.slice ha hn hc, fv] w1 (StmtsPost (bindsN cf thn) w1))) (HT2 : Hid (∀ w1, Below w.heap.size w w1 → Calls Tryz.prog 38 #[.slice ea en ec, fv] w1 (StmtsPost (bindsN cf els) w1))) :
    Calls Tryz.prog 83 #[.agg #[.string tn, .bool l, .int .u8 83, .int .i64 num, .string nm, .slice av args.length ac, .slice ha hn hc, .slice ea en ec], fv] w (StmtsPost (bindN cf (.mk tn l 83 num nm args thn els)) w) := by
  have hA : Below w.heap.size w (w.alloc (.cells #[.string tn, .bool l, .int .u8 83, .int .i64 num, .string nm, .slice av args.length ac, .slice ha hn hc, .slice ea en ec] 88)) := (Below.refl _ _).alloc (Nat.le_refl _) _
  have hn0 := at_new0 w (.cells #[.string tn, .bool l, .int .u8 83, .int .i64 num, .string nm, .slice av args.length ac, .slice ha hn hc, .slice ea en ec] 88)
  have hws : w.heap.size < (w.alloc (.cells #[.string tn, .bool l, .int .u8 83, .int .i64 num, .string nm, .slice av args.length ac, .slice ha hn hc, .slice ea en ec] 88)).heap.size := by simp
  have hz0 := argN_size hs 0
  have hz1 := argN_size hs 1
  have HS := Lib.hid hs
  have HN := Lib.hid hn0
  clear hs hn0
  go_enter Tryz.func83, Tryz.ntmps83
  go_wp2
  generalize (w.alloc (.cells #[.string tn, .bool l, .int .u8 83, .int .i64 num, .string nm, .slice av args.length ac, .slice ha hn hc, .slice ea en ec] 88)) = W at *
  go_region_held3 (fun w1 => w1.cell? ⟨w.heap.size, 0, none⟩ = some (.string tn) ∧ w1.cell? ⟨w.heap.size, 1, none⟩ = some (.bool l) ∧ w1.cell? ⟨w.heap.size, 2, none⟩ = some (.int .u8 83) ∧ w1.cell? ⟨w.heap.size, 3, none⟩ = some (.int .i64 num) ∧ w1.cell? ⟨w.heap.size, 4, none⟩ = some (.string nm) ∧ w1.cell? ⟨w.heap.size, 5, none⟩ = some (.slice av args.length ac) ∧ w1.cell? ⟨w.heap.size, 6, none⟩ = some (.slice ha hn hc) ∧ w1.cell? ⟨w.heap.size, 7, none⟩ = some (.slice ea en ec))
    ((refine cellsB (e := 88) ?_; (repeat (with_reducible first | exact HN.out | (refine blk_new ?_; (simp; done)) | refine blk_drew ?_ | refine blk_alloc ?_ | (apply blk_below; focus assumption)))))
    (first
    | (go_at_call 115; with_reducible refine (arg0_C tn nm l 83 num av ha ea ac hn hc en ec args Any _ (HS.out.stays (Stays.of_below (by (repeat (with_reducible first | exact hA | exact Below.refl _ _ | refine bel_drew ?_ | refine bel_alloc ?_ | (apply bel_step; focus assumption))))))).mono ?_; rintro e w1 ⟨rfl, hb1⟩)
    | (go_at_call 115; with_reducible refine (arg1_C tn nm l 83 num av ha ea ac hn hc en ec args Any _ (HS.out.stays (Stays.of_below (by (repeat (with_reducible first | exact hA | exact Below.refl _ _ | refine bel_drew ?_ | refine bel_alloc ?_ | (apply bel_step; focus assumption))))))).mono ?_; rintro e w2 ⟨rfl, hb2⟩))
  have HB2 : Hid (w2.heap[w.heap.size]? = some (.cells #[.string tn, .bool l, .int .u8 83, .int .i64 num, .string nm, .slice av args.length ac, .slice ha hn hc, .slice ea en ec] 88)) := Lib.hid (by (repeat (with_reducible first | exact HN.out | (refine blk_new ?_; (simp; done)) | refine blk_drew ?_ | refine blk_alloc ?_ | (apply blk_below; focus assumption))))
  obtain ⟨k0, k1, k2, k3, k4, k5, k6, k7⟩ := cellsB HB2.out
  go_wp2
  go_region_held3 (fun w1 => w1.cell? ⟨w.heap.size, 0, none⟩ = some (.string tn) ∧ w1.cell? ⟨w.heap.size, 1, none⟩ = some (.bool l) ∧ w1.cell? ⟨w.heap.size, 2, none⟩ = some (.int .u8 83) ∧ w1.cell? ⟨w.heap.size, 3, none⟩ = some (.int .i64 num) ∧ w1.cell? ⟨w.heap.size, 4, none⟩ = some (.string nm) ∧ w1.cell? ⟨w.heap.size, 5, none⟩ = some (.slice av args.length ac) ∧ w1.cell? ⟨w.heap.size, 6, none⟩ = some (.slice ha hn hc) ∧ w1.cell? ⟨w.heap.size, 7, none⟩ = some (.slice ea en ec))
    ((refine cellsB (e := 88) ?_; (repeat (with_reducible first | exact HN.out | (refine blk_new ?_; (simp; done)) | refine blk_drew ?_ | refine blk_alloc ?_ | (apply blk_below; focus assumption)))))
    (first
    | (go_at_call 38; (with_reducible refine (HT1.out _ (by (repeat (with_reducible first | exact hA | exact Below.refl _ _ | refine bel_drew ?_ | refine bel_alloc ?_ | (apply bel_step; focus assumption))))).mono ?_); rintro e w3 ⟨ya, yn, yc, rfl, hq3, hb3⟩; have hk3 : KidsAt (Up w.heap.size) w3 (.slice ya yn yc) (bindsN cf thn) := hq3.stays (stays_upup (up_ge (by (repeat (with_reducible first | exact hA | exact Below.refl _ _ | refine bel_drew ?_ | refine bel_alloc ?_ | (apply bel_step; focus assumption)))) (Nat.le_refl _))); clear hq3)
    | (go_at_call 38; (with_reducible refine (HT2.out _ (by (repeat (with_reducible first | exact hA | exact Below.refl _ _ | refine bel_drew ?_ | refine bel_alloc ?_ | (apply bel_step; focus assumption))))).mono ?_); rintro e w4 ⟨na, nn, nc, rfl, hq4, hb4⟩; have hk4 : KidsAt (Up w.heap.size) w4 (.slice na nn nc) (bindsN cf els) := hq4.stays (stays_upup (up_ge (by (repeat (with_reducible first | exact hA | exact Below.refl _ _ | refine bel_drew ?_ | refine bel_alloc ?_ | (apply bel_step; focus assumption)))) (Nat.le_refl _))); clear hq4)
)
  all_goals
    have HK3 := Lib.hid hk3
    have HK4 := Lib.hid hk4
    clear hk3 hk4
    go_wp2_with (first
    | (go_at_call 87; refine (variable_C _ _).mono ?_; rintro e w5 ⟨rfl, hb5⟩)
    | (go_at_call 37; refine (block_C _ _ _ _).mono ?_; rintro e w8 ⟨rfl, hb8⟩)
    | (go_at_call 82; refine (node_C _ _ _ _ _ _).mono ?_; rintro e w6 ⟨rfl, hb6⟩)
    | (go_at_call 117; refine (list_C _ _ _ _).mono ?_; rintro e w7 ⟨rfl, rfl⟩))
    go_ret
    refine ⟨_, _, _, rfl, (?_ : KidsAt (Up w.heap.size) _ _ [nodeN 52 ⟨#[]⟩ [vN (argN args 0), nodeN 57 ⟨#[]⟩ (bindsN cf thn), nodeN 57 ⟨#[]⟩ (bindsN cf els), vN (argN args 0)]]), by (repeat (with_reducible first | exact hA | exact Below.refl _ _ | refine bel_drew ?_ | refine bel_alloc ?_ | (apply bel_step; focus assumption)))⟩
    exact kidsU1 (by (repeat (with_reducible first | (refine nb_new ?_ ?_; rotate_left; (focus (simp; done)); (focus ((repeat (with_reducible first | exact hA | exact Below.refl _ _ | refine bel_drew ?_ | refine bel_alloc ?_ | (apply bel_step; focus assumption))); done))) | refine nb_drew ?_ | refine nb_alloc ?_ | (apply nb_below; focus assumption)))) (nd_node (kidsU4 (by (repeat (with_reducible first | (refine nb_new ?_ ?_; rotate_left; (focus (simp; done)); (focus ((repeat (with_reducible first | exact hA | exact Below.refl _ _ | refine bel_drew ?_ | refine bel_alloc ?_ | (apply bel_step; focus assumption))); done))) | refine nb_drew ?_ | refine nb_alloc ?_ | (apply nb_below; focus assumption)))) (nd_v hz0) (nd_node (HK3.out.stays (stays_up (by (repeat (with_reducible first | exact hA | exact Below.refl _ _ | refine bel_drew ?_ | refine bel_alloc ?_ | (apply bel_step; focus assumption)))))) (by omega) (Nat.zero_le _)) (nd_node (HK4.out.stays (stays_up (by (repeat (with_reducible first | exact hA | exact Below.refl _ _ | refine bel_drew ?_ | refine bel_alloc ?_ | (apply bel_step; focus assumption)))))) (by omega) (Nat.zero_le _)) (nd_v hz0)) (by omega) (Nat.zero_le _))

set_option maxRecDepth 100000 in
set_option maxHeartbeats 3200000 in
theorem bind_call (fv : Value) (tn nm : ByteArray) (l : Bool) (num : Int) (av ha ea : Option Addr) (ac hn hc en ec : Nat) (args : List ByteArray) (cf : CallF) (thn els : List Bd) (w : World) (hs : StrsAt Any w (.slice av args.length ac) args) (htn : tn.size ≤ maxLen) (hnum : In64 num) (hnm : nm.size ≤ maxLen) (hal : args.length ≤ 100000) (HC : Hid (ClosOk fv cf w)) :
    Calls Tryz.prog 83 #[.agg #[.string tn, .bool l, .int .u8 85, .int .i64 num, .string nm, .slice av args.length ac, .slice ha hn hc, .slice ea en ec], fv] w (StmtsPost (bindN cf (.mk tn l 85 num nm args thn els)) w) := by
  have hA : Below w.heap.size w (w.alloc (.cells #[.string tn, .bool l, .int .u8 85, .int .i64 num, .string nm, .slice av args.length ac, .slice ha hn hc, .slice ea en ec] 88)) := (Below.refl _ _).alloc (Nat.le_refl _) _
  have hn0 := at_new0 w (.cells #[.string tn, .bool l, .int .u8 85, .int .i64 num, .string nm, .slice av args.length ac, .slice ha hn hc, .slice ea en ec] 88)
  have hws : w.heap.size < (w.alloc (.cells #[.string tn, .bool l, .int .u8 85, .int .i64 num, .string nm, .slice av args.length ac, .slice ha hn hc, .slice ea en ec] 88)).heap.size := by simp
  have hz0 := argN_size hs 0
  have hz1 := argN_size hs 1
  have HS := Lib.hid hs
  have HN := Lib.hid hn0
  clear hs hn0
  obtain ⟨F, caps, rfl, hE, hF⟩ := HC.out
  have HF := Lib.hid hF
  clear HC hF
  go_enter Tryz.func83, Tryz.ntmps83
  go_wp2
  generalize (w.alloc (.cells #[.string tn, .bool l, .int .u8 85, .int .i64 num, .string nm, .slice av args.length ac, .slice ha hn hc, .slice ea en ec] 88)) = W at *
  go_region_held3 (fun w1 => w1.cell? ⟨w.heap.size, 0, none⟩ = some (.string tn) ∧ w1.cell? ⟨w.heap.size, 1, none⟩ = some (.bool l) ∧ w1.cell? ⟨w.heap.size, 2, none⟩ = some (.int .u8 85) ∧ w1.cell? ⟨w.heap.size, 3, none⟩ = some (.int .i64 num) ∧ w1.cell? ⟨w.heap.size, 4, none⟩ = some (.string nm) ∧ w1.cell? ⟨w.heap.size, 5, none⟩ = some (.slice av args.length ac) ∧ w1.cell? ⟨w.heap.size, 6, none⟩ = some (.slice ha hn hc) ∧ w1.cell? ⟨w.heap.size, 7, none⟩ = some (.slice ea en ec))
    ((refine cellsB (e := 88) ?_; (repeat (with_reducible first | exact HN.out | (refine blk_new ?_; (simp; done)) | refine blk_drew ?_ | refine blk_alloc ?_ | (apply blk_below; focus assumption)))))
    (first
    | (go_at_call 115; with_reducible refine (arg0_C tn nm l 85 num av ha ea ac hn hc en ec args Any _ (HS.out.stays (Stays.of_below (by (repeat (with_reducible first | exact hA | exact Below.refl _ _ | refine bel_drew ?_ | refine bel_alloc ?_ | (apply bel_step; focus assumption))))))).mono ?_; rintro e w1 ⟨rfl, hb1⟩)
    | (go_at_call 115; with_reducible refine (arg1_C tn nm l 85 num av ha ea ac hn hc en ec args Any _ (HS.out.stays (Stays.of_below (by (repeat (with_reducible first | exact hA | exact Below.refl _ _ | refine bel_drew ?_ | refine bel_alloc ?_ | (apply bel_step; focus assumption))))))).mono ?_; rintro e w2 ⟨rfl, hb2⟩))
  have HB2 : Hid (w2.heap[w.heap.size]? = some (.cells #[.string tn, .bool l, .int .u8 85, .int .i64 num, .string nm, .slice av args.length ac, .slice ha hn hc, .slice ea en ec] 88)) := Lib.hid (by (repeat (with_reducible first | exact HN.out | (refine blk_new ?_; (simp; done)) | refine blk_drew ?_ | refine blk_alloc ?_ | (apply blk_below; focus assumption))))
  obtain ⟨k0, k1, k2, k3, k4, k5, k6, k7⟩ := cellsB HB2.out
  go_wp2_with fail
  obtain ⟨hF, hf1, hf2⟩ := HF.out nm w2 hnm (by (repeat (with_reducible first | exact hA | exact Below.refl _ _ | refine bel_drew ?_ | refine bel_alloc ?_ | (apply bel_step; focus assumption))))
  refine hF.mono ?_
  rintro e w3 ⟨xa, xn, xc, rfl, hx3, hb3⟩
  have HX3 := Lib.hid hx3
  have HB3 : Hid (w3.heap[w.heap.size]? = some (.cells #[.string tn, .bool l, .int .u8 85, .int .i64 num, .string nm, .slice av args.length ac, .slice ha hn hc, .slice ea en ec] 88)) := Lib.hid (blk_below hb3 HB2.out)
  obtain ⟨j0, j1, j2, j3, j4, j5, j6, j7⟩ := cellsB HB3.out
  clear hF hx3 k0 k1 k2 k3 k4 k5 k6 k7
  go_wp2_with (first
    | (go_at_call 118; refine (concat3_S _ _ _ _ args [tn] (cf nm).2 Any _ (by (repeat (with_reducible first | exact HN.out | (refine blk_new ?_; (simp; done)) | refine blk_drew ?_ | refine blk_alloc ?_ | (apply blk_below; focus assumption)))) (HS.out.stays (Stays.of_below (by (repeat (with_reducible first | exact hA | exact Below.refl _ _ | refine bel_drew ?_ | refine bel_alloc ?_ | (apply bel_step; focus assumption)))))) (strs_1 (by (repeat (with_reducible first | exact HN.out | (refine blk_new ?_; (simp; done)) | refine blk_drew ?_ | refine blk_alloc ?_ | (apply blk_below; focus assumption)))) trivial htn) (HX3.out.stays (Stays.of_below (by (repeat (with_reducible first | exact Below.refl _ _ | refine bel_drew ?_ | refine bel_alloc ?_ | (apply bel_step; focus assumption)))))) hal (by simp) (by omega)).mono ?_; rintro e w4 ⟨za, zn, zc, rfl, hz4, hb4⟩; have HZ4 := Lib.hid hz4; clear hz4)
    | (go_at_call 86; refine (invoke_V w.heap.size _ _ _ _ (args ++ [tn] ++ (cf nm).2) _ (up_ge (by (repeat (with_reducible first | exact hA | exact Below.refl _ _ | refine bel_drew ?_ | refine bel_alloc ?_ | (apply bel_step; focus assumption)))) (Nat.le_refl _)) (strs_rows.2 HZ4.out) hf1 (by simp; omega)).mono ?_; rintro e w6 ⟨ja, jn, jc, rfl, hk6, hb6⟩; have HK6 := Lib.hid hk6; clear hk6)
    | (go_at_call 117; refine (list_C _ _ _ _).mono ?_; rintro e w7 ⟨rfl, rfl⟩))
  go_ret
  exact ⟨_, _, _, rfl, kidsU1 (by (repeat (with_reducible first | (refine nb_new ?_ ?_; rotate_left; (focus (simp; done)); (focus ((repeat (with_reducible first | exact hA | exact Below.refl _ _ | refine bel_drew ?_ | refine bel_alloc ?_ | (apply bel_step; focus assumption))); done))) | refine nb_drew ?_ | refine nb_alloc ?_ | (apply nb_below; focus assumption)))) (HK6.out.stays (stays_up (by (repeat (with_reducible first | exact hA | exact Below.refl _ _ | refine bel_drew ?_ | refine bel_alloc ?_ | (apply bel_step; focus assumption)))))), by (repeat (with_reducible first | exact hA | exact Below.refl _ _ | refine bel_drew ?_ | refine bel_alloc ?_ | (apply bel_step; focus assumption)))⟩
end Go.Proofs.YtehmmokkjojggabGreatDoor
/- cleangen.bind and cleangen.binds as a whole. -/
namespace Go.Proofs.YtehmmokkjojggabGreatDoor
set_option linter.unusedVariables false
open Go.RowKit

theorem BdsAt.at {A : Nat → Prop} {w : World} {v : Value} {l : List Bd} (h : BdsAt A w v l) {j : Nat} (hj : j < l.length) :
    ∃ b off cap aa ac ta tc ea ec, v = .slice (some ⟨b, off, none⟩) l.length cap ∧ b < w.heap.size ∧ w.cell? ⟨b, off + j * 8, none⟩ = some (.string (at' l j).to) ∧ w.cell? ⟨b, off + j * 8 + 1, none⟩ = some (.bool (at' l j).list) ∧
      w.cell? ⟨b, off + j * 8 + 2, none⟩ = some (.int .u8 (at' l j).op) ∧ w.cell? ⟨b, off + j * 8 + 3, none⟩ = some (.int .i64 (at' l j).num) ∧ w.cell? ⟨b, off + j * 8 + 4, none⟩ = some (.string (at' l j).name) ∧
      w.cell? ⟨b, off + j * 8 + 5, none⟩ = some (.slice aa (at' l j).args.length ac) ∧ w.cell? ⟨b, off + j * 8 + 6, none⟩ = some (.slice ta (at' l j).thn.length tc) ∧ w.cell? ⟨b, off + j * 8 + 7, none⟩ = some (.slice ea (at' l j).els.length ec) ∧
      StrsAt A w (.slice aa (at' l j).args.length ac) (at' l j).args ∧ BdsAt A w (.slice ta (at' l j).thn.length tc) (at' l j).thn ∧ BdsAt A w (.slice ea (at' l j).els.length ec) (at' l j).els ∧ (at' l j).Ok1 := by
  cases h with
  | mk _ _ cs h hf ht he =>
    obtain ⟨b, off, cap, rfl, h1, h2, h3, h4⟩ := h.at hj
    obtain ⟨e0, e1, e2, e3, e4, e5, e6⟩ := hf j hj
    have t := ht j hj
    have e := he j hj
    obtain ⟨_, aa, ac, f5⟩ := e5.form
    obtain ⟨_, ta, tc, f6⟩ := t.form
    obtain ⟨_, ea, ec, f7⟩ := e.form
    have g5 := h4 5 (by omega)
    have g6 := h4 6 (by omega)
    have g7 := h4 7 (by omega)
    rw [f5] at g5 e5
    rw [f6] at g6 t
    rw [f7] at g7 e
    exact ⟨b, off, cap, aa, ac, ta, tc, ea, ec, rfl, h1, by rw [← e0]; exact h4 0 (by omega), by rw [← e1]; exact h4 1 (by omega), by rw [← e2]; exact h4 2 (by omega), by rw [← e3]; exact h4 3 (by omega), by rw [← e4]; exact h4 4 (by omega), g5, g6, g7, e5, t, e, e6⟩

theorem sizeB_pos : ∀ b : Bd, 0 < sizeB b
  | .mk _ _ _ _ _ _ _ _ => by rw [sizeB]; omega
theorem len_sizeBs : ∀ l : List Bd, l.length ≤ sizeBs l
  | [] => by simp
  | b :: r => by rw [sizeBs, List.length_cons]; have := len_sizeBs r; have := sizeB_pos b; omega
theorem sizeB_at : ∀ (l : List Bd) (k : Nat), k < l.length → sizeB (at' l k) ≤ sizeBs l
  | [], k, h => by simp at h
  | b :: r, 0, _ => by rw [sizeBs]; show sizeB b ≤ _; omega
  | b :: r, k + 1, h => by rw [sizeBs]; have := sizeB_at r k (by simpa using h); show sizeB (at' r k) ≤ _; omega
theorem bindN_len (cf : CallF) (b : Bd) : (bindN cf b).length ≤ 2 := by
  obtain ⟨tn, l, op, num, nm, args, thn, els⟩ := b
  rw [bindN]
  repeat' split
  all_goals simp
theorem bindsN_len (cf : CallF) : ∀ l : List Bd, (bindsN cf l).length ≤ 2 * l.length
  | [] => by rw [bindsN]; simp
  | b :: r => by rw [bindsN, List.length_append, List.length_cons]; have := bindsN_len cf r; have := bindN_len cf b; omega

set_option maxRecDepth 100000 in
set_option maxHeartbeats 3200000 in
theorem binds_walk (fv : Value) (cf : CallF) (l : List Bd) (bv : Value) (w : World) (hsz : l.length ≤ 100000) (hv : BdsAt Any w bv l)
    (HB : Hid (∀ k, k < l.length → ∀ (av ha ea : Option Addr) (ac hc ec : Nat) (w1 : World), Below w.heap.size w w1 → StrsAt Any w1 (.slice av (at' l k).args.length ac) (at' l k).args → BdsAt Any w1 (.slice ha (at' l k).thn.length hc) (at' l k).thn → BdsAt Any w1 (.slice ea (at' l k).els.length ec) (at' l k).els → (at' l k).Ok1 →
      Calls Tryz.prog 83 #[.agg #[.string (at' l k).to, .bool (at' l k).list, .int .u8 (at' l k).op, .int .i64 (at' l k).num, .string (at' l k).name, .slice av (at' l k).args.length ac, .slice ha (at' l k).thn.length hc, .slice ea (at' l k).els.length ec], fv] w1 (StmtsPost (bindN cf (at' l k)) w1))) :
    Calls Tryz.prog 38 #[bv, fv] w (StmtsPost (bindsN cf l) w) := by
  obtain ⟨hll, la, lc, rfl⟩ := hv.form
  have HV := Lib.hid hv
  clear hv
  go_enter Tryz.func38, Tryz.ntmps38
  go_wp2
  go_loopw [10, 5] (fun i v wr => ∃ k : Nat, i = .int .i64 k ∧ k ≤ l.length ∧ Below w.heap.size w wr ∧ RowsOwn NdE 35 (Up w.heap.size) w.heap.size wr v (bindsN cf (l.take k))) (fun i _ _ => l.length - (intOf i).toNat)
  case atStart => exact ⟨0, rfl, Nat.zero_le _, Below.refl _ _, by rw [List.take_zero, bindsN]; exact RowsOwn.nil _ _ _ _ _⟩
  case round =>
    obtain ⟨k, rfl, hk, hbl, hown⟩ := hrel
    obtain ⟨va, vc, rfl⟩ := hown.form
    have HOWN := Lib.hid hown
    have hbn : (bindsN cf (l.take k)).length ≤ 2 * k := by
      have := bindsN_len cf (l.take k)
      rw [List.length_take] at this
      omega
    clear hown
    by_cases hlt : k < l.length
    · obtain ⟨b, off, cap, aa, ac, ta, tc, ea, ec, he, hb, c0, c1, c2, c3, c4, c5, c6, c7, hs, ht, hel, hok⟩ := (HV.out.stays (Stays.of_below hbl)).at hlt
      simp only [Value.slice.injEq] at he
      obtain ⟨rfl, -, rfl⟩ := he
      have hA : Below wr.heap.size wr (wr.alloc (.cells #[.string (at' l k).to, .bool (at' l k).list, .int .u8 (at' l k).op, .int .i64 (at' l k).num, .string (at' l k).name, .slice aa (at' l k).args.length ac, .slice ta (at' l k).thn.length tc, .slice ea (at' l k).els.length ec] 88)) := (Below.refl _ _).alloc (Nat.le_refl _) _
      have HBC := Lib.hid (HB.out k hlt aa ta ea ac tc ec _ (hbl.trans (hA.mono hbl.size)) (hs.stays (Stays.of_below hA)) (ht.stays (Stays.of_below hA)) (hel.stays (Stays.of_below hA)) hok)
      have HTK := Lib.hid (bindsN_take cf hlt)
      clear hs ht hel hok
      go_wp2_with fail
      refine HBC.out.mono ?_
      rintro e w1 ⟨ka, kn, kc, rfl, hk1, hb1⟩
      have hB1 : Below wr.heap.size wr w1 := hA.trans (hb1.mono hA.size)
      have HO1 := Lib.hid (HOWN.out.below hB1)
      have HK1 := Lib.hid (kids_rows.1 hk1)
      have hkl := bindN_len cf (at' l k)
      have HD : Hid (∀ b, b < w1.heap.size → Up (wr.alloc (.cells #[.string (at' l k).to, .bool (at' l k).list, .int .u8 (at' l k).op, .int .i64 (at' l k).num, .string (at' l k).name, .slice aa (at' l k).args.length ac, .slice ta (at' l k).thn.length tc, .slice ea (at' l k).els.length ec] 88)).heap.size b → Up w.heap.size b ∧ (Value.slice va (bindsN cf (l.take k)).length vc).ownBlock ≠ some b) := Lib.hid (fun b _ a => by
        have h1 : wr.heap.size + 1 ≤ b := by simpa [Up] using a
        have h2 := hbl.size
        exact ⟨by unfold Up; omega, fun e => by have := (HOWN.out.lt e).2; omega⟩)
      have hbase : w.heap.size ≤ w1.heap.size := Nat.le_trans hbl.size hB1.size
      clear hk1 HBC
      go_wp2_with (at_builtin; refine wpl_rows TNd rfl (by decide) rfl (.tmp 14) (.tmp 17) rfl rfl rfl HO1.out HK1.out HD.out (by unfold maxLen; omega) (by omega) hbase ?_; intro a' c' w3 h3 hg3 hn3; have H3 := Lib.hid h3; have HG3 : Hid (World.grownBy _ w3 (Value.slice va (bindsN cf (l.take k)).length vc).ownBlock) := Lib.hid hg3; clear h3 hg3 hn3)
      go_roundw
      case rel => exact ⟨k + 1, by go_num, by omega, (hbl.trans (hB1.mono hbl.size)).grown HG3.out hbase (fun j e => (HOWN.out.lt e).1), by rw [HTK.out]; exact H3.out⟩
      case measure => simp [intOf]; omega
    · obtain rfl : k = l.length := by omega
      have hlt' : ¬ (l.length : Int) < (l.length : Int) := by omega
      rw [List.take_length] at hbn HOWN
      go_wp2
      go_ret
      exact ⟨_, _, _, rfl, kids_rows.2 (HOWN.out.shut (fun j a => a) (fun j e => (HOWN.out.lt e).1) (by unfold maxLen; omega)), hbl⟩

/-- binds, up to a size -/
def BindsOk (m : Nat) : Prop := ∀ (fv : Value) (cf : CallF) (l : List Bd) (bv : Value) (w : World), sizeBs l ≤ m → BdsAt Any w bv l → ClosOk fv cf w → Calls Tryz.prog 38 #[bv, fv] w (StmtsPost (bindsN cf l) w)

theorem bindC_any (m : Nat) (hm : m ≤ 90000) (ih : BindsOk m) (fv : Value) (cf : CallF) (b : Bd) (av ha ea : Option Addr) (ac hc ec : Nat) (w : World) (hsz : sizeB b ≤ m + 1) (hok : b.Ok1) (hs : StrsAt Any w (.slice av b.args.length ac) b.args) (ht : BdsAt Any w (.slice ha b.thn.length hc) b.thn) (he : BdsAt Any w (.slice ea b.els.length ec) b.els) (hcl : ClosOk fv cf w) :
    Calls Tryz.prog 83 #[.agg #[.string b.to, .bool b.list, .int .u8 b.op, .int .i64 b.num, .string b.name, .slice av b.args.length ac, .slice ha b.thn.length hc, .slice ea b.els.length ec], fv] w (StmtsPost (bindN cf b) w) := by
  obtain ⟨tn, l, op, num, nm, args, thn, els⟩ := b
  obtain ⟨o1, o2, o3, o4⟩ := hok
  simp only [Bd.to, Bd.list, Bd.op, Bd.num, Bd.name, Bd.args, Bd.thn, Bd.els] at *
  rw [sizeB] at hsz
  by_cases h0 : op = 80
  · subst h0; exact bind_num fv tn nm l num av ha ea ac _ hc _ ec args cf thn els w hs o1 o3
  by_cases h1 : op = 81
  · subst h1
    cases l
    · exact bind_var fv tn nm num av ha ea ac _ hc _ ec args cf thn els w hs o1 o3
    · exact bind_varl fv tn nm num av ha ea ac _ hc _ ec args cf thn els w hs o1 o3
  by_cases h2 : op = 82
  · subst h2; exact bind_op fv tn nm l num av ha ea ac _ hc _ ec args cf thn els w hs o1 o3
  by_cases h3 : op = 83
  · subst h3
    refine bind_if fv tn nm l num av ha ea ac _ hc _ ec args cf thn els w hs o1 o3 (Lib.hid fun w1 hb => ?_) (Lib.hid fun w1 hb => ?_)
    · exact ih fv cf thn _ w1 (by omega) (ht.stays (Stays.of_below hb)) (hcl.below hb)
    · exact ih fv cf els _ w1 (by omega) (he.stays (Stays.of_below hb)) (hcl.below hb)
  by_cases h5 : op = 85
  · subst h5; exact bind_call fv tn nm l num av ha ea ac _ hc _ ec args cf thn els w hs o1 o3 o4 (by omega) (Lib.hid hcl)
  by_cases h7 : op = 87
  · subst h7; exact bind_cons fv tn nm l num av ha ea ac _ hc _ ec args cf thn els w hs o1 o3
  by_cases h8 : op = 88
  · subst h8; exact bind_head fv tn nm l num av ha ea ac _ hc _ ec args cf thn els w hs o1 o3
  by_cases h9 : op = 89
  · subst h9; exact bind_tail fv tn nm l num av ha ea ac _ hc _ ec args cf thn els w hs o1 o3
  by_cases h10 : op = 90
  · subst h10; exact bind_null fv tn nm l num av ha ea ac _ hc _ ec args cf thn els w hs o1 o3
  rw [bindN, if_neg h0, if_neg h1, if_neg h2, if_neg h3, if_neg h5, if_neg h7, if_neg h8, if_neg h9, if_neg h10]
  exact bind_nil fv tn nm l op num av ha ea ac _ hc _ ec args w hs o1 o3 h0 h1 h2 h3 h5 h7 h8 h9 h10

theorem binds_ok : ∀ m, m ≤ 90000 → BindsOk m
  | 0, _ => fun fv cf l bv w hsz hv hcl => by
    have := len_sizeBs l
    exact binds_walk fv cf l bv w (by omega) hv (Lib.hid fun k hk => by omega)
  | m + 1, hm => fun fv cf l bv w hsz hv hcl => by
    have := len_sizeBs l
    refine binds_walk fv cf l bv w (by omega) hv (Lib.hid fun k hk av ha ea ac hc ec w1 hb hs ht he hok => ?_)
    exact bindC_any m (by omega) (binds_ok m (by omega)) fv cf (at' l k) av ha ea ac hc ec w1 (by have := sizeB_at l k hk; omega) hok hs ht he (hcl.below hb)
end Go.Proofs.YtehmmokkjojggabGreatDoor
/- Walks of package cleangen: Compute, decl, Params, result. -/
namespace Go.Proofs.YtehmmokkjojggabGreatDoor
set_option linter.unusedVariables false
open Go.RowKit

theorem results_cell_row2 {P : Program} {fn : Func} {p q : Tmp} {ty : TypeId} (h : fn.results = #[.cell p ty, .tmp q]) (tmps : Array Value) (w : World) (g : Nat) (t : TypeId) (cs : Array Value) (fr : Nat × Nat) (d : TypeDesc) (v2 : Value)
    (hp : tmps.getD p undef = .pointer (some ⟨g, 0, none⟩)) (hg : w.heap[g]? = some (.cells cs t fr)) (hq : tmps.getD q undef = v2)
    (hu : P.underlying ty = some d) (hd : (match d with | .struct _ | .array _ _ => true | _ => false) = true) (hi : (P.info? ty).map (·.size) = some cs.size) :
    (results fn tmps).run P w = .ok (.tuple #[.agg cs, v2]) w := by
  have hp' : tmps[p]?.getD undef = .pointer (some ⟨g, 0, none⟩) := by simpa using hp
  have hq' : tmps[q]?.getD undef = v2 := by simpa using hq
  simp [results, h, hp', hq', asAddr, run_loadVar_row w g t ty cs fr d hg hu hd hi]

/-- the cells of a normalized function, in a block of its own -/
def afnCells (g : AFn) (pa ta ba : Option Addr) (pc tc bc : Nat) : Array Value := #[.string g.name, .slice pa g.params.length pc, .bool g.list, .slice ta g.temps.length tc, .slice ba g.body.length bc, .string g.result]

set_option maxRecDepth 100000 in
set_option maxHeartbeats 1600000 in
theorem compute_C (g : AFn) (pa ta ba : Option Addr) (pc tc bc : Nat) (fv : Value) (cf : CallF) (w : World) (hb : BdsAt Any w (.slice ba g.body.length bc) g.body) (hcl : ClosOk fv cf w) (hsz : sizeBs g.body ≤ 90000) :
    Calls Tryz.prog 11 #[.agg #[.string g.name, .slice pa g.params.length pc, .bool g.list, .slice ta g.temps.length tc, .slice ba g.body.length bc, .string g.result], fv] w fun e w' => ∃ ka kn kc, e = .returned (.tuple #[.agg #[.int .u8 57, .int .i64 0, .string ⟨#[]⟩, .slice ka kn kc], .int .i64 0]) ∧ KidsAt (Up w.heap.size) w' (.slice ka kn kc) (bindsN cf g.body) ∧ Below w.heap.size w w' := by
  obtain ⟨F, caps, hfv, _⟩ := id hcl
  subst hfv
  have hA1 : Below w.heap.size w (w.alloc (.cells #[.string g.name, .slice pa g.params.length pc, .bool g.list, .slice ta g.temps.length tc, .slice ba g.body.length bc, .string g.result] 31)) := (Below.refl _ _).alloc (Nat.le_refl _) _
  have hA : Below w.heap.size w ((w.alloc (.cells #[.string g.name, .slice pa g.params.length pc, .bool g.list, .slice ta g.temps.length tc, .slice ba g.body.length bc, .string g.result] 31)).alloc (.cells #[.int .u8 0, .int .i64 0, .string ⟨#[]⟩, .slice none 0 0] 35)) := hA1.alloc hA1.size _
  have HN := Lib.hid (at_new w (.cells #[.string g.name, .slice pa g.params.length pc, .bool g.list, .slice ta g.temps.length tc, .slice ba g.body.length bc, .string g.result] 31) (.cells #[.int .u8 0, .int .i64 0, .string ⟨#[]⟩, .slice none 0 0] 35))
  have HB := Lib.hid (binds_ok 90000 (Nat.le_refl _) _ cf g.body _ _ hsz (hb.stays (Stays.of_below hA)) (hcl.below hA))
  have heq : ∀ w0 : World, (binOp .eql 43 (.func (.func F) #[] caps) .nilFunc).run Tryz.prog w0 = .ok (.bool false) w0 := fun w0 => by kernel_rfl
  clear hb hcl hsz
  go_enter Tryz.func11, Tryz.ntmps11
  go_wp2_with fail
  refine HB.out.mono ?_
  rintro e w1 ⟨ka, kn, kc, rfl, hk1, hb1⟩
  have HK1 := Lib.hid hk1
  clear hk1 HB
  go_wp2_with (go_at_call 37; refine (block_C _ _ _ _).mono ?_; rintro e w2 ⟨rfl, hb2⟩; have hr := blk_below hb2 (blk_below hb1 HN.out); obtain ⟨r0, r1, r2, r3⟩ := cells4 hr; have f := unfrozen hr; have HR := Lib.hid hr; clear hr)
  (try simp only [Exit.inBlock, Exit.then])
  refine bodyPost_ret (results_cell_row2 (P := Tryz.prog) rfl _ _ (w.heap.size + 1) _ _ _ _ _ rfl (set4 HR.out _ _ _ _) rfl Tryz.underlying35 rfl (by kernel_rfl)) rfl ?_
  have hz := hb1.size
  simp only [World.size_alloc] at hz
  have hB2 : Below w.heap.size w w2 := hA.trans ((hb1.trans (hb2.mono hb1.size)).mono hA.size)
  refine ⟨_, _, _, rfl, ?_, bel_sets4 hB2 (by omega)⟩
  have hK4 := (((keeps_set w2 (w.heap.size + 1) 0 (.int .u8 57)).same (keeps_set _ (w.heap.size + 1) 1 (.int .i64 0))).same (keeps_set _ (w.heap.size + 1) 2 (.string ⟨#[]⟩))).same (keeps_set _ (w.heap.size + 1) 3 (.slice ka kn kc))
  refine (HK1.out.stays (Stays.of_below hb2)).stays ⟨hK4.size, fun b hb a => ⟨hK4.block b hb (fun e => ?_), ?_⟩⟩
  · have : w.heap.size + 1 + 1 ≤ b := by simpa [Up] using a
    omega
  · have : w.heap.size + 1 + 1 ≤ b := by simpa [Up] using a
    unfold Up; omega

/-- a declaration -/
structure Dcl where
  name : ByteArray
  kind : Int
instance : Inhabited Dcl := ⟨⟨ByteArray.empty, 0⟩⟩
/-- declarations as elements -/
def DclE : Elem Dcl where
  size := 3
  C := fun _ _ c x => c 0 = .string x.name ∧ c 1 = .int .u8 x.kind ∧ c 2 = .int .i64 0 ∧ x.name.size ≤ maxLen
  stays := fun _ _ _ h => h
  congr := fun h e => ⟨(e 0 (by omega)).trans h.1, (e 1 (by omega)).trans h.2.1, (e 2 (by omega)).trans h.2.2.1, h.2.2.2⟩
  one := fun h i hi => by
    match i, hi with
    | 0, _ => rw [h.1]; rfl
    | 1, _ => rw [h.2.1]; rfl
    | 2, _ => rw [h.2.2.1]; rfl
def dclN (s : ByteArray) (b : Bool) : Dcl := ⟨s, if b then 3 else 1⟩
theorem TDcl : RowT Tryz.prog 50 59 (.agg #[.string ByteArray.empty, .int .u8 0, .int .i64 0]) 3 32 := ⟨Tryz.underlying50, by kernel_rfl⟩

theorem decl_C (s : ByteArray) (b : Bool) (w : World) : Calls Tryz.prog 52 #[.string s, .bool b] w fun e w' => e = .returned (.agg #[.string s, .int .u8 (dclN s b).kind, .int .i64 0]) ∧ Below w.heap.size w w' := by
  cases b
  all_goals
    go_enter Tryz.func52, Tryz.ntmps52
    go_wp2
    go_returns
    exact ⟨rfl, (Below.refl _ _).alloc (Nat.le_refl _) _⟩

/-- the declarations of a function's parameters -/
def paramsN (g : AFn) : List Dcl := g.params.map (fun p => dclN p.name p.list) ++ [dclN outS g.list]

theorem dcl_1 {A : Nat → Prop} {w : World} {g : Nat} {s : ByteArray} {b : Bool} (h : w.heap[g]? = some (.cells #[.string s, .int .u8 (dclN s b).kind, .int .i64 0] 59 (0, 0))) (hA : A g) (hs : s.size ≤ maxLen) : RowsAt DclE A w (.slice (some ⟨g, 0, none⟩) 1 1) [dclN s b] :=
  rows_1 h hA rfl ⟨rfl, rfl, rfl, hs⟩

set_option maxRecDepth 100000 in
set_option maxHeartbeats 1600000 in
theorem params_C (g : AFn) (pa ta ba : Option Addr) (pc tc bc : Nat) (w : World) (hp : ParsAt Any w (.slice pa g.params.length pc) g.params) (hl : g.params.length ≤ 1000) :
    Calls Tryz.prog 18 #[.agg #[.string g.name, .slice pa g.params.length pc, .bool g.list, .slice ta g.temps.length tc, .slice ba g.body.length bc, .string g.result]] w fun e w' => ∃ a c, e = .returned (.slice a (paramsN g).length c) ∧ RowsAt DclE (Up w.heap.size) w' (.slice a (paramsN g).length c) (paramsN g) ∧ Below w.heap.size w w' := by
  have hA : Below w.heap.size w (w.alloc (.cells #[.string g.name, .slice pa g.params.length pc, .bool g.list, .slice ta g.temps.length tc, .slice ba g.body.length bc, .string g.result] 31)) := (Below.refl _ _).alloc (Nat.le_refl _) _
  have hws : w.heap.size < (w.alloc (.cells #[.string g.name, .slice pa g.params.length pc, .bool g.list, .slice ta g.temps.length tc, .slice ba g.body.length bc, .string g.result] 31)).heap.size := by simp
  have HN := Lib.hid (at_new0 w (.cells #[.string g.name, .slice pa g.params.length pc, .bool g.list, .slice ta g.temps.length tc, .slice ba g.body.length bc, .string g.result] 31))
  have HP := Lib.hid (hp.stays (Stays.of_below hA))
  clear hp
  go_enter Tryz.func18, Tryz.ntmps18
  go_wp2
  generalize (w.alloc (.cells #[.string g.name, .slice pa g.params.length pc, .bool g.list, .slice ta g.temps.length tc, .slice ba g.body.length bc, .string g.result] 31)) = W at *
  go_loopw [9, 3] (fun i v wr => ∃ k : Nat, i = .int .i64 k ∧ k ≤ g.params.length ∧ Below W.heap.size W wr ∧ RowsOwn DclE 59 (Up W.heap.size) W.heap.size wr v ((g.params.take k).map (fun p => dclN p.name p.list))) (fun i _ _ => g.params.length - (intOf i).toNat)
  case atStart => exact ⟨0, rfl, Nat.zero_le _, Below.refl _ _, by rw [List.take_zero]; exact RowsOwn.nil _ _ _ _ _⟩
  case round =>
    obtain ⟨k, rfl, hk, hbl, hown⟩ := hrel
    have hlk : ((g.params.take k).map (fun p => dclN p.name p.list)).length = k := by simp; omega
    obtain ⟨va, vc, hv⟩ := hown.form
    rw [hlk] at hv
    subst hv
    have HOWN := Lib.hid hown
    have HLK := Lib.hid hlk
    clear hown hlk
    have hbw : Below w.heap.size w wr := hA.trans (hbl.mono hA.size)
    by_cases hlt : k < g.params.length
    · obtain ⟨b, off, cap, he, hb, _, _, c0, c1, hsz⟩ := (HP.out.stays (Stays.of_below hbl)).at hlt
      simp only [Value.slice.injEq] at he
      obtain ⟨rfl, -, rfl⟩ := he
      have HTK : Hid ((g.params.take (k + 1)).map (fun p => dclN p.name p.list) = (g.params.take k).map (fun p => dclN p.name p.list) ++ [dclN (at' g.params k).name (at' g.params k).list]) := Lib.hid (by rw [List.take_add_one, List.getElem?_eq_getElem hlt, at_eq hlt, List.map_append]; rfl)
      have hA2 : Below wr.heap.size wr (wr.alloc (.cells #[.string (at' g.params k).name, .bool (at' g.params k).list] 57)) := (Below.refl _ _).alloc (Nat.le_refl _) _
      go_wp2_with fail
      refine (decl_C _ _ _).mono ?_
      rintro e w1 ⟨rfl, hb1⟩
      have hB1 : Below wr.heap.size wr w1 := hA2.trans (hb1.mono hA2.size)
      have hBa : Below w1.heap.size w1 (w1.alloc (.cells #[.string (at' g.params k).name, .int .u8 (dclN (at' g.params k).name (at' g.params k).list).kind, .int .i64 0] 59)) := (Below.refl _ _).alloc (Nat.le_refl _) _
      have HK1 := Lib.hid (dcl_1 (A := fun j => j = w1.heap.size) (heap_alloc_new w1 (.cells #[.string (at' g.params k).name, .int .u8 (dclN (at' g.params k).name (at' g.params k).list).kind, .int .i64 0] 59)) rfl hsz)
      have HO1 := Lib.hid ((HOWN.out.below hB1).below hBa)
      have HD : Hid (∀ b, b < (w1.alloc (.cells #[.string (at' g.params k).name, .int .u8 (dclN (at' g.params k).name (at' g.params k).list).kind, .int .i64 0] 59)).heap.size → b = w1.heap.size → Up W.heap.size b ∧ (Value.slice va k vc).ownBlock ≠ some b) := Lib.hid (fun b _ e => ⟨by have := hbl.size; have := hB1.size; unfold Up; omega, fun e2 => by have := (HOWN.out.lt e2).2; have := hB1.size; omega⟩)
      have hbase : W.heap.size ≤ (w1.alloc (.cells #[.string (at' g.params k).name, .int .u8 (dclN (at' g.params k).name (at' g.params k).list).kind, .int .i64 0] 59)).heap.size := Nat.le_trans hbl.size (Nat.le_trans hB1.size hBa.size)
      go_wp2_with (at_builtin; refine wpl_rows TDcl rfl (by decide) rfl (.tmp 13) (.tmp 19) rfl rfl rfl HO1.out HK1.out HD.out (by rw [HLK.out]; unfold maxLen; simp; omega) (by rw [HLK.out]; simp; omega) hbase ?_; intro a' c' w3 h3 hg3 hn3; have H3 := Lib.hid h3; have HG3 : Hid (World.grownBy _ w3 (Value.slice va k vc).ownBlock) := Lib.hid hg3; clear h3 hg3 hn3)
      refine ⟨⟨k + 1, by go_num, by omega, ?_, by rw [HTK.out]; have h3 := H3.out; rw [HLK.out] at h3; exact h3⟩, by simp [intOf]; omega⟩
      exact ((hbl.trans ((hB1.trans (hBa.mono hB1.size)).mono hbl.size))).grown HG3.out hbase (fun j e => (HOWN.out.lt e).1)
    · obtain rfl : k = g.params.length := by omega
      have hlt' : ¬ (g.params.length : Int) < (g.params.length : Int) := by omega
      rw [List.take_length] at HOWN HLK
      have hr := blk_below hbl HN.out
      have b2 := cell_blk hr 2 rfl
      have HPL : Hid ((paramsN g).length = g.params.length + 1) := Lib.hid (by simp [paramsN])
      have HPN : Hid (paramsN g = g.params.map (fun p => dclN p.name p.list) ++ [dclN outS g.list]) := Lib.hid rfl
      clear hr
      go_wp2_with fail
      refine (decl_C _ _ _).mono ?_
      rintro e w1 ⟨rfl, hb1⟩
      have hBa : Below w1.heap.size w1 (w1.alloc (.cells #[.string ⟨#[111, 117, 116]⟩, .int .u8 (dclN ⟨#[111, 117, 116]⟩ g.list).kind, .int .i64 0] 59)) := (Below.refl _ _).alloc (Nat.le_refl _) _
      have HK1 := Lib.hid (dcl_1 (A := fun j => j = w1.heap.size) (heap_alloc_new w1 (.cells #[.string ⟨#[111, 117, 116]⟩, .int .u8 (dclN ⟨#[111, 117, 116]⟩ g.list).kind, .int .i64 0] 59)) rfl (by unfold maxLen; decide))
      have HO1 := Lib.hid ((HOWN.out.below hb1).below hBa)
      have HD : Hid (∀ b, b < (w1.alloc (.cells #[.string ⟨#[111, 117, 116]⟩, .int .u8 (dclN ⟨#[111, 117, 116]⟩ g.list).kind, .int .i64 0] 59)).heap.size → b = w1.heap.size → Up W.heap.size b ∧ (Value.slice va g.params.length vc).ownBlock ≠ some b) := Lib.hid (fun b _ e => ⟨by have := hbl.size; have := hb1.size; unfold Up; omega, fun e2 => by have := (HOWN.out.lt e2).2; have := hb1.size; omega⟩)
      have hbase : W.heap.size ≤ (w1.alloc (.cells #[.string ⟨#[111, 117, 116]⟩, .int .u8 (dclN ⟨#[111, 117, 116]⟩ g.list).kind, .int .i64 0] 59)).heap.size := Nat.le_trans hbl.size (Nat.le_trans hb1.size hBa.size)
      go_wp2_with (at_builtin; refine wpl_rows TDcl rfl (by decide) rfl (.tmp 22) (.tmp 26) rfl rfl rfl HO1.out HK1.out HD.out (by rw [HLK.out]; unfold maxLen; simp; omega) (by rw [HLK.out]; simp; omega) hbase ?_; intro a' c' w3 h3 hg3 hn3; have H3 := Lib.hid h3; have HG3 : Hid (World.grownBy _ w3 (Value.slice va g.params.length vc).ownBlock) := Lib.hid hg3; clear h3 hg3 hn3)
      go_ret
      have h3 := H3.out
      have hB3 : Below W.heap.size W w3 := (hbl.trans ((hb1.trans (hBa.mono hb1.size)).mono hbl.size)).grown HG3.out hbase (fun j e => (HOWN.out.lt e).1)
      rw [HPL.out, HPN.out]
      have hW : w.heap.size ≤ W.heap.size := hA.size
      rw [HLK.out] at h3
      refine ⟨_, _, rfl, h3.shut (fun j a => Nat.le_trans hW a) (fun j e => Nat.le_trans hW (h3.lt e).1) (by unfold maxLen; simp; omega), hA.trans (hB3.mono hA.size)⟩
end Go.Proofs.YtehmmokkjojggabGreatDoor
/- Walks of package cleangen: result. -/
namespace Go.Proofs.YtehmmokkjojggabGreatDoor
set_option linter.unusedVariables false
open Go.RowKit

/-- the copy of the result -/
def resultN (g : AFn) : Nd := if g.list then callN lcopyS [g.result, outS] else nodeN 42 ByteArray.empty [vN outS, vN g.result]

theorem at_old (w : World) (x y : Obj) : ((w.alloc x).alloc y).heap[w.heap.size]? = some x := by
  rw [Below.heap_alloc _ _ _ (by simp)]; exact at_new0 w x
theorem cells6 {w : World} {b e : Nat} {v0 v1 v2 v3 v4 v5 : Value} (h : w.heap[b]? = some (.cells #[v0, v1, v2, v3, v4, v5] e (0, 0))) :
    w.cell? ⟨b, 0, none⟩ = some v0 ∧ w.cell? ⟨b, 1, none⟩ = some v1 ∧ w.cell? ⟨b, 2, none⟩ = some v2 ∧ w.cell? ⟨b, 3, none⟩ = some v3 ∧ w.cell? ⟨b, 4, none⟩ = some v4 ∧ w.cell? ⟨b, 5, none⟩ = some v5 :=
  ⟨cell_blk h 0 rfl, cell_blk h 1 rfl, cell_blk h 2 rfl, cell_blk h 3 rfl, cell_blk h 4 rfl, cell_blk h 5 rfl⟩

set_option maxRecDepth 100000 in
set_option maxHeartbeats 3200000 in
theorem result_C (g : AFn) (pa ta ba : Option Addr) (pc tc bc : Nat) (w : World) (hs : g.result.size ≤ maxLen) :
    Calls Tryz.prog 48 #[.agg #[.string g.name, .slice pa g.params.length pc, .bool g.list, .slice ta g.temps.length tc, .slice ba g.body.length bc, .string g.result]] w fun e w' => ∃ k ka kn kc, e = .returned (.agg #[.int .u8 k, .int .i64 0, .string (resultN g).name, .slice ka kn kc]) ∧ NdAt (Up w.heap.size) w' (.agg #[.int .u8 k, .int .i64 0, .string (resultN g).name, .slice ka kn kc]) (resultN g) ∧ Below w.heap.size w w' := by
  have hA1 : Below w.heap.size w (w.alloc (.cells #[.string g.name, .slice pa g.params.length pc, .bool g.list, .slice ta g.temps.length tc, .slice ba g.body.length bc, .string g.result] 31)) := (Below.refl _ _).alloc (Nat.le_refl _) _
  have hA : Below w.heap.size w ((w.alloc (.cells #[.string g.name, .slice pa g.params.length pc, .bool g.list, .slice ta g.temps.length tc, .slice ba g.body.length bc, .string g.result] 31)).alloc (.cells #[.int .u8 0, .int .i64 0, .string ⟨#[]⟩, .slice none 0 0] 35)) := hA1.alloc hA1.size _
  have HN := Lib.hid (at_new w (.cells #[.string g.name, .slice pa g.params.length pc, .bool g.list, .slice ta g.temps.length tc, .slice ba g.body.length bc, .string g.result] 31) (.cells #[.int .u8 0, .int .i64 0, .string ⟨#[]⟩, .slice none 0 0] 35))
  have HX := Lib.hid (at_old w (.cells #[.string g.name, .slice pa g.params.length pc, .bool g.list, .slice ta g.temps.length tc, .slice ba g.body.length bc, .string g.result] 31) (.cells #[.int .u8 0, .int .i64 0, .string ⟨#[]⟩, .slice none 0 0] 35))
  have hsz : ((w.alloc (.cells #[.string g.name, .slice pa g.params.length pc, .bool g.list, .slice ta g.temps.length tc, .slice ba g.body.length bc, .string g.result] 31)).alloc (.cells #[.int .u8 0, .int .i64 0, .string ⟨#[]⟩, .slice none 0 0] 35)).heap.size = w.heap.size + 1 + 1 := by simp
  have HSZ := Lib.hid hsz
  clear hA1 hsz
  cases hl : g.list with
  | true =>
    have HR : Hid (resultN g = callN ⟨#[108, 99, 111, 112, 121]⟩ [g.result, ⟨#[111, 117, 116]⟩]) := Lib.hid (by rw [resultN, hl]; rfl)
    have HRN : Hid ((resultN g).name = ⟨#[108, 99, 111, 112, 121]⟩) := Lib.hid (by rw [HR.out]; rfl)
    rw [hl] at hA HN HX HSZ
    clear hl
    go_enter Tryz.func48, Tryz.ntmps48
    go_wp2_with fail
    generalize ((w.alloc (.cells #[.string g.name, .slice pa g.params.length pc, .bool true, .slice ta g.temps.length tc, .slice ba g.body.length bc, .string g.result] 31)).alloc (.cells #[.int .u8 0, .int .i64 0, .string ⟨#[]⟩, .slice none 0 0] 35)) = W at *
    have HIV := Lib.hid (invoke_V (w.heap.size + 1 + 1) ⟨#[108, 99, 111, 112, 121]⟩ (some ⟨w.heap.size + 1 + 1, 0, none⟩) 2 2 [g.result, ⟨#[111, 117, 116]⟩] (W.alloc (.cells #[.string g.result, .string ⟨#[111, 117, 116]⟩] 9)) (by rw [World.size_alloc, HSZ.out]; omega) (strs_2 (A := Any) (blk_new HSZ.out.symm) trivial hs (by unfold maxLen; decide)) (by unfold maxLen; decide) (by simp))
    refine HIV.out.mono ?_
    rintro e w1 ⟨ka, kn, kc, rfl, hk1, hb1⟩
    have hr := blk_below hb1 (blk_alloc HN.out)
    obtain ⟨r0, r1, r2, r3⟩ := cells4 hr
    have f := unfrozen hr
    have HRB := Lib.hid hr
    have HK1 := Lib.hid hk1
    clear hr hk1 HIV
    go_wp2
    (try simp only [Exit.inBlock, Exit.then])
    refine bodyPost_ret (results_cell_row (P := Tryz.prog) rfl _ _ (w.heap.size + 1) _ _ _ _ rfl (set4 HRB.out _ _ _ _) Tryz.underlying35 rfl (by kernel_rfl)) rfl ?_
    rw [HRN.out]
    have hAa := bel_alloc (x := .cells #[.string g.result, .string ⟨#[111, 117, 116]⟩] 9) hA
    have hB1 : Below w.heap.size w w1 := hAa.trans (hb1.mono hAa.size)
    have hK4 := (((keeps_set w1 (w.heap.size + 1) 0 (.int .u8 50)).same (keeps_set _ (w.heap.size + 1) 1 (.int .i64 0))).same (keeps_set _ (w.heap.size + 1) 2 (.string ⟨#[108, 99, 111, 112, 121]⟩))).same (keeps_set _ (w.heap.size + 1) 3 (.slice ka kn kc))
    refine ⟨_, _, _, _, rfl, ?_, bel_sets4 hB1 (by omega)⟩
    rw [HR.out]
    exact HK1.out.stays ⟨hK4.size, fun b hb a => ⟨hK4.block b hb (fun e => by have : w.heap.size + 1 + 1 ≤ b := a; omega), by have : w.heap.size + 1 + 1 ≤ b := a; unfold Up; omega⟩⟩
  | false =>
    have HR : Hid (resultN g = nodeN 42 ⟨#[]⟩ [vN ⟨#[111, 117, 116]⟩, vN g.result]) := Lib.hid (by rw [resultN, hl]; rfl)
    have HRN : Hid ((resultN g).name = ⟨#[]⟩) := Lib.hid (by rw [HR.out]; rfl)
    rw [hl] at hA HN HX HSZ
    clear hl
    go_enter Tryz.func48, Tryz.ntmps48
    go_wp2
    generalize ((w.alloc (.cells #[.string g.name, .slice pa g.params.length pc, .bool false, .slice ta g.temps.length tc, .slice ba g.body.length bc, .string g.result] 31)).alloc (.cells #[.int .u8 0, .int .i64 0, .string ⟨#[]⟩, .slice none 0 0] 35)) = W at *
    go_region_held3 (fun w1 => w1.cell? ⟨w.heap.size, 0, none⟩ = some (.string g.name) ∧ w1.cell? ⟨w.heap.size, 1, none⟩ = some (.slice pa g.params.length pc) ∧ w1.cell? ⟨w.heap.size, 2, none⟩ = some (.bool false) ∧ w1.cell? ⟨w.heap.size, 3, none⟩ = some (.slice ta g.temps.length tc) ∧ w1.cell? ⟨w.heap.size, 4, none⟩ = some (.slice ba g.body.length bc) ∧ w1.cell? ⟨w.heap.size, 5, none⟩ = some (.string g.result))
      ((refine cells6 (e := 31) ?_; (repeat (with_reducible first | exact HX.out | refine blk_drew ?_ | refine blk_alloc ?_ | (apply blk_below; focus assumption) | (refine blk_sets4 ?_ (Nat.ne_of_lt (Nat.lt_succ_self _)))))))
      (first
      | (go_at_call 87; refine (variable_C _ _).mono ?_; rintro e w3 ⟨rfl, hb3⟩)
      | (go_at_call 82; refine (node_C _ _ _ _ _ _).mono ?_; rintro e w4 ⟨rfl, hb4⟩; have hr : w4.heap[w.heap.size + 1]? = some (.cells #[.int .u8 0, .int .i64 0, .string ⟨#[]⟩, .slice none 0 0] 35) := (by (repeat (with_reducible first | exact HN.out | refine blk_drew ?_ | refine blk_alloc ?_ | (apply blk_below; focus assumption)))); obtain ⟨r0, r1, r2, r3⟩ := cells4 hr; have f := unfrozen hr; have HRB := Lib.hid hr; clear hr))
    all_goals
      go_wp2
      (try simp only [Exit.inBlock, Exit.then])
      refine bodyPost_ret (results_cell_row (P := Tryz.prog) rfl _ _ (w.heap.size + 1) _ _ _ _ rfl (set4 HRB.out _ _ _ _) Tryz.underlying35 rfl (by kernel_rfl)) rfl ?_
      rw [HRN.out]
      have hB4 : Below w.heap.size w w4 := by (repeat (with_reducible first | exact hA | refine bel_drew ?_ | refine bel_alloc ?_ | (apply bel_step; focus assumption)))
      have hW3 : Below W.heap.size W w3 := by (repeat (with_reducible first | exact Below.refl _ _ | refine bel_drew ?_ | refine bel_alloc ?_ | (apply bel_step; focus assumption)))
      have hz3 := hW3.size
      have hzz := HSZ.out
      refine ⟨_, _, _, _, rfl, ?_, bel_sets4 hB4 (by omega)⟩
      rw [HR.out]
      refine nd_node (kids_2 (blk_sets4 (g := w.heap.size + 1) (blk_below hb4 (heap_alloc_new w3 _)) ?_) ?_ (nd_v (by unfold maxLen; decide)) (nd_v hs)) (by omega) (Nat.zero_le _)
      · omega
      · unfold Up; omega
end Go.Proofs.YtehmmokkjojggabGreatDoor
/- Walks of package cleangen: locals. -/
namespace Go.Proofs.YtehmmokkjojggabGreatDoor
set_option linter.unusedVariables false
open Go.RowKit

/-- a local around a block -/
def locN (t : Par) (n : Nd) : Nd := blockN [if t.list then nodeN 55 t.name [n] else nodeN 54 t.name [numN 0, n, numN 0]]
def localsN (ts : List Par) (n : Nd) : Nd := ts.foldr locN n
theorem locals_drop (ts : List Par) (n : Nd) (q : Nat) (h : q < ts.length) : (ts.drop q).foldr locN n = locN (at' ts q) ((ts.drop (q + 1)).foldr locN n) := by
  rw [List.drop_eq_getElem_cons h, List.foldr_cons, at_eq h]

/-- where the data of the tree under way lie: not in the two variables of the call -/
def LD (A : Nat → Prop) (w : World) (k : Nat) : Prop := (A k ∧ k < w.heap.size) ∨ w.heap.size + 2 ≤ k
/-- the state of the loop -/
def LocRel (ts : List Par) (n : Nd) (A : Nat → Prop) (w : World) (j : Int) (wr : World) : Prop :=
  ∃ (k0 m0 : Int) (s0 : ByteArray) (ka : Option Addr) (kn kc : Nat), wr.heap[w.heap.size]? = some (.cells #[.int .u8 k0, .int .i64 m0, .string s0, .slice ka kn kc] 35 (0, 0)) ∧ wr.heap[w.heap.size + 1]? = some (.cells #[.int .u8 0, .int .i64 0, .string ⟨#[]⟩, .slice none 0 0] 35 (0, 0)) ∧
    NdAt (LD A w) wr (.agg #[.int .u8 k0, .int .i64 m0, .string s0, .slice ka kn kc]) ((ts.drop (j + 1).toNat).foldr locN n) ∧ Below w.heap.size w wr

/-- one local more: the new block is stored -/
theorem loc_step {ts : List Par} {n : Nd} {A : Nat → Prop} {w wr w8 : World} {q : Nat} {x : Nd} {ka : Option Addr} {kn kc : Nat} {k0 m0 : Int} {s0 : ByteArray} {a0 : Option Addr} {n0 c0 : Nat} (hq : q < ts.length)
    (hbox : wr.heap[w.heap.size]? = some (.cells #[.int .u8 k0, .int .i64 m0, .string s0, .slice a0 n0 c0] 35 (0, 0))) (hz : wr.heap[w.heap.size + 1]? = some (.cells #[.int .u8 0, .int .i64 0, .string ⟨#[]⟩, .slice none 0 0] 35 (0, 0)))
    (hx : blockN [x] = locN (at' ts q) ((ts.drop (q + 1)).foldr locN n)) (hk : KidsAt (LD A w) w8 (.slice ka kn kc) [x]) (hb : Below w.heap.size w wr) (hb8 : Below wr.heap.size wr w8) :
    LocRel ts n A w ((q : Int) - 1) ((((w8.setCell ⟨w.heap.size, 0, none⟩ (.int .u8 57)).setCell ⟨w.heap.size, 1, none⟩ (.int .i64 0)).setCell ⟨w.heap.size, 2, none⟩ (.string ⟨#[]⟩)).setCell ⟨w.heap.size, 3, none⟩ (.slice ka kn kc)) := by
  have hK4 := (((keeps_set w8 w.heap.size 0 (.int .u8 57)).same (keeps_set _ w.heap.size 1 (.int .i64 0))).same (keeps_set _ w.heap.size 2 (.string ⟨#[]⟩))).same (keeps_set _ w.heap.size 3 (.slice ka kn kc))
  refine ⟨57, 0, ⟨#[]⟩, ka, kn, kc, set4 (blk_below hb8 hbox) _ _ _ _, blk_sets4 (blk_below hb8 hz) (by omega), ?_, ?_⟩
  · rw [show ((q : Int) - 1 + 1).toNat = q by omega, locals_drop ts n q hq, ← hx]
    refine nd_node (hk.stays ⟨hK4.size, fun b hb a => ⟨hK4.block b hb (fun e => ?_), a⟩⟩) (by omega) (Nat.zero_le _)
    rcases a with ⟨_, a⟩ | a <;> omega
  · exact bel_sets4 (hb.trans (hb8.mono hb.size)) (Nat.le_refl _)
theorem ld_new {A : Nat → Prop} {w wr : World} {g : Nat} (hz : wr.heap[w.heap.size + 1]? = some (.cells #[.int .u8 0, .int .i64 0, .string ⟨#[]⟩, .slice none 0 0] 35 (0, 0))) (h : wr.heap.size ≤ g) : LD A w g := by
  have : w.heap.size + 1 < wr.heap.size := by rw [Array.getElem?_eq_some_iff] at hz; exact hz.1
  exact .inr (by omega)

theorem kidsL1 {A : Nat → Prop} {w0 wr w : World} {g : Nat} {a b c d : Value} {n : Nd} (h : NewBlk wr w g (.cells #[a, b, c, d] 35 (0, 0))) (hz : wr.heap[w0.heap.size + 1]? = some (.cells #[.int .u8 0, .int .i64 0, .string ⟨#[]⟩, .slice none 0 0] 35 (0, 0))) (h1 : NdAt (LD A w0) w (.agg #[a, b, c, d]) n) : KidsAt (LD A w0) w (.slice (some ⟨g, 0, none⟩) 1 1) [n] := kids_1 h.1 (ld_new hz h.2) h1
theorem kidsL3 {A : Nat → Prop} {w0 wr w : World} {g : Nat} {a b c d a' b' c' d' a2 b2 c2 d2 : Value} {n n' n2 : Nd} (h : NewBlk wr w g (.cells #[a, b, c, d, a', b', c', d', a2, b2, c2, d2] 35 (0, 0))) (hz : wr.heap[w0.heap.size + 1]? = some (.cells #[.int .u8 0, .int .i64 0, .string ⟨#[]⟩, .slice none 0 0] 35 (0, 0))) (h1 : NdAt (LD A w0) w (.agg #[a, b, c, d]) n) (h2 : NdAt (LD A w0) w (.agg #[a', b', c', d']) n') (h3 : NdAt (LD A w0) w (.agg #[a2, b2, c2, d2]) n2) : KidsAt (LD A w0) w (.slice (some ⟨g, 0, none⟩) 3 3) [n, n', n2] := kids_3 h.1 (ld_new hz h.2) h1 h2 h3
theorem ndL {ts : List Par} {n : Nd} {D : Nat → Prop} {wr w : World} {v : Value} {j : Int} {q : Nat} (h : NdAt D wr v ((ts.drop (j + 1).toNat).foldr locN n)) (hq : (j + 1).toNat = q) (hb : Below wr.heap.size wr w) : NdAt D w v ((ts.drop q).foldr locN n) := by
  subst hq; exact h.stays (Stays.of_below hb)

set_option maxRecDepth 100000 in
set_option maxHeartbeats 6400000 in
theorem locals_C (ts : List Par) (pa : Option Addr) (pc : Nat) (v : Value) (n : Nd) (A : Nat → Prop) (w : World) (hp : ParsAt Any w (.slice pa ts.length pc) ts) (hv : NdAt A w v n) (hl : ts.length ≤ 100000) :
    Calls Tryz.prog 49 #[.slice pa ts.length pc, v] w fun e w' => ∃ u, e = .returned u ∧ NdAt (NewB A w) w' u (localsN ts n) ∧ Below w.heap.size w w' := by
  obtain ⟨hok, hlen, ka, kc, rfl, hk⟩ := hv.open
  have hA1 : Below w.heap.size w (w.alloc (.cells #[.int .u8 n.kind, .int .i64 n.num, .string n.name, .slice ka n.kids.length kc] 35)) := (Below.refl _ _).alloc (Nat.le_refl _) _
  have hA : Below w.heap.size w ((w.alloc (.cells #[.int .u8 n.kind, .int .i64 n.num, .string n.name, .slice ka n.kids.length kc] 35)).alloc (.cells #[.int .u8 0, .int .i64 0, .string ⟨#[]⟩, .slice none 0 0] 35)) := hA1.alloc hA1.size _
  have HR0 : Hid (LocRel ts n A w ((ts.length : Int) - 1) ((w.alloc (.cells #[.int .u8 n.kind, .int .i64 n.num, .string n.name, .slice ka n.kids.length kc] 35)).alloc (.cells #[.int .u8 0, .int .i64 0, .string ⟨#[]⟩, .slice none 0 0] 35))) := Lib.hid (by
    refine ⟨_, _, _, _, _, _, at_old w _ _, at_new w _ _, ?_, hA⟩
    rw [show ((ts.length : Int) - 1 + 1).toNat = ts.length by omega, List.drop_length]
    exact hv.stays ⟨hA.size, fun b hb a => ⟨hA.block b hb, .inl ⟨a, hb⟩⟩⟩)
  have HP := Lib.hid hp
  clear hv hk hp hA1 hok hlen
  go_enter Tryz.func49, Tryz.ntmps49
  go_wp2
  generalize ((w.alloc (.cells #[.int .u8 n.kind, .int .i64 n.num, .string n.name, .slice ka n.kids.length kc] 35)).alloc (.cells #[.int .u8 0, .int .i64 0, .string ⟨#[]⟩, .slice none 0 0] 35)) = W at *
  go_loopw [5] (fun i wr => ∃ j : Int, i = .int .i64 j ∧ -1 ≤ j ∧ j < ts.length ∧ LocRel ts n A w j wr) (fun i _ => (intOf i + 1).toNat)
  case atStart => exact ⟨_, rfl, by omega, by omega, HR0.out⟩
  case round =>
    obtain ⟨j, rfl, hj0, hj1, k0, m0, s0, xa, xn, xc, hbox, hzero, hnd, hbl⟩ := hrel
    have HBOX := Lib.hid hbox
    have HZERO := Lib.hid hzero
    have HND := Lib.hid hnd
    clear hbox hzero hnd
    by_cases hpos : 0 ≤ j
    · obtain ⟨q, rfl⟩ := Int.eq_ofNat_of_zero_le hpos
      have hq : q < ts.length := by omega
      have HNQ : Hid (((q : Int) + 1).toNat = q + 1) := Lib.hid (by omega)
      obtain ⟨b, off, cap, he, hb, _, _, c0, c1, hsz⟩ := (HP.out.stays (Stays.of_below hbl)).at hq
      simp only [Value.slice.injEq] at he
      obtain ⟨rfl, -, rfl⟩ := he
      have HS : Hid (∀ w1, Below wr.heap.size wr w1 → w1.cell? ⟨b, off + q * 2, none⟩ = some (.string (at' ts q).name) ∧ w1.cell? ⟨w.heap.size, 0, none⟩ = some (.int .u8 k0) ∧ w1.cell? ⟨w.heap.size, 1, none⟩ = some (.int .i64 m0) ∧ w1.cell? ⟨w.heap.size, 2, none⟩ = some (.string s0) ∧ w1.cell? ⟨w.heap.size, 3, none⟩ = some (.slice xa xn xc) ∧ b < w1.heap.size ∧ w.heap.size < w1.heap.size ∧ ∀ j, w1.frozen? ⟨w.heap.size, j, none⟩ = false) := Lib.hid (fun w1 h1 => by
        have hr := blk_below h1 HBOX.out
        obtain ⟨r0, r1, r2, r3⟩ := cells4 hr
        exact ⟨(h1.cell (p := ⟨b, off + q * 2, none⟩) hb).trans c0, r0, r1, r2, r3, Nat.lt_of_lt_of_le hb h1.size, by rw [Array.getElem?_eq_some_iff] at hr; exact hr.1, unfrozen hr⟩)
      obtain ⟨s1, s2, s3, s4, s5, -, s7, s6⟩ := HS.out wr (Below.refl _ _)
      have i0 : (0 : Int) ≤ (q : Int) := by omega
      have i1 : (q : Int) < (ts.length : Int) := by omega
      cases hlist : (at' ts q).list with
      | true =>
        rw [hlist] at c1
        have HL := Lib.hid hlist
        clear hlist
        go_wp2
        go_region_law (first
          | (go_simp; go_at_call 82; refine (node_C _ _ _ _ _ _).mono ?_; rintro e w4 ⟨rfl, hb4⟩; obtain ⟨t1, t2, t3, t4, t5, t7, t8, t6⟩ := HS.out w4 (by (repeat (with_reducible first | exact Below.refl _ _ | refine bel_drew ?_ | refine bel_alloc ?_ | (apply bel_step; focus assumption)))))
          | (go_simp; go_at_call 37; refine (block_C _ _ _ _).mono ?_; rintro e w8 ⟨rfl, hb8⟩; obtain ⟨t1, t2, t3, t4, t5, t7, t8, t6⟩ := HS.out w8 (by (repeat (with_reducible first | exact Below.refl _ _ | refine bel_drew ?_ | refine bel_alloc ?_ | (apply bel_step; focus assumption))))))
        all_goals
          go_wp2
          refine ⟨⟨(q : Int) - 1, rfl, by omega, by omega, loc_step (x := nodeN 55 (at' ts q).name [(ts.drop (q + 1)).foldr locN n]) hq HBOX.out HZERO.out (by rw [locN, HL.out]; rfl) ?_ hbl (by (repeat (with_reducible first | exact Below.refl _ _ | refine bel_drew ?_ | refine bel_alloc ?_ | (apply bel_step; focus assumption))))⟩, by first | (simp [intOf]; done) | (simp [intOf]; omega)⟩
          exact kidsL1 (by (repeat (with_reducible first | (refine nb_new ?_ ?_; rotate_left; (focus (simp; done)); (focus ((repeat (with_reducible first | exact Below.refl _ _ | refine bel_drew ?_ | refine bel_alloc ?_ | (apply bel_step; focus assumption))); done))) | refine nb_drew ?_ | refine nb_alloc ?_ | (apply nb_below; focus assumption)))) HZERO.out (nd_node (kidsL1 (by (repeat (with_reducible first | (refine nb_new ?_ ?_; rotate_left; (focus (simp; done)); (focus ((repeat (with_reducible first | exact Below.refl _ _ | refine bel_drew ?_ | refine bel_alloc ?_ | (apply bel_step; focus assumption))); done))) | refine nb_drew ?_ | refine nb_alloc ?_ | (apply nb_below; focus assumption)))) HZERO.out (ndL HND.out HNQ.out (by (repeat (with_reducible first | exact Below.refl _ _ | refine bel_drew ?_ | refine bel_alloc ?_ | (apply bel_step; focus assumption)))))) (by omega) hsz)
      | false =>
        rw [hlist] at c1
        have HL := Lib.hid hlist
        clear hlist
        go_wp2
        go_region_law (first
          | (go_simp; go_at_call 88; refine (number_C _ _).mono ?_; rintro e w3 ⟨rfl, hb3⟩; obtain ⟨t1, t2, t3, t4, t5, t7, t8, t6⟩ := HS.out w3 (by (repeat (with_reducible first | exact Below.refl _ _ | refine bel_drew ?_ | refine bel_alloc ?_ | (apply bel_step; focus assumption)))))
          | (go_simp; go_at_call 82; refine (node_C _ _ _ _ _ _).mono ?_; rintro e w4 ⟨rfl, hb4⟩; obtain ⟨t1, t2, t3, t4, t5, t7, t8, t6⟩ := HS.out w4 (by (repeat (with_reducible first | exact Below.refl _ _ | refine bel_drew ?_ | refine bel_alloc ?_ | (apply bel_step; focus assumption)))))
          | (go_simp; go_at_call 37; refine (block_C _ _ _ _).mono ?_; rintro e w8 ⟨rfl, hb8⟩; obtain ⟨t1, t2, t3, t4, t5, t7, t8, t6⟩ := HS.out w8 (by (repeat (with_reducible first | exact Below.refl _ _ | refine bel_drew ?_ | refine bel_alloc ?_ | (apply bel_step; focus assumption))))))
        all_goals
          go_wp2
          refine ⟨⟨(q : Int) - 1, rfl, by omega, by omega, loc_step (x := nodeN 54 (at' ts q).name [numN 0, (ts.drop (q + 1)).foldr locN n, numN 0]) hq HBOX.out HZERO.out (by rw [locN, HL.out]; rfl) ?_ hbl (by (repeat (with_reducible first | exact Below.refl _ _ | refine bel_drew ?_ | refine bel_alloc ?_ | (apply bel_step; focus assumption))))⟩, by first | (simp [intOf]; done) | (simp [intOf]; omega)⟩
          exact kidsL1 (by (repeat (with_reducible first | (refine nb_new ?_ ?_; rotate_left; (focus (simp; done)); (focus ((repeat (with_reducible first | exact Below.refl _ _ | refine bel_drew ?_ | refine bel_alloc ?_ | (apply bel_step; focus assumption))); done))) | refine nb_drew ?_ | refine nb_alloc ?_ | (apply nb_below; focus assumption)))) HZERO.out (nd_node (kidsL3 (by (repeat (with_reducible first | (refine nb_new ?_ ?_; rotate_left; (focus (simp; done)); (focus ((repeat (with_reducible first | exact Below.refl _ _ | refine bel_drew ?_ | refine bel_alloc ?_ | (apply bel_step; focus assumption))); done))) | refine nb_drew ?_ | refine nb_alloc ?_ | (apply nb_below; focus assumption)))) HZERO.out (nd_num (by unfold In64; omega)) (ndL HND.out HNQ.out (by (repeat (with_reducible first | exact Below.refl _ _ | refine bel_drew ?_ | refine bel_alloc ?_ | (apply bel_step; focus assumption))))) (nd_num (by unfold In64; omega))) (by omega) hsz)
    · obtain rfl : j = -1 := by omega
      have hr := HBOX.out
      obtain ⟨r0, r1, r2, r3⟩ := cells4 hr
      have hz := HZERO.out
      obtain ⟨z0, z1, z2, z3⟩ := cells4 hz
      have zf := unfrozen hz
      clear hr hz
      go_wp2
      (try simp only [Exit.inBlock, Exit.then])
      refine bodyPost_ret (results_cell_row (P := Tryz.prog) rfl _ _ (w.heap.size + 1) _ _ _ _ rfl (set4 HZERO.out _ _ _ _) Tryz.underlying35 rfl (by kernel_rfl)) rfl ?_
      have hK4 := (((keeps_set wr (w.heap.size + 1) 0 (.int .u8 k0)).same (keeps_set _ (w.heap.size + 1) 1 (.int .i64 m0))).same (keeps_set _ (w.heap.size + 1) 2 (.string s0))).same (keeps_set _ (w.heap.size + 1) 3 (.slice xa xn xc))
      refine ⟨_, rfl, ?_, bel_sets4 hbl (by omega)⟩
      have hfin := HND.out
      rw [show ((-1 : Int) + 1).toNat = 0 by omega, List.drop_zero] at hfin
      refine hfin.stays ⟨hK4.size, fun b hb a => ⟨hK4.block b hb (fun e => ?_), ?_⟩⟩
      · rcases a with ⟨_, a⟩ | a <;> omega
      · rcases a with ⟨a, _⟩ | a
        · exact .inl a
        · exact .inr (by omega)
end Go.Proofs.YtehmmokkjojggabGreatDoor
