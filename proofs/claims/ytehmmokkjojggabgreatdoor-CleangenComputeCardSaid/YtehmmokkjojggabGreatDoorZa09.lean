/- Contracts and plain lemmas for the law (RefF2, RefG, RefH, RefI, PGood, PSize, PInv, InvA): no statement of the seat is proved here. -/
import Derived.Test.YtehmmokkjojggabGreatDoorZa08
/- Walks of backstepref40.one. -/
namespace Go.Proofs.YtehmmokkjojggabGreatDoor
set_option linter.unusedVariables false
open Go.RowKit
set_option maxRecDepth 100000 in
set_option maxHeartbeats 3200000 in
theorem one_tail (tn nm : ByteArray) (l : Bool) (num : Int) (av ha ea tv : Option Addr) (ac hn hc en ec tk tc : Nat) (args : List ByteArray) (cf : CallF) (thn els : List Bd) (w : World) (hs : StrsAt Any w (.slice av args.length ac) args) (htn : tn.size ≤ maxLen) (hnum : In64 num) (hlen : 1 ≤ args.length) :
    Calls Tryz.prog 39 #[.agg #[.string tn, .bool l, .int .u8 89, .int .i64 num, .string nm, .slice av args.length ac, .slice ha hn hc, .slice ea en ec], .slice tv tk tc] w (StmtsPost (bindN cf (.mk tn l 89 num nm args thn els)) w) := by
  have HB : Hid (bindN cf (.mk tn l 89 num nm args thn els) = [callN ⟨#[108, 99, 111, 112, 121]⟩ [argN args 0, tn], nodeN 54 ⟨#[104, 48]⟩ [numN 0, blockN [nodeN 45 tn [vN ⟨#[104, 48]⟩]], nodeN 4 (argN args 0) []]]) := Lib.hid (by rw [bindN]; rfl)
  have hz0 := argN_size hs 0
  have hz1 := argN_size hs 1
  have hal := hs.form.1
  obtain ⟨ab, ao, rfl, hcap, hcs⟩ := strs_open hs (by omega)
  have i0 : 0 < args.length := by omega
  have i0' : (0 : Int) < (args.length : Int) := by omega
  have hA : Below w.heap.size w (w.alloc (.cells #[.string tn, .bool l, .int .u8 89, .int .i64 num, .string nm, .slice (some ⟨ab, ao, none⟩) args.length ac, .slice ha hn hc, .slice ea en ec] 86)) := (Below.refl _ _).alloc (Nat.le_refl _) _
  have hn0 := at_new0 w (.cells #[.string tn, .bool l, .int .u8 89, .int .i64 num, .string nm, .slice (some ⟨ab, ao, none⟩) args.length ac, .slice ha hn hc, .slice ea en ec] 86)
  have HN := Lib.hid hn0
  have HS0 : Hid (∀ w1, Below (w.alloc (.cells #[.string tn, .bool l, .int .u8 89, .int .i64 num, .string nm, .slice (some ⟨ab, ao, none⟩) args.length ac, .slice ha hn hc, .slice ea en ec] 86)).heap.size (w.alloc (.cells #[.string tn, .bool l, .int .u8 89, .int .i64 num, .string nm, .slice (some ⟨ab, ao, none⟩) args.length ac, .slice ha hn hc, .slice ea en ec] 86)) w1 → (fun w1 => w1.cell? ⟨w.heap.size, 0, none⟩ = some (.string tn) ∧ w1.cell? ⟨w.heap.size, 1, none⟩ = some (.bool l) ∧ w1.cell? ⟨w.heap.size, 2, none⟩ = some (.int .u8 89) ∧ w1.cell? ⟨w.heap.size, 3, none⟩ = some (.int .i64 num) ∧ w1.cell? ⟨w.heap.size, 4, none⟩ = some (.string nm) ∧ w1.cell? ⟨w.heap.size, 5, none⟩ = some (.slice (some ⟨ab, ao, none⟩) args.length ac) ∧ w1.cell? ⟨w.heap.size, 6, none⟩ = some (.slice ha hn hc) ∧ w1.cell? ⟨w.heap.size, 7, none⟩ = some (.slice ea en ec) ∧ w1.cell? ⟨ab, ao, none⟩ = some (.string (argN args 0))) w1) := Lib.hid (fun w1 hb => by
    obtain ⟨k0, k1, k2, k3, k4, k5, k6, k7⟩ := cellsB (blk_below hb hn0)
    have hw1 : Below w.heap.size w w1 := hA.trans (hb.mono hA.size)
    exact ⟨k0, k1, k2, k3, k4, k5, k6, k7, (hcs w1 hw1).1⟩)
  have HS := Lib.hid hs
  have hcs := Lib.hid hcs
  clear hs hn0
  have hh0 : (⟨#[104, 48]⟩ : ByteArray).size ≤ maxLen := by unfold maxLen; decide
  have hWS : Hid (w.heap.size < (w.alloc (.cells #[.string tn, .bool l, .int .u8 89, .int .i64 num, .string nm, .slice (some ⟨ab, ao, none⟩) args.length ac, .slice ha hn hc, .slice ea en ec] 86)).heap.size) := Lib.hid (by simp)
  go_enter Tryz.func39, Tryz.ntmps39
  go_wp2
  generalize (w.alloc (.cells #[.string tn, .bool l, .int .u8 89, .int .i64 num, .string nm, .slice (some ⟨ab, ao, none⟩) args.length ac, .slice ha hn hc, .slice ea en ec] 86)) = W at *
  have hW1 : w.heap.size < W.heap.size := hWS.out
  go_cut [9] (fun s8 wx => CutQ w (.cells #[.string tn, .bool l, .int .u8 89, .int .i64 num, .string nm, .slice (some ⟨ab, ao, none⟩) args.length ac, .slice ha hn hc, .slice ea en ec] 86) (nodeN 45 tn [vN ⟨#[104, 48]⟩]) s8 wx)
  case first =>
    go_region_held3 (fun w1 => w1.cell? ⟨w.heap.size, 0, none⟩ = some (.string tn) ∧ w1.cell? ⟨w.heap.size, 1, none⟩ = some (.bool l) ∧ w1.cell? ⟨w.heap.size, 2, none⟩ = some (.int .u8 89) ∧ w1.cell? ⟨w.heap.size, 3, none⟩ = some (.int .i64 num) ∧ w1.cell? ⟨w.heap.size, 4, none⟩ = some (.string nm) ∧ w1.cell? ⟨w.heap.size, 5, none⟩ = some (.slice (some ⟨ab, ao, none⟩) args.length ac) ∧ w1.cell? ⟨w.heap.size, 6, none⟩ = some (.slice ha hn hc) ∧ w1.cell? ⟨w.heap.size, 7, none⟩ = some (.slice ea en ec) ∧ w1.cell? ⟨ab, ao, none⟩ = some (.string (argN args 0)))
      (with_reducible exact HS0.out _ (by (repeat (with_reducible first | exact Below.refl _ _ | refine bel_drew ?_ | refine bel_alloc ?_ | (refine bel_sets4 ?_ ?_; rotate_left; (focus (first | exact Nat.le_refl _ | exact Below.size (by (repeat (with_reducible first | exact Below.refl _ _ | refine bel_drew ?_ | refine bel_alloc ?_ | (apply bel_step; focus assumption)))) | exact Nat.le_succ_of_le (Below.size (by (repeat (with_reducible first | exact Below.refl _ _ | refine bel_drew ?_ | refine bel_alloc ?_ | (apply bel_step; focus assumption)))))))) | (apply bel_step; focus assumption)))))
      (first
      | (go_at_call 42; refine (refV_U w.heap.size _ _ (up_ge (by (repeat (with_reducible first | exact hA | exact Below.refl _ _ | refine bel_drew ?_ | refine bel_alloc ?_ | (apply bel_step; focus assumption)))) (Nat.le_refl _)) (by assumption)).mono ?_; rintro e w3 ⟨a3, c3, rfl, hk3, hb3⟩)
      | (go_at_call 41; (with_reducible refine (refNode_U w.heap.size 45 tn _ _ _ [vN ⟨#[104, 48]⟩] _ (up_ge (by (repeat (with_reducible first | exact hA | exact Below.refl _ _ | refine bel_drew ?_ | refine bel_alloc ?_ | (apply bel_step; focus assumption)))) (Nat.le_refl _)) (kidsU1 (by (repeat (with_reducible first | (refine nb_new ?_ ?_; rotate_left; (focus (simp; done)); (focus ((repeat (with_reducible first | exact hA | exact Below.refl _ _ | refine bel_drew ?_ | refine bel_alloc ?_ | (apply bel_step; focus assumption))); done))) | refine nb_drew ?_ | refine nb_alloc ?_ | (apply nb_below; focus assumption)))) (hk3.stays (stays_up (by (repeat (with_reducible first | exact hA | exact Below.refl _ _ | refine bel_drew ?_ | refine bel_alloc ?_ | (apply bel_step; focus assumption))))))) (by simp) (by omega) htn).mono ?_); rintro e w5 ⟨a5, n5, c5, rfl, hk5, hb5⟩)
      | (go_at_call 41; refine (refNode_U w.heap.size 57 ⟨#[]⟩ _ _ _ [nodeN 45 tn [vN ⟨#[104, 48]⟩]] _ (up_ge (by (repeat (with_reducible first | exact hA | exact Below.refl _ _ | refine bel_drew ?_ | refine bel_alloc ?_ | (apply bel_step; focus assumption)))) (Nat.le_refl _)) (kidsU1 (by (repeat (with_reducible first | (refine nb_new ?_ ?_; rotate_left; (focus (simp; done)); (focus ((repeat (with_reducible first | exact hA | exact Below.refl _ _ | refine bel_drew ?_ | refine bel_alloc ?_ | (apply bel_step; focus assumption))); done))) | refine nb_drew ?_ | refine nb_alloc ?_ | (apply nb_below; focus assumption)))) (hk5.stays (stays_up (by (repeat (with_reducible first | exact hA | exact Below.refl _ _ | refine bel_drew ?_ | refine bel_alloc ?_ | (apply bel_step; focus assumption))))))) (by simp) (by omega) (Nat.zero_le _)).mono ?_; rintro e w7 ⟨a7, n7, c7, rfl, hk7, hb7⟩; (first | (refine blk_use w7 W.heap.size ?_ (fun g0 g1 g2 g3 gf => ?_); focus ((repeat (with_reducible first | exact HN.out | (refine blk_new ?_; (simp; done)) | refine blk_drew ?_ | refine blk_alloc ?_ | (apply blk_below; focus assumption))); done)) | skip); (first | (refine blk_use w7 w3.heap.size ?_ (fun g0 g1 g2 g3 gf => ?_); focus ((repeat (with_reducible first | exact HN.out | (refine blk_new ?_; (simp; done)) | refine blk_drew ?_ | refine blk_alloc ?_ | (apply blk_below; focus assumption))); done)) | skip); (first | (refine blk_use w7 (w3.heap.size + 1) ?_ (fun g0 g1 g2 g3 gf => ?_); focus ((repeat (with_reducible first | exact HN.out | (refine blk_new ?_; (simp; done)) | refine blk_drew ?_ | refine blk_alloc ?_ | (apply blk_below; focus assumption))); done)) | skip); (first | (refine blk_use w7 w5.heap.size ?_ (fun g0 g1 g2 g3 gf => ?_); focus ((repeat (with_reducible first | exact HN.out | (refine blk_new ?_; (simp; done)) | refine blk_drew ?_ | refine blk_alloc ?_ | (apply blk_below; focus assumption))); done)) | skip); (first | (refine blk_use w7 (w5.heap.size + 1) ?_ (fun g0 g1 g2 g3 gf => ?_); focus ((repeat (with_reducible first | exact HN.out | (refine blk_new ?_; (simp; done)) | refine blk_drew ?_ | refine blk_alloc ?_ | (apply blk_below; focus assumption))); done)) | skip)))
    all_goals
      have hz3 := hb3.size
      have hz5 := hb5.size
      have hz7 := hb7.size
      simp only [World.size_alloc, World.size_drew] at hz3 hz5 hz7
      go_wp2
      go_meet
      first
      | ((with_reducible refine cutQ_new ?_ (nd_kids hk7) ?_ ?_ ?_ ?_ ?_); (focus ((repeat (with_reducible first | (refine nb_new ?_ ?_; rotate_left; (focus (simp; done)); (focus ((repeat (with_reducible first | exact hA | exact Below.refl _ _ | refine bel_drew ?_ | refine bel_alloc ?_ | (apply bel_step; focus assumption))); done))) | refine nb_drew ?_ | refine nb_alloc ?_ | (apply nb_below; focus assumption))); done)); (focus ((repeat (with_reducible first | exact Below.refl _ _ | refine bel_drew ?_ | refine bel_alloc ?_ | (apply bel_step; focus assumption))); done)); (focus omega); (focus omega); (focus ((repeat (with_reducible first | exact HN.out | (refine blk_new ?_; (simp; done)) | refine blk_drew ?_ | refine blk_alloc ?_ | (apply blk_below; focus assumption))); done)); (focus ((repeat (with_reducible first | exact hA | exact Below.refl _ _ | refine bel_drew ?_ | refine bel_alloc ?_ | (apply bel_step; focus assumption))); done)))
      | ((with_reducible refine cutQ_set ?_ (nd_kids hk7) ?_ rfl ?_ ?_ ?_); (focus ((repeat (with_reducible first | (refine nb_new ?_ ?_; rotate_left; (focus (simp; done)); (focus ((repeat (with_reducible first | exact hA | exact Below.refl _ _ | refine bel_drew ?_ | refine bel_alloc ?_ | (apply bel_step; focus assumption))); done))) | refine nb_drew ?_ | refine nb_alloc ?_ | (apply nb_below; focus assumption))); done)); (focus ((repeat (with_reducible first | exact Below.refl _ _ | refine bel_drew ?_ | refine bel_alloc ?_ | (apply bel_step; focus assumption))); done)); (focus omega); (focus ((repeat (with_reducible first | exact HN.out | (refine blk_new ?_; (simp; done)) | refine blk_drew ?_ | refine blk_alloc ?_ | (apply blk_below; focus assumption))); done)); (focus ((repeat (with_reducible first | exact hA | exact Below.refl _ _ | refine bel_drew ?_ | refine bel_alloc ?_ | (apply bel_step; focus assumption))); done)))
  case rest =>
    obtain ⟨g, ga, gn, gc, rfl, hG, hgw, hGK, hBX, hBel⟩ := hcut
    have HG := Lib.hid hG
    have HGK := Lib.hid hGK
    have HBX := Lib.hid hBX
    have HC2 : Hid (∀ w1, Below wc.heap.size wc w1 → (fun w1 => w1.cell? ⟨w.heap.size, 0, none⟩ = some (.string tn) ∧ w1.cell? ⟨w.heap.size, 5, none⟩ = some (.slice (some ⟨ab, ao, none⟩) args.length ac) ∧ w1.cell? ⟨ab, ao, none⟩ = some (.string (argN args 0)) ∧ w1.cell? ⟨g, 0, none⟩ = some (.int .u8 57) ∧ w1.cell? ⟨g, 1, none⟩ = some (.int .i64 0) ∧ w1.cell? ⟨g, 2, none⟩ = some (.string ⟨#[]⟩) ∧ w1.cell? ⟨g, 3, none⟩ = some (.slice ga gn gc)) w1) := Lib.hid (fun w1 hb => by
      have hw1 : Below w.heap.size w w1 := hBel.trans (hb.mono hBel.size)
      obtain ⟨k0, k1, k2, k3, k4, k5, k6, k7⟩ := cellsB (blk_below hb hBX)
      obtain ⟨q0, q1, q2, q3⟩ := cells4 (blk_below hb hG)
      exact ⟨k0, k5, (hcs.out w1 hw1).1, q0, q1, q2, q3⟩)
    have hGN : Hid (∀ w1, Below wc.heap.size wc w1 → NdAt (Up w.heap.size) w1 (.agg #[.int .u8 57, .int .i64 0, .string ⟨#[]⟩, .slice ga gn gc]) (blockN [nodeN 45 tn [vN ⟨#[104, 48]⟩]])) := Lib.hid (fun w1 hb => nd_node (k := 57) ((hGK.stays (Stays.of_below hb)).stays ⟨Nat.le_refl _, fun b _ a => ⟨rfl, a.1⟩⟩) (by omega) (Nat.zero_le _))
    clear hG hGK hBX HS0 HN hA hWS hW1
    go_wp2
    go_region_held3 (fun w1 => w1.cell? ⟨w.heap.size, 0, none⟩ = some (.string tn) ∧ w1.cell? ⟨w.heap.size, 5, none⟩ = some (.slice (some ⟨ab, ao, none⟩) args.length ac) ∧ w1.cell? ⟨ab, ao, none⟩ = some (.string (argN args 0)) ∧ w1.cell? ⟨g, 0, none⟩ = some (.int .u8 57) ∧ w1.cell? ⟨g, 1, none⟩ = some (.int .i64 0) ∧ w1.cell? ⟨g, 2, none⟩ = some (.string ⟨#[]⟩) ∧ w1.cell? ⟨g, 3, none⟩ = some (.slice ga gn gc))
      (with_reducible exact HC2.out _ (by (repeat (with_reducible first | exact Below.refl _ _ | refine bel_drew ?_ | refine bel_alloc ?_ | (apply bel_step; focus assumption)))))
      (first
      | (go_at_call 40; refine (refCall_U (A := Up w.heap.size) w.heap.size ⟨#[108, 99, 111, 112, 121]⟩ _ _ _ [argN args 0, tn] _ (up_ge (by (repeat (with_reducible first | exact hBel | exact Below.refl _ _ | refine bel_drew ?_ | refine bel_alloc ?_ | (apply bel_step; focus assumption)))) (Nat.le_refl _)) (strsU2 (by (repeat (with_reducible first | (refine nb_new ?_ ?_; rotate_left; (focus (simp; done)); (focus ((repeat (with_reducible first | exact hBel | exact Below.refl _ _ | refine bel_drew ?_ | refine bel_alloc ?_ | (apply bel_step; focus assumption))); done))) | refine nb_drew ?_ | refine nb_alloc ?_ | (apply nb_below; focus assumption)))) (by assumption) htn) (by unfold maxLen; decide) (by simp)).mono ?_; rintro e w9 ⟨a9, n9, c9, rfl, hk9, hb9⟩)
      | (go_at_call 44; refine (refNum_C _ _).mono ?_; rintro e w11 ⟨rfl, hb11⟩)
      | (go_at_call 41; (with_reducible refine (refNode_nil _ _ _).mono ?_); rintro e w10 ⟨rfl, hb10⟩)
      | (go_at_call 41; refine (refNode_U w.heap.size 54 ⟨#[104, 48]⟩ _ _ _ [numN 0, blockN [nodeN 45 tn [vN ⟨#[104, 48]⟩]], nodeN 4 (argN args 0) []] _ (up_ge (by (repeat (with_reducible first | exact hBel | exact Below.refl _ _ | refine bel_drew ?_ | refine bel_alloc ?_ | (apply bel_step; focus assumption)))) (Nat.le_refl _)) (kidsU3 (by (repeat (with_reducible first | (refine nb_new ?_ ?_; rotate_left; (focus (simp; done)); (focus ((repeat (with_reducible first | exact hBel | exact Below.refl _ _ | refine bel_drew ?_ | refine bel_alloc ?_ | (apply bel_step; focus assumption))); done))) | refine nb_drew ?_ | refine nb_alloc ?_ | (apply nb_below; focus assumption)))) (nd_num (by unfold In64; omega)) (hGN.out _ (by (repeat (with_reducible first | exact Below.refl _ _ | refine bel_drew ?_ | refine bel_alloc ?_ | (apply bel_step; focus assumption))))) (nd_node (KidsAt.nil _) (by omega) hz0)) (by simp) (by omega) hh0).mono ?_; rintro e w12 ⟨a12, n12, c12, rfl, hk12, hb12⟩)
)
    all_goals
      go_wp2
      go_ret
      refine ⟨_, _, _, rfl, ?_, (by (repeat (with_reducible first | exact hBel | exact Below.refl _ _ | refine bel_drew ?_ | refine bel_alloc ?_ | (apply bel_step; focus assumption))))⟩
      rw [HB.out]
      exact kidsU2 (by (repeat (with_reducible first | (refine nb_new ?_ ?_; rotate_left; (focus (simp; done)); (focus ((repeat (with_reducible first | exact hBel | exact Below.refl _ _ | refine bel_drew ?_ | refine bel_alloc ?_ | (apply bel_step; focus assumption))); done))) | refine nb_drew ?_ | refine nb_alloc ?_ | (apply nb_below; focus assumption)))) (hk9.stays (stays_up (by (repeat (with_reducible first | exact hBel | exact Below.refl _ _ | refine bel_drew ?_ | refine bel_alloc ?_ | (apply bel_step; focus assumption)))))) (hk12.stays (stays_up (by (repeat (with_reducible first | exact hBel | exact Below.refl _ _ | refine bel_drew ?_ | refine bel_alloc ?_ | (apply bel_step; focus assumption))))))
end Go.Proofs.YtehmmokkjojggabGreatDoor
/- backstepref40.one at a call. -/
namespace Go.Proofs.YtehmmokkjojggabGreatDoor
set_option linter.unusedVariables false
open Go.RowKit

/-- a target -/
structure Tg where
  name : ByteArray
  proc : ByteArray
  extra : List ByteArray
instance : Inhabited Tg := ⟨⟨ByteArray.empty, ByteArray.empty, []⟩⟩
/-- the three cells of a target -/
structure TgC (A : Nat → Prop) (w : World) (c : Nat → Value) (x : Tg) : Prop where
  c0 : c 0 = .string x.name
  c1 : c 1 = .string x.proc
  c2 : StrsAt A w (c 2) x.extra
  s0 : x.name.size ≤ maxLen
  s1 : x.proc.size ≤ maxLen
theorem TgC.stays {A A' : Nat → Prop} {w w' : World} (hs : Stays A A' w w') {c : Nat → Value} {x : Tg} (h : TgC A w c x) : TgC A' w' c x := ⟨h.c0, h.c1, h.c2.stays hs, h.s0, h.s1⟩
theorem TgC.congr {A : Nat → Prop} {w : World} {c d : Nat → Value} {x : Tg} (h : TgC A w c x) (e : ∀ i, i < 3 → d i = c i) : TgC A w d x := ⟨(e 0 (by omega)).trans h.c0, (e 1 (by omega)).trans h.c1, by rw [e 2 (by omega)]; exact h.c2, h.s0, h.s1⟩
def TgE : Elem Tg where
  size := 3
  C := TgC
  stays := fun hs _ _ h => h.stays hs
  congr := fun h e => h.congr e
  one := fun h i hi => by
    obtain ⟨_, a, c, e⟩ := h.c2.form
    match i, hi with
    | 0, _ => rw [h.c0]; rfl
    | 1, _ => rw [h.c1]; rfl
    | 2, _ => rw [e]; rfl
/-- the target of a name: the last one, or the name itself -/
def tgF (l : List Tg) (nm : ByteArray) : Tg := l.foldl (fun t x => if x.name = nm then x else t) ⟨ByteArray.empty, nm, []⟩
def refF (l : List Tg) : CallF := fun nm => ((tgF l nm).proc, (tgF l nm).extra)
theorem tgF_take (l : List Tg) (nm : ByteArray) (k : Nat) (h : k < l.length) : tgF (l.take (k + 1)) nm = if (at' l k).name = nm then at' l k else tgF (l.take k) nm := by
  rw [List.take_add_one, List.getElem?_eq_getElem h, at_eq h, Option.toList_some, tgF, List.foldl_append]
  rfl
theorem tgs_at {A : Nat → Prop} {w : World} {v : Value} {l : List Tg} (h : RowsAt TgE A w v l) {j : Nat} (hj : j < l.length) :
    ∃ b off cap a c, v = .slice (some ⟨b, off, none⟩) l.length cap ∧ b < w.heap.size ∧ l.length ≤ cap ∧ w.cell? ⟨b, off + j * 3, none⟩ = some (.string (at' l j).name) ∧ w.cell? ⟨b, off + j * 3 + 1, none⟩ = some (.string (at' l j).proc) ∧ w.cell? ⟨b, off + j * 3 + 2, none⟩ = some (.slice a (at' l j).extra.length c) ∧
      StrsAt A w (.slice a (at' l j).extra.length c) (at' l j).extra ∧ (at' l j).name.size ≤ maxLen ∧ (at' l j).proc.size ≤ maxLen := by
  obtain ⟨b, off, cap, cs, rfl, h1, h2, h3, h4, h5⟩ := h.at hj
  have c0 := h4 0 (by show 0 < 3; omega)
  have c1 := h4 1 (by show 1 < 3; omega)
  have c2 := h4 2 (by show 2 < 3; omega)
  have h6 : TgC A w cs (at' l j) := h5
  obtain ⟨_, a, c, e⟩ := h6.c2.form
  have h7 := h6.c2
  rw [h6.c0] at c0
  rw [h6.c1] at c1
  rw [e] at c2 h7
  exact ⟨b, off, cap, a, c, rfl, h1, h2, c0, c1, c2, h7, h6.s0, h6.s1⟩

/-- the target under way -/
structure TgSt (l : List Tg) (nm : ByteArray) (g k : Nat) (W wr : World) : Prop where
  m : ∃ a c, wr.heap[g]? = some (.cells #[.string (tgF (l.take k) nm).name, .string (tgF (l.take k) nm).proc, .slice a (tgF (l.take k) nm).extra.length c] 39 (0, 0)) ∧ StrsAt (fun b => b < W.heap.size) wr (.slice a (tgF (l.take k) nm).extra.length c) (tgF (l.take k) nm).extra
  size : (tgF (l.take k) nm).proc.size ≤ maxLen
  ge : W.heap.size ≤ g
  below : Below W.heap.size W wr
theorem cells3 {w : World} {b e : Nat} {v0 v1 v2 : Value} (h : w.heap[b]? = some (.cells #[v0, v1, v2] e (0, 0))) : w.cell? ⟨b, 0, none⟩ = some v0 ∧ w.cell? ⟨b, 1, none⟩ = some v1 ∧ w.cell? ⟨b, 2, none⟩ = some v2 :=
  ⟨cell_blk h 0 rfl, cell_blk h 1 rfl, cell_blk h 2 rfl⟩
theorem set3 {w : World} {b e : Nat} {v0 v1 v2 : Value} (h : w.heap[b]? = some (.cells #[v0, v1, v2] e (0, 0))) (x0 x1 x2 : Value) :
    (((w.setCell ⟨b, 0, none⟩ x0).setCell ⟨b, 1, none⟩ x1).setCell ⟨b, 2, none⟩ x2).heap[b]? = some (.cells #[x0, x1, x2] e (0, 0)) := by
  have h3 := heap_setCell_same _ b 2 _ _ x2 (heap_setCell_same _ b 1 _ _ x1 (heap_setCell_same w b 0 _ _ x0 h))
  simpa only [List.setIfInBounds_toArray, List.set_cons_zero, List.set_cons_succ] using h3
theorem keeps_set3 (w : World) (g : Nat) (x0 x1 x2 : Value) : Keeps w (((w.setCell ⟨g, 0, none⟩ x0).setCell ⟨g, 1, none⟩ x1).setCell ⟨g, 2, none⟩ x2) (fun k => k = g) := ((keeps_set w g 0 x0).same (keeps_set _ g 1 x1)).same (keeps_set _ g 2 x2)
theorem tgSt_start {l : List Tg} {nm : ByteArray} {W : World} (h : nm.size ≤ maxLen) : TgSt l nm W.heap.size 0 W (W.alloc (.cells #[.string ⟨#[]⟩, .string nm, .slice none 0 0] 39)) :=
  ⟨⟨none, 0, blk_new rfl, ⟨fun _ _ => undef, RowAt.empty _ _ _, fun j hj => by simp [tgF] at hj⟩⟩, by simpa [tgF] using h, Nat.le_refl _, (Below.refl _ _).alloc (Nat.le_refl _) _⟩
theorem TgSt.drew {l : List Tg} {nm : ByteArray} {g k : Nat} {W wr : World} (h : TgSt l nm g k W wr) : TgSt l nm g k W wr.drew := by
  obtain ⟨⟨a, c, h1, h2⟩, h3, h4, h5⟩ := h
  exact ⟨⟨a, c, blk_drew h1, h2.stays (Stays.of_below (bel_drew (Below.refl _ _)))⟩, h3, h4, bel_drew h5⟩
theorem TgSt.skip {l : List Tg} {nm : ByteArray} {g k : Nat} {W wr : World} (h : TgSt l nm g k W wr) (hk : k < l.length) (hn : (at' l k).name ≠ nm) : TgSt l nm g (k + 1) W wr := by
  have e : tgF (l.take (k + 1)) nm = tgF (l.take k) nm := by rw [tgF_take l nm k hk, if_neg hn]
  obtain ⟨⟨a, c, h1, h2⟩, h3, h4, h5⟩ := h
  exact ⟨by rw [e]; exact ⟨a, c, h1, h2⟩, by rw [e]; exact h3, h4, h5⟩
theorem TgSt.take {l : List Tg} {nm : ByteArray} {g k : Nat} {W wr : World} {a : Option Addr} {c : Nat} (h : TgSt l nm g k W wr) (hk : k < l.length) (hn : (at' l k).name = nm) (hs : (at' l k).proc.size ≤ maxLen) (hx : StrsAt (fun b => b < W.heap.size) wr (.slice a (at' l k).extra.length c) (at' l k).extra) :
    TgSt l nm g (k + 1) W (((wr.setCell ⟨g, 0, none⟩ (.string (at' l k).name)).setCell ⟨g, 1, none⟩ (.string (at' l k).proc)).setCell ⟨g, 2, none⟩ (.slice a (at' l k).extra.length c)) := by
  have e : tgF (l.take (k + 1)) nm = at' l k := by rw [tgF_take l nm k hk, if_pos hn]
  obtain ⟨⟨a0, c0, h1, h2⟩, h3, h4, h5⟩ := h
  have hK := keeps_set3 wr g (.string (at' l k).name) (.string (at' l k).proc) (.slice a (at' l k).extra.length c)
  refine ⟨by rw [e]; exact ⟨a, c, set3 h1 _ _ _, hx.stays ⟨hK.size, fun b hb hA => ⟨hK.block b hb (fun e => by omega), hA⟩⟩⟩, by rw [e]; exact hs, h4, ((h5.setCell h4 _).setCell h4 _).setCell h4 _⟩
end Go.Proofs.YtehmmokkjojggabGreatDoor
/- backstepref40.one at a call. -/
namespace Go.Proofs.YtehmmokkjojggabGreatDoor
set_option linter.unusedVariables false
open Go.RowKit

/-- behind the row of arguments -/
def CutC (args : List ByteArray) (tn : ByteArray) (wr : World) (s : Value) (wx : World) : Prop := ∃ a2 c2, s = .slice a2 (args.length + 1) c2 ∧ RowsOwn StrE 9 (fun _ => True) wr.heap.size wx (.slice a2 (args.length + 1) c2) (args ++ [tn]) ∧ Below wr.heap.size wr wx
/-- an empty row in a block of its own -/
theorem rows_empty {α : Type} [Inhabited α] {E : Elem α} {e : Nat} {D : Nat → Prop} {base : Nat} {w : World} {g : Nat} (h : w.heap[g]? = some (.cells #[] e (0, 0))) (hb : base ≤ g) : RowsOwn E e D base w (.slice (some ⟨g, 0, none⟩) 0 0) [] :=
  ⟨[], ⟨by simp, .inr ⟨g, 0, #[], rfl, hb, h, Nat.le_refl _, by unfold maxLen; omega, by simp, by simp⟩⟩, fun j hj => by simp at hj⟩

set_option maxRecDepth 100000 in
set_option maxHeartbeats 6400000 in
theorem one_call (tn nm : ByteArray) (l : Bool) (num : Int) (av ha ea tv : Option Addr) (ac hn hc en ec tc : Nat) (args : List ByteArray) (ts : List Tg) (thn els : List Bd) (w : World) (hs : StrsAt Any w (.slice av args.length ac) args) (hts : RowsAt TgE Any w (.slice tv ts.length tc) ts) (htn : tn.size ≤ maxLen) (hnm : nm.size ≤ maxLen) (hnum : In64 num) (hal : args.length ≤ 100000) (hex : (tgF ts nm).extra.length ≤ 1000) (hps : (tgF ts nm).proc.size ≤ maxLen) :
    Calls Tryz.prog 39 #[.agg #[.string tn, .bool l, .int .u8 85, .int .i64 num, .string nm, .slice av args.length ac, .slice ha hn hc, .slice ea en ec], .slice tv ts.length tc] w (StmtsPost (bindN (refF ts) (.mk tn l 85 num nm args thn els)) w) := by
  have HB : Hid (bindN (refF ts) (.mk tn l 85 num nm args thn els) = [callN (refF ts nm).1 (args ++ [tn] ++ (refF ts nm).2)]) := Lib.hid (by rw [bindN]; rfl)
  have htl := hts.form.1
  unfold maxLen at htl
  have hA : Below w.heap.size w (w.alloc (.cells #[.string tn, .bool l, .int .u8 85, .int .i64 num, .string nm, .slice av args.length ac, .slice ha hn hc, .slice ea en ec] 86)) := (Below.refl _ _).alloc (Nat.le_refl _) _
  have hws : w.heap.size < (w.alloc (.cells #[.string tn, .bool l, .int .u8 85, .int .i64 num, .string nm, .slice av args.length ac, .slice ha hn hc, .slice ea en ec] 86)).heap.size := by simp
  have HSZ : Hid (w.heap.size + 1 = (w.alloc (.cells #[.string tn, .bool l, .int .u8 85, .int .i64 num, .string nm, .slice av args.length ac, .slice ha hn hc, .slice ea en ec] 86)).heap.size) := Lib.hid (by simp)
  have HN := Lib.hid (at_new0 w (.cells #[.string tn, .bool l, .int .u8 85, .int .i64 num, .string nm, .slice av args.length ac, .slice ha hn hc, .slice ea en ec] 86))
  have HS := Lib.hid hs
  have HT : Hid (RowsAt TgE (fun b => b < (w.alloc (.cells #[.string tn, .bool l, .int .u8 85, .int .i64 num, .string nm, .slice av args.length ac, .slice ha hn hc, .slice ea en ec] 86)).heap.size) (w.alloc (.cells #[.string tn, .bool l, .int .u8 85, .int .i64 num, .string nm, .slice av args.length ac, .slice ha hn hc, .slice ea en ec] 86)) (.slice tv ts.length tc) ts) := Lib.hid (hts.stays ⟨hA.size, fun b hb _ => ⟨hA.block b hb, by simp; omega⟩⟩)
  clear hs hts
  go_enter Tryz.func39, Tryz.ntmps39
  go_wp2
  generalize (w.alloc (.cells #[.string tn, .bool l, .int .u8 85, .int .i64 num, .string nm, .slice av args.length ac, .slice ha hn hc, .slice ea en ec] 86)) = W at *
  have HST : Hid (TgSt ts nm (w.heap.size + 1) 0 W (W.alloc (.cells #[.string ⟨#[]⟩, .string nm, .slice none 0 0] 39))) := Lib.hid (by rw [HSZ.out]; exact tgSt_start hnm)
  go_loopw [6] (fun i wr => ∃ k : Nat, i = .int .i64 k ∧ k ≤ ts.length ∧ TgSt ts nm (w.heap.size + 1) k W wr) (fun i _ => ts.length - (intOf i).toNat)
  case atStart => exact ⟨0, rfl, Nat.zero_le _, HST.out⟩
  case round =>
    obtain ⟨k, rfl, hk, hst⟩ := hrel
    have HS2 := Lib.hid hst
    obtain ⟨⟨xa, xc, hm, hx⟩, hsz, _, hbl⟩ := hst
    have HM := Lib.hid hm
    have HX := Lib.hid hx
    have HBL := Lib.hid hbl
    have hbx : wr.heap[w.heap.size]? = some (.cells #[.string tn, .bool l, .int .u8 85, .int .i64 num, .string nm, .slice av args.length ac, .slice ha hn hc, .slice ea en ec] 86) := (hbl.block w.heap.size hws).trans HN.out
    have HBX := Lib.hid hbx
    have hbs := hbl.size
    clear hm hx hbl hbx
    by_cases hlt : k < ts.length
    · obtain ⟨b, off, cap, a, c, he, hb, hcap, c0, c1, c2, hxs, hs0, hs1⟩ := tgs_at HT.out hlt
      simp only [Value.slice.injEq] at he
      obtain ⟨rfl, -, rfl⟩ := he
      have i0 : (0 : Int) ≤ (k : Int) := by omega
      have i1 : (k : Int) < (ts.length : Int) := by omega
      have hS : Hid (∀ w1, Below wr.heap.size wr w1 → w1.cell? ⟨w.heap.size, 4, none⟩ = some (.string nm) ∧ w1.cell? ⟨b, off + k * 3, none⟩ = some (.string (at' ts k).name) ∧ w1.cell? ⟨b, off + k * 3 + 1, none⟩ = some (.string (at' ts k).proc) ∧ w1.cell? ⟨b, off + k * 3 + 2, none⟩ = some (.slice a (at' ts k).extra.length c)) := Lib.hid (fun w1 hw => by
        obtain ⟨k0, k1, k2, k3, k4, k5, k6, k7⟩ := cellsB (blk_below hw HBX.out)
        have hW := HBL.out.trans (hw.mono hbs)
        exact ⟨k4, (hW.cell hb).trans c0, (hW.cell hb).trans c1, (hW.cell hb).trans c2⟩)
      obtain ⟨s0, s1, s2, s3⟩ := hS.out wr.drew (bel_drew (Below.refl _ _))
      by_cases hnn : (at' ts k).name = nm
      · have d : ((at' ts k).name.toList == nm.toList) = true := by rw [hnn]; simp
        have HTK := Lib.hid (HS2.out.drew.take (a := a) (c := c) hlt hnn hs1 ((hxs.stays (Stays.of_below HBL.out)).stays (Stays.of_below (bel_drew (Below.refl _ _)))))
        obtain ⟨m0, m1, m2⟩ := cells3 HM.out
        have mf := unfrozen HM.out
        clear hnn
        go_wp2
        go_region_held3 (fun w1 => w1.cell? ⟨w.heap.size, 4, none⟩ = some (.string nm) ∧ w1.cell? ⟨b, off + k * 3, none⟩ = some (.string (at' ts k).name) ∧ w1.cell? ⟨b, off + k * 3 + 1, none⟩ = some (.string (at' ts k).proc) ∧ w1.cell? ⟨b, off + k * 3 + 2, none⟩ = some (.slice a (at' ts k).extra.length c))
          (with_reducible exact hS.out _ (by (repeat (with_reducible first | exact Below.refl _ _ | refine bel_drew ?_ | refine bel_alloc ?_ | (apply bel_step; focus assumption))))) (fail)
        go_wp2
        exact ⟨⟨k + 1, by go_num, by omega, HTK.out⟩, by simp [intOf]; omega⟩
      · have d : ((at' ts k).name.toList == nm.toList) = false := beq_eq_false_iff_ne.2 (fun e => hnn (toList_inj e))
        have HTK := Lib.hid ((HS2.out.skip hlt hnn).drew)
        clear hnn
        go_wp2
        go_region_held3 (fun w1 => w1.cell? ⟨w.heap.size, 4, none⟩ = some (.string nm) ∧ w1.cell? ⟨b, off + k * 3, none⟩ = some (.string (at' ts k).name) ∧ w1.cell? ⟨b, off + k * 3 + 1, none⟩ = some (.string (at' ts k).proc) ∧ w1.cell? ⟨b, off + k * 3 + 2, none⟩ = some (.slice a (at' ts k).extra.length c))
          (with_reducible exact hS.out _ (by (repeat (with_reducible first | exact Below.refl _ _ | refine bel_drew ?_ | refine bel_alloc ?_ | (apply bel_step; focus assumption))))) (fail)
        go_wp2
        exact ⟨⟨k + 1, by go_num, by omega, HTK.out⟩, by simp [intOf]; omega⟩
    · obtain rfl : k = ts.length := by omega
      have hlt' : ¬ (ts.length : Int) < (ts.length : Int) := by omega
      have hS : Hid (∀ w1, Below wr.heap.size wr w1 → w1.cell? ⟨w.heap.size, 0, none⟩ = some (.string tn) ∧ w1.cell? ⟨w.heap.size, 5, none⟩ = some (.slice av args.length ac)) := Lib.hid (fun w1 hw => by
        obtain ⟨k0, k1, k2, k3, k4, k5, k6, k7⟩ := cellsB (blk_below hw HBX.out)
        exact ⟨k0, k5⟩)
      obtain ⟨s0, s1⟩ := hS.out wr (Below.refl _ _)
      have hwr : w.heap.size < wr.heap.size := Nat.lt_of_lt_of_le hws hbs
      have HARG : Hid (∀ w1, Below wr.heap.size wr w1 → StrsAt (fun b => b < w.heap.size) w1 (.slice av args.length ac) args) := Lib.hid (fun w1 hw => (HS.out.stays (A' := fun b => b < w.heap.size) ⟨Nat.le_refl _, fun b hb _ => ⟨rfl, hb⟩⟩).stays (Stays.of_below ((hA.trans (HBL.out.mono hA.size)).trans (hw.mono (Nat.le_of_lt hwr)))))
      go_wp2
      go_cut [7] (fun s wx => CutC args tn wr s wx)
      case first =>
        go_region_held3 (fun w1 => w1.cell? ⟨w.heap.size, 0, none⟩ = some (.string tn) ∧ w1.cell? ⟨w.heap.size, 5, none⟩ = some (.slice av args.length ac))
          (with_reducible exact hS.out _ (by (repeat (with_reducible first | exact Below.refl _ _ | refine bel_drew ?_ | refine bel_alloc ?_ | (apply bel_step; focus assumption)))))
          (first
          | (refine step_rows (E := StrE) (D := fun _ => True) (D' := fun b => b < w.heap.size) (base := wr.heap.size) (l := []) (m := args) TStr rfl (by decide) (by rfl) (.tmp 110) (.tmp 112) (by rfl) (by rfl) (by rfl) (rows_empty (by (repeat (with_reducible first | (refine blk_new ?_; (simp; done)) | refine blk_drew ?_ | refine blk_alloc ?_ | (apply blk_below; focus assumption)))) (by first | omega | (simp; done) | (simp; omega))) (strs_rows.1 (HARG.out _ (by (repeat (with_reducible first | exact Below.refl _ _ | refine bel_drew ?_ | refine bel_alloc ?_ | (apply bel_step; focus assumption)))))) (fun b _ hb2 => ⟨trivial, fun e => by simp [Value.ownBlock] at e; omega⟩) (by unfold maxLen; simp; omega) (by simp; omega) (by first | omega | (simp; done) | (simp; omega)) ?_; intro a1 c1 w4 h4 hg4 hn4; have hb4 : Below wr.heap.size wr w4 := Below.grown (by (repeat (with_reducible first | exact Below.refl _ _ | refine bel_drew ?_ | refine bel_alloc ?_ | (apply bel_step; focus assumption)))) hg4 (by first | omega | (simp; done) | (simp; omega)) (fun k e => by simp [Value.ownBlock] at e; omega); simp only [List.nil_append, List.length_nil, Nat.zero_add] at h4 hn4; have H4 := Lib.hid h4; have HG4 := Lib.hid hg4; have HN4 := Lib.hid hn4; clear h4 hg4 hn4)
          | (refine step_rows (E := StrE) (D := fun _ => True) (base := wr.heap.size) (l := args) (m := [tn]) TStr rfl (by decide) (by rfl) (.tmp 113) (.tmp 116) (by rfl) (by first | rfl | (show Value.slice a1 (0 + args.length) c1 = _; rw [Nat.zero_add]) | (show Value.slice a1 (([] : List ByteArray).length + args.length) c1 = _; simp)) (by rfl) (H4.out.below (by (repeat (with_reducible first | exact Below.refl _ _ | refine bel_drew ?_ | refine bel_alloc ?_ | (apply bel_step; focus assumption))))) (strs_rows.1 (strs_1 (A := fun b => b = w4.heap.size) (blk_new rfl) rfl htn)) (fun b _ hb2 => ⟨trivial, fun e => by have := (H4.out.lt e).2; omega⟩) (by unfold maxLen; simp; omega) (by simp; omega) (by have := hb4.size; (try simp); omega) ?_; intro a2 c2 w5 h5 hg5 hn5; have hb5 : Below wr.heap.size wr w5 := Below.grown (by (repeat (with_reducible first | exact Below.refl _ _ | refine bel_drew ?_ | refine bel_alloc ?_ | (apply bel_step; focus assumption)))) hg5 (by have := hb4.size; (try simp); omega) (fun k e => (H4.out.lt e).1); have H5 := Lib.hid h5; clear h5 hg5 hn5)
          | (refine step_rows (E := StrE) (D := fun _ => True) (base := wr.heap.size) (l := args) (m := [tn]) TStr rfl (by decide) (by rfl) (.tmp 113) (.tmp 116) (by rfl) (by first | rfl | (show Value.slice a1 (0 + args.length) c1 = _; rw [Nat.zero_add]) | (show Value.slice a1 (([] : List ByteArray).length + args.length) c1 = _; simp)) (by rfl) (H4.out.below (by (repeat (with_reducible first | exact Below.refl _ _ | refine bel_drew ?_ | refine bel_alloc ?_ | (apply bel_step; focus assumption))))) (strs_rows.1 (strs_1 (A := fun b => wr.heap.size ≤ b ∧ b < w4.heap.size ∧ (Value.slice a1 args.length c1).ownBlock ≠ some b) ((HG4.out.block _ (by first | omega | (simp; done) | (simp; omega)) (by simp [Value.ownBlock])).trans (by (repeat (with_reducible first | (refine blk_new ?_; (simp; done)) | refine blk_drew ?_ | refine blk_alloc ?_ | (apply blk_below; focus assumption))))) ⟨(by first | omega | (simp; done) | (simp; omega)), by have := HG4.out.size; simp at this; omega, fun e => by rcases HN4.out _ e with e | e <;> simp [Value.ownBlock] at e <;> omega⟩ htn)) (fun b _ hb2 => ⟨trivial, hb2.2.2⟩) (by unfold maxLen; simp; omega) (by simp; omega) (by have := hb4.size; (try simp); omega) ?_; intro a2 c2 w5 h5 hg5 hn5; have hb5 : Below wr.heap.size wr w5 := Below.grown (by (repeat (with_reducible first | exact Below.refl _ _ | refine bel_drew ?_ | refine bel_alloc ?_ | (apply bel_step; focus assumption)))) hg5 (by have := hb4.size; (try simp); omega) (fun k e => (H4.out.lt e).1); have H5 := Lib.hid h5; clear h5 hg5 hn5))
        all_goals
          go_wp2
          go_meet
          exact ⟨a2, c2, rfl, H5.out, hb5⟩
      case rest =>
        obtain ⟨a2, c2, rfl, h5, hb5⟩ := hcut
        have H5 := Lib.hid h5
        clear h5
        rw [List.take_length] at HM HX hsz
        have hS5 : Hid (∀ w1, Below wr.heap.size wr w1 → w1.cell? ⟨w.heap.size + 1, 1, none⟩ = some (.string (tgF ts nm).proc) ∧ w1.cell? ⟨w.heap.size + 1, 2, none⟩ = some (.slice xa (tgF ts nm).extra.length xc)) := Lib.hid (fun w1 hw => (cells3 (blk_below hw HM.out)).2)
        have HX5 : Hid (∀ w1, Below wr.heap.size wr w1 → StrsAt (fun b => b < W.heap.size) w1 (.slice xa (tgF ts nm).extra.length xc) (tgF ts nm).extra) := Lib.hid (fun w1 hw => HX.out.stays (Stays.of_below hw))
        have hs5 := hb5.size
        have hAR : Below w.heap.size w wr := hA.trans (HBL.out.mono hA.size)
        obtain ⟨t1, t2⟩ := hS5.out wc hb5
        clear s0 s1 hS HARG HST HS2 HM HX
        go_wp2
        go_region_held3 (fun w1 => w1.cell? ⟨w.heap.size + 1, 1, none⟩ = some (.string (tgF ts nm).proc) ∧ w1.cell? ⟨w.heap.size + 1, 2, none⟩ = some (.slice xa (tgF ts nm).extra.length xc))
          (with_reducible exact hS5.out _ (by (repeat (with_reducible first | exact hb6 | exact hb5 | exact Below.refl _ _ | refine bel_drew ?_ | refine bel_alloc ?_ | (apply bel_step; focus assumption)))))
          (first
          | (go_at_call 40; refine (refCall_U (A := fun _ => True) w.heap.size (tgF ts nm).proc _ _ _ (args ++ [tn] ++ (tgF ts nm).extra) _ (up_ge (hAR.trans (Below.mono (by (repeat (with_reducible first | exact hb6 | exact hb5 | exact Below.refl _ _ | refine bel_drew ?_ | refine bel_alloc ?_ | (apply bel_step; focus assumption)))) hAR.size)) (Nat.le_refl _)) (HK6.out _ (by (repeat (with_reducible first | exact Below.refl _ _ | refine bel_drew ?_ | refine bel_alloc ?_ | (apply bel_step; focus assumption))))) hps (by simp; omega)).mono ?_; rintro e w9 ⟨a9, n9, c9, rfl, hk9, hb9⟩)
          | (refine step_rows (E := StrE) (D := fun _ => True) (base := wr.heap.size) (l := args ++ [tn]) (m := (tgF ts nm).extra) TStr rfl (by decide) (by rfl) (.tmp 120) (.tmp 122) (by rfl) (by rfl) (by rfl) (H5.out.below (by (repeat (with_reducible first | exact Below.refl _ _ | refine bel_drew ?_ | refine bel_alloc ?_ | (apply bel_step; focus assumption))))) (strs_rows.1 (HX5.out _ (by (repeat (with_reducible first | exact hb5 | exact Below.refl _ _ | refine bel_drew ?_ | refine bel_alloc ?_ | (apply bel_step; focus assumption)))))) (fun b _ hb2 => ⟨trivial, fun e => by have := (H5.out.lt e).1; omega⟩) (by simp; unfold maxLen; omega) (by simp; omega) (by first | omega | (simp; done) | (simp; omega)) ?_; intro a6 c6 w6 h6 hg6 hn6; have hb6 : Below wr.heap.size wr w6 := Below.grown (by (repeat (with_reducible first | exact hb5 | exact Below.refl _ _ | refine bel_drew ?_ | refine bel_alloc ?_ | (apply bel_step; focus assumption)))) hg6 (by first | omega | (simp; done) | (simp; omega)) (fun k e => (H5.out.lt e).1); have HK6 : Hid (∀ w1, Below w6.heap.size w6 w1 → StrsAt (fun _ => True) w1 (.slice a6 (args.length + 1 + (tgF ts nm).extra.length) c6) (args ++ [tn] ++ (tgF ts nm).extra)) := Lib.hid (fun w1 hw => strs_rows.2 (RowsAt.stays (Stays.of_below hw) (by have h7 := h6.shut (A := fun _ => True) (fun _ _ => trivial) (fun _ _ => trivial) (by unfold maxLen; simp; omega); rw [List.length_append, List.length_singleton] at h7; exact h7))); clear h6 hg6 hn6)
          | fail)
        all_goals
          go_wp2
          go_ret
          have hb69 : Below wr.heap.size wr w9 := (by (repeat (with_reducible first | exact hb6 | exact hb5 | exact Below.refl _ _ | refine bel_drew ?_ | refine bel_alloc ?_ | (apply bel_step; focus assumption))))
          have hw9 : Below w.heap.size w w9 := hAR.trans (hb69.mono hAR.size)
          refine ⟨_, _, _, rfl, ?_, bel_alloc hw9⟩
          rw [HB.out]
          exact kids_1 (A := Up w.heap.size) (heap_alloc_new w9 _) hw9.size (hk9.stays (Stays.of_below ((Below.refl _ _).alloc (Nat.le_refl _) _)))
end Go.Proofs.YtehmmokkjojggabGreatDoor
/- Walks of package backstepref40: Block. -/
namespace Go.Proofs.YtehmmokkjojggabGreatDoor
set_option linter.unusedVariables false
open Go.RowKit

/-- the loop of Block: the statements so far -/
structure BlkSt (w : World) (l : List Nd) (a : Option Addr) (n c : Nat) (wr : World) : Prop where
  zero : wr.heap[w.heap.size]? = some (.cells #[.int .u8 0, .int .i64 0, .string ⟨#[]⟩, .slice none 0 0] 35)
  m : wr.heap[w.heap.size + 1]? = some (.cells #[.int .u8 57, .int .i64 0, .string ⟨#[]⟩, .slice a n c] 35 (0, 0))
  row : RowsOwn NdE 35 (fun b => w.heap.size + 2 ≤ b) (w.heap.size + 2) wr (.slice a n c) l
  len : n = l.length
  below : Below w.heap.size w wr
theorem blkT_start (w : World) : BlkSt w [] none 0 0 ((w.alloc (.cells #[.int .u8 0, .int .i64 0, .string ⟨#[]⟩, .slice none 0 0] 35)).alloc (.cells #[.int .u8 57, .int .i64 0, .string ⟨#[]⟩, .slice none 0 0] 35)) :=
  ⟨at_old w _ _, at_new w _ _, RowsOwn.nil _ _ _ _ _, rfl, ((Below.refl _ _).alloc (Nat.le_refl _) _).alloc (by simp) _⟩
/-- behind the append: what was there -/
theorem blkT_after {w wr w3 w4 : World} {l : List Nd} {a : Option Addr} {n c : Nat} (h : BlkSt w l a n c wr) (hb : Below wr.heap.size wr w3) (hg : w3.grownBy w4 (Value.slice a n c).ownBlock) :
    w4.heap[w.heap.size + 1]? = some (.cells #[.int .u8 57, .int .i64 0, .string ⟨#[]⟩, .slice a n c] 35 (0, 0)) ∧ w4.heap[w.heap.size]? = some (.cells #[.int .u8 0, .int .i64 0, .string ⟨#[]⟩, .slice none 0 0] 35) ∧ Below w.heap.size w w4 := by
  have hml : w.heap.size + 1 < wr.heap.size := by have h := h.m; rw [Array.getElem?_eq_some_iff] at h; exact h.1
  have hs := hb.size
  have hB : Below w.heap.size w w3 := h.below.trans (hb.mono h.below.size)
  exact ⟨(hg.block _ (by omega) (fun e => by have := (h.row.lt e.symm).1; omega)).trans (blk_below hb h.m), (hg.block w.heap.size (by omega) (fun e => by have := (h.row.lt e.symm).1; omega)).trans (blk_below hb h.zero), hB.grown hg hB.size (fun j e => by have := (h.row.lt e).1; omega)⟩
theorem blkT_step {w wr w4 : World} {l m : List Nd} {a a' : Option Addr} {n c c' : Nat} (h : BlkSt w l a n c wr) (hm : w4.heap[w.heap.size + 1]? = some (.cells #[.int .u8 57, .int .i64 0, .string ⟨#[]⟩, .slice a n c] 35 (0, 0)) ∧ w4.heap[w.heap.size]? = some (.cells #[.int .u8 0, .int .i64 0, .string ⟨#[]⟩, .slice none 0 0] 35) ∧ Below w.heap.size w w4)
    (h4 : RowsOwn NdE 35 (fun b => w.heap.size + 2 ≤ b) (w.heap.size + 2) w4 (.slice a' (l.length + m.length) c') (l ++ m)) :
    BlkSt w (l ++ m) a' (l.length + m.length) c' (w4.setCell ⟨w.heap.size + 1, 3, none⟩ (.slice a' (l.length + m.length) c')) := by
  obtain ⟨m1, m2, m3⟩ := hm
  have hK := keeps_set w4 (w.heap.size + 1) 3 (.slice a' (l.length + m.length) c')
  exact ⟨blk_set m2 (by omega), set1_3 m1 _, h4.keeps hK (fun j e e2 => by have := (h4.lt e).1; omega) (fun j _ d e => by omega), by simp, m3.setCell (by show w.heap.size ≤ w.heap.size + 1; omega) _⟩

theorem blkT_rows {w wr w3 : World} {l m : List Nd} {a ka : Option Addr} {n c kn kc : Nat} (h : BlkSt w l a n c wr) (hb : Below wr.heap.size wr w3) (hk : KidsAt (Up wr.heap.size) w3 (.slice ka kn kc) m) :
    RowsOwn NdE 35 (fun b => w.heap.size + 2 ≤ b) (w.heap.size + 2) w3 (.slice a n c) l ∧ RowsAt NdE (Up wr.heap.size) w3 (.slice ka kn kc) m ∧ ∀ b, b < w3.heap.size → Up wr.heap.size b → w.heap.size + 2 ≤ b ∧ (Value.slice a n c).ownBlock ≠ some b := by
  have hml : w.heap.size + 1 < wr.heap.size := by have h := h.m; rw [Array.getElem?_eq_some_iff] at h; exact h.1
  refine ⟨h.row.below hb, kids_rows.1 hk, fun b _ hu => ⟨?_, fun e => ?_⟩⟩
  · have : wr.heap.size ≤ b := hu
    omega
  · have : wr.heap.size ≤ b := hu
    have := (h.row.lt e).2
    omega

set_option maxRecDepth 100000 in
set_option maxHeartbeats 3200000 in
theorem block_walk (cf : CallF) (l : List Bd) (bv : Value) (tv : Option Addr) (tk tc : Nat) (w : World) (hsz : l.length ≤ 100000) (hv : BdsAt Any w bv l)
    (HB : Hid (∀ k, k < l.length → ∀ (av ha ea : Option Addr) (ac hc ec : Nat) (w1 : World), Below w.heap.size w w1 → StrsAt Any w1 (.slice av (at' l k).args.length ac) (at' l k).args → BdsAt Any w1 (.slice ha (at' l k).thn.length hc) (at' l k).thn → BdsAt Any w1 (.slice ea (at' l k).els.length ec) (at' l k).els → (at' l k).Ok1 →
      Calls Tryz.prog 39 #[.agg #[.string (at' l k).to, .bool (at' l k).list, .int .u8 (at' l k).op, .int .i64 (at' l k).num, .string (at' l k).name, .slice av (at' l k).args.length ac, .slice ha (at' l k).thn.length hc, .slice ea (at' l k).els.length ec], .slice tv tk tc] w1 (StmtsPost (bindN cf (at' l k)) w1))) :
    Calls Tryz.prog 14 #[bv, .slice tv tk tc] w (BlockPost (bindsN cf l) w) := by
  obtain ⟨hll, la, lc, rfl⟩ := hv.form
  have HV := Lib.hid hv
  have HST := Lib.hid (blkT_start w)
  clear hv
  go_enter Tryz.func14, Tryz.ntmps14
  go_wp2
  go_loopw [6] (fun i wr => ∃ (k : Nat) (a : Option Addr) (n c : Nat), i = .int .i64 k ∧ k ≤ l.length ∧ BlkSt w (bindsN cf (l.take k)) a n c wr) (fun i _ => l.length - (intOf i).toNat)
  case atStart => exact ⟨0, none, 0, 0, rfl, Nat.zero_le _, by rw [List.take_zero, bindsN]; exact HST.out⟩
  case round =>
    obtain ⟨k, a, n, c, rfl, hk, hst⟩ := hrel
    have HS := Lib.hid hst
    have hbl := hst.below
    obtain ⟨m0, m1, m2, m3⟩ := cells4 hst.m
    have mf := unfrozen hst.m
    have hml : w.heap.size + 1 < wr.heap.size := by have h := hst.m; rw [Array.getElem?_eq_some_iff] at h; exact h.1
    have hbn : (bindsN cf (l.take k)).length ≤ 2 * k := by
      have := bindsN_len cf (l.take k)
      rw [List.length_take] at this
      omega
    obtain rfl := hst.len
    clear hst
    by_cases hlt : k < l.length
    · obtain ⟨b, off, cap, aa, ac, ta, tc', ea, ec, he, hb, c0, c1, c2, c3, c4, c5, c6, c7, hs, ht, hel, hok⟩ := HV.out.at hlt
      simp only [Value.slice.injEq] at he
      obtain ⟨rfl, -, rfl⟩ := he
      have hst : ∀ w1, Below wr.heap.size wr w1 → Stays Any Any w w1 := fun w1 hw => Stays.of_below (hbl.trans (hw.mono hbl.size))
      have HBC : Hid (∀ w1, Below wr.heap.size wr w1 → Calls Tryz.prog 39 #[.agg #[.string (at' l k).to, .bool (at' l k).list, .int .u8 (at' l k).op, .int .i64 (at' l k).num, .string (at' l k).name, .slice aa (at' l k).args.length ac, .slice ta (at' l k).thn.length tc', .slice ea (at' l k).els.length ec], .slice tv tk tc] w1 (StmtsPost (bindN cf (at' l k)) w1)) := Lib.hid (fun w1 hw => HB.out k hlt aa ta ea ac tc' ec w1 (hbl.trans (hw.mono hbl.size)) (hs.stays (hst w1 hw)) (ht.stays (hst w1 hw)) (hel.stays (hst w1 hw)) hok)
      have HTK := Lib.hid (bindsN_take cf hlt)
      have HC : Hid (∀ w1, Below wr.heap.size wr w1 → w1.cell? ⟨w.heap.size + 1, 3, none⟩ = some (.slice a (bindsN cf (l.take k)).length c) ∧ w1.cell? ⟨b, off + k * 8, none⟩ = some (.string (at' l k).to) ∧ w1.cell? ⟨b, off + k * 8 + 1, none⟩ = some (.bool (at' l k).list) ∧ w1.cell? ⟨b, off + k * 8 + 2, none⟩ = some (.int .u8 (at' l k).op) ∧ w1.cell? ⟨b, off + k * 8 + 3, none⟩ = some (.int .i64 (at' l k).num) ∧ w1.cell? ⟨b, off + k * 8 + 4, none⟩ = some (.string (at' l k).name) ∧ w1.cell? ⟨b, off + k * 8 + 5, none⟩ = some (.slice aa (at' l k).args.length ac) ∧ w1.cell? ⟨b, off + k * 8 + 6, none⟩ = some (.slice ta (at' l k).thn.length tc') ∧ w1.cell? ⟨b, off + k * 8 + 7, none⟩ = some (.slice ea (at' l k).els.length ec)) := Lib.hid (fun w1 hw => by
        have hW := hbl.trans (hw.mono hbl.size)
        exact ⟨(cells4 (blk_below hw HS.out.m)).2.2.2, (hW.cell hb).trans c0, (hW.cell hb).trans c1, (hW.cell hb).trans c2, (hW.cell hb).trans c3, (hW.cell hb).trans c4, (hW.cell hb).trans c5, (hW.cell hb).trans c6, (hW.cell hb).trans c7⟩)
      have i0 : (0 : Int) ≤ (k : Int) := by omega
      have i1 : (k : Int) < (l.length : Int) := by omega
      have hkl := bindN_len cf (at' l k)
      clear hs ht hel hok c0 c1 c2 c3 c4 c5 c6 c7 hst
      obtain ⟨t0, t1, t2, t3, t4, t5, t6, t7, t8⟩ := HC.out wr (Below.refl _ _)
      go_wp2
      go_region_law (first
        | (go_simp; go_at_call 39; refine (HBC.out _ (by (repeat (with_reducible first | exact Below.refl _ _ | refine bel_drew ?_ | refine bel_alloc ?_ | (apply bel_step; focus assumption))))).mono ?_; rintro e w3 ⟨ka, kn, kc, rfl, hk3, hb3⟩; have hw3 : Below wr.heap.size wr w3 := (by (repeat (with_reducible first | exact Below.refl _ _ | refine bel_drew ?_ | refine bel_alloc ?_ | (apply bel_step; focus assumption)))); have HR := Lib.hid (blkT_rows HS.out hw3 hk3); clear hk3; obtain ⟨q0, q1, q2, q3, q4, q5, q6, q7, q8⟩ := HC.out w3 hw3)
        | (refine step_rows TNd rfl (by decide) (by rfl) (.tmp 15) (.tmp 21) (by rfl) (by rfl) (by rfl) HR.out.1 HR.out.2.1 HR.out.2.2 (by unfold maxLen; omega) (by omega) (by have := hw3.size; omega) ?_; intro a' c' w4 h4 hg4 hn4; have H4 := Lib.hid h4; have hm4 := blkT_after HS.out hw3 hg4; obtain ⟨p0, p1, p2, p3⟩ := cells4 hm4.1; have pf := unfrozen hm4.1; have HM4 := Lib.hid hm4; clear h4 hg4 hn4 hm4)
        | fail)
      all_goals
        go_wp2
        exact ⟨⟨k + 1, a', _, c', by go_num, by omega, by rw [HTK.out]; exact blkT_step HS.out HM4.out H4.out⟩, by simp [intOf]; omega⟩
    · obtain rfl : k = l.length := by omega
      have hlt' : ¬ (l.length : Int) < (l.length : Int) := by omega
      rw [List.take_length] at HS m3 hbn
      obtain ⟨z0, z1, z2, z3⟩ := cells4 HS.out.zero
      have zf := unfrozen HS.out.zero
      go_wp2
      (try simp only [Exit.inBlock, Exit.then])
      refine bodyPost_ret (results_cell_row (P := Tryz.prog) rfl _ _ w.heap.size _ _ _ _ rfl (set4 HS.out.zero _ _ _ _) Tryz.underlying35 rfl (by kernel_rfl)) rfl ?_
      have hrow := HS.out.row
      have hkk : KidsAt (fun b => w.heap.size + 2 ≤ b) wr (.slice a (bindsN cf l).length c) (bindsN cf l) := kids_rows.2 (hrow.shut (A := fun b => w.heap.size + 2 ≤ b) (fun j d => d) (fun j e => (hrow.lt e).1) (by unfold maxLen; omega))
      have hK4 := (((keeps_set wr w.heap.size 0 (.int .u8 57)).same (keeps_set _ w.heap.size 1 (.int .i64 0))).same (keeps_set _ w.heap.size 2 (.string ⟨#[]⟩))).same (keeps_set _ w.heap.size 3 (.slice a (bindsN cf l).length c))
      refine ⟨_, _, _, rfl, nd_node (k := 57) (hkk.stays ⟨hK4.size, fun b hb h => ⟨hK4.block b hb (fun e => ?_), ?_⟩⟩) (by omega) (Nat.zero_le _), bel_sets4 hbl (Nat.le_refl _)⟩
      · have : w.heap.size + 2 ≤ b := h
        omega
      · have : w.heap.size + 2 ≤ b := h
        unfold Up; omega
end Go.Proofs.YtehmmokkjojggabGreatDoor
/- What the normal form of a valid function is like: its names and the numbers of its arguments. No program in sight. -/
namespace Go.Proofs.YtehmmokkjojggabGreatDoor
set_option linter.unusedVariables false

/-- a name of a function, of a parameter, or of a temporary -/
def GName (s : ByteArray) : Prop := nameB s = true ∨ ∃ i, i ≤ 10000 ∧ s = tname i

mutual
/-- a bind in its form -/
def GoodB (lib : List Fn) : Bd → Prop
  | .mk tn _ op num name args thn els => GName tn ∧ (∀ a ∈ args, GName a) ∧ (op = 80 ∧ 0 ≤ num ∨ op = 81 ∧ args.length = 1 ∨ op = 82 ∧ (8 ≤ num ∧ num ≤ 23) ∧ args.length = 2 ∨ op = 83 ∧ args.length = 1 ∨
      op = 85 ∧ args.length ≤ 8 ∧ 0 ≤ findF lib name ∨ op = 86 ∨ op = 87 ∧ args.length = 2 ∨ (op = 88 ∨ op = 89 ∨ op = 90) ∧ args.length = 1) ∧ GoodBs lib thn ∧ GoodBs lib els
def GoodBs (lib : List Fn) : List Bd → Prop
  | [] => True
  | b :: r => GoodB lib b ∧ GoodBs lib r
end

theorem GoodBs.append {lib : List Fn} : ∀ {l m : List Bd}, GoodBs lib l → GoodBs lib m → GoodBs lib (l ++ m)
  | [], _, _, h => h
  | b :: l, m, h, h' => by
    rw [GoodBs] at h
    rw [List.cons_append, GoodBs]
    exact ⟨h.1, h.2.append h'⟩
theorem GoodBs.one {lib : List Fn} {b : Bd} (h : GoodB lib b) : GoodBs lib [b] := by
  rw [GoodBs]; exact ⟨h, by rw [GoodBs]; trivial⟩
theorem GoodBs.nil (lib : List Fn) : GoodBs lib [] := by rw [GoodBs]; trivial
theorem GoodBs.mem {lib : List Fn} : ∀ {l : List Bd}, GoodBs lib l → ∀ b ∈ l, GoodB lib b
  | [], _, b, hb => by simp at hb
  | c :: l, h, b, hb => by
    rw [GoodBs] at h
    rcases List.mem_cons.1 hb with rfl | hb
    · exact h.1
    · exact h.2.mem b hb

/-- the variables that are visible have values, and no others -/
def Agree (vis : Vis) (env : Env) : Prop := ∀ s, match env s with | some p => GName p.name ∧ vis s = some p.list | none => vis s = none
/-- the temporaries are named in order -/
def TNamed (ts : List Par) : Prop := ∀ j, j < ts.length → (at' ts j).name = tname j

theorem TNamed.snoc {ts : List Par} (h : TNamed ts) (b : Bool) : TNamed (ts ++ [⟨tname ts.length, b⟩]) := by
  intro j hj
  by_cases e : j < ts.length
  · rw [at', List.getD_eq_getElem?_getD, List.getElem?_append_left e, ← List.getD_eq_getElem?_getD]; exact h j e
  · obtain rfl : j = ts.length := by simp at hj; omega
    simp [at']
theorem TNamed.set {ts : List Par} (h : TNamed ts) (i : Nat) (b : Bool) : TNamed (setTy ts i b) := by
  intro j hj
  rw [setTy_len] at hj
  unfold setTy
  by_cases e : i = j
  · subst e
    simp [at', hj]
    have := h i hj
    simpa [at', List.getElem?_eq_getElem hj] using this
  · have := h j hj
    simp [at', List.getElem?_set_ne e] at this ⊢
    exact this
theorem setTy_at {ts : List Par} {i : Nat} (hi : i < ts.length) (b : Bool) : at' (setTy ts i b) i = ⟨(at' ts i).name, b⟩ := by simp [setTy, at', hi]

theorem Agree.put {vis : Vis} {env : Env} (h : Agree vis env) (s : ByteArray) (p : Par) (hp : GName p.name) : Agree (vis.put s p.list) (env.put s p) := by
  intro y
  by_cases e : y = s
  · simp only [Env.put, Vis.put, if_pos e]; exact ⟨hp, trivial⟩
  · simp only [Env.put, Vis.put, if_neg e]; exact h y
theorem cut_put {env : Env} {s : ByteArray} {p : Par} (h : env s = none) : (env.put s p).cut s = env := by
  funext y
  by_cases e : y = s
  · subst e; simp [Env.cut, h]
  · simp [Env.cut, Env.put, e]
theorem Agree.none {vis : Vis} {env : Env} (h : Agree vis env) {s : ByteArray} (hs : vis s = none) : env s = none := by
  have := h s
  cases he : env s with
  | none => rfl
  | some p => rw [he] at this; rw [this.2] at hs; cases hs

/-- what an expression leaves is good -/
structure GoodX (lib : List Fn) (env : Env) (ty : Bool) (x : XR) : Prop where
  env : x.env = env
  name : GName x.par.name
  list : x.par.list = ty
  ts : TNamed x.ts
  bs : GoodBs lib x.bs
structure GoodY (lib : List Fn) (env : Env) (n : Nat) (y : YR) : Prop where
  env : y.env = env
  args : ∀ a ∈ y.args, GName a
  len : y.args.length = n
  ts : TNamed y.ts
  bs : GoodBs lib y.bs

theorem gname_t {i : Nat} (h : i ≤ 10000) : GName (tname i) := .inr ⟨i, h, rfl⟩
theorem good_var {lib : List Fn} {tn x : ByteArray} (b : Bool) (h1 : GName tn) (h2 : GName x) : GoodB lib (varB tn b x) := by
  rw [varB, GoodB]
  exact ⟨h1, fun a ha => by simp at ha; subst ha; exact h2, .inr (.inl ⟨rfl, rfl⟩), GoodBs.nil _, GoodBs.nil _⟩

theorem check_var {lib : List Fn} {num : Int} {name : ByteArray} {kids : List Nd} {vis : Vis} (h : (checkN lib (.mk 81 num name kids) vis).2 = 0) (hk : kids.length = 0) : ∃ b, vis name = some b ∧ (checkN lib (.mk 81 num name kids) vis).1 = b := by
  obtain rfl : kids = [] := List.eq_nil_of_length_eq_zero hk
  rw [checkN] at h ⊢
  simp only [reachE, if_true] at h ⊢
  cases hv : vis name with
  | none => rw [hv] at h; simp at h
  | some b =>
    refine ⟨b, rfl, ?_⟩
    simp [checkL]
theorem check_split {lib : List Fn} {k num : Int} {name : ByteArray} {kids : List Nd} {vis : Vis} (h81 : k ≠ 81) (h : (checkN lib (.mk k num name kids) vis).2 = 0) :
    reachE lib vis k name kids.length = 0 ∧ (checkL lib (decide (k = 84)) name kids 0 [] vis).2 = 0 ∧ (resultT lib k name (checkL lib (decide (k = 84)) name kids 0 [] vis).1).2 = 0 ∧ (checkN lib (.mk k num name kids) vis).1 = (resultT lib k name (checkL lib (decide (k = 84)) name kids 0 [] vis).1).1 := by
  rw [checkN] at h ⊢
  by_cases hr : reachE lib vis k name kids.length = 0
  · rw [if_neg (by simpa using hr)] at h ⊢
    simp only [] at h ⊢
    by_cases hc : (checkL lib (decide (k = 84)) name kids 0 [] vis).2 = 0
    · rw [if_neg (by simpa using hc), if_neg h81] at h ⊢
      exact ⟨hr, hc, h, rfl⟩
    · rw [if_pos hc] at h; exact absurd h hc
  · rw [if_pos hr] at h; exact absurd h hr
theorem result_ty {lib : List Fn} {k : Int} {name : ByteArray} {types : List Bool} (h : (resultT lib k name types).2 = 0) : types = (wantT lib k name types).1 ∧ (resultT lib k name types).1 = (wantT lib k name types).2 := by
  unfold resultT at h ⊢
  by_cases e : types = (wantT lib k name types).1
  · rw [if_pos e]; exact ⟨e, rfl⟩
  · rw [if_neg e] at h; simp at h
theorem checkL_cons {lib : List Fn} {b : Bool} {name : ByteArray} {n : Nd} {r : List Nd} {j : Nat} {types : List Bool} {vis : Vis} (h : (checkL lib b name (n :: r) j types vis).2 = 0) :
    (checkN lib n (if b ∧ j = 1 then vis.put name (types.getD 0 false) else vis)).2 = 0 ∧ (checkL lib b name r (j + 1) (types ++ [(checkN lib n (if b ∧ j = 1 then vis.put name (types.getD 0 false) else vis)).1]) vis).2 = 0 ∧ checkL lib b name (n :: r) j types vis = checkL lib b name r (j + 1) (types ++ [(checkN lib n (if b ∧ j = 1 then vis.put name (types.getD 0 false) else vis)).1]) vis := by
  rw [checkL] at h ⊢
  generalize checkN lib n (if b ∧ j = 1 then vis.put name (types.getD 0 false) else vis) = C at *
  by_cases hc : C.2 = 0
  · simp only [hc, ne_eq, not_true_eq_false, if_false] at h ⊢
    exact ⟨trivial, h, trivial⟩
  · simp only [hc, ne_eq, not_false_eq_true, if_true] at h

/- exprN, case by case -/
theorem exprN_var (lib : List Fn) (num : Int) (name : ByteArray) (kids : List Nd) (env : Env) (ts : List Par) : exprN lib (.mk 81 num name kids) env ts = ⟨ts, [], (env name).getD default, env⟩ := by
  unfold exprN; rw [if_pos rfl]
theorem exprN_let (lib : List Fn) (num : Int) (name : ByteArray) (a b : Nd) (env : Env) (ts : List Par) : exprN lib (.mk 84 num name [a, b]) env ts =
    (let x := exprN lib a env ts; let y := exprN lib b (x.env.put name x.par) x.ts; ⟨y.ts, x.bs ++ y.bs, y.par, y.env.cut name⟩) := by
  conv => lhs; unfold exprN
  rw [if_neg (by omega), if_pos rfl]
theorem exprN_if (lib : List Fn) (num : Int) (name : ByteArray) (c a b : Nd) (env : Env) (ts : List Par) : exprN lib (.mk 83 num name [c, a, b]) env ts =
    (let x := exprN lib c env ts
     let i := x.ts.length
     let y := exprN lib a x.env (x.ts ++ [⟨tname i, false⟩])
     let ts1 := setTy y.ts i y.par.list
     let z := exprN lib b y.env ts1
     let ts2 := setTy z.ts i z.par.list
     let t1 := at' ts1 i
     let t2 := at' ts2 i
     ⟨ts2, x.bs ++ [.mk t2.name t2.list 83 0 ByteArray.empty [x.par.name] (y.bs ++ [varB t1.name t1.list y.par.name]) (z.bs ++ [varB t2.name t2.list z.par.name])], t2, z.env⟩) := by
  conv => lhs; unfold exprN
  rw [if_neg (by omega), if_neg (by omega), if_pos rfl]
theorem exprN_op (lib : List Fn) {k : Int} (num : Int) (name : ByteArray) (kids : List Nd) (env : Env) (ts : List Par) (h81 : k ≠ 81) (h84 : k ≠ 84) (h83 : k ≠ 83) : exprN lib (.mk k num name kids) env ts =
    (let r := argsN lib (decide (k = 85)) kids env ts
     let list := if k = 85 then (fnAt lib (findF lib name)).list else opList k
     let t : Par := ⟨tname r.ts.length, list⟩
     ⟨r.ts ++ [t], r.bs ++ [.mk t.name t.list k (if k = 85 then 0 else num) (if k = 85 then name else ByteArray.empty) r.args [] []], t, r.env⟩) := by
  conv => lhs; unfold exprN
  rw [if_neg h81, if_neg h84, if_neg h83]

mutual
theorem expr_good (lib : List Fn) (hl : ∀ i, i < lib.length → (at' lib i).params.length ≤ 8) : ∀ (n : Nd) (vis : Vis) (env : Env) (ts : List Par), formedN n = true → (checkN lib n vis).2 = 0 → Agree vis env → TNamed ts → ts.length + 2 * sizeN n ≤ 10000 →
    GoodX lib env (checkN lib n vis).1 (exprN lib n env ts)
  | .mk k num name kids, vis, env, ts, hf, hc, hag, hts, hsz => by
    rw [formedN, Bool.and_eq_true] at hf
    obtain ⟨hf1, hf2⟩ := hf
    by_cases h81 : k = 81
    · subst h81
      have hkl : kids.length = 0 := by
        simp [formB] at hf1; simp [hf1.2]
      obtain ⟨b, hv, hty⟩ := check_var hc hkl
      have ha := hag name
      rw [exprN_var]
      cases he : env name with
      | none => rw [he] at ha; rw [hv] at ha; cases ha
      | some p =>
        rw [he] at ha
        rw [hv] at ha
        simp only [Option.some.injEq] at ha
        exact ⟨rfl, ha.1, by rw [hty, ha.2]; rfl, hts, GoodBs.nil _⟩
    · obtain ⟨hr, hcl, hres, hty⟩ := check_split h81 hc
      rw [hty]
      by_cases h84 : k = 84
      · subst h84
        have hk2 : kids.length = 2 := by simp [formB] at hf1; exact hf1.2.2
        match kids, hk2 with
        | [a, b], _ =>
          simp only [decide_true] at hcl hres ⊢
          obtain ⟨c1, c2, c3⟩ := checkL_cons hcl
          rw [c3] at hres ⊢
          obtain ⟨d1, d2, d3⟩ := checkL_cons c2
          rw [d3] at hres ⊢
          simp only [true_and, Nat.zero_ne_one, if_false, List.nil_append, Nat.zero_add, if_true, List.getD_cons_zero] at c1 d1 hres ⊢
          rw [formedL, formedL, Bool.and_eq_true, Bool.and_eq_true] at hf2
          rw [sizeN, sizeL, sizeL, sizeL] at hsz
          have hvn : vis name = none := by
            simp [reachE] at hr
            cases h : vis name with
            | none => rfl
            | some b => simp [h] at hr
          have ga := expr_good lib hl a vis env ts hf2.1 c1 hag hts (by omega)
          have lena := expr_len lib a env ts
          have hag2 : Agree (vis.put name (checkN lib a vis).1) (env.put name (exprN lib a env ts).par) := by
            rw [← ga.list]; exact hag.put name _ ga.name
          have gb := expr_good lib hl b (vis.put name (checkN lib a vis).1) (env.put name (exprN lib a env ts).par) (exprN lib a env ts).ts hf2.2.1 d1 hag2 ga.ts (by omega)
          rw [exprN_let]
          simp only [ga.env]
          refine ⟨by simp only [gb.env]; exact cut_put (hag.none hvn), gb.name, ?_, gb.ts, ga.bs.append gb.bs⟩
          rw [gb.list]
          obtain ⟨e1, e2⟩ := result_ty hres
          rw [e2]
          simp [wantT, checkL]
      · by_cases h83 : k = 83
        · subst h83
          have hk3 : kids.length = 3 := by
            rw [formB] at hf1; simp at hf1; exact hf1.2
          match kids, hk3 with
          | [c, a, b], _ =>
            simp only [show decide ((83 : Int) = 84) = false from rfl] at hcl hres ⊢
            obtain ⟨c1, c2, c3⟩ := checkL_cons hcl
            rw [c3] at hres ⊢
            obtain ⟨d1, d2, d3⟩ := checkL_cons c2
            rw [d3] at hres ⊢
            obtain ⟨e1, e2, e3⟩ := checkL_cons d2
            rw [e3] at hres ⊢
            simp only [Bool.false_eq_true, false_and, if_false, List.nil_append, Nat.zero_add, List.cons_append] at c1 d1 e1 hres ⊢
            rw [formedL, formedL, formedL, Bool.and_eq_true, Bool.and_eq_true, Bool.and_eq_true] at hf2
            rw [sizeN, sizeL, sizeL, sizeL, sizeL] at hsz
            obtain ⟨r1, r2⟩ := result_ty hres
            have gc := expr_good lib hl c vis env ts hf2.1 c1 hag hts (by omega)
            have lenc := expr_len lib c env ts
            have ga := expr_good lib hl a vis env ((exprN lib c env ts).ts ++ [⟨tname (exprN lib c env ts).ts.length, false⟩]) hf2.2.1 d1 hag (gc.ts.snoc false) (by simp only [List.length_append, List.length_singleton]; omega)
            have lena := expr_len lib a env ((exprN lib c env ts).ts ++ [⟨tname (exprN lib c env ts).ts.length, false⟩])
            simp only [List.length_append, List.length_singleton] at lena
            have gb := expr_good lib hl b vis env (setTy (exprN lib a env ((exprN lib c env ts).ts ++ [⟨tname (exprN lib c env ts).ts.length, false⟩])).ts (exprN lib c env ts).ts.length (exprN lib a env ((exprN lib c env ts).ts ++ [⟨tname (exprN lib c env ts).ts.length, false⟩])).par.list) hf2.2.2.1 e1 hag (ga.ts.set _ _) (by rw [setTy_len]; omega)
            have lenb := expr_len lib b env (setTy (exprN lib a env ((exprN lib c env ts).ts ++ [⟨tname (exprN lib c env ts).ts.length, false⟩])).ts (exprN lib c env ts).ts.length (exprN lib a env ((exprN lib c env ts).ts ++ [⟨tname (exprN lib c env ts).ts.length, false⟩])).par.list)
            rw [setTy_len] at lenb
            rw [exprN_if]
            simp only [gc.env, ga.env]
            generalize hX : exprN lib c env ts = X at *
            generalize hY : exprN lib a env (X.ts ++ [⟨tname X.ts.length, false⟩]) = Y at *
            generalize hT : setTy Y.ts X.ts.length Y.par.list = T1 at *
            generalize hZ : exprN lib b env T1 = Z at *
            have n1 : (at' T1 X.ts.length).name = tname X.ts.length := by
              have h := ga.ts.set X.ts.length Y.par.list
              rw [hT] at h
              exact h _ (by rw [← hT, setTy_len]; omega)
            have hb2 := gb.ts.set X.ts.length Z.par.list
            have n2 : (at' (setTy Z.ts X.ts.length Z.par.list) X.ts.length).name = tname X.ts.length := hb2 _ (by rw [setTy_len]; omega)
            have hlt : X.ts.length ≤ 10000 := by omega
            refine ⟨gb.env, by simp only [n2]; exact gname_t hlt, ?_, hb2, gc.bs.append (GoodBs.one ?_)⟩
            · simp only [setTy_at (show X.ts.length < Z.ts.length by omega)]
              rw [gb.list, r2]
              simp only [checkL, wantT] at r1 ⊢
              simp at r1 ⊢
              exact r1.2
            · rw [GoodB, n1, n2]
              refine ⟨gname_t hlt, fun s hs => ?_, .inr (.inr (.inr (.inl ⟨rfl, rfl⟩))), ga.bs.append (GoodBs.one (good_var _ (gname_t hlt) ga.name)), gb.bs.append (GoodBs.one (good_var _ (gname_t hlt) gb.name))⟩
              simp at hs; subst hs; exact gc.name
        · have hd : decide (k = 84) = false := by simp [h84]
          rw [hd] at hcl hres ⊢
          have gy := args_good lib hl (decide (k = 85)) name kids 0 [] vis env ts hf2 hcl hag hts (by rw [sizeN] at hsz; omega)
          have leny := args_len lib (decide (k = 85)) kids env ts
          obtain ⟨r1, r2⟩ := result_ty hres
          rw [sizeN] at hsz
          rw [exprN_op lib num name kids env ts h81 h84 h83]
          generalize hY : argsN lib (decide (k = 85)) kids env ts = Y at *
          have hlt : Y.ts.length ≤ 10000 := by omega
          refine ⟨gy.env, gname_t hlt, ?_, gy.ts.snoc _, gy.bs.append (GoodBs.one ?_)⟩
          · simp only []
            rw [r2]
            by_cases h85 : k = 85
            · simp [wantT, h85]
            · simp only [wantT, opList, if_neg h85, if_neg h84, if_neg h83]
              by_cases h82 : k = 82
              · subst h82; rfl
              · by_cases h86 : k = 86
                · subst h86; rfl
                · by_cases h87 : k = 87
                  · subst h87; rfl
                  · by_cases h88 : k = 88 ∨ k = 90
                    · rcases h88 with rfl | rfl <;> rfl
                    · by_cases h89 : k = 89
                      · subst h89; rfl
                      · simp [h82, h86, h87, h88, h89]
          · rw [GoodB]
            refine ⟨gname_t hlt, gy.args, ?_, GoodBs.nil _, GoodBs.nil _⟩
            rw [gy.len]
            by_cases h85 : k = 85
            · right; right; right; right; left
              subst h85
              rw [if_pos rfl]
              simp only [reachE] at hr
              simp only [show ((85 : Int) = 81) = False by simp, show ((85 : Int) = 84) = False by simp, if_false, if_true] at hr
              by_cases hlt0 : findF lib name < 0
              · rw [if_pos hlt0] at hr; omega
              · rw [if_neg hlt0] at hr
                by_cases hn : kids.length = (fnAt lib (findF lib name)).params.length
                · refine ⟨rfl, ?_, by omega⟩
                  rw [hn, fnAt]
                  by_cases hin : (findF lib name).toNat < lib.length
                  · exact hl _ hin
                  · rw [at', List.getD_eq_getElem?_getD, List.getElem?_eq_none (by omega)]; exact Nat.zero_le _
                · rw [if_pos hn] at hr; omega
            · rw [if_neg h85]
              rw [formB] at hf1
              simp only [if_neg h81, if_neg h84, if_neg h85, if_neg h83] at hf1
              by_cases h80 : k = 80
              · left; rw [if_pos h80] at hf1; simp at hf1; exact ⟨h80, hf1.1⟩
              · rw [if_neg h80] at hf1
                by_cases h82 : k = 82
                · right; right; left; rw [if_pos h82] at hf1; simp at hf1; exact ⟨h82, ⟨hf1.1, hf1.2.1⟩, hf1.2.2.2⟩
                · rw [if_neg h82] at hf1
                  by_cases hnn : num ≠ 0 ∨ name.size ≠ 0
                  · rw [if_pos hnn] at hf1; simp at hf1
                  · rw [if_neg hnn] at hf1
                    by_cases h86 : k = 86
                    · right; right; right; right; right; left; exact h86
                    · rw [if_neg h86] at hf1
                      by_cases h1 : k = 88 ∨ k = 89 ∨ k = 90
                      · right; right; right; right; right; right; right; rw [if_pos h1] at hf1; exact ⟨h1, by simpa using hf1⟩
                      · rw [if_neg h1] at hf1
                        by_cases h87 : k = 87
                        · right; right; right; right; right; right; left; rw [if_pos h87] at hf1; exact ⟨h87, by simpa using hf1⟩
                        · rw [if_neg h87] at hf1; simp at hf1
theorem args_good (lib : List Fn) (hl : ∀ i, i < lib.length → (at' lib i).params.length ≤ 8) (call : Bool) (name : ByteArray) : ∀ (l : List Nd) (j : Nat) (types : List Bool) (vis : Vis) (env : Env) (ts : List Par), formedL l = true → (checkL lib false name l j types vis).2 = 0 → Agree vis env → TNamed ts → ts.length + 2 * sizeL l ≤ 10000 →
    GoodY lib env l.length (argsN lib call l env ts)
  | [], j, types, vis, env, ts, hf, hc, hag, hts, hsz => by
    rw [argsN]; exact ⟨rfl, fun a ha => by simp at ha, rfl, hts, GoodBs.nil _⟩
  | n :: r, j, types, vis, env, ts, hf, hc, hag, hts, hsz => by
    rw [formedL, Bool.and_eq_true] at hf
    obtain ⟨c1, c2, _⟩ := checkL_cons hc
    simp only [Bool.false_eq_true, false_and, if_false] at c1 c2
    rw [sizeL] at hsz
    have gn := expr_good lib hl n vis env ts hf.1 c1 hag hts (by omega)
    have lenn := expr_len lib n env ts
    rw [argsN]
    simp only [gn.env]
    generalize hX : exprN lib n env ts = X at *
    have hlt : X.ts.length ≤ 10000 := by omega
    split
    · have gr := args_good lib hl call name r (j + 1) _ vis env (X.ts ++ [⟨tname X.ts.length, X.par.list⟩]) hf.2 c2 hag (gn.ts.snoc _) (by simp only [List.length_append, List.length_singleton]; omega)
      refine ⟨gr.env, fun a ha => ?_, by simp only [List.length_cons, gr.len], gr.ts, gn.bs.append ?_⟩
      · rcases List.mem_cons.1 ha with rfl | ha
        · exact gname_t hlt
        · exact gr.args a ha
      · rw [GoodBs]; exact ⟨good_var _ (gname_t hlt) gn.name, gr.bs⟩
    · have gr := args_good lib hl call name r (j + 1) _ vis env X.ts hf.2 c2 hag gn.ts (by omega)
      refine ⟨gr.env, fun a ha => ?_, by simp only [List.length_cons, gr.len], gr.ts, gn.bs.append gr.bs⟩
      rcases List.mem_cons.1 ha with rfl | ha
      · exact gn.name
      · exact gr.args a ha
end
end Go.Proofs.YtehmmokkjojggabGreatDoor
/- Parameters of valid functions: no program in sight. -/
namespace Go.Proofs.YtehmmokkjojggabGreatDoor
set_option linter.unusedVariables false

/-- parameters as variables -/
theorem agree_pars (l : List Par) (h : ∀ p ∈ l, nameB p.name = true) : Agree (parsV l) (parsEnv l) := by
  have key : ∀ (l : List Par) (v : Vis) (e : Env), (∀ p ∈ l, nameB p.name = true) → Agree v e → Agree (l.foldl (fun v p => v.put p.name p.list) v) (l.foldl (fun v p => v.put p.name p) e) := by
    intro l
    induction l with
    | nil => intro v e _ ha; exact ha
    | cons p r ih => intro v e hp ha; exact ih _ _ (fun q hq => hp q (List.mem_cons_of_mem _ hq)) (ha.put _ _ (.inl (hp p (List.mem_cons_self ..))))
  exact key l _ _ h (fun s => rfl)
theorem pars_names {l : List Par} (h : parsE l = 0) : ∀ p ∈ l, nameB p.name = true := by
  unfold parsE at h
  by_cases h8 : 8 < l.length
  · rw [if_pos h8] at h; omega
  · rw [if_neg h8] at h
    by_cases ha : (l.all fun p => nameB p.name) = true
    · intro p hp
      exact List.all_eq_true.1 ha p hp
    · rw [if_neg ha] at h; omega
end Go.Proofs.YtehmmokkjojggabGreatDoor
/- The inverse of a tree, and the sizes of the statements of binds: no program in sight. -/
namespace Go.Proofs.YtehmmokkjojggabGreatDoor
set_option linter.unusedVariables false

/-- one step of the inverse: ik are the inverses of the kids -/
def invK (k num : Int) (name : ByteArray) (kids ik : List Nd) : Nd :=
  if k = 57 then .mk 57 num name ik.reverse
  else if k = 40 then .mk 41 num name kids
  else if k = 44 then .mk 45 num name kids
  else if k = 45 then .mk 44 num name kids
  else if k = 50 then .mk 51 num name kids
  else if k = 52 then .mk 52 num name [at' kids 3, at' ik 1, at' ik 2, at' kids 0]
  else if k = 54 then .mk 54 num name [at' kids 2, at' ik 1, at' kids 0]
  else .mk k num name kids
mutual
def invN : Nd → Nd
  | .mk k num name kids => invK k num name kids (invL kids)
def invL : List Nd → List Nd
  | [] => []
  | n :: r => invN n :: invL r
end
theorem invL_map : ∀ l : List Nd, invL l = l.map invN
  | [] => by rw [invL]; rfl
  | n :: r => by rw [invL, invL_map r]; rfl
theorem invL_len (l : List Nd) : (invL l).length = l.length := by rw [invL_map, List.length_map]
theorem invL_at (l : List Nd) {j : Nat} (h : j < l.length) : at' (invL l) j = invN (at' l j) := by rw [invL_map, at_eq (by simpa using h), at_eq h]; simp

/-- the body of a procedure -/
def bodyN (g : AFn) (c : List Nd) : Nd := g.temps.foldr locN (blockN (c ++ [resultN g] ++ (invL c).reverse))

theorem norm_take' {α : Type} [Inhabited α] (l : List α) (k : Nat) (h : k < l.length) : l.take (k + 1) = l.take k ++ [at' l k] := by
  rw [List.take_add_one, List.getElem?_eq_getElem h, at_eq h]; rfl

/-- the parameters of a procedure -/
theorem sizeBs_append : ∀ l m : List Bd, sizeBs (l ++ m) = sizeBs l + sizeBs m
  | [], m => by rw [List.nil_append, sizeBs]; omega
  | b :: l, m => by rw [List.cons_append, sizeBs, sizeBs, sizeBs_append l m]; omega
theorem sizeB_var (tn x : ByteArray) (b : Bool) : sizeB (varB tn b x) = 2 := by rw [varB, sizeB, sizeBs]; rfl

mutual
theorem expr_sizeB (lib : List Fn) : ∀ (n : Nd) (env : Env) (ts : List Par), sizeBs (exprN lib n env ts).bs + 3 ≤ 6 * sizeN n
  | .mk k num name kids, env, ts => by
    unfold exprN
    rw [sizeN]
    split
    · simp only [sizeBs]; omega
    · split
      · split
        · rename_i a b
          have ha := expr_sizeB lib a env ts
          have hb := expr_sizeB lib b ((exprN lib a env ts).env.put name (exprN lib a env ts).par) (exprN lib a env ts).ts
          simp only [sizeL, sizeBs_append]
          omega
        · simp only [sizeBs]; omega
      · split
        · split
          · rename_i c a b
            have hc := expr_sizeB lib c env ts
            have ha := expr_sizeB lib a (exprN lib c env ts).env ((exprN lib c env ts).ts ++ [⟨tname (exprN lib c env ts).ts.length, false⟩])
            have hb := expr_sizeB lib b (exprN lib a (exprN lib c env ts).env ((exprN lib c env ts).ts ++ [⟨tname (exprN lib c env ts).ts.length, false⟩])).env (setTy (exprN lib a (exprN lib c env ts).env ((exprN lib c env ts).ts ++ [⟨tname (exprN lib c env ts).ts.length, false⟩])).ts (exprN lib c env ts).ts.length (exprN lib a (exprN lib c env ts).env ((exprN lib c env ts).ts ++ [⟨tname (exprN lib c env ts).ts.length, false⟩])).par.list)
            simp only [sizeL, sizeBs_append, sizeBs, sizeB, sizeB_var, List.length_singleton]
            omega
          · simp only [sizeBs]; omega
        · have h := args_sizeB lib (decide (k = 85)) kids env ts
          simp only [sizeBs_append, sizeBs, sizeB]
          omega
theorem args_sizeB (lib : List Fn) (call : Bool) : ∀ (l : List Nd) (env : Env) (ts : List Par), sizeBs (argsN lib call l env ts).bs + (argsN lib call l env ts).args.length ≤ 6 * sizeL l
  | [], env, ts => by rw [argsN]; simp [sizeBs]
  | n :: r, env, ts => by
    rw [argsN, sizeL]
    have hn := expr_sizeB lib n env ts
    split
    · have hr := args_sizeB lib call r (exprN lib n env ts).env ((exprN lib n env ts).ts ++ [⟨tname (exprN lib n env ts).ts.length, (exprN lib n env ts).par.list⟩])
      simp only [sizeBs_append, sizeBs, sizeB_var, List.length_cons]
      omega
    · have hr := args_sizeB lib call r (exprN lib n env ts).env (exprN lib n env ts).ts
      simp only [sizeBs_append, List.length_cons]
      omega
end

theorem sizeL_append : ∀ l m : List Nd, sizeL (l ++ m) = sizeL l + sizeL m
  | [], m => by rw [List.nil_append, sizeL]; omega
  | b :: l, m => by rw [List.cons_append, sizeL, sizeL, sizeL_append l m]; omega
theorem sizeL_vs : ∀ l : List ByteArray, sizeL (l.map vN) = l.length
  | [] => by rw [List.map_nil, sizeL]; rfl
  | s :: l => by rw [List.map_cons, sizeL, sizeL_vs l]; simp [vN, sizeN, sizeL]; omega
theorem size_node (k : Int) (s : ByteArray) (l : List Nd) : sizeN (nodeN k s l) = sizeL l + 1 := by rw [nodeN, sizeN]
theorem size_v (s : ByteArray) : sizeN (vN s) = 1 := by simp [vN, sizeN, sizeL]
theorem size_num (x : Int) : sizeN (numN x) = 1 := by simp [numN, sizeN, sizeL]
theorem size_call (p : ByteArray) (l : List ByteArray) : sizeN (callN p l) = l.length + 1 := by rw [callN, size_node, sizeL_vs]

mutual
theorem bindN_size (cf : CallF) (E : Nat) (hE : ∀ nm, (cf nm).2.length ≤ E) : ∀ b : Bd, sizeL (bindN cf b) ≤ (10 + E) * sizeB b
  | .mk tn list op num name args thn els => by
    have h1 := bindsN_size cf E hE thn
    have h2 := bindsN_size cf E hE els
    have h3 := hE name
    rw [bindN, sizeB]
    have hm : (10 + E) * (args.length + sizeBs thn + sizeBs els + 1) = (10 + E) * args.length + (10 + E) * sizeBs thn + (10 + E) * sizeBs els + (10 + E) := by
      rw [Nat.mul_add, Nat.mul_add, Nat.mul_add, Nat.mul_one]
    rw [hm]
    have h4 : args.length ≤ (10 + E) * args.length := Nat.le_mul_of_pos_left _ (by omega)
    repeat' split
    all_goals simp only [plusN, blockN, sizeL, size_node, size_v, size_num, size_call, List.length_append, List.length_cons, List.length_nil]
    all_goals omega
theorem bindsN_size (cf : CallF) (E : Nat) (hE : ∀ nm, (cf nm).2.length ≤ E) : ∀ l : List Bd, sizeL (bindsN cf l) ≤ (10 + E) * sizeBs l
  | [] => by rw [bindsN, sizeBs, sizeL]; omega
  | b :: r => by
    have h1 := bindN_size cf E hE b
    have h2 := bindsN_size cf E hE r
    rw [bindsN, sizeBs, sizeL_append, Nat.mul_add]
    omega
end

/-- a normalized function of a valid library -/
structure GoodF (lib : List Fn) (g : AFn) : Prop where
  name : nameB g.name = true
  params : ∀ p ∈ g.params, nameB p.name = true
  plen : g.params.length ≤ 8
  temps : TNamed g.temps
  tlen : g.temps.length ≤ 4000
  body : GoodBs lib g.body
  result : GName g.result
theorem norm_good {lib : List Fn} (h : (validE lib).2 = 0) {i : Nat} (hi : i < lib.length) : GoodF lib (normF lib (at' lib i)) ∧ sizeBs (normF lib (at' lib i)).body ≤ 6 * sizeN (at' lib i).body ∧ (normF lib (at' lib i)).temps.length ≤ 2 * sizeN (at' lib i).body := by
  have hv := valid_ok h hi
  have hp := pars_names hv.pars
  have hx := expr_good lib (fun j hj => pars_le (valid_ok h hj).pars) (at' lib i).body _ (parsEnv (at' lib i).params) [] hv.form hv.check (agree_pars _ hp) (fun j hj => by simp at hj) (by have := hv.size; simp; omega)
  have hl := expr_len lib (at' lib i).body (parsEnv (at' lib i).params) []
  have hz := expr_sizeB lib (at' lib i).body (parsEnv (at' lib i).params) []
  have hsz := hv.size
  simp only [List.length_nil] at hl
  refine ⟨⟨hv.name, hp, pars_le hv.pars, hx.ts, ?_, hx.bs, hx.name⟩, ?_, ?_⟩
  · show (exprN lib (at' lib i).body (parsEnv (at' lib i).params) []).ts.length ≤ 4000
    omega
  · show sizeBs (exprN lib (at' lib i).body (parsEnv (at' lib i).params) []).bs ≤ _
    omega
  · show (exprN lib (at' lib i).body (parsEnv (at' lib i).params) []).ts.length ≤ _
    omega
end Go.Proofs.YtehmmokkjojggabGreatDoor
/- The inverter: the state of invert's loop, exchanged, Reverse of at most one. -/
namespace Go.Proofs.YtehmmokkjojggabGreatDoor
set_option linter.unusedVariables false
open Go.RowKit

theorem exchanged_C (k k' : Int) (w : World) (h : k = 40 ∧ k' = 41 ∨ k = 44 ∧ k' = 45 ∨ k = 45 ∧ k' = 44) : Calls Tryz.prog 99 #[.int .u8 k] w fun e w' => e = .returned (.int .u8 k') ∧ w = w' := by
  rcases h with ⟨rfl, rfl⟩ | ⟨rfl, rfl⟩ | ⟨rfl, rfl⟩
  all_goals
    go_enter Tryz.func99, Tryz.ntmps99
    go_wp2
    go_ret
    exact ⟨rfl, rfl⟩

theorem reverse_one (a : Option Addr) (c : Nat) (w : World) : Calls Tryz.prog 98 #[.slice a 1 c] w fun e w' => e = .returned (.tuple #[]) ∧ w = w' := by
  go_enter Tryz.func98, Tryz.ntmps98
  go_wp2
  go_loop [2, 3] (fun i j => i = .int .i64 0 ∧ j = .int .i64 0) (fun _ _ => 0)
  case atStart => exact ⟨rfl, rfl⟩
  case round =>
    obtain ⟨rfl, rfl⟩ := hrel
    go_wp2
    go_end0
    exact ⟨rfl, rfl⟩

/-- where the data of the copies lie -/
def IV (w : World) (g5 gk b : Nat) : Prop := w.heap.size + 2 ≤ b ∧ b ≠ g5 ∧ b ≠ gk
/-- the loop of invert: k kids are done -/
structure InvSt (n : Nd) (ka : Option Addr) (kc : Nat) (w : World) (g5 gk : Nat) (rk : List Nd) (k : Nat) (cur : Array Value) (wr : World) : Prop where
  box : wr.heap[w.heap.size]? = some (.cells #[.int .u8 n.kind, .int .i64 n.num, .string n.name, .slice ka n.kids.length kc] 35 (0, 0))
  zero : wr.heap[w.heap.size + 1]? = some (.cells #[.int .u8 0, .int .i64 0, .string ⟨#[]⟩, .slice none 0 0] 35 (0, 0))
  m : wr.heap[g5]? = some (.cells #[.int .u8 n.kind, .int .i64 n.num, .string n.name, .slice (some ⟨gk, 0, none⟩) n.kids.length n.kids.length] 35 (0, 0))
  row : wr.heap[gk]? = some (.cells cur 35 (0, 0))
  size : cur.size = n.kids.length * 4
  el : ∀ j, j < k → NdC (IV w g5 gk) wr (fun i => cur.getD (j * 4 + i) undef) (at' rk j)
  ne : g5 ≠ gk
  h5 : w.heap.size + 2 ≤ g5
  hk : w.heap.size + 2 ≤ gk
  below : Below w.heap.size w wr

/-- four stores into the row -/
theorem row_set4 {w : World} {g e o : Nat} {cur : Array Value} (h : w.heap[g]? = some (.cells cur e (0, 0))) (x0 x1 x2 x3 : Value) :
    ((((w.setCell ⟨g, o, none⟩ x0).setCell ⟨g, o + 1, none⟩ x1).setCell ⟨g, o + 2, none⟩ x2).setCell ⟨g, o + 3, none⟩ x3).heap[g]? = some (.cells ((((cur.setIfInBounds o x0).setIfInBounds (o + 1) x1).setIfInBounds (o + 2) x2).setIfInBounds (o + 3) x3) e (0, 0)) :=
  heap_setCell_same _ g (o + 3) _ _ x3 (heap_setCell_same _ g (o + 2) _ _ x2 (heap_setCell_same _ g (o + 1) _ _ x1 (heap_setCell_same w g o _ _ x0 h)))
theorem keeps_row4 (w : World) (g o : Nat) (x0 x1 x2 x3 : Value) : Keeps w ((((w.setCell ⟨g, o, none⟩ x0).setCell ⟨g, o + 1, none⟩ x1).setCell ⟨g, o + 2, none⟩ x2).setCell ⟨g, o + 3, none⟩ x3) (fun b => b = g) :=
  (((keeps_set w g o x0).same (keeps_set _ g (o + 1) x1)).same (keeps_set _ g (o + 2) x2)).same (keeps_set _ g (o + 3) x3)
theorem getD_set4 {cur : Array Value} {o : Nat} (x0 x1 x2 x3 : Value) (h : o + 3 < cur.size) :
    (∀ i, i < o → ((((cur.setIfInBounds o x0).setIfInBounds (o + 1) x1).setIfInBounds (o + 2) x2).setIfInBounds (o + 3) x3).getD i undef = cur.getD i undef) ∧
    ((((cur.setIfInBounds o x0).setIfInBounds (o + 1) x1).setIfInBounds (o + 2) x2).setIfInBounds (o + 3) x3).getD (o + 0) undef = x0 ∧ ((((cur.setIfInBounds o x0).setIfInBounds (o + 1) x1).setIfInBounds (o + 2) x2).setIfInBounds (o + 3) x3).getD (o + 1) undef = x1 ∧
    ((((cur.setIfInBounds o x0).setIfInBounds (o + 1) x1).setIfInBounds (o + 2) x2).setIfInBounds (o + 3) x3).getD (o + 2) undef = x2 ∧ ((((cur.setIfInBounds o x0).setIfInBounds (o + 1) x1).setIfInBounds (o + 2) x2).setIfInBounds (o + 3) x3).getD (o + 3) undef = x3 := by
  refine ⟨fun i hi => ?_, ?_, ?_, ?_, ?_⟩
  · simp only [Array.getD_eq_getD_getElem?]
    rw [Array.getElem?_setIfInBounds_ne (by omega), Array.getElem?_setIfInBounds_ne (by omega), Array.getElem?_setIfInBounds_ne (by omega), Array.getElem?_setIfInBounds_ne (by omega)]
  · simp only [Array.getD_eq_getD_getElem?, Nat.add_zero]
    rw [Array.getElem?_setIfInBounds_ne (by omega), Array.getElem?_setIfInBounds_ne (by omega), Array.getElem?_setIfInBounds_ne (by omega), Array.getElem?_setIfInBounds_self_of_lt (by omega)]; rfl
  · simp only [Array.getD_eq_getD_getElem?]
    rw [Array.getElem?_setIfInBounds_ne (by omega), Array.getElem?_setIfInBounds_ne (by omega), Array.getElem?_setIfInBounds_self_of_lt (by simp; omega)]; rfl
  · simp only [Array.getD_eq_getD_getElem?]
    rw [Array.getElem?_setIfInBounds_ne (by omega), Array.getElem?_setIfInBounds_self_of_lt (by simp; omega)]; rfl
  · simp only [Array.getD_eq_getD_getElem?]
    rw [Array.getElem?_setIfInBounds_self_of_lt (by simp; omega)]; rfl

/-- one kid more -/
theorem InvSt.step {n : Nd} {ka : Option Addr} {kc : Nat} {w wr w1 : World} {g5 gk : Nat} {rk : List Nd} {k : Nat} {cur : Array Value} {a b c d : Value} (h : InvSt n ka kc w g5 gk rk k cur wr) (hk : k < n.kids.length) (hb : Below wr.heap.size wr w1) (hx : NdAt (Up wr.heap.size) w1 (.agg #[a, b, c, d]) (at' rk k)) :
    InvSt n ka kc w g5 gk rk (k + 1) ((((cur.setIfInBounds (k * 4) a).setIfInBounds (k * 4 + 1) b).setIfInBounds (k * 4 + 2) c).setIfInBounds (k * 4 + 3) d) ((((w1.setCell ⟨gk, k * 4, none⟩ a).setCell ⟨gk, k * 4 + 1, none⟩ b).setCell ⟨gk, k * 4 + 2, none⟩ c).setCell ⟨gk, k * 4 + 3, none⟩ d) := by
  have hK := keeps_row4 w1 gk (k * 4) a b c d
  have hb5 := h.h5
  have hbk := h.hk
  have lt : ∀ {g : Nat} {o : Obj}, wr.heap[g]? = some o → g < wr.heap.size := fun e => by rw [Array.getElem?_eq_some_iff] at e; exact e.1
  have st : ∀ {g : Nat} {o : Obj}, wr.heap[g]? = some o → g ≠ gk → ((((w1.setCell ⟨gk, k * 4, none⟩ a).setCell ⟨gk, k * 4 + 1, none⟩ b).setCell ⟨gk, k * 4 + 2, none⟩ c).setCell ⟨gk, k * 4 + 3, none⟩ d).heap[g]? = some o := fun e hne => by
    rw [hK.block _ (Nat.lt_of_lt_of_le (lt e) hb.size) hne]; exact blk_below hb e
  have l5 := lt h.m
  have lk := lt h.row
  have hgd := getD_set4 a b c d (show k * 4 + 3 < cur.size by rw [h.size]; omega)
  refine ⟨st h.box (by omega), st h.zero (by omega), st h.m h.ne, row_set4 (blk_below hb h.row) _ _ _ _, by simp only [Array.size_setIfInBounds]; exact h.size, fun j hj => ?_, h.ne, h.h5, h.hk, ?_⟩
  · by_cases hjk : j < k
    · refine ((h.el j hjk).stays ⟨Nat.le_trans hb.size hK.size, fun x hx a => ⟨?_, a⟩⟩).congr fun i hi => hgd.1 _ (by omega)
      rw [hK.block x (Nat.lt_of_lt_of_le hx hb.size) a.2.2]; exact hb.block x hx
    · obtain rfl : j = k := by omega
      obtain ⟨rfl, rfl, rfl, hkk, hok⟩ := nd_cells hx
      refine ⟨hgd.2.1, hgd.2.2.1, hgd.2.2.2.1, ?_, hok⟩
      show KidsAt _ _ (Array.getD _ (j * 4 + 3) undef) _
      rw [hgd.2.2.2.2]
      refine hkk.stays ⟨hK.size, fun x hx a => ⟨hK.block x hx (fun e => ?_), ?_⟩⟩
      · have : wr.heap.size ≤ x := a
        omega
      · have : wr.heap.size ≤ x := a
        exact ⟨by omega, by omega, by omega⟩
  · refine ((((h.below.trans (hb.mono h.below.size)).setCell (by show w.heap.size ≤ gk; omega) _).setCell (by show w.heap.size ≤ gk; omega) _).setCell (by show w.heap.size ≤ gk; omega) _).setCell (by show w.heap.size ≤ gk; omega) _
/-- the copies as a row that stays -/
theorem InvSt.kids {n : Nd} {ka : Option Addr} {kc : Nat} {w wr : World} {g5 gk : Nat} {rk : List Nd} {cur : Array Value} (h : InvSt n ka kc w g5 gk rk n.kids.length cur wr) (hl : rk.length = n.kids.length) (hm : n.kids.length ≤ 1000) : KidsAt (fun b => w.heap.size + 2 ≤ b ∧ b ≠ g5) wr (.slice (some ⟨gk, 0, none⟩) n.kids.length n.kids.length) rk := by
  rw [← hl]
  refine kids_lit h.row ⟨h.hk, h.ne.symm⟩ (by omega) (fun j hj => ?_)
  have e := (h.el j (by omega)).stays (A' := fun b => w.heap.size + 2 ≤ b ∧ b ≠ g5) ⟨Nat.le_refl _, fun b _ a => ⟨rfl, a.1, a.2.1⟩⟩
  have key : ∀ i, i < 4 → cur[j * 4 + i]? = some (cur.getD (j * 4 + i) undef) := fun i hi => by
    have : j * 4 + i < cur.size := by rw [h.size]; omega
    rw [Array.getD_eq_getD_getElem?, Array.getElem?_eq_getElem this]; rfl
  refine ⟨_, (key 0 (by omega)).trans (congrArg some e.c0), (key 1 (by omega)).trans (congrArg some e.c1), (key 2 (by omega)).trans (congrArg some e.c2), key 3 (by omega), e.c3, e.ok⟩
end Go.Proofs.YtehmmokkjojggabGreatDoor
