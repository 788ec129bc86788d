/- Contracts and plain lemmas (RefF): no statement of the seat is proved here. -/
import Derived.Test.YtehmmokkjojggabGreatDoorZq19
set_option linter.unusedSimpArgs false
set_option linter.unusedVariables false
set_option linter.unusedSectionVars false
/- Walks of backstepref40.one. -/
namespace Go.Proofs.YtehmmokkjojggabGreatDoor
set_option linter.unusedVariables false
open Go.RowKit
set_option maxRecDepth 100000 in
set_option maxHeartbeats 3200000 in
theorem one_cons (tn nm : ByteArray) (l : Bool) (num : Int) (av ha ea tv : Option Addr) (ac hn hc en ec tk tc : Nat) (args : List ByteArray) (cf : CallF) (thn els : List Bd) (w : World) (hs : StrsAt Any w (.slice av args.length ac) args) (htn : tn.size ≤ maxLen) (hnum : In64 num) (hlen : 2 ≤ args.length) :
    Calls Tryz.prog 39 #[.agg #[.string tn, .bool l, .int .u8 87, .int .i64 num, .string nm, .slice av args.length ac, .slice ha hn hc, .slice ea en ec], .slice tv tk tc] w (StmtsPost (bindN cf (.mk tn l 87 num nm args thn els)) w) := by
  have HB : Hid (bindN cf (.mk tn l 87 num nm args thn els) = [callN ⟨#[108, 99, 111, 112, 121]⟩ [argN args 1, tn], nodeN 54 ⟨#[104, 48]⟩ [vN (argN args 0), blockN [nodeN 44 tn [vN ⟨#[104, 48]⟩]], numN 0]]) := Lib.hid (by rw [bindN]; rfl)
  have hz0 := argN_size hs 0
  have hz1 := argN_size hs 1
  have hal := hs.form.1
  obtain ⟨ab, ao, rfl, hcap, hcs⟩ := strs_open hs (by omega)
  have i0 : 0 < args.length := by omega
  have i0' : (0 : Int) < (args.length : Int) := by omega
  have i1 : 1 < args.length := by omega
  have i1' : (1 : Int) < (args.length : Int) := by omega
  have hA : Below w.heap.size w (w.alloc (.cells #[.string tn, .bool l, .int .u8 87, .int .i64 num, .string nm, .slice (some ⟨ab, ao, none⟩) args.length ac, .slice ha hn hc, .slice ea en ec] 86)) := (Below.refl _ _).alloc (Nat.le_refl _) _
  have hn0 := at_new0 w (.cells #[.string tn, .bool l, .int .u8 87, .int .i64 num, .string nm, .slice (some ⟨ab, ao, none⟩) args.length ac, .slice ha hn hc, .slice ea en ec] 86)
  have HN := Lib.hid hn0
  have HS0 : Hid (∀ w1, Below (w.alloc (.cells #[.string tn, .bool l, .int .u8 87, .int .i64 num, .string nm, .slice (some ⟨ab, ao, none⟩) args.length ac, .slice ha hn hc, .slice ea en ec] 86)).heap.size (w.alloc (.cells #[.string tn, .bool l, .int .u8 87, .int .i64 num, .string nm, .slice (some ⟨ab, ao, none⟩) args.length ac, .slice ha hn hc, .slice ea en ec] 86)) w1 → (fun w1 => w1.cell? ⟨w.heap.size, 0, none⟩ = some (.string tn) ∧ w1.cell? ⟨w.heap.size, 1, none⟩ = some (.bool l) ∧ w1.cell? ⟨w.heap.size, 2, none⟩ = some (.int .u8 87) ∧ w1.cell? ⟨w.heap.size, 3, none⟩ = some (.int .i64 num) ∧ w1.cell? ⟨w.heap.size, 4, none⟩ = some (.string nm) ∧ w1.cell? ⟨w.heap.size, 5, none⟩ = some (.slice (some ⟨ab, ao, none⟩) args.length ac) ∧ w1.cell? ⟨w.heap.size, 6, none⟩ = some (.slice ha hn hc) ∧ w1.cell? ⟨w.heap.size, 7, none⟩ = some (.slice ea en ec) ∧ w1.cell? ⟨ab, ao, none⟩ = some (.string (argN args 0)) ∧ w1.cell? ⟨ab, ao + 1, none⟩ = some (.string (argN args 1))) w1) := Lib.hid (fun w1 hb => by
    obtain ⟨k0, k1, k2, k3, k4, k5, k6, k7⟩ := cellsB (blk_below hb hn0)
    have hw1 : Below w.heap.size w w1 := hA.trans (hb.mono hA.size)
    exact ⟨k0, k1, k2, k3, k4, k5, k6, k7, (hcs w1 hw1).1, (hcs w1 hw1).2 (by omega)⟩)
  have HS := Lib.hid hs
  have hcs := Lib.hid hcs
  clear hs hn0
  have hh0 : (⟨#[104, 48]⟩ : ByteArray).size ≤ maxLen := by unfold maxLen; decide
  have hWS : Hid (w.heap.size < (w.alloc (.cells #[.string tn, .bool l, .int .u8 87, .int .i64 num, .string nm, .slice (some ⟨ab, ao, none⟩) args.length ac, .slice ha hn hc, .slice ea en ec] 86)).heap.size) := Lib.hid (by simp)
  go_enter Tryz.func39, Tryz.ntmps39
  go_wp2
  generalize (w.alloc (.cells #[.string tn, .bool l, .int .u8 87, .int .i64 num, .string nm, .slice (some ⟨ab, ao, none⟩) args.length ac, .slice ha hn hc, .slice ea en ec] 86)) = W at *
  have hW1 : w.heap.size < W.heap.size := hWS.out
  go_cut [8] (fun s8 wx => CutQ w (.cells #[.string tn, .bool l, .int .u8 87, .int .i64 num, .string nm, .slice (some ⟨ab, ao, none⟩) args.length ac, .slice ha hn hc, .slice ea en ec] 86) (nodeN 44 tn [vN ⟨#[104, 48]⟩]) s8 wx)
  case first =>
    go_region_held3 (fun w1 => w1.cell? ⟨w.heap.size, 0, none⟩ = some (.string tn) ∧ w1.cell? ⟨w.heap.size, 1, none⟩ = some (.bool l) ∧ w1.cell? ⟨w.heap.size, 2, none⟩ = some (.int .u8 87) ∧ w1.cell? ⟨w.heap.size, 3, none⟩ = some (.int .i64 num) ∧ w1.cell? ⟨w.heap.size, 4, none⟩ = some (.string nm) ∧ w1.cell? ⟨w.heap.size, 5, none⟩ = some (.slice (some ⟨ab, ao, none⟩) args.length ac) ∧ w1.cell? ⟨w.heap.size, 6, none⟩ = some (.slice ha hn hc) ∧ w1.cell? ⟨w.heap.size, 7, none⟩ = some (.slice ea en ec) ∧ w1.cell? ⟨ab, ao, none⟩ = some (.string (argN args 0)) ∧ w1.cell? ⟨ab, ao + 1, none⟩ = some (.string (argN args 1)))
      (with_reducible exact HS0.out _ (by (repeat (with_reducible first | exact Below.refl _ _ | refine bel_drew ?_ | refine bel_alloc ?_ | (refine bel_sets4 ?_ ?_; rotate_left; (focus (first | exact Nat.le_refl _ | exact Below.size (by (repeat (with_reducible first | exact Below.refl _ _ | refine bel_drew ?_ | refine bel_alloc ?_ | (apply bel_step; focus assumption)))) | exact Nat.le_succ_of_le (Below.size (by (repeat (with_reducible first | exact Below.refl _ _ | refine bel_drew ?_ | refine bel_alloc ?_ | (apply bel_step; focus assumption)))))))) | (apply bel_step; focus assumption)))))
      (first
      | (go_at_call 42; refine (refV_U w.heap.size _ _ (up_ge (by (repeat (with_reducible first | exact hA | exact Below.refl _ _ | refine bel_drew ?_ | refine bel_alloc ?_ | (apply bel_step; focus assumption)))) (Nat.le_refl _)) (by assumption)).mono ?_; rintro e w3 ⟨a3, c3, rfl, hk3, hb3⟩)
      | (go_at_call 41; (with_reducible refine (refNode_U w.heap.size 44 tn _ _ _ [vN ⟨#[104, 48]⟩] _ (up_ge (by (repeat (with_reducible first | exact hA | exact Below.refl _ _ | refine bel_drew ?_ | refine bel_alloc ?_ | (apply bel_step; focus assumption)))) (Nat.le_refl _)) (kidsU1 (by (repeat (with_reducible first | (refine nb_new ?_ ?_; rotate_left; (focus (simp; done)); (focus ((repeat (with_reducible first | exact hA | exact Below.refl _ _ | refine bel_drew ?_ | refine bel_alloc ?_ | (apply bel_step; focus assumption))); done))) | refine nb_drew ?_ | refine nb_alloc ?_ | (apply nb_below; focus assumption)))) (hk3.stays (stays_up (by (repeat (with_reducible first | exact hA | exact Below.refl _ _ | refine bel_drew ?_ | refine bel_alloc ?_ | (apply bel_step; focus assumption))))))) (by simp) (by omega) htn).mono ?_); rintro e w5 ⟨a5, n5, c5, rfl, hk5, hb5⟩)
      | (go_at_call 41; refine (refNode_U w.heap.size 57 ⟨#[]⟩ _ _ _ [nodeN 44 tn [vN ⟨#[104, 48]⟩]] _ (up_ge (by (repeat (with_reducible first | exact hA | exact Below.refl _ _ | refine bel_drew ?_ | refine bel_alloc ?_ | (apply bel_step; focus assumption)))) (Nat.le_refl _)) (kidsU1 (by (repeat (with_reducible first | (refine nb_new ?_ ?_; rotate_left; (focus (simp; done)); (focus ((repeat (with_reducible first | exact hA | exact Below.refl _ _ | refine bel_drew ?_ | refine bel_alloc ?_ | (apply bel_step; focus assumption))); done))) | refine nb_drew ?_ | refine nb_alloc ?_ | (apply nb_below; focus assumption)))) (hk5.stays (stays_up (by (repeat (with_reducible first | exact hA | exact Below.refl _ _ | refine bel_drew ?_ | refine bel_alloc ?_ | (apply bel_step; focus assumption))))))) (by simp) (by omega) (Nat.zero_le _)).mono ?_; rintro e w7 ⟨a7, n7, c7, rfl, hk7, hb7⟩; (first | (refine blk_use w7 W.heap.size ?_ (fun g0 g1 g2 g3 gf => ?_); focus ((repeat (with_reducible first | exact HN.out | (refine blk_new ?_; (simp; done)) | refine blk_drew ?_ | refine blk_alloc ?_ | (apply blk_below; focus assumption))); done)) | skip); (first | (refine blk_use w7 w3.heap.size ?_ (fun g0 g1 g2 g3 gf => ?_); focus ((repeat (with_reducible first | exact HN.out | (refine blk_new ?_; (simp; done)) | refine blk_drew ?_ | refine blk_alloc ?_ | (apply blk_below; focus assumption))); done)) | skip); (first | (refine blk_use w7 (w3.heap.size + 1) ?_ (fun g0 g1 g2 g3 gf => ?_); focus ((repeat (with_reducible first | exact HN.out | (refine blk_new ?_; (simp; done)) | refine blk_drew ?_ | refine blk_alloc ?_ | (apply blk_below; focus assumption))); done)) | skip); (first | (refine blk_use w7 w5.heap.size ?_ (fun g0 g1 g2 g3 gf => ?_); focus ((repeat (with_reducible first | exact HN.out | (refine blk_new ?_; (simp; done)) | refine blk_drew ?_ | refine blk_alloc ?_ | (apply blk_below; focus assumption))); done)) | skip); (first | (refine blk_use w7 (w5.heap.size + 1) ?_ (fun g0 g1 g2 g3 gf => ?_); focus ((repeat (with_reducible first | exact HN.out | (refine blk_new ?_; (simp; done)) | refine blk_drew ?_ | refine blk_alloc ?_ | (apply blk_below; focus assumption))); done)) | skip)))
    all_goals
      have hz3 := hb3.size
      have hz5 := hb5.size
      have hz7 := hb7.size
      simp only [World.size_alloc, World.size_drew] at hz3 hz5 hz7
      go_wp2
      go_meet
      first
      | ((with_reducible refine cutQ_new ?_ (nd_kids hk7) ?_ ?_ ?_ ?_ ?_); (focus ((repeat (with_reducible first | (refine nb_new ?_ ?_; rotate_left; (focus (simp; done)); (focus ((repeat (with_reducible first | exact hA | exact Below.refl _ _ | refine bel_drew ?_ | refine bel_alloc ?_ | (apply bel_step; focus assumption))); done))) | refine nb_drew ?_ | refine nb_alloc ?_ | (apply nb_below; focus assumption))); done)); (focus ((repeat (with_reducible first | exact Below.refl _ _ | refine bel_drew ?_ | refine bel_alloc ?_ | (apply bel_step; focus assumption))); done)); (focus omega); (focus omega); (focus ((repeat (with_reducible first | exact HN.out | (refine blk_new ?_; (simp; done)) | refine blk_drew ?_ | refine blk_alloc ?_ | (apply blk_below; focus assumption))); done)); (focus ((repeat (with_reducible first | exact hA | exact Below.refl _ _ | refine bel_drew ?_ | refine bel_alloc ?_ | (apply bel_step; focus assumption))); done)))
      | ((with_reducible refine cutQ_set ?_ (nd_kids hk7) ?_ rfl ?_ ?_ ?_); (focus ((repeat (with_reducible first | (refine nb_new ?_ ?_; rotate_left; (focus (simp; done)); (focus ((repeat (with_reducible first | exact hA | exact Below.refl _ _ | refine bel_drew ?_ | refine bel_alloc ?_ | (apply bel_step; focus assumption))); done))) | refine nb_drew ?_ | refine nb_alloc ?_ | (apply nb_below; focus assumption))); done)); (focus ((repeat (with_reducible first | exact Below.refl _ _ | refine bel_drew ?_ | refine bel_alloc ?_ | (apply bel_step; focus assumption))); done)); (focus omega); (focus ((repeat (with_reducible first | exact HN.out | (refine blk_new ?_; (simp; done)) | refine blk_drew ?_ | refine blk_alloc ?_ | (apply blk_below; focus assumption))); done)); (focus ((repeat (with_reducible first | exact hA | exact Below.refl _ _ | refine bel_drew ?_ | refine bel_alloc ?_ | (apply bel_step; focus assumption))); done)))
  case rest =>
    obtain ⟨g, ga, gn, gc, rfl, hG, hgw, hGK, hBX, hBel⟩ := hcut
    have HG := Lib.hid hG
    have HGK := Lib.hid hGK
    have HBX := Lib.hid hBX
    have HC2 : Hid (∀ w1, Below wc.heap.size wc w1 → (fun w1 => w1.cell? ⟨w.heap.size, 0, none⟩ = some (.string tn) ∧ w1.cell? ⟨w.heap.size, 5, none⟩ = some (.slice (some ⟨ab, ao, none⟩) args.length ac) ∧ w1.cell? ⟨ab, ao, none⟩ = some (.string (argN args 0)) ∧ w1.cell? ⟨ab, ao + 1, none⟩ = some (.string (argN args 1)) ∧ w1.cell? ⟨g, 0, none⟩ = some (.int .u8 57) ∧ w1.cell? ⟨g, 1, none⟩ = some (.int .i64 0) ∧ w1.cell? ⟨g, 2, none⟩ = some (.string ⟨#[]⟩) ∧ w1.cell? ⟨g, 3, none⟩ = some (.slice ga gn gc)) w1) := Lib.hid (fun w1 hb => by
      have hw1 : Below w.heap.size w w1 := hBel.trans (hb.mono hBel.size)
      obtain ⟨k0, k1, k2, k3, k4, k5, k6, k7⟩ := cellsB (blk_below hb hBX)
      obtain ⟨q0, q1, q2, q3⟩ := cells4 (blk_below hb hG)
      exact ⟨k0, k5, (hcs.out w1 hw1).1, (hcs.out w1 hw1).2 (by omega), q0, q1, q2, q3⟩)
    have hGN : Hid (∀ w1, Below wc.heap.size wc w1 → NdAt (Up w.heap.size) w1 (.agg #[.int .u8 57, .int .i64 0, .string ⟨#[]⟩, .slice ga gn gc]) (blockN [nodeN 44 tn [vN ⟨#[104, 48]⟩]])) := Lib.hid (fun w1 hb => nd_node (k := 57) ((hGK.stays (Stays.of_below hb)).stays ⟨Nat.le_refl _, fun b _ a => ⟨rfl, a.1⟩⟩) (by omega) (Nat.zero_le _))
    clear hG hGK hBX HS0 HN hA hWS hW1
    go_wp2
    go_region_held3 (fun w1 => w1.cell? ⟨w.heap.size, 0, none⟩ = some (.string tn) ∧ w1.cell? ⟨w.heap.size, 5, none⟩ = some (.slice (some ⟨ab, ao, none⟩) args.length ac) ∧ w1.cell? ⟨ab, ao, none⟩ = some (.string (argN args 0)) ∧ w1.cell? ⟨ab, ao + 1, none⟩ = some (.string (argN args 1)) ∧ w1.cell? ⟨g, 0, none⟩ = some (.int .u8 57) ∧ w1.cell? ⟨g, 1, none⟩ = some (.int .i64 0) ∧ w1.cell? ⟨g, 2, none⟩ = some (.string ⟨#[]⟩) ∧ w1.cell? ⟨g, 3, none⟩ = some (.slice ga gn gc))
      (with_reducible exact HC2.out _ (by (repeat (with_reducible first | exact Below.refl _ _ | refine bel_drew ?_ | refine bel_alloc ?_ | (apply bel_step; focus assumption)))))
      (first
      | (go_at_call 40; refine (refCall_U (A := Up w.heap.size) w.heap.size ⟨#[108, 99, 111, 112, 121]⟩ _ _ _ [argN args 1, tn] _ (up_ge (by (repeat (with_reducible first | exact hBel | exact Below.refl _ _ | refine bel_drew ?_ | refine bel_alloc ?_ | (apply bel_step; focus assumption)))) (Nat.le_refl _)) (strsU2 (by (repeat (with_reducible first | (refine nb_new ?_ ?_; rotate_left; (focus (simp; done)); (focus ((repeat (with_reducible first | exact hBel | exact Below.refl _ _ | refine bel_drew ?_ | refine bel_alloc ?_ | (apply bel_step; focus assumption))); done))) | refine nb_drew ?_ | refine nb_alloc ?_ | (apply nb_below; focus assumption)))) (by assumption) htn) (by unfold maxLen; decide) (by simp)).mono ?_; rintro e w9 ⟨a9, n9, c9, rfl, hk9, hb9⟩)
      | (go_at_call 42; refine (refV_U w.heap.size _ _ (up_ge (by (repeat (with_reducible first | exact hBel | exact Below.refl _ _ | refine bel_drew ?_ | refine bel_alloc ?_ | (apply bel_step; focus assumption)))) (Nat.le_refl _)) (by assumption)).mono ?_; rintro e w10 ⟨a10, c10, rfl, hk10, hb10⟩)
      | (go_at_call 44; refine (refNum_C _ _).mono ?_; rintro e w11 ⟨rfl, hb11⟩)
      | (go_at_call 41; refine (refNode_U w.heap.size 54 ⟨#[104, 48]⟩ _ _ _ [vN (argN args 0), blockN [nodeN 44 tn [vN ⟨#[104, 48]⟩]], numN 0] _ (up_ge (by (repeat (with_reducible first | exact hBel | exact Below.refl _ _ | refine bel_drew ?_ | refine bel_alloc ?_ | (apply bel_step; focus assumption)))) (Nat.le_refl _)) (kidsU3 (by (repeat (with_reducible first | (refine nb_new ?_ ?_; rotate_left; (focus (simp; done)); (focus ((repeat (with_reducible first | exact hBel | exact Below.refl _ _ | refine bel_drew ?_ | refine bel_alloc ?_ | (apply bel_step; focus assumption))); done))) | refine nb_drew ?_ | refine nb_alloc ?_ | (apply nb_below; focus assumption)))) (hk10.stays (stays_up (by (repeat (with_reducible first | exact hBel | exact Below.refl _ _ | refine bel_drew ?_ | refine bel_alloc ?_ | (apply bel_step; focus assumption)))))) (hGN.out _ (by (repeat (with_reducible first | exact Below.refl _ _ | refine bel_drew ?_ | refine bel_alloc ?_ | (apply bel_step; focus assumption))))) (nd_num (by unfold In64; omega))) (by simp) (by omega) hh0).mono ?_; rintro e w12 ⟨a12, n12, c12, rfl, hk12, hb12⟩)
)
    all_goals
      go_wp2
      go_ret
      refine ⟨_, _, _, rfl, ?_, (by (repeat (with_reducible first | exact hBel | exact Below.refl _ _ | refine bel_drew ?_ | refine bel_alloc ?_ | (apply bel_step; focus assumption))))⟩
      rw [HB.out]
      exact kidsU2 (by (repeat (with_reducible first | (refine nb_new ?_ ?_; rotate_left; (focus (simp; done)); (focus ((repeat (with_reducible first | exact hBel | exact Below.refl _ _ | refine bel_drew ?_ | refine bel_alloc ?_ | (apply bel_step; focus assumption))); done))) | refine nb_drew ?_ | refine nb_alloc ?_ | (apply nb_below; focus assumption)))) (hk9.stays (stays_up (by (repeat (with_reducible first | exact hBel | exact Below.refl _ _ | refine bel_drew ?_ | refine bel_alloc ?_ | (apply bel_step; focus assumption)))))) (hk12.stays (stays_up (by (repeat (with_reducible first | exact hBel | exact Below.refl _ _ | refine bel_drew ?_ | refine bel_alloc ?_ | (apply bel_step; focus assumption))))))
end Go.Proofs.YtehmmokkjojggabGreatDoor
