/- Contracts and plain lemmas (RefD): no statement of the seat is proved here. -/
import Derived.Test.YtehmmokkjojggabGreatDoorZq19
set_option linter.unusedSimpArgs false
set_option linter.unusedVariables false
set_option linter.unusedSectionVars false
/- Walks of backstepref40.one. -/
namespace Go.Proofs.YtehmmokkjojggabGreatDoor
set_option linter.unusedVariables false
open Go.RowKit
set_option maxRecDepth 100000 in
set_option maxHeartbeats 3200000 in
theorem one_num (tn nm : ByteArray) (l : Bool) (num : Int) (av ha ea tv : Option Addr) (ac hn hc en ec tk tc : Nat) (args : List ByteArray) (cf : CallF) (thn els : List Bd) (w : World) (hs : StrsAt Any w (.slice av args.length ac) args) (htn : tn.size ≤ maxLen) (hnum : In64 num) (hlen : 0 ≤ args.length) :
    Calls Tryz.prog 39 #[.agg #[.string tn, .bool l, .int .u8 80, .int .i64 num, .string nm, .slice av args.length ac, .slice ha hn hc, .slice ea en ec], .slice tv tk tc] w (StmtsPost (bindN cf (.mk tn l 80 num nm args thn els)) w) := by
  have HB : Hid (bindN cf (.mk tn l 80 num nm args thn els) = [plusN tn (numN num)]) := Lib.hid (by rw [bindN]; rfl)
  have hz0 := argN_size hs 0
  have hz1 := argN_size hs 1
  have hal := hs.form.1
  have hA : Below w.heap.size w (w.alloc (.cells #[.string tn, .bool l, .int .u8 80, .int .i64 num, .string nm, .slice av args.length ac, .slice ha hn hc, .slice ea en ec] 86)) := (Below.refl _ _).alloc (Nat.le_refl _) _
  have hn0 := at_new0 w (.cells #[.string tn, .bool l, .int .u8 80, .int .i64 num, .string nm, .slice av args.length ac, .slice ha hn hc, .slice ea en ec] 86)
  have HN := Lib.hid hn0
  have HS0 : Hid (∀ w1, Below (w.alloc (.cells #[.string tn, .bool l, .int .u8 80, .int .i64 num, .string nm, .slice av args.length ac, .slice ha hn hc, .slice ea en ec] 86)).heap.size (w.alloc (.cells #[.string tn, .bool l, .int .u8 80, .int .i64 num, .string nm, .slice av args.length ac, .slice ha hn hc, .slice ea en ec] 86)) w1 → (fun w1 => w1.cell? ⟨w.heap.size, 0, none⟩ = some (.string tn) ∧ w1.cell? ⟨w.heap.size, 1, none⟩ = some (.bool l) ∧ w1.cell? ⟨w.heap.size, 2, none⟩ = some (.int .u8 80) ∧ w1.cell? ⟨w.heap.size, 3, none⟩ = some (.int .i64 num) ∧ w1.cell? ⟨w.heap.size, 4, none⟩ = some (.string nm) ∧ w1.cell? ⟨w.heap.size, 5, none⟩ = some (.slice av args.length ac) ∧ w1.cell? ⟨w.heap.size, 6, none⟩ = some (.slice ha hn hc) ∧ w1.cell? ⟨w.heap.size, 7, none⟩ = some (.slice ea en ec)) w1) := Lib.hid (fun w1 hb => by
    obtain ⟨k0, k1, k2, k3, k4, k5, k6, k7⟩ := cellsB (blk_below hb hn0)
    exact ⟨k0, k1, k2, k3, k4, k5, k6, k7⟩)
  have HS := Lib.hid hs
  clear hs hn0
  go_enter Tryz.func39, Tryz.ntmps39
  go_wp2
  generalize (w.alloc (.cells #[.string tn, .bool l, .int .u8 80, .int .i64 num, .string nm, .slice av args.length ac, .slice ha hn hc, .slice ea en ec] 86)) = W at *
  go_region_held3 (fun w1 => w1.cell? ⟨w.heap.size, 0, none⟩ = some (.string tn) ∧ w1.cell? ⟨w.heap.size, 1, none⟩ = some (.bool l) ∧ w1.cell? ⟨w.heap.size, 2, none⟩ = some (.int .u8 80) ∧ w1.cell? ⟨w.heap.size, 3, none⟩ = some (.int .i64 num) ∧ w1.cell? ⟨w.heap.size, 4, none⟩ = some (.string nm) ∧ w1.cell? ⟨w.heap.size, 5, none⟩ = some (.slice av args.length ac) ∧ w1.cell? ⟨w.heap.size, 6, none⟩ = some (.slice ha hn hc) ∧ w1.cell? ⟨w.heap.size, 7, none⟩ = some (.slice ea en ec))
    (with_reducible exact HS0.out _ (by (repeat (with_reducible first | exact Below.refl _ _ | refine bel_drew ?_ | refine bel_alloc ?_ | (apply bel_step; focus assumption)))))
    (first
    | (go_at_call 44; refine (refNum_C _ _).mono ?_; rintro e w5 ⟨rfl, hb5⟩)
    | (go_at_call 84; refine (refPlus_U w.heap.size tn _ (numN num) _ (up_ge (by (repeat (with_reducible first | exact hA | exact Below.refl _ _ | refine bel_drew ?_ | refine bel_alloc ?_ | (apply bel_step; focus assumption)))) (Nat.le_refl _)) (nd_num hnum) htn).mono ?_; rintro e w8 ⟨a8, c8, rfl, hk8, hb8⟩))
  all_goals
    go_wp2
    go_ret
    refine ⟨_, _, _, rfl, ?_, (by (repeat (with_reducible first | exact hA | exact Below.refl _ _ | refine bel_drew ?_ | refine bel_alloc ?_ | (apply bel_step; focus assumption))))⟩
    rw [HB.out]
    exact kidsU1 (by (repeat (with_reducible first | (refine nb_new ?_ ?_; rotate_left; (focus (simp; done)); (focus ((repeat (with_reducible first | exact hA | exact Below.refl _ _ | refine bel_drew ?_ | refine bel_alloc ?_ | (apply bel_step; focus assumption))); done))) | refine nb_drew ?_ | refine nb_alloc ?_ | (apply nb_below; focus assumption)))) (hk8.stays (stays_up (by (repeat (with_reducible first | exact hA | exact Below.refl _ _ | refine bel_drew ?_ | refine bel_alloc ?_ | (apply bel_step; focus assumption))))))

set_option maxRecDepth 100000 in
set_option maxHeartbeats 3200000 in
theorem one_nil (tn nm : ByteArray) (l : Bool) (num : Int) (av ha ea tv : Option Addr) (ac hn hc en ec tk tc : Nat) (args : List ByteArray) (cf : CallF) (thn els : List Bd) (w : World) (hs : StrsAt Any w (.slice av args.length ac) args) (htn : tn.size ≤ maxLen) (hnum : In64 num) (hlen : 0 ≤ args.length) :
    Calls Tryz.prog 39 #[.agg #[.string tn, .bool l, .int .u8 86, .int .i64 num, .string nm, .slice av args.length ac, .slice ha hn hc, .slice ea en ec], .slice tv tk tc] w (StmtsPost (bindN cf (.mk tn l 86 num nm args thn els)) w) := by
  have HB : Hid (bindN cf (.mk tn l 86 num nm args thn els) = []) := Lib.hid (by rw [bindN]; rfl)
  have hz0 := argN_size hs 0
  have hz1 := argN_size hs 1
  have hal := hs.form.1
  have hA : Below w.heap.size w (w.alloc (.cells #[.string tn, .bool l, .int .u8 86, .int .i64 num, .string nm, .slice av args.length ac, .slice ha hn hc, .slice ea en ec] 86)) := (Below.refl _ _).alloc (Nat.le_refl _) _
  have hn0 := at_new0 w (.cells #[.string tn, .bool l, .int .u8 86, .int .i64 num, .string nm, .slice av args.length ac, .slice ha hn hc, .slice ea en ec] 86)
  have HN := Lib.hid hn0
  have HS0 : Hid (∀ w1, Below (w.alloc (.cells #[.string tn, .bool l, .int .u8 86, .int .i64 num, .string nm, .slice av args.length ac, .slice ha hn hc, .slice ea en ec] 86)).heap.size (w.alloc (.cells #[.string tn, .bool l, .int .u8 86, .int .i64 num, .string nm, .slice av args.length ac, .slice ha hn hc, .slice ea en ec] 86)) w1 → (fun w1 => w1.cell? ⟨w.heap.size, 0, none⟩ = some (.string tn) ∧ w1.cell? ⟨w.heap.size, 1, none⟩ = some (.bool l) ∧ w1.cell? ⟨w.heap.size, 2, none⟩ = some (.int .u8 86) ∧ w1.cell? ⟨w.heap.size, 3, none⟩ = some (.int .i64 num) ∧ w1.cell? ⟨w.heap.size, 4, none⟩ = some (.string nm) ∧ w1.cell? ⟨w.heap.size, 5, none⟩ = some (.slice av args.length ac) ∧ w1.cell? ⟨w.heap.size, 6, none⟩ = some (.slice ha hn hc) ∧ w1.cell? ⟨w.heap.size, 7, none⟩ = some (.slice ea en ec)) w1) := Lib.hid (fun w1 hb => by
    obtain ⟨k0, k1, k2, k3, k4, k5, k6, k7⟩ := cellsB (blk_below hb hn0)
    exact ⟨k0, k1, k2, k3, k4, k5, k6, k7⟩)
  have HS := Lib.hid hs
  clear hs hn0
  go_enter Tryz.func39, Tryz.ntmps39
  go_wp2
  generalize (w.alloc (.cells #[.string tn, .bool l, .int .u8 86, .int .i64 num, .string nm, .slice av args.length ac, .slice ha hn hc, .slice ea en ec] 86)) = W at *
  go_ret
  refine ⟨_, _, _, rfl, ?_, (by (repeat (with_reducible first | exact hA | exact Below.refl _ _ | refine bel_drew ?_ | refine bel_alloc ?_ | (apply bel_step; focus assumption))))⟩
  rw [HB.out]
  exact KidsAt.nil _

set_option maxRecDepth 100000 in
set_option maxHeartbeats 3200000 in
theorem one_var (tn nm : ByteArray) (num : Int) (av ha ea tv : Option Addr) (ac hn hc en ec tk tc : Nat) (args : List ByteArray) (cf : CallF) (thn els : List Bd) (w : World) (hs : StrsAt Any w (.slice av args.length ac) args) (htn : tn.size ≤ maxLen) (hnum : In64 num) (hlen : 1 ≤ args.length) :
    Calls Tryz.prog 39 #[.agg #[.string tn, .bool false, .int .u8 81, .int .i64 num, .string nm, .slice av args.length ac, .slice ha hn hc, .slice ea en ec], .slice tv tk tc] w (StmtsPost (bindN cf (.mk tn false 81 num nm args thn els)) w) := by
  have HB : Hid (bindN cf (.mk tn false 81 num nm args thn els) = [plusN tn (vN (argN args 0))]) := Lib.hid (by rw [bindN]; rfl)
  have hz0 := argN_size hs 0
  have hz1 := argN_size hs 1
  have hal := hs.form.1
  obtain ⟨ab, ao, rfl, hcap, hcs⟩ := strs_open hs (by omega)
  have i0 : 0 < args.length := by omega
  have i0' : (0 : Int) < (args.length : Int) := by omega
  have hA : Below w.heap.size w (w.alloc (.cells #[.string tn, .bool false, .int .u8 81, .int .i64 num, .string nm, .slice (some ⟨ab, ao, none⟩) args.length ac, .slice ha hn hc, .slice ea en ec] 86)) := (Below.refl _ _).alloc (Nat.le_refl _) _
  have hn0 := at_new0 w (.cells #[.string tn, .bool false, .int .u8 81, .int .i64 num, .string nm, .slice (some ⟨ab, ao, none⟩) args.length ac, .slice ha hn hc, .slice ea en ec] 86)
  have HN := Lib.hid hn0
  have HS0 : Hid (∀ w1, Below (w.alloc (.cells #[.string tn, .bool false, .int .u8 81, .int .i64 num, .string nm, .slice (some ⟨ab, ao, none⟩) args.length ac, .slice ha hn hc, .slice ea en ec] 86)).heap.size (w.alloc (.cells #[.string tn, .bool false, .int .u8 81, .int .i64 num, .string nm, .slice (some ⟨ab, ao, none⟩) args.length ac, .slice ha hn hc, .slice ea en ec] 86)) w1 → (fun w1 => w1.cell? ⟨w.heap.size, 0, none⟩ = some (.string tn) ∧ w1.cell? ⟨w.heap.size, 1, none⟩ = some (.bool false) ∧ w1.cell? ⟨w.heap.size, 2, none⟩ = some (.int .u8 81) ∧ w1.cell? ⟨w.heap.size, 3, none⟩ = some (.int .i64 num) ∧ w1.cell? ⟨w.heap.size, 4, none⟩ = some (.string nm) ∧ w1.cell? ⟨w.heap.size, 5, none⟩ = some (.slice (some ⟨ab, ao, none⟩) args.length ac) ∧ w1.cell? ⟨w.heap.size, 6, none⟩ = some (.slice ha hn hc) ∧ w1.cell? ⟨w.heap.size, 7, none⟩ = some (.slice ea en ec) ∧ w1.cell? ⟨ab, ao, none⟩ = some (.string (argN args 0))) w1) := Lib.hid (fun w1 hb => by
    obtain ⟨k0, k1, k2, k3, k4, k5, k6, k7⟩ := cellsB (blk_below hb hn0)
    have hw1 : Below w.heap.size w w1 := hA.trans (hb.mono hA.size)
    exact ⟨k0, k1, k2, k3, k4, k5, k6, k7, (hcs w1 hw1).1⟩)
  have HS := Lib.hid hs
  clear hs hn0 hcs
  go_enter Tryz.func39, Tryz.ntmps39
  go_wp2
  generalize (w.alloc (.cells #[.string tn, .bool false, .int .u8 81, .int .i64 num, .string nm, .slice (some ⟨ab, ao, none⟩) args.length ac, .slice ha hn hc, .slice ea en ec] 86)) = W at *
  obtain ⟨x0, x1, x2, x3, x4, x5, x6, x7, x8⟩ := HS0.out _ (Below.refl _ _)
  go_region_held3 (fun w1 => w1.cell? ⟨w.heap.size, 0, none⟩ = some (.string tn) ∧ w1.cell? ⟨w.heap.size, 1, none⟩ = some (.bool false) ∧ w1.cell? ⟨w.heap.size, 2, none⟩ = some (.int .u8 81) ∧ w1.cell? ⟨w.heap.size, 3, none⟩ = some (.int .i64 num) ∧ w1.cell? ⟨w.heap.size, 4, none⟩ = some (.string nm) ∧ w1.cell? ⟨w.heap.size, 5, none⟩ = some (.slice (some ⟨ab, ao, none⟩) args.length ac) ∧ w1.cell? ⟨w.heap.size, 6, none⟩ = some (.slice ha hn hc) ∧ w1.cell? ⟨w.heap.size, 7, none⟩ = some (.slice ea en ec) ∧ w1.cell? ⟨ab, ao, none⟩ = some (.string (argN args 0)))
    (with_reducible exact HS0.out _ (by (repeat (with_reducible first | exact Below.refl _ _ | refine bel_drew ?_ | refine bel_alloc ?_ | (apply bel_step; focus assumption)))))
    (first
    | (go_at_call 42; refine (refV_U w.heap.size _ _ (up_ge (by (repeat (with_reducible first | exact hA | exact Below.refl _ _ | refine bel_drew ?_ | refine bel_alloc ?_ | (apply bel_step; focus assumption)))) (Nat.le_refl _)) (by assumption)).mono ?_; rintro e w3 ⟨a3, c3, rfl, hk3, hb3⟩)
    | (go_at_call 84; refine (refPlus_U w.heap.size tn _ (vN (argN args 0)) _ (up_ge (by (repeat (with_reducible first | exact hA | exact Below.refl _ _ | refine bel_drew ?_ | refine bel_alloc ?_ | (apply bel_step; focus assumption)))) (Nat.le_refl _)) (hk3.stays (stays_up (by (repeat (with_reducible first | exact hA | exact Below.refl _ _ | refine bel_drew ?_ | refine bel_alloc ?_ | (apply bel_step; focus assumption)))))) htn).mono ?_; rintro e w8 ⟨a8, c8, rfl, hk8, hb8⟩))
  all_goals
    go_wp2
    go_ret
    refine ⟨_, _, _, rfl, ?_, (by (repeat (with_reducible first | exact hA | exact Below.refl _ _ | refine bel_drew ?_ | refine bel_alloc ?_ | (apply bel_step; focus assumption))))⟩
    rw [HB.out]
    exact kidsU1 (by (repeat (with_reducible first | (refine nb_new ?_ ?_; rotate_left; (focus (simp; done)); (focus ((repeat (with_reducible first | exact hA | exact Below.refl _ _ | refine bel_drew ?_ | refine bel_alloc ?_ | (apply bel_step; focus assumption))); done))) | refine nb_drew ?_ | refine nb_alloc ?_ | (apply nb_below; focus assumption)))) (hk8.stays (stays_up (by (repeat (with_reducible first | exact hA | exact Below.refl _ _ | refine bel_drew ?_ | refine bel_alloc ?_ | (apply bel_step; focus assumption))))))

set_option maxRecDepth 100000 in
set_option maxHeartbeats 3200000 in
theorem one_varl (tn nm : ByteArray) (num : Int) (av ha ea tv : Option Addr) (ac hn hc en ec tk tc : Nat) (args : List ByteArray) (cf : CallF) (thn els : List Bd) (w : World) (hs : StrsAt Any w (.slice av args.length ac) args) (htn : tn.size ≤ maxLen) (hnum : In64 num) (hlen : 1 ≤ args.length) :
    Calls Tryz.prog 39 #[.agg #[.string tn, .bool true, .int .u8 81, .int .i64 num, .string nm, .slice av args.length ac, .slice ha hn hc, .slice ea en ec], .slice tv tk tc] w (StmtsPost (bindN cf (.mk tn true 81 num nm args thn els)) w) := by
  have HB : Hid (bindN cf (.mk tn true 81 num nm args thn els) = [callN ⟨#[108, 99, 111, 112, 121]⟩ [argN args 0, tn]]) := Lib.hid (by rw [bindN]; rfl)
  have hz0 := argN_size hs 0
  have hz1 := argN_size hs 1
  have hal := hs.form.1
  obtain ⟨ab, ao, rfl, hcap, hcs⟩ := strs_open hs (by omega)
  have i0 : 0 < args.length := by omega
  have i0' : (0 : Int) < (args.length : Int) := by omega
  have hA : Below w.heap.size w (w.alloc (.cells #[.string tn, .bool true, .int .u8 81, .int .i64 num, .string nm, .slice (some ⟨ab, ao, none⟩) args.length ac, .slice ha hn hc, .slice ea en ec] 86)) := (Below.refl _ _).alloc (Nat.le_refl _) _
  have hn0 := at_new0 w (.cells #[.string tn, .bool true, .int .u8 81, .int .i64 num, .string nm, .slice (some ⟨ab, ao, none⟩) args.length ac, .slice ha hn hc, .slice ea en ec] 86)
  have HN := Lib.hid hn0
  have HS0 : Hid (∀ w1, Below (w.alloc (.cells #[.string tn, .bool true, .int .u8 81, .int .i64 num, .string nm, .slice (some ⟨ab, ao, none⟩) args.length ac, .slice ha hn hc, .slice ea en ec] 86)).heap.size (w.alloc (.cells #[.string tn, .bool true, .int .u8 81, .int .i64 num, .string nm, .slice (some ⟨ab, ao, none⟩) args.length ac, .slice ha hn hc, .slice ea en ec] 86)) w1 → (fun w1 => w1.cell? ⟨w.heap.size, 0, none⟩ = some (.string tn) ∧ w1.cell? ⟨w.heap.size, 1, none⟩ = some (.bool true) ∧ w1.cell? ⟨w.heap.size, 2, none⟩ = some (.int .u8 81) ∧ w1.cell? ⟨w.heap.size, 3, none⟩ = some (.int .i64 num) ∧ w1.cell? ⟨w.heap.size, 4, none⟩ = some (.string nm) ∧ w1.cell? ⟨w.heap.size, 5, none⟩ = some (.slice (some ⟨ab, ao, none⟩) args.length ac) ∧ w1.cell? ⟨w.heap.size, 6, none⟩ = some (.slice ha hn hc) ∧ w1.cell? ⟨w.heap.size, 7, none⟩ = some (.slice ea en ec) ∧ w1.cell? ⟨ab, ao, none⟩ = some (.string (argN args 0))) w1) := Lib.hid (fun w1 hb => by
    obtain ⟨k0, k1, k2, k3, k4, k5, k6, k7⟩ := cellsB (blk_below hb hn0)
    have hw1 : Below w.heap.size w w1 := hA.trans (hb.mono hA.size)
    exact ⟨k0, k1, k2, k3, k4, k5, k6, k7, (hcs w1 hw1).1⟩)
  have HS := Lib.hid hs
  clear hs hn0 hcs
  go_enter Tryz.func39, Tryz.ntmps39
  go_wp2
  generalize (w.alloc (.cells #[.string tn, .bool true, .int .u8 81, .int .i64 num, .string nm, .slice (some ⟨ab, ao, none⟩) args.length ac, .slice ha hn hc, .slice ea en ec] 86)) = W at *
  go_region_held3 (fun w1 => w1.cell? ⟨w.heap.size, 0, none⟩ = some (.string tn) ∧ w1.cell? ⟨w.heap.size, 1, none⟩ = some (.bool true) ∧ w1.cell? ⟨w.heap.size, 2, none⟩ = some (.int .u8 81) ∧ w1.cell? ⟨w.heap.size, 3, none⟩ = some (.int .i64 num) ∧ w1.cell? ⟨w.heap.size, 4, none⟩ = some (.string nm) ∧ w1.cell? ⟨w.heap.size, 5, none⟩ = some (.slice (some ⟨ab, ao, none⟩) args.length ac) ∧ w1.cell? ⟨w.heap.size, 6, none⟩ = some (.slice ha hn hc) ∧ w1.cell? ⟨w.heap.size, 7, none⟩ = some (.slice ea en ec) ∧ w1.cell? ⟨ab, ao, none⟩ = some (.string (argN args 0)))
    (with_reducible exact HS0.out _ (by (repeat (with_reducible first | exact Below.refl _ _ | refine bel_drew ?_ | refine bel_alloc ?_ | (apply bel_step; focus assumption)))))
    (first
    | (go_at_call 40; refine (refCall_U (A := Up w.heap.size) w.heap.size ⟨#[108, 99, 111, 112, 121]⟩ _ _ _ [argN args 0, tn] _ (up_ge (by (repeat (with_reducible first | exact hA | exact Below.refl _ _ | refine bel_drew ?_ | refine bel_alloc ?_ | (apply bel_step; focus assumption)))) (Nat.le_refl _)) (strsU2 (by (repeat (with_reducible first | (refine nb_new ?_ ?_; rotate_left; (focus (simp; done)); (focus ((repeat (with_reducible first | exact hA | exact Below.refl _ _ | refine bel_drew ?_ | refine bel_alloc ?_ | (apply bel_step; focus assumption))); done))) | refine nb_drew ?_ | refine nb_alloc ?_ | (apply nb_below; focus assumption)))) (by assumption) htn) (by unfold maxLen; decide) (by simp)).mono ?_; rintro e w9 ⟨a9, n9, c9, rfl, hk9, hb9⟩))
  all_goals
    go_wp2
    go_ret
    refine ⟨_, _, _, rfl, ?_, (by (repeat (with_reducible first | exact hA | exact Below.refl _ _ | refine bel_drew ?_ | refine bel_alloc ?_ | (apply bel_step; focus assumption))))⟩
    rw [HB.out]
    exact kidsU1 (by (repeat (with_reducible first | (refine nb_new ?_ ?_; rotate_left; (focus (simp; done)); (focus ((repeat (with_reducible first | exact hA | exact Below.refl _ _ | refine bel_drew ?_ | refine bel_alloc ?_ | (apply bel_step; focus assumption))); done))) | refine nb_drew ?_ | refine nb_alloc ?_ | (apply nb_below; focus assumption)))) (hk9.stays (stays_up (by (repeat (with_reducible first | exact hA | exact Below.refl _ _ | refine bel_drew ?_ | refine bel_alloc ?_ | (apply bel_step; focus assumption))))))

set_option maxRecDepth 100000 in
set_option maxHeartbeats 3200000 in
theorem one_head (tn nm : ByteArray) (l : Bool) (num : Int) (av ha ea tv : Option Addr) (ac hn hc en ec tk tc : Nat) (args : List ByteArray) (cf : CallF) (thn els : List Bd) (w : World) (hs : StrsAt Any w (.slice av args.length ac) args) (htn : tn.size ≤ maxLen) (hnum : In64 num) (hlen : 1 ≤ args.length) :
    Calls Tryz.prog 39 #[.agg #[.string tn, .bool l, .int .u8 88, .int .i64 num, .string nm, .slice av args.length ac, .slice ha hn hc, .slice ea en ec], .slice tv tk tc] w (StmtsPost (bindN cf (.mk tn l 88 num nm args thn els)) w) := by
  have HB : Hid (bindN cf (.mk tn l 88 num nm args thn els) = [plusN tn (nodeN 4 (argN args 0) [])]) := Lib.hid (by rw [bindN]; rfl)
  have hz0 := argN_size hs 0
  have hz1 := argN_size hs 1
  have hal := hs.form.1
  obtain ⟨ab, ao, rfl, hcap, hcs⟩ := strs_open hs (by omega)
  have i0 : 0 < args.length := by omega
  have i0' : (0 : Int) < (args.length : Int) := by omega
  have hA : Below w.heap.size w (w.alloc (.cells #[.string tn, .bool l, .int .u8 88, .int .i64 num, .string nm, .slice (some ⟨ab, ao, none⟩) args.length ac, .slice ha hn hc, .slice ea en ec] 86)) := (Below.refl _ _).alloc (Nat.le_refl _) _
  have hn0 := at_new0 w (.cells #[.string tn, .bool l, .int .u8 88, .int .i64 num, .string nm, .slice (some ⟨ab, ao, none⟩) args.length ac, .slice ha hn hc, .slice ea en ec] 86)
  have HN := Lib.hid hn0
  have HS0 : Hid (∀ w1, Below (w.alloc (.cells #[.string tn, .bool l, .int .u8 88, .int .i64 num, .string nm, .slice (some ⟨ab, ao, none⟩) args.length ac, .slice ha hn hc, .slice ea en ec] 86)).heap.size (w.alloc (.cells #[.string tn, .bool l, .int .u8 88, .int .i64 num, .string nm, .slice (some ⟨ab, ao, none⟩) args.length ac, .slice ha hn hc, .slice ea en ec] 86)) w1 → (fun w1 => w1.cell? ⟨w.heap.size, 0, none⟩ = some (.string tn) ∧ w1.cell? ⟨w.heap.size, 1, none⟩ = some (.bool l) ∧ w1.cell? ⟨w.heap.size, 2, none⟩ = some (.int .u8 88) ∧ w1.cell? ⟨w.heap.size, 3, none⟩ = some (.int .i64 num) ∧ w1.cell? ⟨w.heap.size, 4, none⟩ = some (.string nm) ∧ w1.cell? ⟨w.heap.size, 5, none⟩ = some (.slice (some ⟨ab, ao, none⟩) args.length ac) ∧ w1.cell? ⟨w.heap.size, 6, none⟩ = some (.slice ha hn hc) ∧ w1.cell? ⟨w.heap.size, 7, none⟩ = some (.slice ea en ec) ∧ w1.cell? ⟨ab, ao, none⟩ = some (.string (argN args 0))) w1) := Lib.hid (fun w1 hb => by
    obtain ⟨k0, k1, k2, k3, k4, k5, k6, k7⟩ := cellsB (blk_below hb hn0)
    have hw1 : Below w.heap.size w w1 := hA.trans (hb.mono hA.size)
    exact ⟨k0, k1, k2, k3, k4, k5, k6, k7, (hcs w1 hw1).1⟩)
  have HS := Lib.hid hs
  clear hs hn0 hcs
  go_enter Tryz.func39, Tryz.ntmps39
  go_wp2
  generalize (w.alloc (.cells #[.string tn, .bool l, .int .u8 88, .int .i64 num, .string nm, .slice (some ⟨ab, ao, none⟩) args.length ac, .slice ha hn hc, .slice ea en ec] 86)) = W at *
  go_region_held3 (fun w1 => w1.cell? ⟨w.heap.size, 0, none⟩ = some (.string tn) ∧ w1.cell? ⟨w.heap.size, 1, none⟩ = some (.bool l) ∧ w1.cell? ⟨w.heap.size, 2, none⟩ = some (.int .u8 88) ∧ w1.cell? ⟨w.heap.size, 3, none⟩ = some (.int .i64 num) ∧ w1.cell? ⟨w.heap.size, 4, none⟩ = some (.string nm) ∧ w1.cell? ⟨w.heap.size, 5, none⟩ = some (.slice (some ⟨ab, ao, none⟩) args.length ac) ∧ w1.cell? ⟨w.heap.size, 6, none⟩ = some (.slice ha hn hc) ∧ w1.cell? ⟨w.heap.size, 7, none⟩ = some (.slice ea en ec) ∧ w1.cell? ⟨ab, ao, none⟩ = some (.string (argN args 0)))
    (with_reducible exact HS0.out _ (by (repeat (with_reducible first | exact Below.refl _ _ | refine bel_drew ?_ | refine bel_alloc ?_ | (apply bel_step; focus assumption)))))
    (first
    | (go_at_call 41; (with_reducible refine (refNode_nil _ _ _).mono ?_); rintro e w6 ⟨rfl, hb6⟩)
    | (go_at_call 84; refine (refPlus_U w.heap.size tn _ (nodeN 4 (argN args 0) []) _ (up_ge (by (repeat (with_reducible first | exact hA | exact Below.refl _ _ | refine bel_drew ?_ | refine bel_alloc ?_ | (apply bel_step; focus assumption)))) (Nat.le_refl _)) (nd_node (KidsAt.nil _) (by omega) hz0) htn).mono ?_; rintro e w8 ⟨a8, c8, rfl, hk8, hb8⟩))
  all_goals
    go_wp2
    go_ret
    refine ⟨_, _, _, rfl, ?_, (by (repeat (with_reducible first | exact hA | exact Below.refl _ _ | refine bel_drew ?_ | refine bel_alloc ?_ | (apply bel_step; focus assumption))))⟩
    rw [HB.out]
    exact kidsU1 (by (repeat (with_reducible first | (refine nb_new ?_ ?_; rotate_left; (focus (simp; done)); (focus ((repeat (with_reducible first | exact hA | exact Below.refl _ _ | refine bel_drew ?_ | refine bel_alloc ?_ | (apply bel_step; focus assumption))); done))) | refine nb_drew ?_ | refine nb_alloc ?_ | (apply nb_below; focus assumption)))) (hk8.stays (stays_up (by (repeat (with_reducible first | exact hA | exact Below.refl _ _ | refine bel_drew ?_ | refine bel_alloc ?_ | (apply bel_step; focus assumption))))))

set_option maxRecDepth 100000 in
set_option maxHeartbeats 3200000 in
theorem one_null (tn nm : ByteArray) (l : Bool) (num : Int) (av ha ea tv : Option Addr) (ac hn hc en ec tk tc : Nat) (args : List ByteArray) (cf : CallF) (thn els : List Bd) (w : World) (hs : StrsAt Any w (.slice av args.length ac) args) (htn : tn.size ≤ maxLen) (hnum : In64 num) (hlen : 1 ≤ args.length) :
    Calls Tryz.prog 39 #[.agg #[.string tn, .bool l, .int .u8 90, .int .i64 num, .string nm, .slice av args.length ac, .slice ha hn hc, .slice ea en ec], .slice tv tk tc] w (StmtsPost (bindN cf (.mk tn l 90 num nm args thn els)) w) := by
  have HB : Hid (bindN cf (.mk tn l 90 num nm args thn els) = [plusN tn (nodeN 16 ⟨#[]⟩ [nodeN 5 (argN args 0) [], numN 0])]) := Lib.hid (by rw [bindN]; rfl)
  have hz0 := argN_size hs 0
  have hz1 := argN_size hs 1
  have hal := hs.form.1
  obtain ⟨ab, ao, rfl, hcap, hcs⟩ := strs_open hs (by omega)
  have i0 : 0 < args.length := by omega
  have i0' : (0 : Int) < (args.length : Int) := by omega
  have hA : Below w.heap.size w (w.alloc (.cells #[.string tn, .bool l, .int .u8 90, .int .i64 num, .string nm, .slice (some ⟨ab, ao, none⟩) args.length ac, .slice ha hn hc, .slice ea en ec] 86)) := (Below.refl _ _).alloc (Nat.le_refl _) _
  have hn0 := at_new0 w (.cells #[.string tn, .bool l, .int .u8 90, .int .i64 num, .string nm, .slice (some ⟨ab, ao, none⟩) args.length ac, .slice ha hn hc, .slice ea en ec] 86)
  have HN := Lib.hid hn0
  have HS0 : Hid (∀ w1, Below (w.alloc (.cells #[.string tn, .bool l, .int .u8 90, .int .i64 num, .string nm, .slice (some ⟨ab, ao, none⟩) args.length ac, .slice ha hn hc, .slice ea en ec] 86)).heap.size (w.alloc (.cells #[.string tn, .bool l, .int .u8 90, .int .i64 num, .string nm, .slice (some ⟨ab, ao, none⟩) args.length ac, .slice ha hn hc, .slice ea en ec] 86)) w1 → (fun w1 => w1.cell? ⟨w.heap.size, 0, none⟩ = some (.string tn) ∧ w1.cell? ⟨w.heap.size, 1, none⟩ = some (.bool l) ∧ w1.cell? ⟨w.heap.size, 2, none⟩ = some (.int .u8 90) ∧ w1.cell? ⟨w.heap.size, 3, none⟩ = some (.int .i64 num) ∧ w1.cell? ⟨w.heap.size, 4, none⟩ = some (.string nm) ∧ w1.cell? ⟨w.heap.size, 5, none⟩ = some (.slice (some ⟨ab, ao, none⟩) args.length ac) ∧ w1.cell? ⟨w.heap.size, 6, none⟩ = some (.slice ha hn hc) ∧ w1.cell? ⟨w.heap.size, 7, none⟩ = some (.slice ea en ec) ∧ w1.cell? ⟨ab, ao, none⟩ = some (.string (argN args 0))) w1) := Lib.hid (fun w1 hb => by
    obtain ⟨k0, k1, k2, k3, k4, k5, k6, k7⟩ := cellsB (blk_below hb hn0)
    have hw1 : Below w.heap.size w w1 := hA.trans (hb.mono hA.size)
    exact ⟨k0, k1, k2, k3, k4, k5, k6, k7, (hcs w1 hw1).1⟩)
  have HS := Lib.hid hs
  clear hs hn0 hcs
  go_enter Tryz.func39, Tryz.ntmps39
  go_wp2
  generalize (w.alloc (.cells #[.string tn, .bool l, .int .u8 90, .int .i64 num, .string nm, .slice (some ⟨ab, ao, none⟩) args.length ac, .slice ha hn hc, .slice ea en ec] 86)) = W at *
  go_region_held3 (fun w1 => w1.cell? ⟨w.heap.size, 0, none⟩ = some (.string tn) ∧ w1.cell? ⟨w.heap.size, 1, none⟩ = some (.bool l) ∧ w1.cell? ⟨w.heap.size, 2, none⟩ = some (.int .u8 90) ∧ w1.cell? ⟨w.heap.size, 3, none⟩ = some (.int .i64 num) ∧ w1.cell? ⟨w.heap.size, 4, none⟩ = some (.string nm) ∧ w1.cell? ⟨w.heap.size, 5, none⟩ = some (.slice (some ⟨ab, ao, none⟩) args.length ac) ∧ w1.cell? ⟨w.heap.size, 6, none⟩ = some (.slice ha hn hc) ∧ w1.cell? ⟨w.heap.size, 7, none⟩ = some (.slice ea en ec) ∧ w1.cell? ⟨ab, ao, none⟩ = some (.string (argN args 0)))
    (with_reducible exact HS0.out _ (by (repeat (with_reducible first | exact Below.refl _ _ | refine bel_drew ?_ | refine bel_alloc ?_ | (apply bel_step; focus assumption)))))
    (first
    | (go_at_call 41; (with_reducible refine (refNode_nil _ _ _).mono ?_); rintro e w6 ⟨rfl, hb6⟩)
    | (go_at_call 44; refine (refNum_C _ _).mono ?_; rintro e w5 ⟨rfl, hb5⟩)
    | (go_at_call 41; refine (refNode_U w.heap.size _ _ _ _ _ [nodeN 5 (argN args 0) [], numN 0] _ (up_ge (by (repeat (with_reducible first | exact hA | exact Below.refl _ _ | refine bel_drew ?_ | refine bel_alloc ?_ | (apply bel_step; focus assumption)))) (Nat.le_refl _)) (kidsU2 (by (repeat (with_reducible first | (refine nb_new ?_ ?_; rotate_left; (focus (simp; done)); (focus ((repeat (with_reducible first | exact hA | exact Below.refl _ _ | refine bel_drew ?_ | refine bel_alloc ?_ | (apply bel_step; focus assumption))); done))) | refine nb_drew ?_ | refine nb_alloc ?_ | (apply nb_below; focus assumption)))) (nd_node (KidsAt.nil _) (by omega) hz0) (nd_num (by unfold In64; omega))) (by simp) (by omega) (Nat.zero_le _)).mono ?_; rintro e w7 ⟨a7, n7, c7, rfl, hk7, hb7⟩)
    | (go_at_call 84; refine (refPlus_U w.heap.size tn _ (nodeN 16 ⟨#[]⟩ [nodeN 5 (argN args 0) [], numN 0]) _ (up_ge (by (repeat (with_reducible first | exact hA | exact Below.refl _ _ | refine bel_drew ?_ | refine bel_alloc ?_ | (apply bel_step; focus assumption)))) (Nat.le_refl _)) (hk7.stays (stays_up (by (repeat (with_reducible first | exact hA | exact Below.refl _ _ | refine bel_drew ?_ | refine bel_alloc ?_ | (apply bel_step; focus assumption)))))) htn).mono ?_; rintro e w8 ⟨a8, c8, rfl, hk8, hb8⟩))
  all_goals
    go_wp2
    go_ret
    refine ⟨_, _, _, rfl, ?_, (by (repeat (with_reducible first | exact hA | exact Below.refl _ _ | refine bel_drew ?_ | refine bel_alloc ?_ | (apply bel_step; focus assumption))))⟩
    rw [HB.out]
    exact kidsU1 (by (repeat (with_reducible first | (refine nb_new ?_ ?_; rotate_left; (focus (simp; done)); (focus ((repeat (with_reducible first | exact hA | exact Below.refl _ _ | refine bel_drew ?_ | refine bel_alloc ?_ | (apply bel_step; focus assumption))); done))) | refine nb_drew ?_ | refine nb_alloc ?_ | (apply nb_below; focus assumption)))) (hk8.stays (stays_up (by (repeat (with_reducible first | exact hA | exact Below.refl _ _ | refine bel_drew ?_ | refine bel_alloc ?_ | (apply bel_step; focus assumption))))))
end Go.Proofs.YtehmmokkjojggabGreatDoor
