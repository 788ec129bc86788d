/- Contracts and plain lemmas (RefE, RefG, RefH): no statement of the seat is proved here. -/
import Derived.Test.YtehmmokkjojggabGreatDoorZq19
import Derived.Test.YtehmmokkjojggabGreatDoorZq07
set_option linter.unusedSimpArgs false
set_option linter.unusedVariables false
set_option linter.unusedSectionVars false
/- Walks of backstepref40.one. -/
namespace Go.Proofs.YtehmmokkjojggabGreatDoor
set_option linter.unusedVariables false
open Go.RowKit
set_option maxRecDepth 100000 in
set_option maxHeartbeats 3200000 in
theorem one_op (tn nm : ByteArray) (l : Bool) (num : Int) (av ha ea tv : Option Addr) (ac hn hc en ec tk tc : Nat) (args : List ByteArray) (cf : CallF) (thn els : List Bd) (w : World) (hs : StrsAt Any w (.slice av args.length ac) args) (htn : tn.size ≤ maxLen) (hnum : In64 num) (hlen : 2 ≤ args.length) :
    Calls Tryz.prog 39 #[.agg #[.string tn, .bool l, .int .u8 82, .int .i64 num, .string nm, .slice av args.length ac, .slice ha hn hc, .slice ea en ec], .slice tv tk tc] w (StmtsPost (bindN cf (.mk tn l 82 num nm args thn els)) w) := by
  have HB : Hid (bindN cf (.mk tn l 82 num nm args thn els) = [plusN tn (nodeN (num % 256) ⟨#[]⟩ [vN (argN args 0), vN (argN args 1)])]) := Lib.hid (by rw [bindN]; rfl)
  have hz0 := argN_size hs 0
  have hz1 := argN_size hs 1
  have hal := hs.form.1
  obtain ⟨ab, ao, rfl, hcap, hcs⟩ := strs_open hs (by omega)
  have i0 : 0 < args.length := by omega
  have i0' : (0 : Int) < (args.length : Int) := by omega
  have i1 : 1 < args.length := by omega
  have i1' : (1 : Int) < (args.length : Int) := by omega
  have hA : Below w.heap.size w (w.alloc (.cells #[.string tn, .bool l, .int .u8 82, .int .i64 num, .string nm, .slice (some ⟨ab, ao, none⟩) args.length ac, .slice ha hn hc, .slice ea en ec] 86)) := (Below.refl _ _).alloc (Nat.le_refl _) _
  have hn0 := at_new0 w (.cells #[.string tn, .bool l, .int .u8 82, .int .i64 num, .string nm, .slice (some ⟨ab, ao, none⟩) args.length ac, .slice ha hn hc, .slice ea en ec] 86)
  have HN := Lib.hid hn0
  have HS0 : Hid (∀ w1, Below (w.alloc (.cells #[.string tn, .bool l, .int .u8 82, .int .i64 num, .string nm, .slice (some ⟨ab, ao, none⟩) args.length ac, .slice ha hn hc, .slice ea en ec] 86)).heap.size (w.alloc (.cells #[.string tn, .bool l, .int .u8 82, .int .i64 num, .string nm, .slice (some ⟨ab, ao, none⟩) args.length ac, .slice ha hn hc, .slice ea en ec] 86)) w1 → (fun w1 => w1.cell? ⟨w.heap.size, 0, none⟩ = some (.string tn) ∧ w1.cell? ⟨w.heap.size, 1, none⟩ = some (.bool l) ∧ w1.cell? ⟨w.heap.size, 2, none⟩ = some (.int .u8 82) ∧ w1.cell? ⟨w.heap.size, 3, none⟩ = some (.int .i64 num) ∧ w1.cell? ⟨w.heap.size, 4, none⟩ = some (.string nm) ∧ w1.cell? ⟨w.heap.size, 5, none⟩ = some (.slice (some ⟨ab, ao, none⟩) args.length ac) ∧ w1.cell? ⟨w.heap.size, 6, none⟩ = some (.slice ha hn hc) ∧ w1.cell? ⟨w.heap.size, 7, none⟩ = some (.slice ea en ec) ∧ w1.cell? ⟨ab, ao, none⟩ = some (.string (argN args 0)) ∧ w1.cell? ⟨ab, ao + 1, none⟩ = some (.string (argN args 1))) w1) := Lib.hid (fun w1 hb => by
    obtain ⟨k0, k1, k2, k3, k4, k5, k6, k7⟩ := cellsB (blk_below hb hn0)
    have hw1 : Below w.heap.size w w1 := hA.trans (hb.mono hA.size)
    exact ⟨k0, k1, k2, k3, k4, k5, k6, k7, (hcs w1 hw1).1, (hcs w1 hw1).2 (by omega)⟩)
  have HS := Lib.hid hs
  clear hs hn0 hcs
  have HW : Hid (IntKind.u8.wrap num = num % 256) := Lib.hid (by simp [IntKind.wrap, IntKind.bits, IntKind.signed])
  go_enter Tryz.func39, Tryz.ntmps39
  go_wp2
  generalize (w.alloc (.cells #[.string tn, .bool l, .int .u8 82, .int .i64 num, .string nm, .slice (some ⟨ab, ao, none⟩) args.length ac, .slice ha hn hc, .slice ea en ec] 86)) = W at *
  go_region_held3 (fun w1 => w1.cell? ⟨w.heap.size, 0, none⟩ = some (.string tn) ∧ w1.cell? ⟨w.heap.size, 1, none⟩ = some (.bool l) ∧ w1.cell? ⟨w.heap.size, 2, none⟩ = some (.int .u8 82) ∧ w1.cell? ⟨w.heap.size, 3, none⟩ = some (.int .i64 num) ∧ w1.cell? ⟨w.heap.size, 4, none⟩ = some (.string nm) ∧ w1.cell? ⟨w.heap.size, 5, none⟩ = some (.slice (some ⟨ab, ao, none⟩) args.length ac) ∧ w1.cell? ⟨w.heap.size, 6, none⟩ = some (.slice ha hn hc) ∧ w1.cell? ⟨w.heap.size, 7, none⟩ = some (.slice ea en ec) ∧ w1.cell? ⟨ab, ao, none⟩ = some (.string (argN args 0)) ∧ w1.cell? ⟨ab, ao + 1, none⟩ = some (.string (argN args 1)))
    (with_reducible exact HS0.out _ (by (repeat (with_reducible first | exact Below.refl _ _ | refine bel_drew ?_ | refine bel_alloc ?_ | (apply bel_step; focus assumption)))))
    (first
    | (go_at_call 42; have hq3 := hk3; refine (refV_U w.heap.size _ _ (up_ge (by (repeat (with_reducible first | exact hA | exact Below.refl _ _ | refine bel_drew ?_ | refine bel_alloc ?_ | (apply bel_step; focus assumption)))) (Nat.le_refl _)) (by assumption)).mono ?_; rintro e w4 ⟨a4, c4, rfl, hk4, hb4⟩)
    | (go_at_call 42; refine (refV_U w.heap.size _ _ (up_ge (by (repeat (with_reducible first | exact hA | exact Below.refl _ _ | refine bel_drew ?_ | refine bel_alloc ?_ | (apply bel_step; focus assumption)))) (Nat.le_refl _)) (by assumption)).mono ?_; rintro e w3 ⟨a3, c3, rfl, hk3, hb3⟩)
    | (go_at_call 41; refine (refNode_U w.heap.size _ _ _ _ _ [vN (argN args 0), vN (argN args 1)] _ (up_ge (by (repeat (with_reducible first | exact hA | exact Below.refl _ _ | refine bel_drew ?_ | refine bel_alloc ?_ | (apply bel_step; focus assumption)))) (Nat.le_refl _)) (kidsU2 (by (repeat (with_reducible first | (refine nb_new ?_ ?_; rotate_left; (focus (simp; done)); (focus ((repeat (with_reducible first | exact hA | exact Below.refl _ _ | refine bel_drew ?_ | refine bel_alloc ?_ | (apply bel_step; focus assumption))); done))) | refine nb_drew ?_ | refine nb_alloc ?_ | (apply nb_below; focus assumption)))) (hk3.stays (stays_up (by (repeat (with_reducible first | exact hA | exact Below.refl _ _ | refine bel_drew ?_ | refine bel_alloc ?_ | (apply bel_step; focus assumption)))))) (hk4.stays (stays_up (by (repeat (with_reducible first | exact hA | exact Below.refl _ _ | refine bel_drew ?_ | refine bel_alloc ?_ | (apply bel_step; focus assumption))))))) (by simp) (by rw [HW.out]; omega) (Nat.zero_le _)).mono ?_; rintro e w7 ⟨a7, n7, c7, rfl, hk7, hb7⟩)
    | (go_at_call 84; refine (refPlus_U w.heap.size tn _ (nodeN (IntKind.u8.wrap num) ⟨#[]⟩ [vN (argN args 0), vN (argN args 1)]) _ (up_ge (by (repeat (with_reducible first | exact hA | exact Below.refl _ _ | refine bel_drew ?_ | refine bel_alloc ?_ | (apply bel_step; focus assumption)))) (Nat.le_refl _)) (hk7.stays (stays_up (by (repeat (with_reducible first | exact hA | exact Below.refl _ _ | refine bel_drew ?_ | refine bel_alloc ?_ | (apply bel_step; focus assumption)))))) htn).mono ?_; rintro e w8 ⟨a8, c8, rfl, hk8, hb8⟩))
  all_goals
    go_wp2
    go_ret
    refine ⟨_, _, _, rfl, ?_, (by (repeat (with_reducible first | exact hA | exact Below.refl _ _ | refine bel_drew ?_ | refine bel_alloc ?_ | (apply bel_step; focus assumption))))⟩
    rw [HB.out, ← HW.out]
    exact kidsU1 (by (repeat (with_reducible first | (refine nb_new ?_ ?_; rotate_left; (focus (simp; done)); (focus ((repeat (with_reducible first | exact hA | exact Below.refl _ _ | refine bel_drew ?_ | refine bel_alloc ?_ | (apply bel_step; focus assumption))); done))) | refine nb_drew ?_ | refine nb_alloc ?_ | (apply nb_below; focus assumption)))) (hk8.stays (stays_up (by (repeat (with_reducible first | exact hA | exact Below.refl _ _ | refine bel_drew ?_ | refine bel_alloc ?_ | (apply bel_step; focus assumption))))))

set_option maxRecDepth 100000 in
set_option maxHeartbeats 3200000 in
theorem one_if (tn nm : ByteArray) (l : Bool) (num : Int) (av ha ea tv : Option Addr) (ac hn hc en ec tk tc : Nat) (args : List ByteArray) (cf : CallF) (thn els : List Bd) (w : World) (hs : StrsAt Any w (.slice av args.length ac) args) (htn : tn.size ≤ maxLen) (hnum : In64 num) (hlen : 1 ≤ args.length) (HT1 : Hid (∀ w1, Below w.heap.size w w1 → Calls Tryz.prog 14 #[.slice ha hn hc, .slice tv tk tc] w1 (BlockPost (bindsN cf thn) w1))) (HT2 : Hid (∀ w1, Below w.heap.size w w1 → Calls Tryz.prog 14 #[.slice ea en ec, .slice tv tk tc] w1 (BlockPost (bindsN cf els) w1))) :
    Calls Tryz.prog 39 #[.agg #[.string tn, .bool l, .int .u8 83, .int .i64 num, .string nm, .slice av args.length ac, .slice ha hn hc, .slice ea en ec], .slice tv tk tc] w (StmtsPost (bindN cf (.mk tn l 83 num nm args thn els)) w) := by
  have HB : Hid (bindN cf (.mk tn l 83 num nm args thn els) = [nodeN 52 ⟨#[]⟩ [vN (argN args 0), blockN (bindsN cf thn), blockN (bindsN cf els), vN (argN args 0)]]) := Lib.hid (by rw [bindN]; rfl)
  have hz0 := argN_size hs 0
  have hz1 := argN_size hs 1
  have hal := hs.form.1
  obtain ⟨ab, ao, rfl, hcap, hcs⟩ := strs_open hs (by omega)
  have i0 : 0 < args.length := by omega
  have i0' : (0 : Int) < (args.length : Int) := by omega
  have hA : Below w.heap.size w (w.alloc (.cells #[.string tn, .bool l, .int .u8 83, .int .i64 num, .string nm, .slice (some ⟨ab, ao, none⟩) args.length ac, .slice ha hn hc, .slice ea en ec] 86)) := (Below.refl _ _).alloc (Nat.le_refl _) _
  have hn0 := at_new0 w (.cells #[.string tn, .bool l, .int .u8 83, .int .i64 num, .string nm, .slice (some ⟨ab, ao, none⟩) args.length ac, .slice ha hn hc, .slice ea en ec] 86)
  have HN := Lib.hid hn0
  have HS0 : Hid (∀ w1, Below (w.alloc (.cells #[.string tn, .bool l, .int .u8 83, .int .i64 num, .string nm, .slice (some ⟨ab, ao, none⟩) args.length ac, .slice ha hn hc, .slice ea en ec] 86)).heap.size (w.alloc (.cells #[.string tn, .bool l, .int .u8 83, .int .i64 num, .string nm, .slice (some ⟨ab, ao, none⟩) args.length ac, .slice ha hn hc, .slice ea en ec] 86)) w1 → (fun w1 => w1.cell? ⟨w.heap.size, 0, none⟩ = some (.string tn) ∧ w1.cell? ⟨w.heap.size, 1, none⟩ = some (.bool l) ∧ w1.cell? ⟨w.heap.size, 2, none⟩ = some (.int .u8 83) ∧ w1.cell? ⟨w.heap.size, 3, none⟩ = some (.int .i64 num) ∧ w1.cell? ⟨w.heap.size, 4, none⟩ = some (.string nm) ∧ w1.cell? ⟨w.heap.size, 5, none⟩ = some (.slice (some ⟨ab, ao, none⟩) args.length ac) ∧ w1.cell? ⟨w.heap.size, 6, none⟩ = some (.slice ha hn hc) ∧ w1.cell? ⟨w.heap.size, 7, none⟩ = some (.slice ea en ec) ∧ w1.cell? ⟨ab, ao, none⟩ = some (.string (argN args 0))) w1) := Lib.hid (fun w1 hb => by
    obtain ⟨k0, k1, k2, k3, k4, k5, k6, k7⟩ := cellsB (blk_below hb hn0)
    have hw1 : Below w.heap.size w w1 := hA.trans (hb.mono hA.size)
    exact ⟨k0, k1, k2, k3, k4, k5, k6, k7, (hcs w1 hw1).1⟩)
  have HS := Lib.hid hs
  clear hs hn0 hcs
  go_enter Tryz.func39, Tryz.ntmps39
  go_wp2
  generalize (w.alloc (.cells #[.string tn, .bool l, .int .u8 83, .int .i64 num, .string nm, .slice (some ⟨ab, ao, none⟩) args.length ac, .slice ha hn hc, .slice ea en ec] 86)) = W at *
  go_region_held3 (fun w1 => w1.cell? ⟨w.heap.size, 0, none⟩ = some (.string tn) ∧ w1.cell? ⟨w.heap.size, 1, none⟩ = some (.bool l) ∧ w1.cell? ⟨w.heap.size, 2, none⟩ = some (.int .u8 83) ∧ w1.cell? ⟨w.heap.size, 3, none⟩ = some (.int .i64 num) ∧ w1.cell? ⟨w.heap.size, 4, none⟩ = some (.string nm) ∧ w1.cell? ⟨w.heap.size, 5, none⟩ = some (.slice (some ⟨ab, ao, none⟩) args.length ac) ∧ w1.cell? ⟨w.heap.size, 6, none⟩ = some (.slice ha hn hc) ∧ w1.cell? ⟨w.heap.size, 7, none⟩ = some (.slice ea en ec) ∧ w1.cell? ⟨ab, ao, none⟩ = some (.string (argN args 0)))
    (with_reducible exact HS0.out _ (by (repeat (with_reducible first | exact Below.refl _ _ | refine bel_drew ?_ | refine bel_alloc ?_ | (apply bel_step; focus assumption)))))
    (first
    | (go_at_call 42; have hq3 := hk3; refine (refV_U w.heap.size _ _ (up_ge (by (repeat (with_reducible first | exact hA | exact Below.refl _ _ | refine bel_drew ?_ | refine bel_alloc ?_ | (apply bel_step; focus assumption)))) (Nat.le_refl _)) (by assumption)).mono ?_; rintro e w4 ⟨a4, c4, rfl, hk4, hb4⟩)
    | (go_at_call 42; refine (refV_U w.heap.size _ _ (up_ge (by (repeat (with_reducible first | exact hA | exact Below.refl _ _ | refine bel_drew ?_ | refine bel_alloc ?_ | (apply bel_step; focus assumption)))) (Nat.le_refl _)) (by assumption)).mono ?_; rintro e w3 ⟨a3, c3, rfl, hk3, hb3⟩)
    | (go_at_call 14; (with_reducible refine (HT1.out _ (by (repeat (with_reducible first | exact hA | exact Below.refl _ _ | refine bel_drew ?_ | refine bel_alloc ?_ | (apply bel_step; focus assumption))))).mono ?_); rintro e w5 ⟨a5, n5, c5, rfl, hq5, hb5⟩; have hk5 : NdAt (Up w.heap.size) w5 (.agg #[.int .u8 57, .int .i64 0, .string ⟨#[]⟩, .slice a5 n5 c5]) (blockN (bindsN cf thn)) := hq5.stays (stays_upup (up_ge (by (repeat (with_reducible first | exact hA | exact Below.refl _ _ | refine bel_drew ?_ | refine bel_alloc ?_ | (apply bel_step; focus assumption)))) (Nat.le_refl _))); clear hq5)
    | (go_at_call 14; (with_reducible refine (HT2.out _ (by (repeat (with_reducible first | exact hA | exact Below.refl _ _ | refine bel_drew ?_ | refine bel_alloc ?_ | (apply bel_step; focus assumption))))).mono ?_); rintro e w6 ⟨a6, n6, c6, rfl, hq6, hb6⟩; have hk6 : NdAt (Up w.heap.size) w6 (.agg #[.int .u8 57, .int .i64 0, .string ⟨#[]⟩, .slice a6 n6 c6]) (blockN (bindsN cf els)) := hq6.stays (stays_upup (up_ge (by (repeat (with_reducible first | exact hA | exact Below.refl _ _ | refine bel_drew ?_ | refine bel_alloc ?_ | (apply bel_step; focus assumption)))) (Nat.le_refl _))); clear hq6)
    | (go_at_call 41; refine (refNode_U w.heap.size _ _ _ _ _ [vN (argN args 0), blockN (bindsN cf thn), blockN (bindsN cf els), vN (argN args 0)] _ (up_ge (by (repeat (with_reducible first | exact hA | exact Below.refl _ _ | refine bel_drew ?_ | refine bel_alloc ?_ | (apply bel_step; focus assumption)))) (Nat.le_refl _)) (kidsU4 (by (repeat (with_reducible first | (refine nb_new ?_ ?_; rotate_left; (focus (simp; done)); (focus ((repeat (with_reducible first | exact hA | exact Below.refl _ _ | refine bel_drew ?_ | refine bel_alloc ?_ | (apply bel_step; focus assumption))); done))) | refine nb_drew ?_ | refine nb_alloc ?_ | (apply nb_below; focus assumption)))) (hk3.stays (stays_up (by (repeat (with_reducible first | exact hA | exact Below.refl _ _ | refine bel_drew ?_ | refine bel_alloc ?_ | (apply bel_step; focus assumption)))))) (hk5.stays (stays_up (by (repeat (with_reducible first | exact hA | exact Below.refl _ _ | refine bel_drew ?_ | refine bel_alloc ?_ | (apply bel_step; focus assumption)))))) (hk6.stays (stays_up (by (repeat (with_reducible first | exact hA | exact Below.refl _ _ | refine bel_drew ?_ | refine bel_alloc ?_ | (apply bel_step; focus assumption)))))) (hk4.stays (stays_up (by (repeat (with_reducible first | exact hA | exact Below.refl _ _ | refine bel_drew ?_ | refine bel_alloc ?_ | (apply bel_step; focus assumption))))))) (by simp) (by omega) (Nat.zero_le _)).mono ?_; rintro e w7 ⟨a7, n7, c7, rfl, hk7, hb7⟩))
  all_goals
    go_wp2
    go_ret
    refine ⟨_, _, _, rfl, ?_, (by (repeat (with_reducible first | exact hA | exact Below.refl _ _ | refine bel_drew ?_ | refine bel_alloc ?_ | (apply bel_step; focus assumption))))⟩
    rw [HB.out]
    exact kidsU1 (by (repeat (with_reducible first | (refine nb_new ?_ ?_; rotate_left; (focus (simp; done)); (focus ((repeat (with_reducible first | exact hA | exact Below.refl _ _ | refine bel_drew ?_ | refine bel_alloc ?_ | (apply bel_step; focus assumption))); done))) | refine nb_drew ?_ | refine nb_alloc ?_ | (apply nb_below; focus assumption)))) (hk7.stays (stays_up (by (repeat (with_reducible first | exact hA | exact Below.refl _ _ | refine bel_drew ?_ | refine bel_alloc ?_ | (apply bel_step; focus assumption))))))
end Go.Proofs.YtehmmokkjojggabGreatDoor
/- backstepref40.one at a call. -/
namespace Go.Proofs.YtehmmokkjojggabGreatDoor
set_option linter.unusedVariables false
open Go.RowKit

/-- a target -/
structure Tg where
  name : ByteArray
  proc : ByteArray
  extra : List ByteArray
instance : Inhabited Tg := ⟨⟨ByteArray.empty, ByteArray.empty, []⟩⟩
/-- the three cells of a target -/
structure TgC (A : Nat → Prop) (w : World) (c : Nat → Value) (x : Tg) : Prop where
  c0 : c 0 = .string x.name
  c1 : c 1 = .string x.proc
  c2 : StrsAt A w (c 2) x.extra
  s0 : x.name.size ≤ maxLen
  s1 : x.proc.size ≤ maxLen
theorem TgC.stays {A A' : Nat → Prop} {w w' : World} (hs : Stays A A' w w') {c : Nat → Value} {x : Tg} (h : TgC A w c x) : TgC A' w' c x := ⟨h.c0, h.c1, h.c2.stays hs, h.s0, h.s1⟩
theorem TgC.congr {A : Nat → Prop} {w : World} {c d : Nat → Value} {x : Tg} (h : TgC A w c x) (e : ∀ i, i < 3 → d i = c i) : TgC A w d x := ⟨(e 0 (by omega)).trans h.c0, (e 1 (by omega)).trans h.c1, by rw [e 2 (by omega)]; exact h.c2, h.s0, h.s1⟩
def TgE : Elem Tg where
  size := 3
  C := TgC
  stays := fun hs _ _ h => h.stays hs
  congr := fun h e => h.congr e
  one := fun h i hi => by
    obtain ⟨_, a, c, e⟩ := h.c2.form
    match i, hi with
    | 0, _ => rw [h.c0]; rfl
    | 1, _ => rw [h.c1]; rfl
    | 2, _ => rw [e]; rfl
/-- the target of a name: the last one, or the name itself -/
def tgF (l : List Tg) (nm : ByteArray) : Tg := l.foldl (fun t x => if x.name = nm then x else t) ⟨ByteArray.empty, nm, []⟩
def refF (l : List Tg) : CallF := fun nm => ((tgF l nm).proc, (tgF l nm).extra)
theorem tgF_take (l : List Tg) (nm : ByteArray) (k : Nat) (h : k < l.length) : tgF (l.take (k + 1)) nm = if (at' l k).name = nm then at' l k else tgF (l.take k) nm := by
  rw [List.take_add_one, List.getElem?_eq_getElem h, at_eq h, Option.toList_some, tgF, List.foldl_append]
  rfl
theorem tgs_at {A : Nat → Prop} {w : World} {v : Value} {l : List Tg} (h : RowsAt TgE A w v l) {j : Nat} (hj : j < l.length) :
    ∃ b off cap a c, v = .slice (some ⟨b, off, none⟩) l.length cap ∧ b < w.heap.size ∧ l.length ≤ cap ∧ w.cell? ⟨b, off + j * 3, none⟩ = some (.string (at' l j).name) ∧ w.cell? ⟨b, off + j * 3 + 1, none⟩ = some (.string (at' l j).proc) ∧ w.cell? ⟨b, off + j * 3 + 2, none⟩ = some (.slice a (at' l j).extra.length c) ∧
      StrsAt A w (.slice a (at' l j).extra.length c) (at' l j).extra ∧ (at' l j).name.size ≤ maxLen ∧ (at' l j).proc.size ≤ maxLen := by
  obtain ⟨b, off, cap, cs, rfl, h1, h2, h3, h4, h5⟩ := h.at hj
  have c0 := h4 0 (by show 0 < 3; omega)
  have c1 := h4 1 (by show 1 < 3; omega)
  have c2 := h4 2 (by show 2 < 3; omega)
  have h6 : TgC A w cs (at' l j) := h5
  obtain ⟨_, a, c, e⟩ := h6.c2.form
  have h7 := h6.c2
  rw [h6.c0] at c0
  rw [h6.c1] at c1
  rw [e] at c2 h7
  exact ⟨b, off, cap, a, c, rfl, h1, h2, c0, c1, c2, h7, h6.s0, h6.s1⟩

/-- the target under way -/
structure TgSt (l : List Tg) (nm : ByteArray) (g k : Nat) (W wr : World) : Prop where
  m : ∃ a c, wr.heap[g]? = some (.cells #[.string (tgF (l.take k) nm).name, .string (tgF (l.take k) nm).proc, .slice a (tgF (l.take k) nm).extra.length c] 39 (0, 0)) ∧ StrsAt (fun b => b < W.heap.size) wr (.slice a (tgF (l.take k) nm).extra.length c) (tgF (l.take k) nm).extra
  size : (tgF (l.take k) nm).proc.size ≤ maxLen
  ge : W.heap.size ≤ g
  below : Below W.heap.size W wr
theorem cells3 {w : World} {b e : Nat} {v0 v1 v2 : Value} (h : w.heap[b]? = some (.cells #[v0, v1, v2] e (0, 0))) : w.cell? ⟨b, 0, none⟩ = some v0 ∧ w.cell? ⟨b, 1, none⟩ = some v1 ∧ w.cell? ⟨b, 2, none⟩ = some v2 :=
  ⟨cell_blk h 0 rfl, cell_blk h 1 rfl, cell_blk h 2 rfl⟩
theorem set3 {w : World} {b e : Nat} {v0 v1 v2 : Value} (h : w.heap[b]? = some (.cells #[v0, v1, v2] e (0, 0))) (x0 x1 x2 : Value) :
    (((w.setCell ⟨b, 0, none⟩ x0).setCell ⟨b, 1, none⟩ x1).setCell ⟨b, 2, none⟩ x2).heap[b]? = some (.cells #[x0, x1, x2] e (0, 0)) := by
  have h3 := heap_setCell_same _ b 2 _ _ x2 (heap_setCell_same _ b 1 _ _ x1 (heap_setCell_same w b 0 _ _ x0 h))
  simpa only [List.setIfInBounds_toArray, List.set_cons_zero, List.set_cons_succ] using h3
theorem keeps_set3 (w : World) (g : Nat) (x0 x1 x2 : Value) : Keeps w (((w.setCell ⟨g, 0, none⟩ x0).setCell ⟨g, 1, none⟩ x1).setCell ⟨g, 2, none⟩ x2) (fun k => k = g) := ((keeps_set w g 0 x0).same (keeps_set _ g 1 x1)).same (keeps_set _ g 2 x2)
theorem tgSt_start {l : List Tg} {nm : ByteArray} {W : World} (h : nm.size ≤ maxLen) : TgSt l nm W.heap.size 0 W (W.alloc (.cells #[.string ⟨#[]⟩, .string nm, .slice none 0 0] 39)) :=
  ⟨⟨none, 0, blk_new rfl, ⟨fun _ _ => undef, RowAt.empty _ _ _, fun j hj => by simp [tgF] at hj⟩⟩, by simpa [tgF] using h, Nat.le_refl _, (Below.refl _ _).alloc (Nat.le_refl _) _⟩
theorem TgSt.drew {l : List Tg} {nm : ByteArray} {g k : Nat} {W wr : World} (h : TgSt l nm g k W wr) : TgSt l nm g k W wr.drew := by
  obtain ⟨⟨a, c, h1, h2⟩, h3, h4, h5⟩ := h
  exact ⟨⟨a, c, blk_drew h1, h2.stays (Stays.of_below (bel_drew (Below.refl _ _)))⟩, h3, h4, bel_drew h5⟩
theorem TgSt.skip {l : List Tg} {nm : ByteArray} {g k : Nat} {W wr : World} (h : TgSt l nm g k W wr) (hk : k < l.length) (hn : (at' l k).name ≠ nm) : TgSt l nm g (k + 1) W wr := by
  have e : tgF (l.take (k + 1)) nm = tgF (l.take k) nm := by rw [tgF_take l nm k hk, if_neg hn]
  obtain ⟨⟨a, c, h1, h2⟩, h3, h4, h5⟩ := h
  exact ⟨by rw [e]; exact ⟨a, c, h1, h2⟩, by rw [e]; exact h3, h4, h5⟩
theorem TgSt.take {l : List Tg} {nm : ByteArray} {g k : Nat} {W wr : World} {a : Option Addr} {c : Nat} (h : TgSt l nm g k W wr) (hk : k < l.length) (hn : (at' l k).name = nm) (hs : (at' l k).proc.size ≤ maxLen) (hx : StrsAt (fun b => b < W.heap.size) wr (.slice a (at' l k).extra.length c) (at' l k).extra) :
    TgSt l nm g (k + 1) W (((wr.setCell ⟨g, 0, none⟩ (.string (at' l k).name)).setCell ⟨g, 1, none⟩ (.string (at' l k).proc)).setCell ⟨g, 2, none⟩ (.slice a (at' l k).extra.length c)) := by
  have e : tgF (l.take (k + 1)) nm = at' l k := by rw [tgF_take l nm k hk, if_pos hn]
  obtain ⟨⟨a0, c0, h1, h2⟩, h3, h4, h5⟩ := h
  have hK := keeps_set3 wr g (.string (at' l k).name) (.string (at' l k).proc) (.slice a (at' l k).extra.length c)
  refine ⟨by rw [e]; exact ⟨a, c, set3 h1 _ _ _, hx.stays ⟨hK.size, fun b hb hA => ⟨hK.block b hb (fun e => by omega), hA⟩⟩⟩, by rw [e]; exact hs, h4, ((h5.setCell h4 _).setCell h4 _).setCell h4 _⟩
end Go.Proofs.YtehmmokkjojggabGreatDoor
/- backstepref40.one at a call. -/
namespace Go.Proofs.YtehmmokkjojggabGreatDoor
set_option linter.unusedVariables false
open Go.RowKit

/-- behind the row of arguments -/
def CutC (args : List ByteArray) (tn : ByteArray) (wr : World) (s : Value) (wx : World) : Prop := ∃ a2 c2, s = .slice a2 (args.length + 1) c2 ∧ RowsOwn StrE 9 (fun _ => True) wr.heap.size wx (.slice a2 (args.length + 1) c2) (args ++ [tn]) ∧ Below wr.heap.size wr wx
/-- an empty row in a block of its own -/
theorem rows_empty {α : Type} [Inhabited α] {E : Elem α} {e : Nat} {D : Nat → Prop} {base : Nat} {w : World} {g : Nat} (h : w.heap[g]? = some (.cells #[] e (0, 0))) (hb : base ≤ g) : RowsOwn E e D base w (.slice (some ⟨g, 0, none⟩) 0 0) [] :=
  ⟨[], ⟨by simp, .inr ⟨g, 0, #[], rfl, hb, h, Nat.le_refl _, by unfold maxLen; omega, by simp, by simp⟩⟩, fun j hj => by simp at hj⟩

set_option maxRecDepth 100000 in
set_option maxHeartbeats 6400000 in
theorem one_call (tn nm : ByteArray) (l : Bool) (num : Int) (av ha ea tv : Option Addr) (ac hn hc en ec tc : Nat) (args : List ByteArray) (ts : List Tg) (thn els : List Bd) (w : World) (hs : StrsAt Any w (.slice av args.length ac) args) (hts : RowsAt TgE Any w (.slice tv ts.length tc) ts) (htn : tn.size ≤ maxLen) (hnm : nm.size ≤ maxLen) (hnum : In64 num) (hal : args.length ≤ 100000) (hex : (tgF ts nm).extra.length ≤ 1000) (hps : (tgF ts nm).proc.size ≤ maxLen) :
    Calls Tryz.prog 39 #[.agg #[.string tn, .bool l, .int .u8 85, .int .i64 num, .string nm, .slice av args.length ac, .slice ha hn hc, .slice ea en ec], .slice tv ts.length tc] w (StmtsPost (bindN (refF ts) (.mk tn l 85 num nm args thn els)) w) := by
  have HB : Hid (bindN (refF ts) (.mk tn l 85 num nm args thn els) = [callN (refF ts nm).1 (args ++ [tn] ++ (refF ts nm).2)]) := Lib.hid (by rw [bindN]; rfl)
  have htl := hts.form.1
  unfold maxLen at htl
  have hA : Below w.heap.size w (w.alloc (.cells #[.string tn, .bool l, .int .u8 85, .int .i64 num, .string nm, .slice av args.length ac, .slice ha hn hc, .slice ea en ec] 86)) := (Below.refl _ _).alloc (Nat.le_refl _) _
  have hws : w.heap.size < (w.alloc (.cells #[.string tn, .bool l, .int .u8 85, .int .i64 num, .string nm, .slice av args.length ac, .slice ha hn hc, .slice ea en ec] 86)).heap.size := by simp
  have HSZ : Hid (w.heap.size + 1 = (w.alloc (.cells #[.string tn, .bool l, .int .u8 85, .int .i64 num, .string nm, .slice av args.length ac, .slice ha hn hc, .slice ea en ec] 86)).heap.size) := Lib.hid (by simp)
  have HN := Lib.hid (at_new0 w (.cells #[.string tn, .bool l, .int .u8 85, .int .i64 num, .string nm, .slice av args.length ac, .slice ha hn hc, .slice ea en ec] 86))
  have HS := Lib.hid hs
  have HT : Hid (RowsAt TgE (fun b => b < (w.alloc (.cells #[.string tn, .bool l, .int .u8 85, .int .i64 num, .string nm, .slice av args.length ac, .slice ha hn hc, .slice ea en ec] 86)).heap.size) (w.alloc (.cells #[.string tn, .bool l, .int .u8 85, .int .i64 num, .string nm, .slice av args.length ac, .slice ha hn hc, .slice ea en ec] 86)) (.slice tv ts.length tc) ts) := Lib.hid (hts.stays ⟨hA.size, fun b hb _ => ⟨hA.block b hb, by simp; omega⟩⟩)
  clear hs hts
  go_enter Tryz.func39, Tryz.ntmps39
  go_wp2
  generalize (w.alloc (.cells #[.string tn, .bool l, .int .u8 85, .int .i64 num, .string nm, .slice av args.length ac, .slice ha hn hc, .slice ea en ec] 86)) = W at *
  have HST : Hid (TgSt ts nm (w.heap.size + 1) 0 W (W.alloc (.cells #[.string ⟨#[]⟩, .string nm, .slice none 0 0] 39))) := Lib.hid (by rw [HSZ.out]; exact tgSt_start hnm)
  go_loopw [6] (fun i wr => ∃ k : Nat, i = .int .i64 k ∧ k ≤ ts.length ∧ TgSt ts nm (w.heap.size + 1) k W wr) (fun i _ => ts.length - (intOf i).toNat)
  case atStart => exact ⟨0, rfl, Nat.zero_le _, HST.out⟩
  case round =>
    obtain ⟨k, rfl, hk, hst⟩ := hrel
    have HS2 := Lib.hid hst
    obtain ⟨⟨xa, xc, hm, hx⟩, hsz, _, hbl⟩ := hst
    have HM := Lib.hid hm
    have HX := Lib.hid hx
    have HBL := Lib.hid hbl
    have hbx : wr.heap[w.heap.size]? = some (.cells #[.string tn, .bool l, .int .u8 85, .int .i64 num, .string nm, .slice av args.length ac, .slice ha hn hc, .slice ea en ec] 86) := (hbl.block w.heap.size hws).trans HN.out
    have HBX := Lib.hid hbx
    have hbs := hbl.size
    clear hm hx hbl hbx
    by_cases hlt : k < ts.length
    · obtain ⟨b, off, cap, a, c, he, hb, hcap, c0, c1, c2, hxs, hs0, hs1⟩ := tgs_at HT.out hlt
      simp only [Value.slice.injEq] at he
      obtain ⟨rfl, -, rfl⟩ := he
      have i0 : (0 : Int) ≤ (k : Int) := by omega
      have i1 : (k : Int) < (ts.length : Int) := by omega
      have hS : Hid (∀ w1, Below wr.heap.size wr w1 → w1.cell? ⟨w.heap.size, 4, none⟩ = some (.string nm) ∧ w1.cell? ⟨b, off + k * 3, none⟩ = some (.string (at' ts k).name) ∧ w1.cell? ⟨b, off + k * 3 + 1, none⟩ = some (.string (at' ts k).proc) ∧ w1.cell? ⟨b, off + k * 3 + 2, none⟩ = some (.slice a (at' ts k).extra.length c)) := Lib.hid (fun w1 hw => by
        obtain ⟨k0, k1, k2, k3, k4, k5, k6, k7⟩ := cellsB (blk_below hw HBX.out)
        have hW := HBL.out.trans (hw.mono hbs)
        exact ⟨k4, (hW.cell hb).trans c0, (hW.cell hb).trans c1, (hW.cell hb).trans c2⟩)
      obtain ⟨s0, s1, s2, s3⟩ := hS.out wr.drew (bel_drew (Below.refl _ _))
      by_cases hnn : (at' ts k).name = nm
      · have d : ((at' ts k).name.toList == nm.toList) = true := by rw [hnn]; simp
        have HTK := Lib.hid (HS2.out.drew.take (a := a) (c := c) hlt hnn hs1 ((hxs.stays (Stays.of_below HBL.out)).stays (Stays.of_below (bel_drew (Below.refl _ _)))))
        obtain ⟨m0, m1, m2⟩ := cells3 HM.out
        have mf := unfrozen HM.out
        clear hnn
        go_wp2
        go_region_held3 (fun w1 => w1.cell? ⟨w.heap.size, 4, none⟩ = some (.string nm) ∧ w1.cell? ⟨b, off + k * 3, none⟩ = some (.string (at' ts k).name) ∧ w1.cell? ⟨b, off + k * 3 + 1, none⟩ = some (.string (at' ts k).proc) ∧ w1.cell? ⟨b, off + k * 3 + 2, none⟩ = some (.slice a (at' ts k).extra.length c))
          (with_reducible exact hS.out _ (by (repeat (with_reducible first | exact Below.refl _ _ | refine bel_drew ?_ | refine bel_alloc ?_ | (apply bel_step; focus assumption))))) (fail)
        go_wp2
        exact ⟨⟨k + 1, by go_num, by omega, HTK.out⟩, by simp [intOf]; omega⟩
      · have d : ((at' ts k).name.toList == nm.toList) = false := beq_eq_false_iff_ne.2 (fun e => hnn (toList_inj e))
        have HTK := Lib.hid ((HS2.out.skip hlt hnn).drew)
        clear hnn
        go_wp2
        go_region_held3 (fun w1 => w1.cell? ⟨w.heap.size, 4, none⟩ = some (.string nm) ∧ w1.cell? ⟨b, off + k * 3, none⟩ = some (.string (at' ts k).name) ∧ w1.cell? ⟨b, off + k * 3 + 1, none⟩ = some (.string (at' ts k).proc) ∧ w1.cell? ⟨b, off + k * 3 + 2, none⟩ = some (.slice a (at' ts k).extra.length c))
          (with_reducible exact hS.out _ (by (repeat (with_reducible first | exact Below.refl _ _ | refine bel_drew ?_ | refine bel_alloc ?_ | (apply bel_step; focus assumption))))) (fail)
        go_wp2
        exact ⟨⟨k + 1, by go_num, by omega, HTK.out⟩, by simp [intOf]; omega⟩
    · obtain rfl : k = ts.length := by omega
      have hlt' : ¬ (ts.length : Int) < (ts.length : Int) := by omega
      have hS : Hid (∀ w1, Below wr.heap.size wr w1 → w1.cell? ⟨w.heap.size, 0, none⟩ = some (.string tn) ∧ w1.cell? ⟨w.heap.size, 5, none⟩ = some (.slice av args.length ac)) := Lib.hid (fun w1 hw => by
        obtain ⟨k0, k1, k2, k3, k4, k5, k6, k7⟩ := cellsB (blk_below hw HBX.out)
        exact ⟨k0, k5⟩)
      obtain ⟨s0, s1⟩ := hS.out wr (Below.refl _ _)
      have hwr : w.heap.size < wr.heap.size := Nat.lt_of_lt_of_le hws hbs
      have HARG : Hid (∀ w1, Below wr.heap.size wr w1 → StrsAt (fun b => b < w.heap.size) w1 (.slice av args.length ac) args) := Lib.hid (fun w1 hw => (HS.out.stays (A' := fun b => b < w.heap.size) ⟨Nat.le_refl _, fun b hb _ => ⟨rfl, hb⟩⟩).stays (Stays.of_below ((hA.trans (HBL.out.mono hA.size)).trans (hw.mono (Nat.le_of_lt hwr)))))
      go_wp2
      go_cut [7] (fun s wx => CutC args tn wr s wx)
      case first =>
        go_region_held3 (fun w1 => w1.cell? ⟨w.heap.size, 0, none⟩ = some (.string tn) ∧ w1.cell? ⟨w.heap.size, 5, none⟩ = some (.slice av args.length ac))
          (with_reducible exact hS.out _ (by (repeat (with_reducible first | exact Below.refl _ _ | refine bel_drew ?_ | refine bel_alloc ?_ | (apply bel_step; focus assumption)))))
          (first
          | (refine step_rows (E := StrE) (D := fun _ => True) (D' := fun b => b < w.heap.size) (base := wr.heap.size) (l := []) (m := args) TStr rfl (by decide) (by rfl) (.tmp 110) (.tmp 112) (by rfl) (by rfl) (by rfl) (rows_empty (by (repeat (with_reducible first | (refine blk_new ?_; (simp; done)) | refine blk_drew ?_ | refine blk_alloc ?_ | (apply blk_below; focus assumption)))) (by first | omega | (simp; done) | (simp; omega))) (strs_rows.1 (HARG.out _ (by (repeat (with_reducible first | exact Below.refl _ _ | refine bel_drew ?_ | refine bel_alloc ?_ | (apply bel_step; focus assumption)))))) (fun b _ hb2 => ⟨trivial, fun e => by simp [Value.ownBlock] at e; omega⟩) (by unfold maxLen; simp; omega) (by simp; omega) (by first | omega | (simp; done) | (simp; omega)) ?_; intro a1 c1 w4 h4 hg4 hn4; have hb4 : Below wr.heap.size wr w4 := Below.grown (by (repeat (with_reducible first | exact Below.refl _ _ | refine bel_drew ?_ | refine bel_alloc ?_ | (apply bel_step; focus assumption)))) hg4 (by first | omega | (simp; done) | (simp; omega)) (fun k e => by simp [Value.ownBlock] at e; omega); simp only [List.nil_append, List.length_nil, Nat.zero_add] at h4 hn4; have H4 := Lib.hid h4; have HG4 := Lib.hid hg4; have HN4 := Lib.hid hn4; clear h4 hg4 hn4)
          | (refine step_rows (E := StrE) (D := fun _ => True) (base := wr.heap.size) (l := args) (m := [tn]) TStr rfl (by decide) (by rfl) (.tmp 113) (.tmp 116) (by rfl) (by first | rfl | (show Value.slice a1 (0 + args.length) c1 = _; rw [Nat.zero_add]) | (show Value.slice a1 (([] : List ByteArray).length + args.length) c1 = _; simp)) (by rfl) (H4.out.below (by (repeat (with_reducible first | exact Below.refl _ _ | refine bel_drew ?_ | refine bel_alloc ?_ | (apply bel_step; focus assumption))))) (strs_rows.1 (strs_1 (A := fun b => b = w4.heap.size) (blk_new rfl) rfl htn)) (fun b _ hb2 => ⟨trivial, fun e => by have := (H4.out.lt e).2; omega⟩) (by unfold maxLen; simp; omega) (by simp; omega) (by have := hb4.size; (try simp); omega) ?_; intro a2 c2 w5 h5 hg5 hn5; have hb5 : Below wr.heap.size wr w5 := Below.grown (by (repeat (with_reducible first | exact Below.refl _ _ | refine bel_drew ?_ | refine bel_alloc ?_ | (apply bel_step; focus assumption)))) hg5 (by have := hb4.size; (try simp); omega) (fun k e => (H4.out.lt e).1); have H5 := Lib.hid h5; clear h5 hg5 hn5)
          | (refine step_rows (E := StrE) (D := fun _ => True) (base := wr.heap.size) (l := args) (m := [tn]) TStr rfl (by decide) (by rfl) (.tmp 113) (.tmp 116) (by rfl) (by first | rfl | (show Value.slice a1 (0 + args.length) c1 = _; rw [Nat.zero_add]) | (show Value.slice a1 (([] : List ByteArray).length + args.length) c1 = _; simp)) (by rfl) (H4.out.below (by (repeat (with_reducible first | exact Below.refl _ _ | refine bel_drew ?_ | refine bel_alloc ?_ | (apply bel_step; focus assumption))))) (strs_rows.1 (strs_1 (A := fun b => wr.heap.size ≤ b ∧ b < w4.heap.size ∧ (Value.slice a1 args.length c1).ownBlock ≠ some b) ((HG4.out.block _ (by first | omega | (simp; done) | (simp; omega)) (by simp [Value.ownBlock])).trans (by (repeat (with_reducible first | (refine blk_new ?_; (simp; done)) | refine blk_drew ?_ | refine blk_alloc ?_ | (apply blk_below; focus assumption))))) ⟨(by first | omega | (simp; done) | (simp; omega)), by have := HG4.out.size; simp at this; omega, fun e => by rcases HN4.out _ e with e | e <;> simp [Value.ownBlock] at e <;> omega⟩ htn)) (fun b _ hb2 => ⟨trivial, hb2.2.2⟩) (by unfold maxLen; simp; omega) (by simp; omega) (by have := hb4.size; (try simp); omega) ?_; intro a2 c2 w5 h5 hg5 hn5; have hb5 : Below wr.heap.size wr w5 := Below.grown (by (repeat (with_reducible first | exact Below.refl _ _ | refine bel_drew ?_ | refine bel_alloc ?_ | (apply bel_step; focus assumption)))) hg5 (by have := hb4.size; (try simp); omega) (fun k e => (H4.out.lt e).1); have H5 := Lib.hid h5; clear h5 hg5 hn5))
        all_goals
          go_wp2
          go_meet
          exact ⟨a2, c2, rfl, H5.out, hb5⟩
      case rest =>
        obtain ⟨a2, c2, rfl, h5, hb5⟩ := hcut
        have H5 := Lib.hid h5
        clear h5
        rw [List.take_length] at HM HX hsz
        have hS5 : Hid (∀ w1, Below wr.heap.size wr w1 → w1.cell? ⟨w.heap.size + 1, 1, none⟩ = some (.string (tgF ts nm).proc) ∧ w1.cell? ⟨w.heap.size + 1, 2, none⟩ = some (.slice xa (tgF ts nm).extra.length xc)) := Lib.hid (fun w1 hw => (cells3 (blk_below hw HM.out)).2)
        have HX5 : Hid (∀ w1, Below wr.heap.size wr w1 → StrsAt (fun b => b < W.heap.size) w1 (.slice xa (tgF ts nm).extra.length xc) (tgF ts nm).extra) := Lib.hid (fun w1 hw => HX.out.stays (Stays.of_below hw))
        have hs5 := hb5.size
        have hAR : Below w.heap.size w wr := hA.trans (HBL.out.mono hA.size)
        obtain ⟨t1, t2⟩ := hS5.out wc hb5
        clear s0 s1 hS HARG HST HS2 HM HX
        go_wp2
        go_region_held3 (fun w1 => w1.cell? ⟨w.heap.size + 1, 1, none⟩ = some (.string (tgF ts nm).proc) ∧ w1.cell? ⟨w.heap.size + 1, 2, none⟩ = some (.slice xa (tgF ts nm).extra.length xc))
          (with_reducible exact hS5.out _ (by (repeat (with_reducible first | exact hb6 | exact hb5 | exact Below.refl _ _ | refine bel_drew ?_ | refine bel_alloc ?_ | (apply bel_step; focus assumption)))))
          (first
          | (go_at_call 40; refine (refCall_U (A := fun _ => True) w.heap.size (tgF ts nm).proc _ _ _ (args ++ [tn] ++ (tgF ts nm).extra) _ (up_ge (hAR.trans (Below.mono (by (repeat (with_reducible first | exact hb6 | exact hb5 | exact Below.refl _ _ | refine bel_drew ?_ | refine bel_alloc ?_ | (apply bel_step; focus assumption)))) hAR.size)) (Nat.le_refl _)) (HK6.out _ (by (repeat (with_reducible first | exact Below.refl _ _ | refine bel_drew ?_ | refine bel_alloc ?_ | (apply bel_step; focus assumption))))) hps (by simp; omega)).mono ?_; rintro e w9 ⟨a9, n9, c9, rfl, hk9, hb9⟩)
          | (refine step_rows (E := StrE) (D := fun _ => True) (base := wr.heap.size) (l := args ++ [tn]) (m := (tgF ts nm).extra) TStr rfl (by decide) (by rfl) (.tmp 120) (.tmp 122) (by rfl) (by rfl) (by rfl) (H5.out.below (by (repeat (with_reducible first | exact Below.refl _ _ | refine bel_drew ?_ | refine bel_alloc ?_ | (apply bel_step; focus assumption))))) (strs_rows.1 (HX5.out _ (by (repeat (with_reducible first | exact hb5 | exact Below.refl _ _ | refine bel_drew ?_ | refine bel_alloc ?_ | (apply bel_step; focus assumption)))))) (fun b _ hb2 => ⟨trivial, fun e => by have := (H5.out.lt e).1; omega⟩) (by simp; unfold maxLen; omega) (by simp; omega) (by first | omega | (simp; done) | (simp; omega)) ?_; intro a6 c6 w6 h6 hg6 hn6; have hb6 : Below wr.heap.size wr w6 := Below.grown (by (repeat (with_reducible first | exact hb5 | exact Below.refl _ _ | refine bel_drew ?_ | refine bel_alloc ?_ | (apply bel_step; focus assumption)))) hg6 (by first | omega | (simp; done) | (simp; omega)) (fun k e => (H5.out.lt e).1); have HK6 : Hid (∀ w1, Below w6.heap.size w6 w1 → StrsAt (fun _ => True) w1 (.slice a6 (args.length + 1 + (tgF ts nm).extra.length) c6) (args ++ [tn] ++ (tgF ts nm).extra)) := Lib.hid (fun w1 hw => strs_rows.2 (RowsAt.stays (Stays.of_below hw) (by have h7 := h6.shut (A := fun _ => True) (fun _ _ => trivial) (fun _ _ => trivial) (by unfold maxLen; simp; omega); rw [List.length_append, List.length_singleton] at h7; exact h7))); clear h6 hg6 hn6)
          | fail)
        all_goals
          go_wp2
          go_ret
          have hb69 : Below wr.heap.size wr w9 := (by (repeat (with_reducible first | exact hb6 | exact hb5 | exact Below.refl _ _ | refine bel_drew ?_ | refine bel_alloc ?_ | (apply bel_step; focus assumption))))
          have hw9 : Below w.heap.size w w9 := hAR.trans (hb69.mono hAR.size)
          refine ⟨_, _, _, rfl, ?_, bel_alloc hw9⟩
          rw [HB.out]
          exact kids_1 (A := Up w.heap.size) (heap_alloc_new w9 _) hw9.size (hk9.stays (Stays.of_below ((Below.refl _ _).alloc (Nat.le_refl _) _)))
end Go.Proofs.YtehmmokkjojggabGreatDoor
