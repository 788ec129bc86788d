/- Walks: the small functions of package keepgen. -/
import Derived.Test.YtehmmokkjojggabGreatDoorZq27
namespace Go.Proofs.YtehmmokkjojggabGreatDoor
set_option linter.unusedVariables false
set_option linter.unusedSimpArgs false
open Go.RowKit

theorem node_K (k : Int) (s : ByteArray) (ka : Option Addr) (n kc : Nat) (w : World) :
    Calls Tryz.prog 72 #[.int .u8 k, .string s, .slice ka n kc] w fun e w' => e = .returned (.agg #[.int .u8 k, .int .i64 0, .string s, .slice ka n kc]) ∧ Below w.heap.size w w' := by
  go_enter Tryz.func72, Tryz.ntmps72
  go_wp2
  go_returns
  exact ⟨rfl, (Below.refl _ _).alloc (Nat.le_refl _) _⟩
theorem variable_K (s : ByteArray) (w : World) :
    Calls Tryz.prog 73 #[.string s] w fun e w' => e = .returned (.agg #[.int .u8 2, .int .i64 0, .string s, .slice none 0 0]) ∧ Below w.heap.size w w' := by
  go_enter Tryz.func73, Tryz.ntmps73
  go_wp2
  go_returns
  exact ⟨rfl, (Below.refl _ _).alloc (Nat.le_refl _) _⟩
theorem number_K (x : Int) (w : World) :
    Calls Tryz.prog 108 #[.int .i64 x] w fun e w' => e = .returned (.agg #[.int .u8 1, .int .i64 x, .string ⟨#[]⟩, .slice none 0 0]) ∧ Below w.heap.size w w' := by
  go_enter Tryz.func108, Tryz.ntmps108
  go_wp2
  go_returns
  exact ⟨rfl, (Below.refl _ _).alloc (Nat.le_refl _) _⟩
set_option maxHeartbeats 800000 in
theorem block_K (ka : Option Addr) (n kc : Nat) (w : World) :
    Calls Tryz.prog 76 #[.slice ka n kc] w fun e w' => e = .returned (.agg #[.int .u8 57, .int .i64 0, .string ⟨#[]⟩, .slice ka n kc]) ∧ Below w.heap.size w w' := by
  have hA : Below w.heap.size w (w.alloc (.cells #[.int .u8 0, .int .i64 0, .string ⟨#[]⟩, .slice none 0 0] 35)) := (Below.refl _ _).alloc (Nat.le_refl _) _
  have hn := at_new0 w (.cells #[.int .u8 0, .int .i64 0, .string ⟨#[]⟩, .slice none 0 0] 35)
  have HN := Lib.hid (node_K 57 ⟨#[]⟩ ka n kc (w.alloc (.cells #[.int .u8 0, .int .i64 0, .string ⟨#[]⟩, .slice none 0 0] 35)))
  have HB := Lib.hid hn
  clear hn
  go_enter Tryz.func76, Tryz.ntmps76
  go_wp2_with (go_at_call 72; refine HN.out.mono ?_; rintro e w1 ⟨rfl, hb⟩; have hr := (hb.block w.heap.size (by simp)).trans HB.out; obtain ⟨r0, r1, r2, r3⟩ := cells4 hr; have f := unfrozen hr; have HR := Lib.hid hr; clear hr)
  (try simp only [Exit.inBlock, Exit.then])
  refine bodyPost_ret (results_cell_row (P := Tryz.prog) rfl _ _ w.heap.size _ _ _ _ rfl (set4 HR.out _ _ _ _) Tryz.underlying35 rfl (by kernel_rfl)) rfl ?_
  exact ⟨rfl, (((((hA.trans (hb.mono hA.size)).setCell (Nat.le_refl _) _).setCell (Nat.le_refl _) _).setCell (Nat.le_refl _) _).setCell (Nat.le_refl _) _)⟩
set_option maxRecDepth 100000 in
set_option maxHeartbeats 1600000 in
theorem invoke_K (p : ByteArray) (av : Value) (args : List ByteArray) (A : Nat → Prop) (w : World) (ha : StrsAt A w av args) (hp : p.size ≤ maxLen) (hl : args.length ≤ 200000) :
    Calls Tryz.prog 71 #[.string p, av] w fun e w' => ∃ v, e = .returned v ∧ NdAt (fun k => w.heap.size ≤ k) w' v (callN p args) ∧ Below w.heap.size w w' := by
  obtain ⟨_, aa, ac, rfl⟩ := ha.form
  have hA : Below w.heap.size w (w.alloc (.cells #[.int .u8 0, .int .i64 0, .string ⟨#[]⟩, .slice none 0 0] 35)) := (Below.refl _ _).alloc (Nat.le_refl _) _
  have hn := at_new0 w (.cells #[.int .u8 0, .int .i64 0, .string ⟨#[]⟩, .slice none 0 0] 35)
  have hws : w.heap.size < (w.alloc (.cells #[.int .u8 0, .int .i64 0, .string ⟨#[]⟩, .slice none 0 0] 35)).heap.size := by simp
  have HA := Lib.hid ha
  have HN := Lib.hid hn
  clear ha hn
  go_enter Tryz.func71, Tryz.ntmps71
  go_wp2
  generalize (w.alloc (.cells #[.int .u8 0, .int .i64 0, .string ⟨#[]⟩, .slice none 0 0] 35)) = W at *
  go_loopw [10, 5] (fun i v wr => ∃ k : Nat, i = .int .i64 k ∧ k ≤ args.length ∧ Below W.heap.size W wr ∧ KidsOwn (fun j => W.heap.size ≤ j) W.heap.size wr v ((args.take k).map vN)) (fun i _ _ => args.length - (intOf i).toNat)
  case atStart => exact ⟨0, rfl, Nat.zero_le _, Below.refl _ _, KidsOwn.nil _ _ _⟩
  case round =>
    obtain ⟨k, rfl, hk, hbl, hown⟩ := hrel
    have hlk : ((args.take k).map vN).length = k := by simp; omega
    obtain ⟨va, vc, hv⟩ := hown.form
    rw [hlk] at hv
    subst hv
    have HOWN := Lib.hid hown
    have HLK := Lib.hid hlk
    clear hown hlk
    have hbw : Below w.heap.size w wr := hA.trans (hbl.mono hA.size)
    by_cases hlt : k < args.length
    · obtain ⟨b, off, cap, he, hb, _, _, c0, hsz⟩ := (HA.out.stays (Stays.of_below hbw)).at hlt
      simp only [Value.slice.injEq] at he
      obtain ⟨rfl, -, rfl⟩ := he
      have HTK : Hid ((args.take (k + 1)).map vN = (args.take k).map vN ++ [vN (at' args k)]) := Lib.hid (by rw [List.take_add_one, List.getElem?_eq_getElem hlt, at_eq hlt, List.map_append]; rfl)
      go_wp2_with fail
      refine (variable_K _ _).mono ?_
      rintro e w1 ⟨rfl, hb1⟩
      have hB1 : Below W.heap.size W w1 := hbl.trans (hb1.mono hbl.size)
      have hBa : Below w1.heap.size w1 (w1.alloc (.cells #[.int .u8 2, .int .i64 0, .string (at' args k), .slice none 0 0] 35)) := (Below.refl _ _).alloc (Nat.le_refl _) _
      have HK1 := Lib.hid (kids_1 (A := fun j => j = w1.heap.size) (heap_alloc_new w1 (.cells #[.int .u8 2, .int .i64 0, .string (at' args k), .slice none 0 0] 35)) rfl (nd_v hsz))
      have HO1 := Lib.hid ((HOWN.out.below hb1).below hBa)
      have HD : Hid (∀ b, b < (w1.alloc (.cells #[.int .u8 2, .int .i64 0, .string (at' args k), .slice none 0 0] 35)).heap.size → b = w1.heap.size → W.heap.size ≤ b ∧ (Value.slice va k vc).ownBlock ≠ some b) := Lib.hid (fun b _ e => ⟨by have := hbl.size; have := hb1.size; omega, fun e2 => by have := (HOWN.out.lt e2).2; have := hb1.size; omega⟩)
      go_wp2_with (at_builtin; refine wpl_kids rfl (.tmp 14) (.tmp 17) rfl rfl rfl HO1.out HK1.out HD.out (by rw [HLK.out]; simp; omega) (by have := hB1.size; have := hBa.size; omega) ?_; intro a' c' w3 h3 hg3; have H3 := Lib.hid h3; have HG3 : Hid (World.grownBy _ w3 (Value.slice va k vc).ownBlock) := Lib.hid hg3; clear h3 hg3)
      refine ⟨⟨k + 1, by go_num, by omega, ?_, by rw [HTK.out]; have h3 := H3.out; rw [HLK.out] at h3; exact h3⟩, by simp [intOf]; omega⟩
      exact (hB1.trans (hBa.mono hB1.size)).grown HG3.out (Nat.le_trans hB1.size hBa.size) (fun j e => (HOWN.out.lt e).1)
    · obtain rfl : k = args.length := by omega
      have hlt' : ¬ (args.length : Int) < (args.length : Int) := by omega
      have hK : KidsAt (fun j => W.heap.size ≤ j) wr (.slice va args.length vc) (args.map vN) := by
        have h1 := HOWN.out
        rw [List.take_length] at h1
        exact h1.shut (fun _ a => a) (fun j e => (h1.lt e).1) (by unfold maxLen; simp; omega)
      have HK := Lib.hid hK
      have HNO := Lib.hid (node_K 50 p va args.length vc wr)
      have HRB := Lib.hid ((hbl.block w.heap.size hws).trans HN.out)
      clear hK
      go_wp2_with (go_at_call 72; refine HNO.out.mono ?_; rintro e w4 ⟨rfl, hb4⟩; have hr := (hb4.block w.heap.size (Nat.lt_of_lt_of_le hws hbl.size)).trans HRB.out; obtain ⟨r0, r1, r2, r3⟩ := cells4 hr; have f := unfrozen hr; have HR := Lib.hid hr; clear hr)
      (try simp only [Exit.inBlock, Exit.then])
      refine bodyPost_ret (results_cell_row (P := Tryz.prog) rfl _ _ w.heap.size _ _ _ _ rfl (set4 HR.out _ _ _ _) Tryz.underlying35 rfl (by kernel_rfl)) rfl ?_
      have hB4 : Below w.heap.size w w4 := hbw.trans (hb4.mono hbw.size)
      refine ⟨_, rfl, ?_, ((((hB4.setCell (Nat.le_refl _) _).setCell (Nat.le_refl _) _).setCell (Nat.le_refl _) _).setCell (Nat.le_refl _) _)⟩
      refine nd_node ?_ (by omega) hp
      have hK4 := (((keeps_set w4 w.heap.size 0 (.int .u8 50)).same (keeps_set _ w.heap.size 1 (.int .i64 0))).same (keeps_set _ w.heap.size 2 (.string p))).same (keeps_set _ w.heap.size 3 (.slice va args.length vc))
      exact (HK.out.stays (Stays.of_below hb4)).stays ⟨hK4.size, fun b hb a => ⟨hK4.block b hb (fun e => by omega), by omega⟩⟩
theorem invoke_KV (B : Nat) (p : ByteArray) (aa : Option Addr) (an ac : Nat) (args : List ByteArray) (w : World) {A : Nat → Prop} (hB : B ≤ w.heap.size) (ha : StrsAt A w (.slice aa an ac) args) (hp : p.size ≤ maxLen) (hl : args.length ≤ 200000) :
    Calls Tryz.prog 71 #[.string p, .slice aa an ac] w fun e w' => ∃ ka kn kc, e = .returned (.agg #[.int .u8 50, .int .i64 0, .string p, .slice ka kn kc]) ∧ NdAt (Up B) w' (.agg #[.int .u8 50, .int .i64 0, .string p, .slice ka kn kc]) (callN p args) ∧ Below w.heap.size w w' :=
  (invoke_K p _ args A w ha hp hl).mono fun e w' ⟨u, he, hk, hb⟩ => by
    obtain ⟨ka, kc, rfl⟩ := hk.form
    exact ⟨ka, _, kc, he, hk.stays ⟨Nat.le_refl _, fun b _ a => ⟨rfl, Nat.le_trans hB a⟩⟩, hb⟩
theorem invoke_KU (B : Nat) (p : ByteArray) (aa : Option Addr) (an ac : Nat) (args : List ByteArray) (w : World) (hB : B ≤ w.heap.size) (ha : StrsAt (Up B) w (.slice aa an ac) args) (hp : p.size ≤ maxLen) (hl : args.length ≤ 200000) :
    Calls Tryz.prog 71 #[.string p, .slice aa an ac] w fun e w' => ∃ ka kn kc, e = .returned (.agg #[.int .u8 50, .int .i64 0, .string p, .slice ka kn kc]) ∧ NdAt (Up B) w' (.agg #[.int .u8 50, .int .i64 0, .string p, .slice ka kn kc]) (callN p args) ∧ Below w.heap.size w w' := invoke_KV B p aa an ac args w hB ha hp hl
set_option maxRecDepth 100000 in
set_option maxHeartbeats 3200000 in
theorem result_K (g : AFn) (pa ta ba : Option Addr) (pc tc bc : Nat) (w : World) (hs : g.result.size ≤ maxLen) :
    Calls Tryz.prog 70 #[.agg #[.string g.name, .slice pa g.params.length pc, .bool g.list, .slice ta g.temps.length tc, .slice ba g.body.length bc, .string g.result]] w fun e w' => ∃ k ka kn kc, e = .returned (.agg #[.int .u8 k, .int .i64 0, .string (resultN g).name, .slice ka kn kc]) ∧ NdAt (Up w.heap.size) w' (.agg #[.int .u8 k, .int .i64 0, .string (resultN g).name, .slice ka kn kc]) (resultN g) ∧ Below w.heap.size w w' := by
  have hA1 : Below w.heap.size w (w.alloc (.cells #[.string g.name, .slice pa g.params.length pc, .bool g.list, .slice ta g.temps.length tc, .slice ba g.body.length bc, .string g.result] 31)) := (Below.refl _ _).alloc (Nat.le_refl _) _
  have hA : Below w.heap.size w ((w.alloc (.cells #[.string g.name, .slice pa g.params.length pc, .bool g.list, .slice ta g.temps.length tc, .slice ba g.body.length bc, .string g.result] 31)).alloc (.cells #[.int .u8 0, .int .i64 0, .string ⟨#[]⟩, .slice none 0 0] 35)) := hA1.alloc hA1.size _
  have HN := Lib.hid (at_new w (.cells #[.string g.name, .slice pa g.params.length pc, .bool g.list, .slice ta g.temps.length tc, .slice ba g.body.length bc, .string g.result] 31) (.cells #[.int .u8 0, .int .i64 0, .string ⟨#[]⟩, .slice none 0 0] 35))
  have HX := Lib.hid (at_old w (.cells #[.string g.name, .slice pa g.params.length pc, .bool g.list, .slice ta g.temps.length tc, .slice ba g.body.length bc, .string g.result] 31) (.cells #[.int .u8 0, .int .i64 0, .string ⟨#[]⟩, .slice none 0 0] 35))
  have hsz : ((w.alloc (.cells #[.string g.name, .slice pa g.params.length pc, .bool g.list, .slice ta g.temps.length tc, .slice ba g.body.length bc, .string g.result] 31)).alloc (.cells #[.int .u8 0, .int .i64 0, .string ⟨#[]⟩, .slice none 0 0] 35)).heap.size = w.heap.size + 1 + 1 := by simp
  have HSZ := Lib.hid hsz
  clear hA1 hsz
  cases hl : g.list with
  | true =>
    have HR : Hid (resultN g = callN ⟨#[108, 99, 111, 112, 121]⟩ [g.result, ⟨#[111, 117, 116]⟩]) := Lib.hid (by rw [resultN, hl]; rfl)
    have HRN : Hid ((resultN g).name = ⟨#[108, 99, 111, 112, 121]⟩) := Lib.hid (by rw [HR.out]; rfl)
    rw [hl] at hA HN HX HSZ
    clear hl
    go_enter Tryz.func70, Tryz.ntmps70
    go_wp2_with fail
    generalize ((w.alloc (.cells #[.string g.name, .slice pa g.params.length pc, .bool true, .slice ta g.temps.length tc, .slice ba g.body.length bc, .string g.result] 31)).alloc (.cells #[.int .u8 0, .int .i64 0, .string ⟨#[]⟩, .slice none 0 0] 35)) = W at *
    have HIV := Lib.hid (invoke_KV (w.heap.size + 1 + 1) ⟨#[108, 99, 111, 112, 121]⟩ (some ⟨w.heap.size + 1 + 1, 0, none⟩) 2 2 [g.result, ⟨#[111, 117, 116]⟩] (W.alloc (.cells #[.string g.result, .string ⟨#[111, 117, 116]⟩] 9)) (by rw [World.size_alloc, HSZ.out]; omega) (strs_2 (A := Any) (blk_new HSZ.out.symm) trivial hs (by unfold maxLen; decide)) (by unfold maxLen; decide) (by simp))
    refine HIV.out.mono ?_
    rintro e w1 ⟨ka, kn, kc, rfl, hk1, hb1⟩
    have hr := blk_below hb1 (blk_alloc HN.out)
    obtain ⟨r0, r1, r2, r3⟩ := cells4 hr
    have f := unfrozen hr
    have HRB := Lib.hid hr
    have HK1 := Lib.hid hk1
    clear hr hk1 HIV
    go_wp2
    (try simp only [Exit.inBlock, Exit.then])
    refine bodyPost_ret (results_cell_row (P := Tryz.prog) rfl _ _ (w.heap.size + 1) _ _ _ _ rfl (set4 HRB.out _ _ _ _) Tryz.underlying35 rfl (by kernel_rfl)) rfl ?_
    rw [HRN.out]
    have hAa := bel_alloc (x := .cells #[.string g.result, .string ⟨#[111, 117, 116]⟩] 9) hA
    have hB1 : Below w.heap.size w w1 := hAa.trans (hb1.mono hAa.size)
    have hK4 := (((keeps_set w1 (w.heap.size + 1) 0 (.int .u8 50)).same (keeps_set _ (w.heap.size + 1) 1 (.int .i64 0))).same (keeps_set _ (w.heap.size + 1) 2 (.string ⟨#[108, 99, 111, 112, 121]⟩))).same (keeps_set _ (w.heap.size + 1) 3 (.slice ka kn kc))
    refine ⟨_, _, _, _, rfl, ?_, bel_sets4 hB1 (by omega)⟩
    rw [HR.out]
    exact HK1.out.stays ⟨hK4.size, fun b hb a => ⟨hK4.block b hb (fun e => by have : w.heap.size + 1 + 1 ≤ b := a; omega), by have : w.heap.size + 1 + 1 ≤ b := a; unfold Up; omega⟩⟩
  | false =>
    have HR : Hid (resultN g = nodeN 42 ⟨#[]⟩ [vN ⟨#[111, 117, 116]⟩, vN g.result]) := Lib.hid (by rw [resultN, hl]; rfl)
    have HRN : Hid ((resultN g).name = ⟨#[]⟩) := Lib.hid (by rw [HR.out]; rfl)
    rw [hl] at hA HN HX HSZ
    clear hl
    go_enter Tryz.func70, Tryz.ntmps70
    go_wp2
    generalize ((w.alloc (.cells #[.string g.name, .slice pa g.params.length pc, .bool false, .slice ta g.temps.length tc, .slice ba g.body.length bc, .string g.result] 31)).alloc (.cells #[.int .u8 0, .int .i64 0, .string ⟨#[]⟩, .slice none 0 0] 35)) = W at *
    go_region_held3 (fun w1 => w1.cell? ⟨w.heap.size, 0, none⟩ = some (.string g.name) ∧ w1.cell? ⟨w.heap.size, 1, none⟩ = some (.slice pa g.params.length pc) ∧ w1.cell? ⟨w.heap.size, 2, none⟩ = some (.bool false) ∧ w1.cell? ⟨w.heap.size, 3, none⟩ = some (.slice ta g.temps.length tc) ∧ w1.cell? ⟨w.heap.size, 4, none⟩ = some (.slice ba g.body.length bc) ∧ w1.cell? ⟨w.heap.size, 5, none⟩ = some (.string g.result))
      ((refine cells6 (e := 31) ?_; (repeat (with_reducible first | exact HX.out | refine blk_drew ?_ | refine blk_alloc ?_ | (apply blk_below; focus assumption) | (refine blk_sets4 ?_ (Nat.ne_of_lt (Nat.lt_succ_self _)))))))
      (first
      | (go_at_call 73; refine (variable_K _ _).mono ?_; rintro e w3 ⟨rfl, hb3⟩)
      | (go_at_call 72; refine (node_K _ _ _ _ _ _).mono ?_; rintro e w4 ⟨rfl, hb4⟩; have hr : w4.heap[w.heap.size + 1]? = some (.cells #[.int .u8 0, .int .i64 0, .string ⟨#[]⟩, .slice none 0 0] 35) := (by (repeat (with_reducible first | exact HN.out | refine blk_drew ?_ | refine blk_alloc ?_ | (apply blk_below; focus assumption)))); obtain ⟨r0, r1, r2, r3⟩ := cells4 hr; have f := unfrozen hr; have HRB := Lib.hid hr; clear hr))
    all_goals
      go_wp2
      (try simp only [Exit.inBlock, Exit.then])
      refine bodyPost_ret (results_cell_row (P := Tryz.prog) rfl _ _ (w.heap.size + 1) _ _ _ _ rfl (set4 HRB.out _ _ _ _) Tryz.underlying35 rfl (by kernel_rfl)) rfl ?_
      rw [HRN.out]
      have hB4 : Below w.heap.size w w4 := by (repeat (with_reducible first | exact hA | refine bel_drew ?_ | refine bel_alloc ?_ | (apply bel_step; focus assumption)))
      have hW3 : Below W.heap.size W w3 := by (repeat (with_reducible first | exact Below.refl _ _ | refine bel_drew ?_ | refine bel_alloc ?_ | (apply bel_step; focus assumption)))
      have hz3 := hW3.size
      have hzz := HSZ.out
      refine ⟨_, _, _, _, rfl, ?_, bel_sets4 hB4 (by omega)⟩
      rw [HR.out]
      refine nd_node (kids_2 (blk_sets4 (g := w.heap.size + 1) (blk_below hb4 (heap_alloc_new w3 _)) ?_) ?_ (nd_v (by unfold maxLen; decide)) (nd_v hs)) (by omega) (Nat.zero_le _)
      · omega
      · unfold Up; omega
set_option maxRecDepth 100000 in
set_option maxHeartbeats 6400000 in
theorem locals_K (ts : List Par) (pa : Option Addr) (pc : Nat) (v : Value) (n : Nd) (A : Nat → Prop) (w : World) (hp : ParsAt Any w (.slice pa ts.length pc) ts) (hv : NdAt A w v n) (hl : ts.length ≤ 100000) :
    Calls Tryz.prog 75 #[.slice pa ts.length pc, v] w fun e w' => ∃ u, e = .returned u ∧ NdAt (NewB A w) w' u (localsN ts n) ∧ Below w.heap.size w w' := by
  obtain ⟨hok, hlen, ka, kc, rfl, hk⟩ := hv.open
  have hA1 : Below w.heap.size w (w.alloc (.cells #[.int .u8 n.kind, .int .i64 n.num, .string n.name, .slice ka n.kids.length kc] 35)) := (Below.refl _ _).alloc (Nat.le_refl _) _
  have hA : Below w.heap.size w ((w.alloc (.cells #[.int .u8 n.kind, .int .i64 n.num, .string n.name, .slice ka n.kids.length kc] 35)).alloc (.cells #[.int .u8 0, .int .i64 0, .string ⟨#[]⟩, .slice none 0 0] 35)) := hA1.alloc hA1.size _
  have HR0 : Hid (LocRel ts n A w ((ts.length : Int) - 1) ((w.alloc (.cells #[.int .u8 n.kind, .int .i64 n.num, .string n.name, .slice ka n.kids.length kc] 35)).alloc (.cells #[.int .u8 0, .int .i64 0, .string ⟨#[]⟩, .slice none 0 0] 35))) := Lib.hid (by
    refine ⟨_, _, _, _, _, _, at_old w _ _, at_new w _ _, ?_, hA⟩
    rw [show ((ts.length : Int) - 1 + 1).toNat = ts.length by omega, List.drop_length]
    exact hv.stays ⟨hA.size, fun b hb a => ⟨hA.block b hb, .inl ⟨a, hb⟩⟩⟩)
  have HP := Lib.hid hp
  clear hv hk hp hA1 hok hlen
  go_enter Tryz.func75, Tryz.ntmps75
  go_wp2
  generalize ((w.alloc (.cells #[.int .u8 n.kind, .int .i64 n.num, .string n.name, .slice ka n.kids.length kc] 35)).alloc (.cells #[.int .u8 0, .int .i64 0, .string ⟨#[]⟩, .slice none 0 0] 35)) = W at *
  go_loopw [5] (fun i wr => ∃ j : Int, i = .int .i64 j ∧ -1 ≤ j ∧ j < ts.length ∧ LocRel ts n A w j wr) (fun i _ => (intOf i + 1).toNat)
  case atStart => exact ⟨_, rfl, by omega, by omega, HR0.out⟩
  case round =>
    obtain ⟨j, rfl, hj0, hj1, k0, m0, s0, xa, xn, xc, hbox, hzero, hnd, hbl⟩ := hrel
    have HBOX := Lib.hid hbox
    have HZERO := Lib.hid hzero
    have HND := Lib.hid hnd
    clear hbox hzero hnd
    by_cases hpos : 0 ≤ j
    · obtain ⟨q, rfl⟩ := Int.eq_ofNat_of_zero_le hpos
      have hq : q < ts.length := by omega
      have HNQ : Hid (((q : Int) + 1).toNat = q + 1) := Lib.hid (by omega)
      obtain ⟨b, off, cap, he, hb, _, _, c0, c1, hsz⟩ := (HP.out.stays (Stays.of_below hbl)).at hq
      simp only [Value.slice.injEq] at he
      obtain ⟨rfl, -, rfl⟩ := he
      have HS : Hid (∀ w1, Below wr.heap.size wr w1 → w1.cell? ⟨b, off + q * 2, none⟩ = some (.string (at' ts q).name) ∧ w1.cell? ⟨w.heap.size, 0, none⟩ = some (.int .u8 k0) ∧ w1.cell? ⟨w.heap.size, 1, none⟩ = some (.int .i64 m0) ∧ w1.cell? ⟨w.heap.size, 2, none⟩ = some (.string s0) ∧ w1.cell? ⟨w.heap.size, 3, none⟩ = some (.slice xa xn xc) ∧ b < w1.heap.size ∧ w.heap.size < w1.heap.size ∧ ∀ j, w1.frozen? ⟨w.heap.size, j, none⟩ = false) := Lib.hid (fun w1 h1 => by
        have hr := blk_below h1 HBOX.out
        obtain ⟨r0, r1, r2, r3⟩ := cells4 hr
        exact ⟨(h1.cell (p := ⟨b, off + q * 2, none⟩) hb).trans c0, r0, r1, r2, r3, Nat.lt_of_lt_of_le hb h1.size, by rw [Array.getElem?_eq_some_iff] at hr; exact hr.1, unfrozen hr⟩)
      obtain ⟨s1, s2, s3, s4, s5, -, s7, s6⟩ := HS.out wr (Below.refl _ _)
      have i0 : (0 : Int) ≤ (q : Int) := by omega
      have i1 : (q : Int) < (ts.length : Int) := by omega
      cases hlist : (at' ts q).list with
      | true =>
        rw [hlist] at c1
        have HL := Lib.hid hlist
        clear hlist
        go_wp2
        go_region_law (first
          | (go_simp; go_at_call 72; refine (node_K _ _ _ _ _ _).mono ?_; rintro e w4 ⟨rfl, hb4⟩; obtain ⟨t1, t2, t3, t4, t5, t7, t8, t6⟩ := HS.out w4 (by (repeat (with_reducible first | exact Below.refl _ _ | refine bel_drew ?_ | refine bel_alloc ?_ | (apply bel_step; focus assumption)))))
          | (go_simp; go_at_call 76; refine (block_K _ _ _ _).mono ?_; rintro e w8 ⟨rfl, hb8⟩; obtain ⟨t1, t2, t3, t4, t5, t7, t8, t6⟩ := HS.out w8 (by (repeat (with_reducible first | exact Below.refl _ _ | refine bel_drew ?_ | refine bel_alloc ?_ | (apply bel_step; focus assumption))))))
        all_goals
          go_wp2
          refine ⟨⟨(q : Int) - 1, rfl, by omega, by omega, loc_step (x := nodeN 55 (at' ts q).name [(ts.drop (q + 1)).foldr locN n]) hq HBOX.out HZERO.out (by rw [locN, HL.out]; rfl) ?_ hbl (by (repeat (with_reducible first | exact Below.refl _ _ | refine bel_drew ?_ | refine bel_alloc ?_ | (apply bel_step; focus assumption))))⟩, by first | (simp [intOf]; done) | (simp [intOf]; omega)⟩
          exact kidsL1 (by (repeat (with_reducible first | (refine nb_new ?_ ?_; rotate_left; (focus (simp; done)); (focus ((repeat (with_reducible first | exact Below.refl _ _ | refine bel_drew ?_ | refine bel_alloc ?_ | (apply bel_step; focus assumption))); done))) | refine nb_drew ?_ | refine nb_alloc ?_ | (apply nb_below; focus assumption)))) HZERO.out (nd_node (kidsL1 (by (repeat (with_reducible first | (refine nb_new ?_ ?_; rotate_left; (focus (simp; done)); (focus ((repeat (with_reducible first | exact Below.refl _ _ | refine bel_drew ?_ | refine bel_alloc ?_ | (apply bel_step; focus assumption))); done))) | refine nb_drew ?_ | refine nb_alloc ?_ | (apply nb_below; focus assumption)))) HZERO.out (ndL HND.out HNQ.out (by (repeat (with_reducible first | exact Below.refl _ _ | refine bel_drew ?_ | refine bel_alloc ?_ | (apply bel_step; focus assumption)))))) (by omega) hsz)
      | false =>
        rw [hlist] at c1
        have HL := Lib.hid hlist
        clear hlist
        go_wp2
        go_region_law (first
          | (go_simp; go_at_call 108; refine (number_K _ _).mono ?_; rintro e w3 ⟨rfl, hb3⟩; obtain ⟨t1, t2, t3, t4, t5, t7, t8, t6⟩ := HS.out w3 (by (repeat (with_reducible first | exact Below.refl _ _ | refine bel_drew ?_ | refine bel_alloc ?_ | (apply bel_step; focus assumption)))))
          | (go_simp; go_at_call 72; refine (node_K _ _ _ _ _ _).mono ?_; rintro e w4 ⟨rfl, hb4⟩; obtain ⟨t1, t2, t3, t4, t5, t7, t8, t6⟩ := HS.out w4 (by (repeat (with_reducible first | exact Below.refl _ _ | refine bel_drew ?_ | refine bel_alloc ?_ | (apply bel_step; focus assumption)))))
          | (go_simp; go_at_call 76; refine (block_K _ _ _ _).mono ?_; rintro e w8 ⟨rfl, hb8⟩; obtain ⟨t1, t2, t3, t4, t5, t7, t8, t6⟩ := HS.out w8 (by (repeat (with_reducible first | exact Below.refl _ _ | refine bel_drew ?_ | refine bel_alloc ?_ | (apply bel_step; focus assumption))))))
        all_goals
          go_wp2
          refine ⟨⟨(q : Int) - 1, rfl, by omega, by omega, loc_step (x := nodeN 54 (at' ts q).name [numN 0, (ts.drop (q + 1)).foldr locN n, numN 0]) hq HBOX.out HZERO.out (by rw [locN, HL.out]; rfl) ?_ hbl (by (repeat (with_reducible first | exact Below.refl _ _ | refine bel_drew ?_ | refine bel_alloc ?_ | (apply bel_step; focus assumption))))⟩, by first | (simp [intOf]; done) | (simp [intOf]; omega)⟩
          exact kidsL1 (by (repeat (with_reducible first | (refine nb_new ?_ ?_; rotate_left; (focus (simp; done)); (focus ((repeat (with_reducible first | exact Below.refl _ _ | refine bel_drew ?_ | refine bel_alloc ?_ | (apply bel_step; focus assumption))); done))) | refine nb_drew ?_ | refine nb_alloc ?_ | (apply nb_below; focus assumption)))) HZERO.out (nd_node (kidsL3 (by (repeat (with_reducible first | (refine nb_new ?_ ?_; rotate_left; (focus (simp; done)); (focus ((repeat (with_reducible first | exact Below.refl _ _ | refine bel_drew ?_ | refine bel_alloc ?_ | (apply bel_step; focus assumption))); done))) | refine nb_drew ?_ | refine nb_alloc ?_ | (apply nb_below; focus assumption)))) HZERO.out (nd_num (by unfold In64; omega)) (ndL HND.out HNQ.out (by (repeat (with_reducible first | exact Below.refl _ _ | refine bel_drew ?_ | refine bel_alloc ?_ | (apply bel_step; focus assumption))))) (nd_num (by unfold In64; omega))) (by omega) hsz)
    · obtain rfl : j = -1 := by omega
      have hr := HBOX.out
      obtain ⟨r0, r1, r2, r3⟩ := cells4 hr
      have hz := HZERO.out
      obtain ⟨z0, z1, z2, z3⟩ := cells4 hz
      have zf := unfrozen hz
      clear hr hz
      go_wp2
      (try simp only [Exit.inBlock, Exit.then])
      refine bodyPost_ret (results_cell_row (P := Tryz.prog) rfl _ _ (w.heap.size + 1) _ _ _ _ rfl (set4 HZERO.out _ _ _ _) Tryz.underlying35 rfl (by kernel_rfl)) rfl ?_
      have hK4 := (((keeps_set wr (w.heap.size + 1) 0 (.int .u8 k0)).same (keeps_set _ (w.heap.size + 1) 1 (.int .i64 m0))).same (keeps_set _ (w.heap.size + 1) 2 (.string s0))).same (keeps_set _ (w.heap.size + 1) 3 (.slice xa xn xc))
      refine ⟨_, rfl, ?_, bel_sets4 hbl (by omega)⟩
      have hfin := HND.out
      rw [show ((-1 : Int) + 1).toNat = 0 by omega, List.drop_zero] at hfin
      refine hfin.stays ⟨hK4.size, fun b hb a => ⟨hK4.block b hb (fun e => ?_), ?_⟩⟩
      · rcases a with ⟨_, a⟩ | a <;> omega
      · rcases a with ⟨a, _⟩ | a
        · exact .inl a
        · exact .inr (by omega)
theorem locals_KB (ts : List Par) (pa : Option Addr) (pc : Nat) (ka : Option Addr) (kn kc : Nat) (l : List Nd) (A : Nat → Prop) (w : World) (hp : ParsAt Any w (.slice pa ts.length pc) ts) (hv : NdAt A w (.agg #[.int .u8 57, .int .i64 0, .string ⟨#[]⟩, .slice ka kn kc]) (blockN l)) (hl : ts.length ≤ 100000) :
    Calls Tryz.prog 75 #[.slice pa ts.length pc, .agg #[.int .u8 57, .int .i64 0, .string ⟨#[]⟩, .slice ka kn kc]] w fun e w' => ∃ a n c, e = .returned (.agg #[.int .u8 57, .int .i64 0, .string ⟨#[]⟩, .slice a n c]) ∧ NdAt (NewB A w) w' (.agg #[.int .u8 57, .int .i64 0, .string ⟨#[]⟩, .slice a n c]) (localsN ts (blockN l)) ∧ Below w.heap.size w w' :=
  (locals_K ts pa pc _ (blockN l) A w hp hv hl).mono fun e w' ⟨u, he, hn, hb⟩ => by
    obtain ⟨l', hl'⟩ := locals_block ts l
    rw [hl'] at hn ⊢
    obtain ⟨a, c, rfl⟩ := hn.form
    exact ⟨a, _, c, he, hn, hb⟩
end Go.Proofs.YtehmmokkjojggabGreatDoor
