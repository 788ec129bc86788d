/- Contracts and plain lemmas for the law (CgQ, CcN, CgR, CgS, LawB, LawC, LawE, LawD, LawF, LawG): no statement of the seat is proved here. -/
import Derived.Test.YtehmmokkjojggabGreatDoorZa11
import Derived.Lib.AppendZerosOnto
import Derived.WalkSpells
/- Walks of package cleangen: inverse, at an if and at a call. -/
namespace Go.Proofs.YtehmmokkjojggabGreatDoor
set_option linter.unusedVariables false
open Go.RowKit

/-- four kids, in every later world -/
theorem kids4_open {A : Nat → Prop} {w : World} {ka : Option Addr} {kc : Nat} {x0 x1 x2 x3 : Nd} (h : KidsAt A w (.slice ka 4 kc) [x0, x1, x2, x3]) :
    ∃ b off a0 c0 a1 c1 a2 c2 a3 c3, ka = some ⟨b, off, none⟩ ∧ 4 ≤ kc ∧
      NdAt A w (.agg #[.int .u8 x0.kind, .int .i64 x0.num, .string x0.name, .slice a0 x0.kids.length c0]) x0 ∧ NdAt A w (.agg #[.int .u8 x1.kind, .int .i64 x1.num, .string x1.name, .slice a1 x1.kids.length c1]) x1 ∧
      NdAt A w (.agg #[.int .u8 x2.kind, .int .i64 x2.num, .string x2.name, .slice a2 x2.kids.length c2]) x2 ∧ NdAt A w (.agg #[.int .u8 x3.kind, .int .i64 x3.num, .string x3.name, .slice a3 x3.kids.length c3]) x3 ∧
      ∀ w1, Below w.heap.size w w1 →
        w1.cell? ⟨b, off, none⟩ = some (.int .u8 x0.kind) ∧ w1.cell? ⟨b, off + 1, none⟩ = some (.int .i64 x0.num) ∧ w1.cell? ⟨b, off + 2, none⟩ = some (.string x0.name) ∧ w1.cell? ⟨b, off + 3, none⟩ = some (.slice a0 x0.kids.length c0) ∧
        w1.cell? ⟨b, off + 4, none⟩ = some (.int .u8 x1.kind) ∧ w1.cell? ⟨b, off + 4 + 1, none⟩ = some (.int .i64 x1.num) ∧ w1.cell? ⟨b, off + 4 + 2, none⟩ = some (.string x1.name) ∧ w1.cell? ⟨b, off + 4 + 3, none⟩ = some (.slice a1 x1.kids.length c1) ∧
        w1.cell? ⟨b, off + 8, none⟩ = some (.int .u8 x2.kind) ∧ w1.cell? ⟨b, off + 8 + 1, none⟩ = some (.int .i64 x2.num) ∧ w1.cell? ⟨b, off + 8 + 2, none⟩ = some (.string x2.name) ∧ w1.cell? ⟨b, off + 8 + 3, none⟩ = some (.slice a2 x2.kids.length c2) ∧
        w1.cell? ⟨b, off + 12, none⟩ = some (.int .u8 x3.kind) ∧ w1.cell? ⟨b, off + 12 + 1, none⟩ = some (.int .i64 x3.num) ∧ w1.cell? ⟨b, off + 12 + 2, none⟩ = some (.string x3.name) ∧ w1.cell? ⟨b, off + 12 + 3, none⟩ = some (.slice a3 x3.kids.length c3) := by
  obtain ⟨b, off, cap, a0, c0, he, hb, hcap, _, p0, p1, p2, p3, n0⟩ := h.at (j := 0) (by simp)
  simp only [Value.slice.injEq] at he
  obtain ⟨rfl, -, rfl⟩ := he
  obtain ⟨b1, off1, cap1, a1, c1, he, hb1, _, _, q0, q1, q2, q3, n1⟩ := h.at (j := 1) (by simp)
  simp only [Value.slice.injEq, Option.some.injEq, Addr.mk.injEq] at he
  obtain ⟨⟨rfl, rfl, -⟩, -, -⟩ := he
  obtain ⟨b2, off2, cap2, a2, c2, he, hb2, _, _, r0, r1, r2, r3, n2⟩ := h.at (j := 2) (by simp)
  simp only [Value.slice.injEq, Option.some.injEq, Addr.mk.injEq] at he
  obtain ⟨⟨rfl, rfl, -⟩, -, -⟩ := he
  obtain ⟨b3, off3, cap3, a3, c3, he, hb3, _, _, s0, s1, s2, s3, n3⟩ := h.at (j := 3) (by simp)
  simp only [Value.slice.injEq, Option.some.injEq, Addr.mk.injEq] at he
  obtain ⟨⟨rfl, rfl, -⟩, -, -⟩ := he
  simp only [Nat.zero_mul, Nat.add_zero, Nat.reduceMul] at p0 p1 p2 p3 q0 q1 q2 q3 r0 r1 r2 r3 s0 s1 s2 s3
  exact ⟨b, off, a0, c0, a1, c1, a2, c2, a3, c3, rfl, hcap, n0, n1, n2, n3, fun w1 hw => ⟨(hw.cell hb).trans p0, (hw.cell hb).trans p1, (hw.cell hb).trans p2, (hw.cell hb).trans p3, (hw.cell hb).trans q0, (hw.cell hb).trans q1, (hw.cell hb).trans q2, (hw.cell hb).trans q3, (hw.cell hb).trans r0, (hw.cell hb).trans r1, (hw.cell hb).trans r2, (hw.cell hb).trans r3, (hw.cell hb).trans s0, (hw.cell hb).trans s1, (hw.cell hb).trans s2, (hw.cell hb).trans s3⟩⟩

theorem below_sets4 {B : Nat} {w0 w : World} {g : Nat} {x0 x1 x2 x3 : Value} (h : Below B w0 w) (hg : B ≤ g) :
    Below B w0 ((((w.setCell ⟨g, 0, none⟩ x0).setCell ⟨g, 1, none⟩ x1).setCell ⟨g, 2, none⟩ x2).setCell ⟨g, 3, none⟩ x3) := (((h.setCell hg _).setCell hg _).setCell hg _).setCell hg _
set_option maxRecDepth 100000 in
set_option maxHeartbeats 3200000 in
theorem inverse_if (a b1 b2 d R1 R2 : Nd) (H1 : Hid (InvOk b1 R1)) (H2 : Hid (InvOk b2 R2)) : InvOk (nodeN 52 ⟨#[]⟩ [a, b1, b2, d]) (nodeN 52 ⟨#[]⟩ [d, R1, R2, a]) := by
  intro v A w hv
  obtain ⟨_, hlen, ka, kc, he, hk⟩ := hv.open
  have he' : v = .agg #[.int .u8 52, .int .i64 0, .string ⟨#[]⟩, .slice ka 4 kc] := he
  subst he'
  obtain ⟨b, off, a0, c0, a1, c1, a2, c2, a3, c3, rfl, hkc, n0, n1, n2, n3, hcs⟩ := kids4_open hk
  have hA1 : Below w.heap.size w (w.alloc (.cells #[.int .u8 52, .int .i64 0, .string ⟨#[]⟩, .slice (some ⟨b, off, none⟩) 4 kc] 35)) := (Below.refl _ _).alloc (Nat.le_refl _) _
  have hA : Below w.heap.size w ((w.alloc (.cells #[.int .u8 52, .int .i64 0, .string ⟨#[]⟩, .slice (some ⟨b, off, none⟩) 4 kc] 35)).alloc (.cells #[.int .u8 0, .int .i64 0, .string ⟨#[]⟩, .slice none 0 0] 35)) := hA1.alloc hA1.size _
  have HX := Lib.hid (at_old w (.cells #[.int .u8 52, .int .i64 0, .string ⟨#[]⟩, .slice (some ⟨b, off, none⟩) 4 kc] 35) (.cells #[.int .u8 0, .int .i64 0, .string ⟨#[]⟩, .slice none 0 0] 35))
  have HZ := Lib.hid (at_new w (.cells #[.int .u8 52, .int .i64 0, .string ⟨#[]⟩, .slice (some ⟨b, off, none⟩) 4 kc] 35) (.cells #[.int .u8 0, .int .i64 0, .string ⟨#[]⟩, .slice none 0 0] 35))
  have HSZ : Hid (((w.alloc (.cells #[.int .u8 52, .int .i64 0, .string ⟨#[]⟩, .slice (some ⟨b, off, none⟩) 4 kc] 35)).alloc (.cells #[.int .u8 0, .int .i64 0, .string ⟨#[]⟩, .slice none 0 0] 35)).heap.size = w.heap.size + 1 + 1) := Lib.hid (by simp)
  have HI1 : Hid (∀ (v : Value) (A : Nat → Prop) (w : World), NdAt A w v b1 → Calls Tryz.prog 46 #[v] w (InvPost R1 A w)) := Lib.hid H1.out
  have HI2 : Hid (∀ (v : Value) (A : Nat → Prop) (w : World), NdAt A w v b2 → Calls Tryz.prog 46 #[v] w (InvPost R2 A w)) := Lib.hid H2.out
  have HCS := Lib.hid hcs
  have hst : ∀ w1, Below w.heap.size w w1 → Stays A (LD A w) w w1 := fun w1 hw => ⟨hw.size, fun b hb a => ⟨hw.block b hb, .inl ⟨a, hb⟩⟩⟩
  have HN0 : Hid (∀ w1, Below w.heap.size w w1 → NdAt (LD A w) w1 (.agg #[.int .u8 a.kind, .int .i64 a.num, .string a.name, .slice a0 a.kids.length c0]) a) := Lib.hid (fun w1 hw => n0.stays (hst w1 hw))
  have HN1 : Hid (∀ w1, Below w.heap.size w w1 → NdAt (LD A w) w1 (.agg #[.int .u8 b1.kind, .int .i64 b1.num, .string b1.name, .slice a1 b1.kids.length c1]) b1) := Lib.hid (fun w1 hw => n1.stays (hst w1 hw))
  have HN2 : Hid (∀ w1, Below w.heap.size w w1 → NdAt (LD A w) w1 (.agg #[.int .u8 b2.kind, .int .i64 b2.num, .string b2.name, .slice a2 b2.kids.length c2]) b2) := Lib.hid (fun w1 hw => n2.stays (hst w1 hw))
  have HN3 : Hid (∀ w1, Below w.heap.size w w1 → NdAt (LD A w) w1 (.agg #[.int .u8 d.kind, .int .i64 d.num, .string d.name, .slice a3 d.kids.length c3]) d) := Lib.hid (fun w1 hw => n3.stays (hst w1 hw))
  clear hv hk hA1 hcs n0 n1 n2 n3 he hlen hst
  go_enter Tryz.func46, Tryz.ntmps46
  go_wp2
  generalize ((w.alloc (.cells #[.int .u8 52, .int .i64 0, .string ⟨#[]⟩, .slice (some ⟨b, off, none⟩) 4 kc] 35)).alloc (.cells #[.int .u8 0, .int .i64 0, .string ⟨#[]⟩, .slice none 0 0] 35)) = W at *
  have HS0 : Hid (∀ w1, Below (w.heap.size + 1) W w1 → (w1.cell? ⟨w.heap.size, 3, none⟩ = some (.slice (some ⟨b, off, none⟩) 4 kc)) ∧
        w1.cell? ⟨b, off, none⟩ = some (.int .u8 a.kind) ∧ w1.cell? ⟨b, off + 1, none⟩ = some (.int .i64 a.num) ∧ w1.cell? ⟨b, off + 2, none⟩ = some (.string a.name) ∧ w1.cell? ⟨b, off + 3, none⟩ = some (.slice a0 a.kids.length c0) ∧
        w1.cell? ⟨b, off + 4, none⟩ = some (.int .u8 b1.kind) ∧ w1.cell? ⟨b, off + 4 + 1, none⟩ = some (.int .i64 b1.num) ∧ w1.cell? ⟨b, off + 4 + 2, none⟩ = some (.string b1.name) ∧ w1.cell? ⟨b, off + 4 + 3, none⟩ = some (.slice a1 b1.kids.length c1) ∧
        w1.cell? ⟨b, off + 8, none⟩ = some (.int .u8 b2.kind) ∧ w1.cell? ⟨b, off + 8 + 1, none⟩ = some (.int .i64 b2.num) ∧ w1.cell? ⟨b, off + 8 + 2, none⟩ = some (.string b2.name) ∧ w1.cell? ⟨b, off + 8 + 3, none⟩ = some (.slice a2 b2.kids.length c2) ∧
        w1.cell? ⟨b, off + 12, none⟩ = some (.int .u8 d.kind) ∧ w1.cell? ⟨b, off + 12 + 1, none⟩ = some (.int .i64 d.num) ∧ w1.cell? ⟨b, off + 12 + 2, none⟩ = some (.string d.name) ∧ w1.cell? ⟨b, off + 12 + 3, none⟩ = some (.slice a3 d.kids.length c3)) := Lib.hid (fun w1 hw => ⟨(cells4 ((hw.block w.heap.size (by omega)).trans HX.out)).2.2.2, HCS.out w1 (hA.trans (hw.mono (by omega)))⟩)
  have hWS : w.heap.size + 1 ≤ W.heap.size := by have := HSZ.out; omega
  go_region_held3 (fun w1 => (w1.cell? ⟨w.heap.size, 3, none⟩ = some (.slice (some ⟨b, off, none⟩) 4 kc)) ∧
        w1.cell? ⟨b, off, none⟩ = some (.int .u8 a.kind) ∧ w1.cell? ⟨b, off + 1, none⟩ = some (.int .i64 a.num) ∧ w1.cell? ⟨b, off + 2, none⟩ = some (.string a.name) ∧ w1.cell? ⟨b, off + 3, none⟩ = some (.slice a0 a.kids.length c0) ∧
        w1.cell? ⟨b, off + 4, none⟩ = some (.int .u8 b1.kind) ∧ w1.cell? ⟨b, off + 4 + 1, none⟩ = some (.int .i64 b1.num) ∧ w1.cell? ⟨b, off + 4 + 2, none⟩ = some (.string b1.name) ∧ w1.cell? ⟨b, off + 4 + 3, none⟩ = some (.slice a1 b1.kids.length c1) ∧
        w1.cell? ⟨b, off + 8, none⟩ = some (.int .u8 b2.kind) ∧ w1.cell? ⟨b, off + 8 + 1, none⟩ = some (.int .i64 b2.num) ∧ w1.cell? ⟨b, off + 8 + 2, none⟩ = some (.string b2.name) ∧ w1.cell? ⟨b, off + 8 + 3, none⟩ = some (.slice a2 b2.kids.length c2) ∧
        w1.cell? ⟨b, off + 12, none⟩ = some (.int .u8 d.kind) ∧ w1.cell? ⟨b, off + 12 + 1, none⟩ = some (.int .i64 d.num) ∧ w1.cell? ⟨b, off + 12 + 2, none⟩ = some (.string d.name) ∧ w1.cell? ⟨b, off + 12 + 3, none⟩ = some (.slice a3 d.kids.length c3))
    (first | with_reducible exact HS0.out _ (below_sets4 (Below.mono (by (repeat (with_reducible first | exact Below.refl _ _ | refine bel_drew ?_ | refine bel_alloc ?_ | (apply bel_step; focus assumption)))) hWS) (Nat.le_refl _)) | with_reducible exact HS0.out _ (Below.mono (by (repeat (with_reducible first | exact Below.refl _ _ | refine bel_drew ?_ | refine bel_alloc ?_ | (apply bel_step; focus assumption)))) hWS))
    (first
    | (go_at_call 46; (with_reducible refine (HI1.out (.agg #[.int .u8 b1.kind, .int .i64 b1.num, .string b1.name, .slice a1 b1.kids.length c1]) (LD A w) _ (HN1.out _ (by (repeat (with_reducible first | exact hA | exact Below.refl _ _ | refine bel_drew ?_ | refine bel_alloc ?_ | (apply bel_step; focus assumption)))))).mono ?_); rintro e w3 ⟨k3, m3, rfl, hk3, hb3⟩)
    | (go_at_call 46; (with_reducible refine (HI2.out (.agg #[.int .u8 b2.kind, .int .i64 b2.num, .string b2.name, .slice a2 b2.kids.length c2]) (LD A w) _ (HN2.out _ (by (repeat (with_reducible first | exact hA | exact Below.refl _ _ | refine bel_drew ?_ | refine bel_alloc ?_ | (apply bel_step; focus assumption)))))).mono ?_); rintro e w4 ⟨k4, m4, rfl, hk4, hb4⟩)
    | (go_at_call 82; refine (node_C _ _ _ _ _ _).mono ?_; rintro e w5 ⟨rfl, hb5⟩; have hz := (by (repeat (with_reducible first | exact HZ.out | refine blk_drew ?_ | refine blk_alloc ?_ | (apply blk_below; focus assumption))) : w5.heap[w.heap.size + 1]? = some (.cells #[.int .u8 0, .int .i64 0, .string ⟨#[]⟩, .slice none 0 0] 35)); obtain ⟨z0, z1, z2, z3⟩ := cells4 hz; have zf := unfrozen hz; have HZ5 := Lib.hid hz; clear hz))
  all_goals
    go_wp2
    (try simp only [Exit.inBlock, Exit.then])
    refine bodyPost_ret (results_cell_row (P := Tryz.prog) rfl _ _ (w.heap.size + 1) _ _ _ _ rfl (set4 HZ5.out _ _ _ _) Tryz.underlying35 rfl (by kernel_rfl)) rfl ?_
    have hz := HSZ.out
    have hK4 := (((keeps_set w5 (w.heap.size + 1) 0 (.int .u8 52)).same (keeps_set _ (w.heap.size + 1) 1 (.int .i64 0))).same (keeps_set _ (w.heap.size + 1) 2 (.string ⟨#[]⟩))).same (keeps_set _ (w.heap.size + 1) 3 (.slice (some ⟨w4.heap.size, 0, none⟩) 4 4))
    have hw45 : Below w4.heap.size w4 w5 := (by (repeat (with_reducible first | exact Below.refl _ _ | refine bel_drew ?_ | refine bel_alloc ?_ | (apply bel_step; focus assumption))))
    have hw34 : Below w3.heap.size w3 w4 := (by (repeat (with_reducible first | exact Below.refl _ _ | refine bel_drew ?_ | refine bel_alloc ?_ | (apply bel_step; focus assumption))))
    have hw35 := hw34.trans (hw45.mono hw34.size)
    have hw3 : Below W.heap.size W w3 := (by (repeat (with_reducible first | exact Below.refl _ _ | refine bel_drew ?_ | refine bel_alloc ?_ | (apply bel_step; focus assumption))))
    have hw4 := hw3.trans (hw34.mono hw3.size)
    have hw5 := (hA.trans (hw4.mono hA.size)).trans (hw45.mono (Nat.le_trans hA.size hw4.size))
    have hs3 := hw3.size
    have hs4 := hw4.size
    have k3' : NdAt (LD A w) w5 _ R1 := hk3.stays ⟨hw35.size, fun b hb a => ⟨hw35.block b hb, by
      rcases a with a | a
      · exact a
      · exact .inr (by (try simp at a); omega)⟩⟩
    have k4' : NdAt (LD A w) w5 _ R2 := hk4.stays ⟨hw45.size, fun b hb a => ⟨hw45.block b hb, by
      rcases a with a | a
      · exact a
      · exact .inr (by (try simp at a); omega)⟩⟩
    have hrow : KidsAt (LD A w) w5 (.slice (some ⟨w4.heap.size, 0, none⟩) 4 4) [d, R1, R2, a] := kids_4 (A := LD A w) (blk_below hb5 (heap_alloc_new w4 _)) (.inr (by omega)) (HN3.out _ hw5) k3' k4' (HN0.out _ hw5)
    refine ⟨_, _, rfl, ?_, below_sets4 hw5 (by omega)⟩
    exact nd_node (k := 52) (hrow.stays ⟨hK4.size, fun b hb h => ⟨hK4.block b hb (fun e => by rcases h with ⟨_, h⟩ | h <;> omega), by
      rcases h with ⟨h, _⟩ | h
      · exact .inl h
      · exact .inr (by omega)⟩⟩) (by omega) (Nat.zero_le _)
end Go.Proofs.YtehmmokkjojggabGreatDoor
/- slices.Grow at nil, slices.Concat, slices.Clone at trees. -/
namespace Go.Proofs.YtehmmokkjojggabGreatDoor
set_option linter.unusedVariables false
open Go.RowKit

set_option maxRecDepth 100000 in
set_option maxHeartbeats 1600000 in
theorem grow_N (n : Nat) (w : World) (hn : n ≤ 1000000) :
    Calls Tryz.prog 85 #[.slice none 0 0, .int .i64 n] w fun e w' => ∃ a c, e = .returned (.slice a 0 c) ∧ w'.ownsRow w.heap.size 35 4 (.slice a 0 c) 0 [] ∧ Below w.heap.size w w' := by
  have h1 : ¬ ((n : Int) < 0) := by omega
  by_cases hp : 0 < n
  · obtain ⟨i, hi, hz, hsize, hby⟩ := info_parts TNd.inf
    have hrz : ∀ ty, (Builtin.append_ #[33, 3] ty #[.slice none 0 0, .int .i64 n]).run Tryz.prog w = _ := fun ty =>
      Lib.run_append_grow_zeros w 33 3 ty 35 i _ .i64 .i64 TNd.und Tryz.underlying3 hi hz none 0 0 [] (run_firstCells_none w.drew i.size 0 0 0) n hp (by omega) (by omega) (by omega) (by rw [hby]; omega) (growslice_fits (by omega) (by rw [hby]; omega))
    rw [Nat.zero_add] at hrz
    have HG := grownCap_ge w n 0 35
    have HM := grownCap_le_maxLen w n 0 35 (by unfold maxLen; omega)
    have hzc : ∀ k, (Builtin.zeroCells (.agg #[.int .u8 0, .int .i64 0, .string ByteArray.empty, .slice none 0 0] : Value).cells k).size = k * 4 := fun k => by simp [Builtin.zeroCells, Value.cells]
    have HOWN : Hid ((w.drew.alloc (.cells (([] : List Value).toArray ++ Builtin.zeroCells (.agg #[.int .u8 0, .int .i64 0, .string ByteArray.empty, .slice none 0 0] : Value).cells n ++ Builtin.zeroCells (.agg #[.int .u8 0, .int .i64 0, .string ByteArray.empty, .slice none 0 0] : Value).cells (grownCap w n 0 35 - n)) 35)).ownsRow w.heap.size 35 4 (.slice (some ⟨w.heap.size, 0, none⟩) 0 (grownCap w n 0 35)) 0 []) := Lib.hid
      ⟨rfl, .inr ⟨w.heap.size, _, _, rfl, Nat.le_refl _, heap_alloc_new w.drew _, Nat.zero_le _, HM, by simp only [Array.size_append, hzc]; simp; omega, rfl⟩⟩
    generalize (([] : List Value).toArray ++ Builtin.zeroCells (.agg #[.int .u8 0, .int .i64 0, .string ByteArray.empty, .slice none 0 0] : Value).cells n ++ Builtin.zeroCells (.agg #[.int .u8 0, .int .i64 0, .string ByteArray.empty, .slice none 0 0] : Value).cells (grownCap w n 0 35 - n)) = C at *
    generalize grownCap w n 0 35 = G at *
    have hG : G ≤ 9223372036854775807 := by unfold maxLen at HM; omega
    have hGn : n ≤ G := HG
    have h4 : (0 : Int) < (n : Int) := by omega
    clear HM HG hzc hi hz hsize hby
    go_enter Tryz.func85, Tryz.ntmps85
    go_wp2_with (at_builtin; refine Lib.wpList_append_run _ rfl _ _ _ _ rfl _ _ rfl rfl _ _ (hrz _) ?_)
    go_ret
    exact ⟨_, _, rfl, HOWN.out, ((below_drewN (Below.refl _ _) 1).alloc (Nat.le_refl _) _)⟩
  · obtain rfl : n = 0 := by omega
    go_enter Tryz.func85, Tryz.ntmps85
    go_wp2
    go_ret
    exact ⟨_, _, rfl, World.ownsRow_nil _ _ _ _, Below.refl _ _⟩


set_option maxRecDepth 100000 in
set_option maxHeartbeats 3200000 in
theorem concat_N (g n : Nat) (vs : Nat → Value) (ls : Nat → List Nd) (A : Nat → Prop) (w : World) (hn : n ≤ 10) (hg : g < w.heap.size) (hc : ∀ j, j < n → w.cell? ⟨g, j, none⟩ = some (vs j)) (hv : ∀ j, j < n → RowsAt NdE A w (vs j) (ls j)) (hl : ∀ j, j < n → (ls j).length ≤ 100000) :
    Calls Tryz.prog 47 #[.slice (some ⟨g, 0, none⟩) n n] w fun e w' => ∃ a c, e = .returned (.slice a (catN ls n).length c) ∧ RowsAt NdE (NewB A w) w' (.slice a (catN ls n).length c) (catN ls n) ∧ Below w.heap.size w w' := by
  have HC := Lib.hid hc
  have HV := Lib.hid hv
  have HLB := Lib.hid hl
  have HCL : Hid (∀ k, k ≤ n → (catN ls k).length ≤ 100000 * k) := Lib.hid (fun k hk => catN_len hl hk)
  clear hc hv hl
  go_enter Tryz.func47, Tryz.ntmps47
  go_wp2
  go_loop [3, 11] (fun s i => ∃ k : Nat, i = .int .i64 k ∧ k ≤ n ∧ s = .int .i64 (catN ls k).length) (fun _ i => n - (intOf i).toNat)
  case atStart => exact ⟨0, rfl, Nat.zero_le _, rfl⟩
  case round =>
    obtain ⟨k, rfl, hk, rfl⟩ := hrel
    have hck := HCL.out k hk
    by_cases hlt : k < n
    · have c0 := HC.out k hlt
      obtain ⟨_, sa, sc, hs⟩ := (HV.out k hlt).form
      have hlk := HLB.out k hlt
      rw [hs] at c0
      have HCS : Hid ((catN ls (k + 1)).length = (catN ls k).length + (ls k).length) := Lib.hid (by rw [catN, List.length_append])
      clear hs
      go_wp2
      go_round
      case rel => exact ⟨k + 1, by go_num, by omega, by rw [HCS.out]; go_num⟩
      case measure => simp [intOf]; omega
    · obtain rfl : k = n := by omega
      have hlt' : ¬ (k : Int) < (k : Int) := by omega
      have hck2 : (catN ls k).length ≤ 1000000 := by omega
      have HGR := Lib.hid (grow_N (catN ls k).length w hck2)
      go_wp2_with (go_at_call 85; refine HGR.out.mono ?_; rintro e w1 ⟨ga, gc, rfl, hown1, hb1⟩; have HO1 := Lib.hid hown1; clear hown1)
      go_loopw [27, 6] (fun i v wr => ∃ q : Nat, i = .int .i64 q ∧ q ≤ k ∧ Below w.heap.size w wr ∧ RowsOwn NdE 35 (fun j => A j ∧ j < w.heap.size) w.heap.size wr v (catN ls q)) (fun i _ _ => k - (intOf i).toNat)
      case atStart => exact ⟨0, rfl, Nat.zero_le _, hb1, ⟨[], HO1.out, fun j hj => by simp [catN] at hj⟩⟩
      case round =>
        obtain ⟨q, rfl, hq, hbl, hown⟩ := hrel
        obtain ⟨va, vc, rfl⟩ := hown.form
        have HOWN := Lib.hid hown
        have hqk := HCL.out q hq
        clear hown
        by_cases hlt2 : q < k
        · have c0 := (hbl.cell (p := ⟨g, q, none⟩) hg).trans (HC.out q hlt2)
          have hrow := (HV.out q hlt2)
          obtain ⟨_, sa, sc, hs⟩ := hrow.form
          have hlq := HLB.out q hlt2
          have HCS : Hid (catN ls (q + 1) = catN ls q ++ ls q) := Lib.hid (by rw [catN])
          have HR : Hid (RowsAt NdE (fun j => A j ∧ j < w.heap.size) wr (vs q) (ls q)) := Lib.hid (hrow.stays ⟨hbl.size, fun b hb a => ⟨hbl.block b hb, a, hb⟩⟩)
          rw [hs] at c0 HR
          have HD : Hid (∀ b, b < wr.heap.size → (A b ∧ b < w.heap.size) → (A b ∧ b < w.heap.size) ∧ (Value.slice va (catN ls q).length vc).ownBlock ≠ some b) := Lib.hid (fun b _ a => ⟨a, fun e => by have := (HOWN.out.lt e).1; omega⟩)
          clear hs hrow
          go_wp2_with (at_builtin; refine wpl_rows TNd rfl (by decide) rfl (.tmp 31) (.tmp 32) rfl rfl rfl HOWN.out HR.out HD.out (by unfold maxLen; omega) (by omega) hbl.size ?_; intro a' c' w3 h3 hg3 hn3; have H3 := Lib.hid h3; have HG3 : Hid (World.grownBy _ w3 (Value.slice va (catN ls q).length vc).ownBlock) := Lib.hid hg3; clear h3 hg3 hn3)
          go_roundw
          case rel => exact ⟨q + 1, by go_num, by omega, hbl.grown HG3.out hbl.size (fun j e => (HOWN.out.lt e).1), by rw [HCS.out]; exact H3.out⟩
          case measure => simp [intOf]; omega
        · obtain rfl : q = k := by omega
          have hlt2' : ¬ (q : Int) < (q : Int) := by omega
          go_wp2
          go_ret
          exact ⟨_, _, rfl, HOWN.out.shut (fun j a => .inl a.1) (fun j e => .inr (HOWN.out.lt e).1) (by unfold maxLen; omega), hbl⟩

/-- three rows -/
theorem concat3_N (g : Nat) (v0 v1 v2 : Value) (l0 l1 l2 : List Nd) (A : Nat → Prop) (w : World) (hg : w.heap[g]? = some (.cells #[v0, v1, v2] 33 (0, 0))) (h0 : RowsAt NdE A w v0 l0) (h1 : RowsAt NdE A w v1 l1) (h2 : RowsAt NdE A w v2 l2) (k0 : l0.length ≤ 100000) (k1 : l1.length ≤ 100000) (k2 : l2.length ≤ 100000) :
    Calls Tryz.prog 47 #[.slice (some ⟨g, 0, none⟩) 3 3] w fun e w' => ∃ a n c, e = .returned (.slice a n c) ∧ RowsAt NdE (NewB A w) w' (.slice a n c) (l0 ++ l1 ++ l2) ∧ Below w.heap.size w w' := by
  have hgl : g < w.heap.size := by rw [Array.getElem?_eq_some_iff] at hg; exact hg.1
  have hcat : catN (fun j => [l0, l1, l2].getD j []) 3 = l0 ++ l1 ++ l2 := by simp [catN]
  refine (concat_N g 3 (fun j => [v0, v1, v2].getD j undef) (fun j => [l0, l1, l2].getD j []) A w (by omega) hgl (fun j hj => ?_) (fun j hj => ?_) (fun j hj => ?_)).mono fun e w' h => ?_
  · match j, hj with
    | 0, _ => exact cell_blk hg 0 rfl
    | 1, _ => exact cell_blk hg 1 rfl
    | 2, _ => exact cell_blk hg 2 rfl
  · match j, hj with
    | 0, _ => exact h0
    | 1, _ => exact h1
    | 2, _ => exact h2
  · match j, hj with
    | 0, _ => exact k0
    | 1, _ => exact k1
    | 2, _ => exact k2
  · rw [hcat] at h
    obtain ⟨a, c, he, hr, hb⟩ := h
    exact ⟨a, _, c, he, hr, hb⟩

set_option maxRecDepth 100000 in
set_option maxHeartbeats 1600000 in
theorem clone_N (v : Value) (l : List Nd) (A : Nat → Prop) (w : World) (hv : RowsAt NdE A w v l) (hl : l.length ≤ 100000) :
    Calls Tryz.prog 69 #[v] w fun e w' => ∃ a c, e = .returned (.slice a l.length c) ∧ RowsOwn NdE 35 (fun j => A j ∧ j < w.heap.size) w.heap.size w' (.slice a l.length c) l ∧ Below w.heap.size w w' := by
  obtain ⟨hll, a, c, rfl⟩ := hv.form
  cases a with
  | none =>
    have hl0 : l.length = 0 ∧ c = 0 := by
      obtain ⟨cs, ⟨h0, a', cap', he, h1, h2, h3⟩, _⟩ := hv
      simp only [Value.slice.injEq] at he
      obtain ⟨rfl, -, rfl⟩ := he
      have := h2 rfl; omega
    obtain ⟨hl0, rfl⟩ := hl0
    have hnil : l = [] := List.eq_nil_of_length_eq_zero hl0
    subst hnil
    have heq := fun (w : World) => Lib.run_eql_slice_nil (P := Tryz.prog) w 33 35 none 0 0 0 0 Tryz.underlying33
    clear hv hl0
    go_enter Tryz.func69, Tryz.ntmps69
    go_wp2
    go_ret
    exact ⟨_, _, rfl, RowsOwn.nil _ _ _ _ _, Below.refl _ _⟩
  | some ad =>
    have hB : Below w.heap.size w (w.alloc (.cells #[] 35)) := (Below.refl _ _).alloc (Nat.le_refl _) _
    have HV : Hid (RowsAt NdE (fun j => A j ∧ j < w.heap.size) (w.alloc (.cells #[] 35)) (.slice (some ad) l.length c) l) := Lib.hid (hv.stays ⟨hB.size, fun b hb a => ⟨hB.block b hb, a, hb⟩⟩)
    have HRW : Hid (RowsOwn NdE 35 (fun j => A j ∧ j < w.heap.size) w.heap.size (w.alloc (.cells #[] 35)) (.slice (some ⟨w.heap.size, 0, none⟩) 0 0) []) := Lib.hid ⟨[], ⟨rfl, .inr ⟨w.heap.size, 0, #[], rfl, Nat.le_refl _, heap_alloc_new w _, Nat.le_refl _, by unfold maxLen; omega, rfl, rfl⟩⟩, fun j hj => by simp at hj⟩
    have HD : Hid (∀ b, b < (w.alloc (.cells #[] 35)).heap.size → (A b ∧ b < w.heap.size) → (A b ∧ b < w.heap.size) ∧ (Value.slice (some ⟨w.heap.size, 0, none⟩) 0 0).ownBlock ≠ some b) := Lib.hid (fun b _ a => ⟨a, fun e => by simp [Value.ownBlock] at e; omega⟩)
    have heq := fun (w : World) => Lib.run_eql_slice_nil (P := Tryz.prog) w 33 35 (some ad) l.length c 0 0 Tryz.underlying33
    clear hv
    go_enter Tryz.func69, Tryz.ntmps69
    go_wp2_with (at_builtin; refine wpl_rows TNd rfl (by decide) rfl (.tmp 5) (.tmp 6) rfl rfl rfl HRW.out HV.out HD.out (by unfold maxLen; simp; omega) (by simp; omega) (by simp) ?_; intro a' c' w2 hown hg hn; have HO := Lib.hid hown; have HG : Hid ((w.alloc (.cells #[] 35)).grownBy w2 (some w.heap.size)) := Lib.hid hg; clear hown hg hn)
    go_ret
    have hown := HO.out
    simp only [List.length_nil, Nat.zero_add, List.nil_append] at hown
    have hBB : Below w.heap.size w w2 := hB.grown HG.out (by simp) (fun k e => by
      have e2 : w.heap.size = k := by simpa using e
      omega)
    exact ⟨_, _, rfl, hown, hBB⟩

end Go.Proofs.YtehmmokkjojggabGreatDoor
/- Walks of package cleangen: inverse, at a call; inverse at the statements of binds. -/
namespace Go.Proofs.YtehmmokkjojggabGreatDoor
set_option linter.unusedVariables false
open Go.RowKit

set_option maxRecDepth 100000 in
set_option maxHeartbeats 3200000 in
theorem inverse_call (p : ByteArray) (l : List Nd) (hl : l.length ≤ 100000) : InvOk (nodeN 50 p l) (nodeN 51 p l) := by
  intro v A w hv
  obtain ⟨hok, hlen, ka, kc, he, hk⟩ := hv.open
  have he' : v = .agg #[.int .u8 50, .int .i64 0, .string p, .slice ka l.length kc] := he
  subst he'
  have hkk : KidsAt A w (.slice ka l.length kc) l := hk
  have hp : p.size ≤ maxLen := hok.2.2
  have hA1 : Below w.heap.size w (w.alloc (.cells #[.int .u8 50, .int .i64 0, .string p, .slice ka l.length kc] 35)) := (Below.refl _ _).alloc (Nat.le_refl _) _
  have hA : Below w.heap.size w ((w.alloc (.cells #[.int .u8 50, .int .i64 0, .string p, .slice ka l.length kc] 35)).alloc (.cells #[.int .u8 0, .int .i64 0, .string ⟨#[]⟩, .slice none 0 0] 35)) := hA1.alloc hA1.size _
  have HX := Lib.hid (at_old w (.cells #[.int .u8 50, .int .i64 0, .string p, .slice ka l.length kc] 35) (.cells #[.int .u8 0, .int .i64 0, .string ⟨#[]⟩, .slice none 0 0] 35))
  have HZ := Lib.hid (at_new w (.cells #[.int .u8 50, .int .i64 0, .string p, .slice ka l.length kc] 35) (.cells #[.int .u8 0, .int .i64 0, .string ⟨#[]⟩, .slice none 0 0] 35))
  have HSZ : Hid (((w.alloc (.cells #[.int .u8 50, .int .i64 0, .string p, .slice ka l.length kc] 35)).alloc (.cells #[.int .u8 0, .int .i64 0, .string ⟨#[]⟩, .slice none 0 0] 35)).heap.size = w.heap.size + 1 + 1) := Lib.hid (by simp)
  have HK : Hid (∀ w1, Below w.heap.size w w1 → RowsAt NdE (LD A w) w1 (.slice ka l.length kc) l) := Lib.hid (fun w1 hw => (kids_rows.1 hkk).stays ⟨hw.size, fun b hb a => ⟨hw.block b hb, .inl ⟨a, hb⟩⟩⟩)
  clear hv hk hkk hA1 he hlen hok
  go_enter Tryz.func46, Tryz.ntmps46
  go_wp2
  generalize ((w.alloc (.cells #[.int .u8 50, .int .i64 0, .string p, .slice ka l.length kc] 35)).alloc (.cells #[.int .u8 0, .int .i64 0, .string ⟨#[]⟩, .slice none 0 0] 35)) = W at *
  have hWS : w.heap.size + 1 ≤ W.heap.size := by have := HSZ.out; omega
  have HS0 : Hid (∀ w1, Below (w.heap.size + 1) W w1 → w1.cell? ⟨w.heap.size, 2, none⟩ = some (.string p) ∧ w1.cell? ⟨w.heap.size, 3, none⟩ = some (.slice ka l.length kc)) := Lib.hid (fun w1 hw => (cells4 ((hw.block w.heap.size (by omega)).trans HX.out)).2.2)
  go_region_held3 (fun w1 => w1.cell? ⟨w.heap.size, 2, none⟩ = some (.string p) ∧ w1.cell? ⟨w.heap.size, 3, none⟩ = some (.slice ka l.length kc))
    (first | with_reducible exact HS0.out _ (below_sets4 (Below.mono (by (repeat (with_reducible first | exact Below.refl _ _ | refine bel_drew ?_ | refine bel_alloc ?_ | (apply bel_step; focus assumption)))) hWS) (Nat.le_refl _)) | with_reducible exact HS0.out _ (Below.mono (by (repeat (with_reducible first | exact Below.refl _ _ | refine bel_drew ?_ | refine bel_alloc ?_ | (apply bel_step; focus assumption)))) hWS))
    (first
    | (go_at_call 69; refine (clone_N (.slice ka l.length kc) l (LD A w) _ (HK.out _ (by (repeat (with_reducible first | exact hA | exact Below.refl _ _ | refine bel_drew ?_ | refine bel_alloc ?_ | (apply bel_step; focus assumption))))) hl).mono ?_; rintro e w3 ⟨a3, c3, rfl, hk3, hb3⟩)
    | (go_at_call 82; refine (node_C _ _ _ _ _ _).mono ?_; rintro e w5 ⟨rfl, hb5⟩; have hz := (by (repeat (with_reducible first | exact HZ.out | refine blk_drew ?_ | refine blk_alloc ?_ | (apply blk_below; focus assumption))) : w5.heap[w.heap.size + 1]? = some (.cells #[.int .u8 0, .int .i64 0, .string ⟨#[]⟩, .slice none 0 0] 35)); obtain ⟨z0, z1, z2, z3⟩ := cells4 hz; have zf := unfrozen hz; have HZ5 := Lib.hid hz; clear hz))
  all_goals
    go_wp2
    (try simp only [Exit.inBlock, Exit.then])
    refine bodyPost_ret (results_cell_row (P := Tryz.prog) rfl _ _ (w.heap.size + 1) _ _ _ _ rfl (set4 HZ5.out _ _ _ _) Tryz.underlying35 rfl (by kernel_rfl)) rfl ?_
    have hz := HSZ.out
    have hK4 := (((keeps_set w5 (w.heap.size + 1) 0 (.int .u8 51)).same (keeps_set _ (w.heap.size + 1) 1 (.int .i64 0))).same (keeps_set _ (w.heap.size + 1) 2 (.string p))).same (keeps_set _ (w.heap.size + 1) 3 (.slice a3 l.length c3))
    have hw35 : Below w3.heap.size w3 w5 := (by (repeat (with_reducible first | exact Below.refl _ _ | refine bel_drew ?_ | refine bel_alloc ?_ | (apply bel_step; focus assumption))))
    have hw3 : Below W.heap.size W w3 := (by (repeat (with_reducible first | exact Below.refl _ _ | refine bel_drew ?_ | refine bel_alloc ?_ | (apply bel_step; focus assumption))))
    have hw5 := (hA.trans (hw3.mono hA.size)).trans (hw35.mono (Nat.le_trans hA.size hw3.size))
    have hkr : KidsAt (LD A w) w5 (.slice a3 l.length c3) l := kids_rows.2 ((hk3.shut (A := LD A w) (fun k a => a.1) (fun k e => .inr (by have := (hk3.lt e).1; (try simp at this); omega)) (by unfold maxLen; omega)).stays (Stays.of_below hw35))
    refine ⟨_, _, rfl, ?_, below_sets4 hw5 (by omega)⟩
    exact nd_node (k := 51) (hkr.stays ⟨hK4.size, fun b hb h => ⟨hK4.block b hb (fun e => by rcases h with ⟨_, h⟩ | h <;> omega), by
      rcases h with ⟨h, _⟩ | h
      · exact .inl h
      · exact .inr (by omega)⟩⟩) (by omega) hp

theorem inverse_list (l : List Nd) (h : ∀ s ∈ l, InvOk s (invN s)) (hl : l.length ≤ 100000) : InvOk (blockN l) (blockN (invL l).reverse) :=
  inverse_block 0 ByteArray.empty l (invL l) (invL_len l) hl (Lib.hid fun j hj => by rw [invL_at l hj]; exact h _ (at_mem hj))
theorem inv_blockN (l : List Nd) : invN (blockN l) = blockN (invL l).reverse := by rw [blockN, nodeN, invN, invK, if_pos rfl]; rfl
/-- inverse turns a statement of binds into its inverse -/
theorem inverse_cs {n : Nd} (h : CS n) : InvOk n (invN n) := by
  induction h with
  | plus s e hs he h57 hz => exact inv_plus s e hs he h57 hz
  | call p args hl =>
    have e : invN (callN p args) = nodeN 51 p (args.map vN) := by rw [callN, nodeN, invN, invK]; rfl
    rw [e]
    exact inverse_call p _ (by simp; omega)
  | cond a d l1 l2 h1 h2 n1 n2 ih1 ih2 =>
    have e : invN (nodeN 52 ByteArray.empty [a, blockN l1, blockN l2, d]) = nodeN 52 ByteArray.empty [d, invN (blockN l1), invN (blockN l2), a] := by
      have : ∀ x y z u : Nd, invN (nodeN 52 ByteArray.empty [x, y, z, u]) = nodeN 52 ByteArray.empty [u, invN y, invN z, x] := fun x y z u => by
        rw [nodeN, invN, invK]; simp [invL, at', nodeN]
      exact this _ _ _ _
    rw [e, inv_blockN, inv_blockN]
    exact inverse_if a _ _ d _ _ (Lib.hid (inverse_list l1 ih1 n1)) (Lib.hid (inverse_list l2 ih2 n2))
  | loc a c k k' s hk hs ha hc ka kc za zc => exact inv_loc a c k k' s hk hs ha hc ka kc za zc
end Go.Proofs.YtehmmokkjojggabGreatDoor
/- Walks of package cleangen: Proc. -/
namespace Go.Proofs.YtehmmokkjojggabGreatDoor
set_option linter.unusedVariables false
open Go.RowKit

/-- the function value of Proc: every function is its own procedure -/
def selfF : CallF := fun nm => (nm, [])
theorem proc1_C (nm : ByteArray) (w : World) : Calls Tryz.prog 45 #[.string nm] w fun e w' => e = .returned (.tuple #[.string nm, .slice none 0 0]) ∧ w = w' := by
  go_enter Tryz.func45, Tryz.ntmps45
  go_wp2
  go_ret2
  exact ⟨rfl, rfl⟩
theorem self_clos (w : World) : ClosOk (.func (.func 45) #[] #[]) selfF w :=
  ⟨45, #[], rfl, fun args w => by kernel_rfl, fun nm w1 hn hb => ⟨(proc1_C nm w1).mono fun e w' ⟨he, hw⟩ => ⟨none, 0, 0, he, by
    subst hw
    exact ⟨fun _ _ => undef, RowAt.empty _ _ _, fun j hj => by simp [selfF] at hj⟩, by subst hw; exact Below.refl _ _⟩, hn, by simp [selfF]⟩⟩

theorem ndKids {A : Nat → Prop} {w : World} {a b c d : Value} {n : Nd} (h : NdAt A w (.agg #[a, b, c, d]) n) : KidsAt A w d n.kids := (nd_cells h).2.2.2.1
theorem locals_block (ts : List Par) (l : List Nd) : ∃ l', localsN ts (blockN l) = blockN l' := by
  cases ts with
  | nil => exact ⟨l, rfl⟩
  | cons t r => exact ⟨_, rfl⟩

/-- the body of the clean procedure -/
def procB (g : AFn) : Nd := localsN g.temps (blockN (bindsN selfF g.body ++ [resultN g] ++ (invL (bindsN selfF g.body)).reverse))
/-- the function's box and the zero procedure -/
def PBox (g : AFn) (pa ta ba : Option Addr) (pc tc bc : Nat) (w w1 : World) : Prop := w1.heap[w.heap.size]? = some (.cells #[.string g.name, .slice pa g.params.length pc, .bool g.list, .slice ta g.temps.length tc, .slice ba g.body.length bc, .string g.result] 31) ∧ w1.heap[w.heap.size + 1]? = some (.cells #[.string ⟨#[]⟩, .slice none 0 0, .int .u8 0, .int .i64 0, .string ⟨#[]⟩, .slice none 0 0] 52)
/-- behind the making of the body -/
def CutB (g : AFn) (pa ta ba : Option Addr) (pc tc bc : Nat) (w : World) (s : Value) (wx : World) : Prop :=
  ∃ gb ka kn kc, s = .pointer (some ⟨gb, 0, none⟩) ∧ wx.heap[gb]? = some (.cells #[.int .u8 57, .int .i64 0, .string ⟨#[]⟩, .slice ka kn kc] 35 (0, 0)) ∧ NdAt (fun b => Up (w.heap.size + 2) b ∧ b ≠ gb) wx (.agg #[.int .u8 57, .int .i64 0, .string ⟨#[]⟩, .slice ka kn kc]) (procB g) ∧ PBox g pa ta ba pc tc bc w wx ∧ Below w.heap.size w wx

theorem set6 {w : World} {b e : Nat} {v0 v1 v2 v3 v4 v5 : Value} (h : w.heap[b]? = some (.cells #[v0, v1, v2, v3, v4, v5] e (0, 0))) (x0 x1 x2 x3 x4 x5 : Value) :
    ((((((w.setCell ⟨b, 0, none⟩ x0).setCell ⟨b, 1, none⟩ x1).setCell ⟨b, 2, none⟩ x2).setCell ⟨b, 3, none⟩ x3).setCell ⟨b, 4, none⟩ x4).setCell ⟨b, 5, none⟩ x5).heap[b]? = some (.cells #[x0, x1, x2, x3, x4, x5] e (0, 0)) := by
  have h3 := heap_setCell_same _ b 5 _ _ x5 (heap_setCell_same _ b 4 _ _ x4 (heap_setCell_same _ b 3 _ _ x3 (heap_setCell_same _ b 2 _ _ x2 (heap_setCell_same _ b 1 _ _ x1 (heap_setCell_same w b 0 _ _ x0 h)))))
  simpa only [List.setIfInBounds_toArray, List.set_cons_zero, List.set_cons_succ] using h3
theorem keeps_set6 (w : World) (b : Nat) (x0 x1 x2 x3 x4 x5 : Value) : Keeps w ((((((w.setCell ⟨b, 0, none⟩ x0).setCell ⟨b, 1, none⟩ x1).setCell ⟨b, 2, none⟩ x2).setCell ⟨b, 3, none⟩ x3).setCell ⟨b, 4, none⟩ x4).setCell ⟨b, 5, none⟩ x5) (fun k => k = b) :=
  (((((keeps_set w b 0 x0).same (keeps_set _ b 1 x1)).same (keeps_set _ b 2 x2)).same (keeps_set _ b 3 x3)).same (keeps_set _ b 4 x4)).same (keeps_set _ b 5 x5)
theorem below_sets6 {B : Nat} {w0 w : World} {g : Nat} {x0 x1 x2 x3 x4 x5 : Value} (h : Below B w0 w) (hg : B ≤ g) :
    Below B w0 ((((((w.setCell ⟨g, 0, none⟩ x0).setCell ⟨g, 1, none⟩ x1).setCell ⟨g, 2, none⟩ x2).setCell ⟨g, 3, none⟩ x3).setCell ⟨g, 4, none⟩ x4).setCell ⟨g, 5, none⟩ x5) := (((((h.setCell hg _).setCell hg _).setCell hg _).setCell hg _).setCell hg _).setCell hg _

theorem stays_keep {A : Nat → Prop} {w w' : World} {g : Nat} (h : Keeps w w' (fun k => k = g)) (hA : ∀ k, A k → k < w.heap.size → k ≠ g) : Stays A A w w' := ⟨h.size, fun b hb a => ⟨h.block b hb (hA b a hb), a⟩⟩
theorem RowsAt.young {α : Type} [Inhabited α] {E : Elem α} {A A' : Nat → Prop} {w : World} {v : Value} {l : List α} (h : RowsAt E A w v l) (hA : ∀ k, k < w.heap.size → A k → A' k) : RowsAt E A' w v l := h.stays ⟨Nat.le_refl _, fun b hb a => ⟨rfl, hA b hb a⟩⟩
/-- what Proc leaves -/
def ProcPost (g : AFn) (w : World) (e : Ending) (w' : World) : Prop := Below w.heap.size w w' ∧
  (80 < depthN (procB g) → e = .returned (.tuple #[.agg #[.string ⟨#[]⟩, .slice none 0 0, .int .u8 0, .int .i64 0, .string ⟨#[]⟩, .slice none 0 0], .int .i64 19])) ∧
  (¬ 80 < depthN (procB g) → (2000 < sizeN (procB g) ∨ 8 < (paramsN g).length) → e = .returned (.tuple #[.agg #[.string ⟨#[]⟩, .slice none 0 0, .int .u8 0, .int .i64 0, .string ⟨#[]⟩, .slice none 0 0], .int .i64 5])) ∧
  (¬ 80 < depthN (procB g) → ¬ (2000 < sizeN (procB g) ∨ 8 < (paramsN g).length) → ∃ a c ka kn kc, e = .returned (.tuple #[.agg #[.string g.name, .slice a (paramsN g).length c, .int .u8 57, .int .i64 0, .string ⟨#[]⟩, .slice ka kn kc], .int .i64 0]) ∧
    RowsAt DclE (Up w.heap.size) w' (.slice a (paramsN g).length c) (paramsN g) ∧ NdAt (Up w.heap.size) w' (.agg #[.int .u8 57, .int .i64 0, .string ⟨#[]⟩, .slice ka kn kc]) (procB g))

/-- the three parts of the body's block -/
theorem concat_P (B : Nat) (w3 : World) (rk : Int) (rs : ByteArray) (ka ja ra : Option Addr) (kn kc jn jc rn rc : Nat) (l0 l2 : List Nd) (r : Nd) (hB : B ≤ w3.heap.size) (h0 : KidsAt (Up B) w3 (.slice ka kn kc) l0) (h1 : NdAt (Up B) w3 (.agg #[.int .u8 rk, .int .i64 0, .string rs, .slice ra rn rc]) r) (h2 : KidsAt (Up B) w3 (.slice ja jn jc) l2) (z0 : l0.length ≤ 100000) (z2 : l2.length ≤ 100000) :
    Calls Tryz.prog 47 #[.slice (some ⟨w3.heap.size + 1, 0, none⟩) 3 3] ((w3.alloc (.cells #[.int .u8 rk, .int .i64 0, .string rs, .slice ra rn rc] 35)).alloc (.cells #[.slice ka kn kc, .slice (some ⟨w3.heap.size, 0, none⟩) 1 1, .slice ja jn jc] 33)) fun e w' => ∃ a n c, e = .returned (.slice a n c) ∧ RowsAt NdE (Up B) w' (.slice a n c) (l0 ++ [r] ++ l2) ∧ Below w3.heap.size w3 w' := by
  have hb1 : Below w3.heap.size w3 (w3.alloc (.cells #[.int .u8 rk, .int .i64 0, .string rs, .slice ra rn rc] 35)) := (Below.refl _ _).alloc (Nat.le_refl _) _
  have hb2 : Below (w3.alloc (.cells #[.int .u8 rk, .int .i64 0, .string rs, .slice ra rn rc] 35)).heap.size (w3.alloc (.cells #[.int .u8 rk, .int .i64 0, .string rs, .slice ra rn rc] 35)) ((w3.alloc (.cells #[.int .u8 rk, .int .i64 0, .string rs, .slice ra rn rc] 35)).alloc (.cells #[.slice ka kn kc, .slice (some ⟨w3.heap.size, 0, none⟩) 1 1, .slice ja jn jc] 33)) := (Below.refl _ _).alloc (Nat.le_refl _) _
  have hb := hb1.trans (hb2.mono hb1.size)
  refine (concat3_N _ _ _ _ l0 [r] l2 (Up B) _ (blk_new (by simp)) (kids_rows.1 (h0.stays (Stays.of_below hb))) (kids_rows.1 ((kids_1 (A := Up B) (heap_alloc_new w3 _) hB (h1.stays (Stays.of_below hb1))).stays (Stays.of_below hb2))) (kids_rows.1 (h2.stays (Stays.of_below hb))) z0 (by simp) z2).mono fun e w' ⟨a, n, c, he, hr, hbb⟩ => ⟨a, n, c, he, hr.stays (stays_newB_up (by simp; omega)), hb.trans (hbb.mono hb.size)⟩
def InvB (l : List Nd) (A : Nat → Prop) (w : World) (e : Ending) (w' : World) : Prop := ∃ a n c, e = .returned (.agg #[.int .u8 57, .int .i64 0, .string ⟨#[]⟩, .slice a n c]) ∧ NdAt (NewB A w) w' (.agg #[.int .u8 57, .int .i64 0, .string ⟨#[]⟩, .slice a n c]) (blockN l) ∧ Below w.heap.size w w'

theorem locals_B (ts : List Par) (pa : Option Addr) (pc : Nat) (ka : Option Addr) (kn kc : Nat) (l : List Nd) (A : Nat → Prop) (w : World) (hp : ParsAt Any w (.slice pa ts.length pc) ts) (hv : NdAt A w (.agg #[.int .u8 57, .int .i64 0, .string ⟨#[]⟩, .slice ka kn kc]) (blockN l)) (hl : ts.length ≤ 100000) :
    Calls Tryz.prog 49 #[.slice pa ts.length pc, .agg #[.int .u8 57, .int .i64 0, .string ⟨#[]⟩, .slice ka kn kc]] w fun e w' => ∃ a n c, e = .returned (.agg #[.int .u8 57, .int .i64 0, .string ⟨#[]⟩, .slice a n c]) ∧ NdAt (NewB A w) w' (.agg #[.int .u8 57, .int .i64 0, .string ⟨#[]⟩, .slice a n c]) (localsN ts (blockN l)) ∧ Below w.heap.size w w' :=
  (locals_C ts pa pc _ (blockN l) A w hp hv hl).mono fun e w' ⟨u, he, hn, hb⟩ => by
    obtain ⟨l', hl'⟩ := locals_block ts l
    rw [hl'] at hn ⊢
    obtain ⟨a, c, rfl⟩ := hn.form
    exact ⟨a, _, c, he, hn, hb⟩
theorem cutB_new {g : AFn} {pa ta ba : Option Addr} {pc tc bc : Nat} {w w4 w5 w6 wx : World} {g9 : Nat} {a : Option Addr} {n c : Nat} (h : wx.heap[g9]? = some (.cells #[.int .u8 57, .int .i64 0, .string ⟨#[]⟩, .slice a n c] 35 (0, 0))) (hk : NdAt (NewB (fun b => Up (w.heap.size + 2) b ∧ b < w4.heap.size) w5) w6 (.agg #[.int .u8 57, .int .i64 0, .string ⟨#[]⟩, .slice a n c]) (procB g)) (h5 : w.heap.size + 2 ≤ w5.heap.size) (hg : w6.heap.size ≤ g9) (hx : Below w6.heap.size w6 wx) (hb : PBox g pa ta ba pc tc bc w wx) (hB : Below w.heap.size w wx) :
    CutB g pa ta ba pc tc bc w (.pointer (some ⟨g9, 0, none⟩)) wx :=
  ⟨g9, a, n, c, rfl, h, hk.stays ⟨hx.size, fun b hb a => ⟨hx.block b hb, by rcases a with a | a; exact a.1; exact Nat.le_trans h5 a, by omega⟩⟩, hb, hB⟩
theorem cutB_set {g : AFn} {pa ta ba : Option Addr} {pc tc bc : Nat} {w w4 w5 w6 wx : World} {g9 : Nat} {a : Option Addr} {n c : Nat} (h : wx.heap[g9]? = some (.cells #[.int .u8 0, .int .i64 0, .string ⟨#[]⟩, .slice none 0 0] 35)) (hk : NdAt (NewB (fun b => Up (w.heap.size + 2) b ∧ b < w4.heap.size) w5) w6 (.agg #[.int .u8 57, .int .i64 0, .string ⟨#[]⟩, .slice a n c]) (procB g)) (h5 : w.heap.size + 2 ≤ w4.heap.size) (h4 : w4.heap.size ≤ g9) (hg : g9 < w5.heap.size) (hx : Below w6.heap.size w6 wx) (hb : PBox g pa ta ba pc tc bc w wx) (hB : Below w.heap.size w wx) :
    CutB g pa ta ba pc tc bc w (.pointer (some ⟨g9, 0, none⟩)) ((((wx.setCell ⟨g9, 0, none⟩ (.int .u8 57)).setCell ⟨g9, 1, none⟩ (.int .i64 0)).setCell ⟨g9, 2, none⟩ (.string ⟨#[]⟩)).setCell ⟨g9, 3, none⟩ (.slice a n c)) := by
  have hK4 := (((keeps_set wx g9 0 (.int .u8 57)).same (keeps_set _ g9 1 (.int .i64 0))).same (keeps_set _ g9 2 (.string ⟨#[]⟩))).same (keeps_set _ g9 3 (.slice a n c))
  refine ⟨g9, a, n, c, rfl, set4 h _ _ _ _, (hk.stays (A' := fun b => Up (w.heap.size + 2) b ∧ b ≠ g9) ⟨hx.size, fun b hb a => ⟨hx.block b hb, ?_⟩⟩).stays ⟨hK4.size, fun b hb a => ⟨hK4.block b hb a.2, a⟩⟩, ⟨blk_sets4 hb.1 (by omega), blk_sets4 hb.2 (by omega)⟩, bel_sets4 hB (by omega)⟩
  rcases a with a | a
  · exact ⟨a.1, by have := a.2; omega⟩
  · exact ⟨by unfold Up; omega, by omega⟩

set_option maxRecDepth 100000 in
set_option maxHeartbeats 6400000 in
theorem proc_C (g : AFn) (lib : List Fn) (pa ta ba : Option Addr) (pc tc bc : Nat) (w : World) (hp : ParsAt Any w (.slice pa g.params.length pc) g.params) (ht : ParsAt Any w (.slice ta g.temps.length tc) g.temps) (hb : BdsAt Any w (.slice ba g.body.length bc) g.body) (hr : g.result.size ≤ maxLen)
    (hg : GoodBs lib g.body) (hz : sizeBs g.body ≤ 10000) (htl : g.temps.length ≤ 4000) (hpl : g.params.length ≤ 8) (hsz : sizeN (procB g) ≤ 1000000) :
    Calls Tryz.prog 17 #[.agg #[.string g.name, .slice pa g.params.length pc, .bool g.list, .slice ta g.temps.length tc, .slice ba g.body.length bc, .string g.result]] w (ProcPost g w) := by
  have hcs := cs_binds lib selfF (fun _ => by simp [selfF]) g.body hg hz
  have hbl : (bindsN selfF g.body).length ≤ 20000 := by have := bindsN_len selfF g.body; have := len_sizeBs g.body; omega
  have HINV : Hid (∀ (ka : Option Addr) (kn kc : Nat) (A : Nat → Prop) (w : World), NdAt A w (.agg #[.int .u8 57, .int .i64 0, .string ⟨#[]⟩, .slice ka kn kc]) (blockN (bindsN selfF g.body)) → Calls Tryz.prog 46 #[.agg #[.int .u8 57, .int .i64 0, .string ⟨#[]⟩, .slice ka kn kc]] w (InvB (invL (bindsN selfF g.body)).reverse A w)) := Lib.hid (fun ka kn kc A w hv => (inverse_list _ (fun s hs => inverse_cs (hcs s hs)) (by omega) _ A w hv).mono fun e w' ⟨a, c, he, hn, hb⟩ => ⟨a, _, c, he, hn, hb⟩)
  have hA1 : Below w.heap.size w (w.alloc (.cells #[.string g.name, .slice pa g.params.length pc, .bool g.list, .slice ta g.temps.length tc, .slice ba g.body.length bc, .string g.result] 31)) := (Below.refl _ _).alloc (Nat.le_refl _) _
  have hA : Below w.heap.size w ((w.alloc (.cells #[.string g.name, .slice pa g.params.length pc, .bool g.list, .slice ta g.temps.length tc, .slice ba g.body.length bc, .string g.result] 31)).alloc (.cells #[.string ⟨#[]⟩, .slice none 0 0, .int .u8 0, .int .i64 0, .string ⟨#[]⟩, .slice none 0 0] 52)) := hA1.alloc hA1.size _
  have HBX : Hid (PBox g pa ta ba pc tc bc w ((w.alloc (.cells #[.string g.name, .slice pa g.params.length pc, .bool g.list, .slice ta g.temps.length tc, .slice ba g.body.length bc, .string g.result] 31)).alloc (.cells #[.string ⟨#[]⟩, .slice none 0 0, .int .u8 0, .int .i64 0, .string ⟨#[]⟩, .slice none 0 0] 52))) := Lib.hid ⟨at_old w (.cells #[.string g.name, .slice pa g.params.length pc, .bool g.list, .slice ta g.temps.length tc, .slice ba g.body.length bc, .string g.result] 31) (.cells #[.string ⟨#[]⟩, .slice none 0 0, .int .u8 0, .int .i64 0, .string ⟨#[]⟩, .slice none 0 0] 52), at_new w (.cells #[.string g.name, .slice pa g.params.length pc, .bool g.list, .slice ta g.temps.length tc, .slice ba g.body.length bc, .string g.result] 31) (.cells #[.string ⟨#[]⟩, .slice none 0 0, .int .u8 0, .int .i64 0, .string ⟨#[]⟩, .slice none 0 0] 52)⟩
  have HSZ : Hid (((w.alloc (.cells #[.string g.name, .slice pa g.params.length pc, .bool g.list, .slice ta g.temps.length tc, .slice ba g.body.length bc, .string g.result] 31)).alloc (.cells #[.string ⟨#[]⟩, .slice none 0 0, .int .u8 0, .int .i64 0, .string ⟨#[]⟩, .slice none 0 0] 52)).heap.size = w.heap.size + 1 + 1) := Lib.hid (by simp)
  have HP := Lib.hid hp
  have HT := Lib.hid ht
  have HCO := Lib.hid (fun (w1 : World) (h : Below w.heap.size w w1) => compute_C g pa ta ba pc tc bc _ selfF w1 (hb.stays (Stays.of_below h)) (self_clos w1) (by omega))
  clear hA1 hcs hp ht hb hg
  go_enter Tryz.func17, Tryz.ntmps17
  go_wp2_with fail
  generalize ((w.alloc (.cells #[.string g.name, .slice pa g.params.length pc, .bool g.list, .slice ta g.temps.length tc, .slice ba g.body.length bc, .string g.result] 31)).alloc (.cells #[.string ⟨#[]⟩, .slice none 0 0, .int .u8 0, .int .i64 0, .string ⟨#[]⟩, .slice none 0 0] 52)) = W at *
  refine (HCO.out _ hA).mono ?_
  rintro e w1 ⟨ka, kn, kc, rfl, hk1, hb1⟩
  have hA1 : Below w.heap.size w w1 := hA.trans (hb1.mono hA.size)
  have hk1' : KidsAt (Up (w.heap.size + 2)) w1 (.slice ka kn kc) (bindsN selfF g.body) := hk1.stays (stays_upup (by have := HSZ.out; omega))
  have HK1 := Lib.hid hk1'
  have hb1a : Below w1.heap.size w1 (w1.alloc (.cells #[.int .u8 57, .int .i64 0, .string ⟨#[]⟩, .slice ka kn kc] 35)) := (Below.refl _ _).alloc (Nat.le_refl _) _
  have HI := Lib.hid (HINV.out ka kn kc (Up (w.heap.size + 2)) (w1.alloc (.cells #[.int .u8 57, .int .i64 0, .string ⟨#[]⟩, .slice ka kn kc] 35)) ((nd_node (k := 57) (s := ⟨#[]⟩) hk1' (by omega) (Nat.zero_le _)).stays (Stays.of_below hb1a)))
  clear hk1 hk1'
  go_wp2_with fail
  refine HI.out.mono ?_
  rintro e w2 ⟨ja, jn, jc, rfl, hk2, hb2⟩
  have hb12 : Below w1.heap.size w1 w2 := hb1a.trans (hb2.mono hb1a.size)
  have hs1 := hb1.size
  have hs2 := hb12.size
  have hzz := HSZ.out
  have hA2 : Below w.heap.size w w2 := hA1.trans (hb12.mono hA1.size)
  have HK2 : Hid (KidsAt (Up (w.heap.size + 2)) w2 (.slice ja jn jc) (invL (bindsN selfF g.body)).reverse) := Lib.hid ((ndKids hk2).stays (stays_newB_up (by simp; omega)))
  have HO1 : Hid (w2.heap[w1.heap.size]? = some (.cells #[.int .u8 57, .int .i64 0, .string ⟨#[]⟩, .slice ka kn kc] 35)) := Lib.hid (blk_below hb2 (blk_new rfl))
  clear hk2 HI HINV
  go_wp2
  have HO2 : Hid ((w2.alloc (.cells #[.int .u8 57, .int .i64 0, .string ⟨#[]⟩, .slice ja jn jc] 35)).heap[w2.heap.size]? = some (.cells #[.int .u8 57, .int .i64 0, .string ⟨#[]⟩, .slice ja jn jc] 35)) := Lib.hid (blk_new rfl)
  have hb2a : Below w2.heap.size w2 (w2.alloc (.cells #[.int .u8 57, .int .i64 0, .string ⟨#[]⟩, .slice ja jn jc] 35)) := (Below.refl _ _).alloc (Nat.le_refl _) _
  have HS6 : Hid (∀ w1', Below (w2.alloc (.cells #[.int .u8 57, .int .i64 0, .string ⟨#[]⟩, .slice ja jn jc] 35)).heap.size (w2.alloc (.cells #[.int .u8 57, .int .i64 0, .string ⟨#[]⟩, .slice ja jn jc] 35)) w1' → (fun w1' => w1'.cell? ⟨w.heap.size, 0, none⟩ = some (.string g.name) ∧ w1'.cell? ⟨w.heap.size, 1, none⟩ = some (.slice pa g.params.length pc) ∧ w1'.cell? ⟨w.heap.size, 2, none⟩ = some (.bool g.list) ∧ w1'.cell? ⟨w.heap.size, 3, none⟩ = some (.slice ta g.temps.length tc) ∧ w1'.cell? ⟨w.heap.size, 4, none⟩ = some (.slice ba g.body.length bc) ∧ w1'.cell? ⟨w.heap.size, 5, none⟩ = some (.string g.result) ∧ w1'.cell? ⟨w1.heap.size, 3, none⟩ = some (.slice ka kn kc) ∧ w1'.cell? ⟨w2.heap.size, 3, none⟩ = some (.slice ja jn jc)) w1') := Lib.hid (fun w1' hw => by
    have hw2 : Below w2.heap.size w2 w1' := hb2a.trans (hw.mono hb2a.size)
    obtain ⟨f0, f1, f2, f3, f4, f5⟩ := cells6 (blk_below hw2 (blk_below hb12 (blk_below hb1 HBX.out.1)))
    exact ⟨f0, f1, f2, f3, f4, f5, (cells4 (blk_below hw2 HO1.out)).2.2.2, (cells4 (blk_below hw HO2.out)).2.2.2⟩)
  generalize hw2b : (w2.alloc (.cells #[.int .u8 57, .int .i64 0, .string ⟨#[]⟩, .slice ja jn jc] 35)) = w2b at *
  have hb22 : Below w2.heap.size w2 w2b := hb2a
  have hs2b := hb22.size
  go_region_held3 (fun w1' => w1'.cell? ⟨w.heap.size, 0, none⟩ = some (.string g.name) ∧ w1'.cell? ⟨w.heap.size, 1, none⟩ = some (.slice pa g.params.length pc) ∧ w1'.cell? ⟨w.heap.size, 2, none⟩ = some (.bool g.list) ∧ w1'.cell? ⟨w.heap.size, 3, none⟩ = some (.slice ta g.temps.length tc) ∧ w1'.cell? ⟨w.heap.size, 4, none⟩ = some (.slice ba g.body.length bc) ∧ w1'.cell? ⟨w.heap.size, 5, none⟩ = some (.string g.result) ∧ w1'.cell? ⟨w1.heap.size, 3, none⟩ = some (.slice ka kn kc) ∧ w1'.cell? ⟨w2.heap.size, 3, none⟩ = some (.slice ja jn jc))
    (with_reducible exact HS6.out _ (by (repeat (with_reducible first | exact Below.refl _ _ | refine bel_drew ?_ | refine bel_alloc ?_ | (apply bel_step; focus assumption)))))
    (first
    | (go_at_call 48; refine (result_C g pa ta ba pc tc bc _ hr).mono ?_; rintro e w3 ⟨rk, ra, rn, rc, rfl, hk3, hb3⟩; have hw3 : Below w2b.heap.size w2b w3 := (by (repeat (with_reducible first | exact Below.refl _ _ | refine bel_drew ?_ | refine bel_alloc ?_ | (apply bel_step; focus assumption)))); have HW23 := Lib.hid (hb22.trans (hw3.mono hb22.size)); have HW13 := Lib.hid (hb12.trans (HW23.out.mono hb12.size)); have hs3 := HW23.out.size; have HK3 : Hid (NdAt (Up (w.heap.size + 2)) w3 (.agg #[.int .u8 rk, .int .i64 0, .string (resultN g).name, .slice ra rn rc]) (resultN g)) := Lib.hid (hk3.stays (stays_upup (by simp; omega))))
    | (go_at_call 47; refine (concat_P (w.heap.size + 2) w3 rk (resultN g).name ka ja ra kn kc jn jc rn rc (bindsN selfF g.body) (invL (bindsN selfF g.body)).reverse (resultN g) (by omega) (HK1.out.stays (Stays.of_below HW13.out)) HK3.out (HK2.out.stays (Stays.of_below HW23.out)) (by omega) (by rw [List.length_reverse, invL_len]; omega)).mono ?_; rintro e w4 ⟨xa, xn, xc, rfl, hk4, hb4⟩))
  all_goals
    have hbb4 : Below W.heap.size W w4 := (hb1.trans ((hb12.trans ((HW23.out.trans (hb4.mono HW23.out.size)).mono hb12.size)).mono hb1.size))
    have HBX4 : Hid (PBox g pa ta ba pc tc bc w w4) := Lib.hid ⟨blk_below hbb4 HBX.out.1, blk_below hbb4 HBX.out.2⟩
    have hA4 : Below w.heap.size w w4 := hA.trans (hbb4.mono hA.size)
    have hs4 := hbb4.size
    have HA4 := Lib.hid hA4
    have HND4 : Hid (NdAt (fun b => Up (w.heap.size + 2) b ∧ b < w4.heap.size) w4 (.agg #[.int .u8 57, .int .i64 0, .string ⟨#[]⟩, .slice xa xn xc]) (blockN (bindsN selfF g.body ++ [resultN g] ++ (invL (bindsN selfF g.body)).reverse))) := Lib.hid (nd_node (k := 57) ((kids_rows.2 hk4).stays ⟨Nat.le_refl _, fun b hb a => ⟨rfl, a, hb⟩⟩) (by omega) (Nat.zero_le _))
    go_wp2
    clear hb1 hb12 hb1a hb2 hb2a hb22 hw3 hb3 hb4 hbb4 hA1 hA2 hk3 hk4 HS6 HK1 HK2 HK3 HO1 HO2 HW23 HW13 hA hA4 hw2b hs3
    have HS7 : Hid (∀ w1', Below w4.heap.size w4 w1' → w1'.cell? ⟨w.heap.size, 3, none⟩ = some (.slice ta g.temps.length tc)) := Lib.hid (fun w1' hw => (cells6 (blk_below hw HBX4.out.1)).2.2.2.1)
    go_cut [9] (fun s wx => CutB g pa ta ba pc tc bc w s wx)
    case first =>
      go_region_held3 (fun w1' => w1'.cell? ⟨w.heap.size, 3, none⟩ = some (.slice ta g.temps.length tc))
        (with_reducible exact HS7.out _ (by (repeat (with_reducible first | exact Below.refl _ _ | refine bel_drew ?_ | refine bel_alloc ?_ | (refine bel_sets4 ?_ ?_; rotate_left; (focus (first | exact Nat.le_refl _ | exact Below.size (by (repeat (with_reducible first | exact Below.refl _ _ | refine bel_drew ?_ | refine bel_alloc ?_ | (apply bel_step; focus assumption))))))) | (apply bel_step; focus assumption)))))
        (first
        | (go_at_call 37; refine (block_C _ _ _ _).mono ?_; rintro e w5 ⟨rfl, hb5⟩)
        | (go_at_call 49; refine (locals_B g.temps ta tc xa xn xc _ (fun b => Up (w.heap.size + 2) b ∧ b < w4.heap.size) _ (HT.out.stays (Stays.of_below (HA4.out.trans (Below.mono (by (repeat (with_reducible first | exact Below.refl _ _ | refine bel_drew ?_ | refine bel_alloc ?_ | (apply bel_step; focus assumption)))) HA4.out.size)))) (HND4.out.stays (Stays.of_below (by (repeat (with_reducible first | exact Below.refl _ _ | refine bel_drew ?_ | refine bel_alloc ?_ | (apply bel_step; focus assumption)))))) (by omega)).mono ?_; rintro e w6 ⟨ya, yn, yc, rfl, hk6, hb6⟩; (first | (refine blk_use w6 w4.heap.size ?_ (fun g0 g1 g2 g3 gf => ?_); focus ((repeat (with_reducible first | (refine blk_new ?_; (simp; done)) | refine blk_drew ?_ | refine blk_alloc ?_ | (apply blk_below; focus assumption))); done)) | skip); (first | (refine blk_use w6 w5.heap.size ?_ (fun g0 g1 g2 g3 gf => ?_); focus ((repeat (with_reducible first | (refine blk_new ?_; (simp; done)) | refine blk_drew ?_ | refine blk_alloc ?_ | (apply blk_below; focus assumption))); done)) | skip)))
      all_goals
        have hz5 := hb5.size
        have hz6 := hb6.size
        simp only [World.size_alloc, World.size_drew] at hz5 hz6
        have hzz := HSZ.out
        go_wp2
        go_meet
        first
        | ((with_reducible refine cutB_new ?_ hk6 ?_ ?_ ?_ ?_ ?_); (focus ((repeat (with_reducible first | (refine blk_new ?_; (simp; done)) | refine blk_drew ?_ | refine blk_alloc ?_ | (apply blk_below; focus assumption))); done)); (focus (first | omega | (simp; done) | (simp; omega))); (focus (first | exact Nat.le_refl _ | (simp; done))); (focus ((repeat (with_reducible first | exact Below.refl _ _ | refine bel_drew ?_ | refine bel_alloc ?_ | (apply bel_step; focus assumption))); done)); (focus exact ⟨blk_below (by (repeat (with_reducible first | exact Below.refl _ _ | refine bel_drew ?_ | refine bel_alloc ?_ | (apply bel_step; focus assumption)))) HBX4.out.1, blk_below (by (repeat (with_reducible first | exact Below.refl _ _ | refine bel_drew ?_ | refine bel_alloc ?_ | (apply bel_step; focus assumption)))) HBX4.out.2⟩); (focus exact HA4.out.trans (Below.mono (by (repeat (with_reducible first | exact Below.refl _ _ | refine bel_drew ?_ | refine bel_alloc ?_ | (apply bel_step; focus assumption)))) HA4.out.size)))
        | ((with_reducible refine cutB_set ?_ hk6 ?_ ?_ ?_ ?_ ?_ ?_); (focus ((repeat (with_reducible first | (refine blk_new ?_; (simp; done)) | refine blk_drew ?_ | refine blk_alloc ?_ | (apply blk_below; focus assumption))); done)); (focus omega); (focus omega); (focus (first | omega | (simp; done) | (simp; omega))); (focus ((repeat (with_reducible first | exact Below.refl _ _ | refine bel_drew ?_ | refine bel_alloc ?_ | (apply bel_step; focus assumption))); done)); (focus exact ⟨blk_below (by (repeat (with_reducible first | exact Below.refl _ _ | refine bel_drew ?_ | refine bel_alloc ?_ | (apply bel_step; focus assumption)))) HBX4.out.1, blk_below (by (repeat (with_reducible first | exact Below.refl _ _ | refine bel_drew ?_ | refine bel_alloc ?_ | (apply bel_step; focus assumption)))) HBX4.out.2⟩); (focus exact HA4.out.trans (Below.mono (by (repeat (with_reducible first | exact Below.refl _ _ | refine bel_drew ?_ | refine bel_alloc ?_ | (apply bel_step; focus assumption)))) HA4.out.size)))
    case rest =>
      obtain ⟨gb, ya, yn, yc, rfl, hG, hN, hPB, hBw⟩ := hcut
      have HG := Lib.hid hG
      have HN := Lib.hid hN
      have HPB := Lib.hid hPB
      have HBw := Lib.hid hBw
      obtain ⟨f0, f1, f2, f3, f4, f5⟩ := cells6 hPB.1
      clear hG hN hPB hBw HS7 HND4 HBX4 HA4 HBX hs4
      have HPC := Lib.hid (params_C g pa ta ba pc tc bc wc (HP.out.stays (Stays.of_below HBw.out)) (by omega))
      have hpn : (paramsN g).length ≤ 9 := by simp [paramsN]; omega
      go_wp2_with fail
      refine HPC.out.mono ?_
      rintro e w7 ⟨va, vc, rfl, hv7, hb7⟩
      have HV7 := Lib.hid hv7
      obtain ⟨g0, g1, g2, g3⟩ := cells4 (blk_below hb7 HG.out)
      have HD7 := Lib.hid (astDepth_any (procB g) _ _ w7 hsz (HN.out.stays (Stays.of_below hb7)))
      clear hv7 f0 f1 f2 f3 f4 f5
      go_wp2_with fail
      refine HD7.out.mono ?_
      rintro e w8 ⟨rfl, hb8⟩
      have hb78 : Below wc.heap.size wc w8 := hb7.trans (hb8.mono hb7.size)
      obtain ⟨p0, p1, p2, p3⟩ := cells4 (blk_below hb78 HG.out)
      have HS8 := Lib.hid (astSize_any (procB g) _ _ w8 hsz (HN.out.stays (Stays.of_below hb78)))
      obtain ⟨z0, z1, z2, z3, z4, z5⟩ := cells6 (blk_below hb78 HPB.out.2)
      have zf := unfrozen (blk_below hb78 HPB.out.2)
      clear g0 g1 g2 g3
      by_cases h80 : 80 < depthN (procB g)
      · have d80 : decide ((80 : Int) < (depthN (procB g) : Int)) = true := by simp; omega
        have HH := Lib.hid h80
        clear h80
        go_wp2
        (try simp only [Exit.inBlock, Exit.then])
        refine bodyPost_ret (results_cell_row2 (P := Tryz.prog) rfl _ _ (w.heap.size + 1) _ _ _ _ _ rfl (set6 (blk_below hb78 HPB.out.2) _ _ _ _ _ _) rfl Tryz.underlying52 rfl (by kernel_rfl)) rfl ?_
        exact ⟨below_sets6 (HBw.out.trans (hb78.mono HBw.out.size)) (by omega), fun _ => rfl, fun h => absurd HH.out h, fun h => absurd HH.out h⟩
      · have d80 : decide ((80 : Int) < (depthN (procB g) : Int)) = false := by simp; omega
        have HH := Lib.hid h80
        clear h80
        go_wp2_with fail
        refine HS8.out.mono ?_
        rintro e w9 ⟨rfl, hb9⟩
        have hb79 : Below wc.heap.size wc w9 := hb78.trans (hb9.mono hb78.size)
        obtain ⟨z0, z1, z2, z3, z4, z5⟩ := cells6 (blk_below hb79 HPB.out.2)
        have zf := unfrozen (blk_below hb79 HPB.out.2)
        obtain ⟨q0, q1, q2, q3⟩ := cells4 (blk_below hb79 HG.out)
        obtain ⟨f0, f1, f2, f3, f4, f5⟩ := cells6 (blk_below hb79 HPB.out.1)
        have ff := unfrozen (blk_below hb79 HPB.out.1)
        by_cases hs : 2000 < sizeN (procB g)
        · have d : decide ((2000 : Int) < (sizeN (procB g) : Int)) = true := by simp; omega
          have HQ : Hid (2000 < sizeN (procB g) ∨ 8 < (paramsN g).length) := Lib.hid (.inl hs)
          clear hs
          go_wp2
          (try simp only [Exit.inBlock, Exit.then])
          refine bodyPost_ret (results_cell_row2 (P := Tryz.prog) rfl _ _ (w.heap.size + 1) _ _ _ _ _ rfl (set6 (blk_below hb79 HPB.out.2) _ _ _ _ _ _) rfl Tryz.underlying52 rfl (by kernel_rfl)) rfl ?_
          exact ⟨below_sets6 (HBw.out.trans (hb79.mono HBw.out.size)) (by omega), fun h => absurd h HH.out, fun _ _ => rfl, fun _ h => absurd HQ.out h⟩
        · have d : decide ((2000 : Int) < (sizeN (procB g) : Int)) = false := by simp; omega
          by_cases hl : 8 < (paramsN g).length
          · have d2 : decide ((8 : Int) < ((paramsN g).length : Int)) = true := by simp; omega
            have HQ : Hid (2000 < sizeN (procB g) ∨ 8 < (paramsN g).length) := Lib.hid (.inr hl)
            clear hs hl
            go_wp2
            (try simp only [Exit.inBlock, Exit.then])
            refine bodyPost_ret (results_cell_row2 (P := Tryz.prog) rfl _ _ (w.heap.size + 1) _ _ _ _ _ rfl (set6 (blk_below hb79 HPB.out.2) _ _ _ _ _ _) rfl Tryz.underlying52 rfl (by kernel_rfl)) rfl ?_
            exact ⟨below_sets6 (HBw.out.trans (hb79.mono HBw.out.size)) (by omega), fun h => absurd h HH.out, fun _ _ => rfl, fun _ h => absurd HQ.out h⟩
          · have d2 : decide ((8 : Int) < ((paramsN g).length : Int)) = false := by simp; omega
            have HQ : Hid (¬ (2000 < sizeN (procB g) ∨ 8 < (paramsN g).length)) := Lib.hid (by omega)
            clear hs hl
            go_wp2
            (try simp only [Exit.inBlock, Exit.then])
            refine bodyPost_ret (results_cell_row2 (P := Tryz.prog) rfl _ _ (w.heap.size + 1) _ _ _ _ _ rfl (set6 (blk_below hb79 HPB.out.2) _ _ _ _ _ _) rfl Tryz.underlying52 rfl (by kernel_rfl)) rfl ?_
            have hbw := HBw.out
            have hsz2 := hbw.size
            have hzl : w.heap.size + 1 < wc.heap.size := by have h := HPB.out.2; rw [Array.getElem?_eq_some_iff] at h; exact h.1
            have hK := keeps_set6 w9 (w.heap.size + 1) (.string g.name) (.slice va (paramsN g).length vc) (.int .u8 57) (.int .i64 0) (.string ⟨#[]⟩) (.slice ya yn yc)
            have hb89 : Below w7.heap.size w7 w9 := hb8.trans (hb9.mono hb8.size)
            refine ⟨below_sets6 (hbw.trans (hb79.mono hbw.size)) (by omega), fun h => absurd h HH.out, fun _ h => absurd h HQ.out, fun _ _ => ⟨_, _, _, _, _, rfl, ?_, ?_⟩⟩
            · exact ((HV7.out.stays (Stays.of_below hb89)).stays (stays_keep hK (fun k hk _ e => by have : wc.heap.size ≤ k := hk; omega))).young (fun k _ hk => by have : wc.heap.size ≤ k := hk; unfold Up; omega)
            · exact (HN.out.stays (Stays.of_below hb79)).stays ⟨hK.size, fun b hb a => ⟨hK.block b hb (fun e => by have : w.heap.size + 2 ≤ b := a.1; omega), by have : w.heap.size + 2 ≤ b := a.1; unfold Up; omega⟩⟩
end Go.Proofs.YtehmmokkjojggabGreatDoor
/- Walks of package backsteplaw40: normal. -/
namespace Go.Proofs.YtehmmokkjojggabGreatDoor
set_option linter.unusedVariables false
open Go.RowKit

/-- a small valid library -/
def SmallOk (lib : List Fn) : Prop := lib.length ≤ 8 ∧ (∀ i, i < lib.length → sizeN (at' lib i).body ≤ 120) ∧ (validE lib).2 = 0
/-- what normal leaves -/
def NormalPost (lib : List Fn) (w : World) (e : Ending) (w' : World) : Prop := Below w.heap.size w w' ∧ ((∃ a n c, e = .returned (.tuple #[.slice a n c, .bool false])) ∨ ∃ a c, e = .returned (.tuple #[.slice a (normL lib).length c, .bool true]) ∧ SmallOk lib ∧ AFnsAt Any w' (.slice a (normL lib).length c) (normL lib))

set_option maxRecDepth 100000 in
set_option maxHeartbeats 3200000 in
theorem normal_any (lv : Value) (lib : List Fn) (A : Nat → Prop) (w : World) (hl : FnsAt A w lv lib) (ht : Tab w) :
    Calls Tryz.prog 9 #[lv] w (NormalPost lib w) := by
  obtain ⟨hll, la, lc, rfl⟩ := hl.form
  unfold maxLen at hll
  have HL := Lib.hid hl
  have HT := Lib.hid ht
  clear hl ht
  by_cases h8 : 8 < lib.length
  · have d8 : decide ((8 : Int) < (lib.length : Int)) = true := by simp; omega
    go_enter Tryz.func9, Tryz.ntmps9
    go_wp2
    go_ret2
    exact ⟨Below.refl _ _, .inl ⟨_, _, _, rfl⟩⟩
  · have d8 : decide ((8 : Int) < (lib.length : Int)) = false := by simp; omega
    go_enter Tryz.func9, Tryz.ntmps9
    go_wp2
    go_loopw [13] (fun i wr => ∃ k : Nat, i = .int .i64 k ∧ k ≤ lib.length ∧ Below w.heap.size w wr ∧ ∀ j, j < k → sizeN (at' lib j).body ≤ 120) (fun i _ => lib.length - (intOf i).toNat)
    case atStart => exact ⟨0, rfl, Nat.zero_le _, Below.refl _ _, fun j hj => by omega⟩
    case round =>
      obtain ⟨k, rfl, hk, hbl, hsm⟩ := hrel
      have HSM := Lib.hid hsm
      clear hsm
      by_cases hlt : k < lib.length
      · obtain ⟨b, off, cap', pa, pc, ka, kc, he, hb, _, _, c0, c1, c2, c3, c4, c5, c6, hsn, hpar, hnd⟩ := (HL.out.stays (Stays.of_below hbl)).at hlt
        simp only [Value.slice.injEq] at he
        obtain ⟨rfl, -, rfl⟩ := he
        have hA1 : Below wr.heap.size wr (wr.alloc (.cells #[.string (at' lib k).name, .slice pa (at' lib k).params.length pc, .bool (at' lib k).list, .int .u8 (at' lib k).body.kind, .int .i64 (at' lib k).body.num, .string (at' lib k).body.name, .slice ka (at' lib k).body.kids.length kc] 37)) := (Below.refl _ _).alloc (Nat.le_refl _) _
        have HBU := Lib.hid (budget_upto _ (at' lib k).body 120 _ A _ (Nat.le_refl _) (by omega) (by omega) (hnd.stays (Stays.of_below hA1)))
        have hls := leftN_size (at' lib k).body 120 (by omega)
        clear hpar hnd
        by_cases hneg : leftN (at' lib k).body 120 < 0
        · have dn : decide (leftN (at' lib k).body 120 < 0) = true := by simp [hneg]
          have HLS := Lib.hid hls
          clear hls
          go_wp2_with (go_at_call 35; refine HBU.out.mono ?_; rintro e w1 ⟨rfl, hb1⟩)
          go_ret2
          exact ⟨hbl.trans ((hA1.trans (hb1.mono hA1.size)).mono hbl.size), .inl ⟨_, _, _, rfl⟩⟩
        · have dn : decide (leftN (at' lib k).body 120 < 0) = false := by simp [hneg]
          have hsz : sizeN (at' lib k).body ≤ 120 := by have := hls.2.2 (by omega); omega
          have HNX : Hid (∀ j, j < k + 1 → sizeN (at' lib j).body ≤ 120) := Lib.hid (fun j hj => by
            by_cases e : j = k
            · subst e; exact hsz
            · exact HSM.out j (by omega))
          have HLS := Lib.hid hls
          clear hls hsz
          go_wp2_with (go_at_call 35; refine HBU.out.mono ?_; rintro e w1 ⟨rfl, hb1⟩)
          exact ⟨⟨k + 1, by go_num, by omega, hbl.trans ((hA1.trans (hb1.mono hA1.size)).mono hbl.size), HNX.out⟩, by simp [intOf]; omega⟩
      · obtain rfl : k = lib.length := by omega
        have hlt' : ¬ (lib.length : Int) < (lib.length : Int) := by omega
        have hmod : Modest lib := fun j hj => by have := HSM.out j hj; omega
        have HNO := Lib.hid (normalizeL_any _ lib A wr (HL.out.stays (Stays.of_below hbl)) hmod (HT.out.below hbl))
        clear hmod
        by_cases hv : (validE lib).2 = 0
        · have HV := Lib.hid hv
          clear hv
          go_wp2_with (go_at_call 36; refine HNO.out.mono ?_; intro e w1 hp1; obtain ⟨v, rfl, hv1⟩ := hp1.2.1 HV.out; obtain ⟨_, a1, c1, rfl⟩ := hv1.form; have hb1 := hp1.2.2; have HV1 := Lib.hid hv1; clear hp1 hv1)
          go_ret2
          exact ⟨hbl.trans (hb1.mono hbl.size), .inr ⟨_, _, rfl, ⟨by omega, HSM.out, HV.out⟩, HV1.out⟩⟩
        · have HV := Lib.hid hv
          have dv : ((validE lib).2 == 0) = false := by simp [hv]
          clear hv
          go_wp2_with (go_at_call 36; refine HNO.out.mono ?_; intro e w1 hp1; obtain rfl := hp1.1 HV.out; have hb1 := hp1.2.2; clear hp1)
          go_ret2
          exact ⟨hbl.trans (hb1.mono hbl.size), .inl ⟨_, _, _, rfl⟩⟩
end Go.Proofs.YtehmmokkjojggabGreatDoor
/- Walks of package backsteplaw40: awake. -/
namespace Go.Proofs.YtehmmokkjojggabGreatDoor
set_option linter.unusedVariables false
open Go.RowKit

/-- the example of the chapter -/
def exBody : Nd := .mk 82 10 ⟨#[]⟩ [.mk 81 0 ⟨#[120]⟩ [], .mk 81 0 ⟨#[120]⟩ []]
def exLib : List Fn := [⟨⟨#[102]⟩, [⟨⟨#[120]⟩, false⟩], false, exBody⟩]
def exFn : AFn := ⟨⟨#[102]⟩, [⟨⟨#[120]⟩, false⟩], false, [⟨tname 0, false⟩], [.mk (tname 0) false 82 10 ByteArray.empty [⟨#[120]⟩, ⟨#[120]⟩] [] []], tname 0⟩
theorem ex_valid : (validE exLib).2 = 0 := by decide +kernel
theorem ex_norm : normL exLib = [exFn] := rfl
theorem t0_name : tname 0 = ⟨#[116, 48]⟩ := by unfold tname; rw [Lib.decDigits_one (by omega)]; rfl
def exInner : Nd := blockN [plusN (tname 0) (nodeN 10 ByteArray.empty [vN ⟨#[120]⟩, vN ⟨#[120]⟩]), nodeN 42 ByteArray.empty [vN outS, vN (tname 0)], .mk 41 0 ByteArray.empty [vN (tname 0), nodeN 10 ByteArray.empty [vN ⟨#[120]⟩, vN ⟨#[120]⟩]]]
theorem ex_proc : procB exFn = blockN [nodeN 54 (tname 0) [numN 0, exInner, numN 0]] := rfl
theorem ex_depth : ¬ 80 < depthN (procB exFn) := by rw [ex_proc]; decide +kernel
theorem ex_size : sizeN (procB exFn) ≤ 2000 := by rw [ex_proc]; decide +kernel
theorem ex_pars : paramsN exFn = [dclN ⟨#[120]⟩ false, dclN outS false] := rfl
end Go.Proofs.YtehmmokkjojggabGreatDoor
/- The example in the heap; an element of a row of normalized functions. -/
namespace Go.Proofs.YtehmmokkjojggabGreatDoor
set_option linter.unusedVariables false
open Go.RowKit

theorem afn_at {A : Nat → Prop} {w : World} {v : Value} {l : List AFn} (h : AFnsAt A w v l) {j : Nat} (hj : j < l.length) :
    ∃ b off cap pa pc ta tc ba bc, v = .slice (some ⟨b, off, none⟩) l.length cap ∧ b < w.heap.size ∧ l.length ≤ cap ∧ w.cell? ⟨b, off + j * 6, none⟩ = some (.string (at' l j).name) ∧ w.cell? ⟨b, off + j * 6 + 1, none⟩ = some (.slice pa (at' l j).params.length pc) ∧ w.cell? ⟨b, off + j * 6 + 2, none⟩ = some (.bool (at' l j).list) ∧
      w.cell? ⟨b, off + j * 6 + 3, none⟩ = some (.slice ta (at' l j).temps.length tc) ∧ w.cell? ⟨b, off + j * 6 + 4, none⟩ = some (.slice ba (at' l j).body.length bc) ∧ w.cell? ⟨b, off + j * 6 + 5, none⟩ = some (.string (at' l j).result) ∧
      ParsAt A w (.slice pa (at' l j).params.length pc) (at' l j).params ∧ ParsAt A w (.slice ta (at' l j).temps.length tc) (at' l j).temps ∧ BdsAt A w (.slice ba (at' l j).body.length bc) (at' l j).body ∧ (at' l j).name.size ≤ maxLen ∧ (at' l j).result.size ≤ maxLen := by
  obtain ⟨cs, h, hf⟩ := h
  obtain ⟨b, off, cap, rfl, h1, h2, h3, h4⟩ := h.at hj
  have e := hf j hj
  obtain ⟨_, pa, pc, f1⟩ := e.c1.form
  obtain ⟨_, ta, tc, f3⟩ := e.c3.form
  obtain ⟨_, ba, bc, f4⟩ := e.c4.form
  have g1 := h4 1 (by omega)
  have g3 := h4 3 (by omega)
  have g4 := h4 4 (by omega)
  have e1 := e.c1
  have e3 := e.c3
  have e4 := e.c4
  rw [f1] at g1 e1
  rw [f3] at g3 e3
  rw [f4] at g4 e4
  exact ⟨b, off, cap, pa, pc, ta, tc, ba, bc, rfl, h1, h2, by rw [← e.c0]; exact h4 0 (by omega), g1, by rw [← e.c2]; exact h4 2 (by omega), g3, g4, by rw [← e.c5]; exact h4 5 (by omega), e1, e3, e4, e.s0, e.s5⟩

theorem ex_fns {w : World} {g1 g2 g3 : Nat} (h1 : w.heap[g1]? = some (.cells #[.string ⟨#[120]⟩, .bool false] 57 (0, 0))) (h2 : w.heap[g2]? = some (.cells #[.int .u8 81, .int .i64 0, .string ⟨#[120]⟩, .slice none 0 0, .int .u8 81, .int .i64 0, .string ⟨#[120]⟩, .slice none 0 0] 35 (0, 0)))
    (h3 : w.heap[g3]? = some (.cells #[.string ⟨#[102]⟩, .slice (some ⟨g1, 0, none⟩) 1 1, .bool false, .int .u8 82, .int .i64 10, .string ⟨#[]⟩, .slice (some ⟨g2, 0, none⟩) 2 2] 37 (0, 0))) : FnsAt Any w (.slice (some ⟨g3, 0, none⟩) 1 1) exLib := by
  have l1 : g1 < w.heap.size := by rw [Array.getElem?_eq_some_iff] at h1; exact h1.1
  have l3 : g3 < w.heap.size := by rw [Array.getElem?_eq_some_iff] at h3; exact h3.1
  have hp : ParsAt Any w (.slice (some ⟨g1, 0, none⟩) 1 1) [⟨⟨#[120]⟩, false⟩] := by
    refine ⟨fun j i => if i = 0 then .string ⟨#[120]⟩ else .bool false, ⟨by unfold maxLen; simp, _, _, rfl, Nat.le_refl _, nofun, fun _ => ⟨g1, 0, rfl, l1, trivial, fun j hj i hi => ?_⟩⟩, fun j hj => ?_⟩
    · obtain rfl : j = 0 := by simp at hj; exact hj
      match i, hi with
      | 0, _ => exact cell_blk h1 0 rfl
      | 1, _ => exact cell_blk h1 1 rfl
    · obtain rfl : j = 0 := by simp at hj; exact hj
      exact ⟨rfl, rfl, by unfold maxLen; decide⟩
  have hv : NdAt Any w (.agg #[.int .u8 81, .int .i64 0, .string ⟨#[120]⟩, .slice none 0 0]) (.mk 81 0 ⟨#[120]⟩ []) := ⟨⟨⟨by decide, by decide⟩, by unfold In64; exact ⟨by decide, by decide⟩, by unfold maxLen; decide⟩, _, rfl, KidsAt.nil _⟩
  have hk : KidsAt Any w (.slice (some ⟨g2, 0, none⟩) 2 2) exBody.kids := kids_2 h2 trivial hv hv
  refine ⟨fun j i => #[Value.string ⟨#[102]⟩, .slice (some ⟨g1, 0, none⟩) 1 1, .bool false, .int .u8 82, .int .i64 10, .string ⟨#[]⟩, .slice (some ⟨g2, 0, none⟩) 2 2].getD i undef, ⟨by unfold maxLen; decide, _, _, rfl, Nat.le_refl _, nofun, fun _ => ⟨g3, 0, rfl, l3, trivial, fun j hj i hi => ?_⟩⟩, fun j hj => ?_⟩
  · obtain rfl : j = 0 := by simpa [exLib] using hj
    match i, hi with
    | 0, _ => exact cell_blk h3 0 rfl
    | 1, _ => exact cell_blk h3 1 rfl
    | 2, _ => exact cell_blk h3 2 rfl
    | 3, _ => exact cell_blk h3 3 rfl
    | 4, _ => exact cell_blk h3 4 rfl
    | 5, _ => exact cell_blk h3 5 rfl
    | 6, _ => exact cell_blk h3 6 rfl
  · obtain rfl : j = 0 := by simpa [exLib] using hj
    exact ⟨rfl, by show (⟨#[102]⟩ : ByteArray).size ≤ maxLen; unfold maxLen; decide, hp, rfl, rfl, rfl, rfl, ⟨⟨by decide, by decide⟩, by unfold In64; exact ⟨by decide, by decide⟩, by show (⟨#[]⟩ : ByteArray).size ≤ maxLen; unfold maxLen; decide⟩, hk⟩
end Go.Proofs.YtehmmokkjojggabGreatDoor
/- Walks of package backsteplaw40: awake. -/
namespace Go.Proofs.YtehmmokkjojggabGreatDoor
set_option linter.unusedVariables false
open Go.RowKit

theorem ex_good : GoodBs exLib exFn.body := (norm_good ex_valid (i := 0) (by decide)).1.body
theorem kid_at {A : Nat → Prop} {w : World} {ka : Option Addr} {kn kc : Nat} {kids : List Nd} (h : KidsAt A w (.slice ka kn kc) kids) (j : Nat) (hj : j < kids.length) : ∃ b off a c, ka = some ⟨b, off, none⟩ ∧ kn = kids.length ∧ kids.length ≤ kc ∧ b < w.heap.size ∧ w.cell? ⟨b, off + j * 4, none⟩ = some (.int .u8 (at' kids j).kind) ∧ w.cell? ⟨b, off + j * 4 + 1, none⟩ = some (.int .i64 (at' kids j).num) ∧ w.cell? ⟨b, off + j * 4 + 2, none⟩ = some (.string (at' kids j).name) ∧ w.cell? ⟨b, off + j * 4 + 3, none⟩ = some (.slice a (at' kids j).kids.length c) ∧ KidsAt A w (.slice a (at' kids j).kids.length c) (at' kids j).kids := by
  obtain ⟨b, off, cap, a, c, he, hb, hc, _, c0, c1, c2, c3, hn⟩ := h.at hj
  simp only [Value.slice.injEq] at he
  obtain ⟨rfl, rfl, rfl⟩ := he
  exact ⟨b, off, a, c, rfl, rfl, hc, hb, c0, c1, c2, c3, (nd_cells hn).2.2.2.1⟩

set_option maxRecDepth 100000 in
set_option maxHeartbeats 6400000 in
theorem awake_any (w : World) (ht : Tab w) : Calls Tryz.prog 10 #[] w fun e w' => e = .returned (.bool true) ∧ Below w.heap.size w w' := by
  have hA : Below w.heap.size w ((((w.alloc (.cells #[.int .u8 81, .int .i64 0, .string ⟨#[120]⟩, .slice none 0 0] 35)).alloc (.cells #[.string ⟨#[120]⟩, .bool false] 57)).alloc (.cells #[.int .u8 81, .int .i64 0, .string ⟨#[120]⟩, .slice none 0 0, .int .u8 81, .int .i64 0, .string ⟨#[120]⟩, .slice none 0 0] 35)).alloc (.cells #[.string ⟨#[102]⟩, .slice (some ⟨w.heap.size + 1, 0, none⟩) 1 1, .bool false, .int .u8 82, .int .i64 10, .string ⟨#[]⟩, .slice (some ⟨w.heap.size + 1 + 1, 0, none⟩) 2 2] 37)) := ((((Below.refl _ _).alloc (Nat.le_refl _) _).alloc (by simp) _).alloc (by simp; omega) _).alloc (by simp; omega) _
  have HNO : Hid (Calls Tryz.prog 36 #[.slice (some ⟨w.heap.size + 1 + 1 + 1, 0, none⟩) 1 1] ((((w.alloc (.cells #[.int .u8 81, .int .i64 0, .string ⟨#[120]⟩, .slice none 0 0] 35)).alloc (.cells #[.string ⟨#[120]⟩, .bool false] 57)).alloc (.cells #[.int .u8 81, .int .i64 0, .string ⟨#[120]⟩, .slice none 0 0, .int .u8 81, .int .i64 0, .string ⟨#[120]⟩, .slice none 0 0] 35)).alloc (.cells #[.string ⟨#[102]⟩, .slice (some ⟨w.heap.size + 1, 0, none⟩) 1 1, .bool false, .int .u8 82, .int .i64 10, .string ⟨#[]⟩, .slice (some ⟨w.heap.size + 1 + 1, 0, none⟩) 2 2] 37)) (NormPost exLib ((((w.alloc (.cells #[.int .u8 81, .int .i64 0, .string ⟨#[120]⟩, .slice none 0 0] 35)).alloc (.cells #[.string ⟨#[120]⟩, .bool false] 57)).alloc (.cells #[.int .u8 81, .int .i64 0, .string ⟨#[120]⟩, .slice none 0 0, .int .u8 81, .int .i64 0, .string ⟨#[120]⟩, .slice none 0 0] 35)).alloc (.cells #[.string ⟨#[102]⟩, .slice (some ⟨w.heap.size + 1, 0, none⟩) 1 1, .bool false, .int .u8 82, .int .i64 10, .string ⟨#[]⟩, .slice (some ⟨w.heap.size + 1 + 1, 0, none⟩) 2 2] 37)))) := Lib.hid (normalizeL_any _ exLib Any _ (ex_fns (g1 := w.heap.size + 1) (g2 := w.heap.size + 1 + 1) (by (repeat (with_reducible first | (refine blk_new ?_; (simp; done)) | refine blk_drew ?_ | refine blk_alloc ?_ | (apply blk_below; focus assumption)))) (by (repeat (with_reducible first | (refine blk_new ?_; (simp; done)) | refine blk_drew ?_ | refine blk_alloc ?_ | (apply blk_below; focus assumption)))) (by (repeat (with_reducible first | (refine blk_new ?_; (simp; done)) | refine blk_drew ?_ | refine blk_alloc ?_ | (apply blk_below; focus assumption))))) (fun j hj => by
    obtain rfl : j = 0 := by simpa [exLib] using hj
    show sizeN exBody ≤ 20000
    decide +kernel) (ht.below hA))
  clear ht
  go_enter Tryz.func10, Tryz.ntmps10
  go_wp2_with fail
  generalize ((((w.alloc (.cells #[.int .u8 81, .int .i64 0, .string ⟨#[120]⟩, .slice none 0 0] 35)).alloc (.cells #[.string ⟨#[120]⟩, .bool false] 57)).alloc (.cells #[.int .u8 81, .int .i64 0, .string ⟨#[120]⟩, .slice none 0 0, .int .u8 81, .int .i64 0, .string ⟨#[120]⟩, .slice none 0 0] 35)).alloc (.cells #[.string ⟨#[102]⟩, .slice (some ⟨w.heap.size + 1, 0, none⟩) 1 1, .bool false, .int .u8 82, .int .i64 10, .string ⟨#[]⟩, .slice (some ⟨w.heap.size + 1 + 1, 0, none⟩) 2 2] 37)) = W at *
  refine HNO.out.mono ?_
  intro e w1 hp1
  obtain ⟨v, rfl, hv1⟩ := hp1.2.1 ex_valid
  have hb1 := hp1.2.2
  rw [ex_norm] at hv1
  obtain ⟨b, off, cap, pa, pc, ta, tc, ba, bc, rfl, hb, hcap, m0, m1, m2, m3, m4, m5, hpp, htt, hbb, hs0, hs5⟩ := afn_at hv1 (j := 0) (by simp)
  simp only [show at' [exFn] 0 = exFn from rfl, Nat.zero_mul, Nat.add_zero, List.length_singleton] at *
  have HPC := Lib.hid (proc_C exFn exLib pa ta ba pc tc bc w1 hpp htt hbb hs5 ex_good (by decide +kernel) (by decide +kernel) (by decide +kernel) (Nat.le_trans ex_size (by omega)))
  clear hp1 hv1 hpp htt hbb hs0 hs5 HNO
  go_wp2_with fail
  refine HPC.out.mono ?_
  intro e w2 hp2
  have hb2 := hp2.1
  obtain ⟨a, c, ka, kn, kc, rfl, hrow, hnd⟩ := hp2.2.2.2 ex_depth (by have := ex_size; rw [ex_pars]; simp; omega)
  rw [show (paramsN exFn).length = 2 from by rw [ex_pars]; rfl] at *
  rw [ex_pars] at hrow
  rw [ex_proc] at hnd
  obtain ⟨bp, op, capp, cs, hep, hbp, hcp, _, hcs, hC⟩ := hrow.at (j := 1) (by simp)
  obtain rfl : a = some ⟨bp, op, none⟩ := by simp only [Value.slice.injEq] at hep; exact hep.1
  obtain rfl : c = capp := by simp only [Value.slice.injEq] at hep; exact hep.2.2
  have p0 : w2.cell? ⟨bp, op + 1 * 3 + 0, none⟩ = some (.string ⟨#[111, 117, 116]⟩) := by
    have h := hcs 0 (by show 0 < 3; omega)
    have h2 : cs 0 = .string outS := hC.1
    rw [h2] at h
    exact h
  have hk0 : KidsAt (Up w1.heap.size) w2 (.slice ka kn kc) [nodeN 54 (tname 0) [numN 0, exInner, numN 0]] := (nd_cells hnd).2.2.2.1
  obtain ⟨b0, o0, a1, c1, rfl, rfl, hkc, hb0, q0, q1, q2, q3, hk1⟩ := kid_at hk0 0 (by simp)
  have hk1' : KidsAt (Up w1.heap.size) w2 (.slice a1 3 c1) [numN 0, exInner, numN 0] := hk1
  obtain ⟨b1, o1, a2, c2, rfl, _, hkc1, hb1', r0, r1, r2, r3, hk2⟩ := kid_at hk1' 1 (by simp)
  have hk2' : KidsAt (Up w1.heap.size) w2 (.slice a2 3 c2) exInner.kids := hk2
  obtain ⟨b2, o2, a3, c3, rfl, _, hkc2, hb2', s0, s1, s2, s3, _⟩ := kid_at hk2' 1 (by show 1 < 3; omega)
  have e0 : w2.cell? ⟨b0, o0 + 0 * 4, none⟩ = some (.int .u8 54) := q0
  have e1 : w2.cell? ⟨b0, o0 + 0 * 4 + 1, none⟩ = some (.int .i64 0) := q1
  have e2 : w2.cell? ⟨b0, o0 + 0 * 4 + 2, none⟩ = some (.string ⟨#[116, 48]⟩) := by rw [← t0_name]; exact q2
  have e3 : w2.cell? ⟨b0, o0 + 0 * 4 + 3, none⟩ = some (.slice (some ⟨b1, o1, none⟩) 3 c1) := q3
  have e4 : w2.cell? ⟨b1, o1 + 1 * 4 + 3, none⟩ = some (.slice (some ⟨b2, o2, none⟩) 3 c2) := r3
  have e5 : w2.cell? ⟨b2, o2 + 1 * 4, none⟩ = some (.int .u8 42) := s0
  simp only [Nat.zero_mul, Nat.add_zero, Nat.one_mul] at e0 e1 e2 e3 e4 e5 p0
  have hcc : 3 ≤ c1 := hkc1
  have hcc2 : 3 ≤ c2 := hkc2
  have hcp2 : 2 ≤ c := hcp
  have hkc3 : 1 ≤ kc := hkc
  have HF : Hid (∀ w', Below w2.heap.size w2 w' → w'.cell? ⟨bp, op + 3, none⟩ = some (.string ⟨#[111, 117, 116]⟩) ∧ w'.cell? ⟨b0, o0, none⟩ = some (.int .u8 54) ∧ w'.cell? ⟨b0, o0 + 1, none⟩ = some (.int .i64 0) ∧ w'.cell? ⟨b0, o0 + 2, none⟩ = some (.string ⟨#[116, 48]⟩) ∧ w'.cell? ⟨b0, o0 + 3, none⟩ = some (.slice (some ⟨b1, o1, none⟩) 3 c1) ∧ w'.cell? ⟨b1, o1 + 4 + 3, none⟩ = some (.slice (some ⟨b2, o2, none⟩) 3 c2) ∧ w'.cell? ⟨b2, o2 + 4, none⟩ = some (.int .u8 42)) := Lib.hid (fun w' hw => ⟨(hw.cell hbp).trans p0, (hw.cell hb0).trans e0, (hw.cell hb0).trans e1, (hw.cell hb0).trans e2, (hw.cell hb0).trans e3, (hw.cell hb1').trans e4, (hw.cell hb2').trans e5⟩)
  have hW5 : Below w2.heap.size w2 (w2.alloc (.cells #[.string ⟨#[102]⟩, .slice (some ⟨bp, op, none⟩) 2 c, .int .u8 57, .int .i64 0, .string ⟨#[]⟩, .slice (some ⟨b0, o0, none⟩) 1 kc] 52)) := (Below.refl _ _).alloc (Nat.le_refl _) _
  have hW7 : Below w2.heap.size w2 ((w2.alloc (.cells #[.string ⟨#[102]⟩, .slice (some ⟨bp, op, none⟩) 2 c, .int .u8 57, .int .i64 0, .string ⟨#[]⟩, .slice (some ⟨b0, o0, none⟩) 1 kc] 52)).alloc (.cells #[.int .u8 54, .int .i64 0, .string ⟨#[116, 48]⟩, .slice (some ⟨b1, o1, none⟩) 3 c1] 35)) := bel_alloc hW5
  have HE : Hid (Below w.heap.size w w2) := Lib.hid (hA.trans ((hb1.trans (hb2.mono hb1.size)).mono hA.size))
  clear hp2 hrow hnd hk0 hk1 hk1' hk2 hk2' q0 q1 q2 q3 r0 r1 r2 r3 s0 s1 s2 s3 hcs hC hep p0 HPC m0 m1 m2 m3 m4 m5 hcap
  obtain ⟨x0, x1, x2, x3, x4, x5, x6⟩ := HF.out w2 (Below.refl _ _)
  clear hW5 hW7
  rw [show exFn.name = (⟨#[102]⟩ : ByteArray) from rfl]
  go_wp2
  go_ret
  exact ⟨rfl, bel_alloc (bel_alloc HE.out)⟩
end Go.Proofs.YtehmmokkjojggabGreatDoor
/- Walks of package backsteplaw40: the function value of CleangenCompute. -/
namespace Go.Proofs.YtehmmokkjojggabGreatDoor
set_option linter.unusedVariables false
open Go.RowKit

/-- the first target of a name -/
def fstF (ts : List Tg) : CallF := fun nm => match ts.find? (fun t => decide (t.name = nm)) with | some t => (t.proc, t.extra) | none => (nm, [])
theorem fst_hit {ts : List Tg} {nm : ByteArray} {k : Nat} (hk : k < ts.length) (hn : (at' ts k).name = nm) (hb : ∀ j, j < k → (at' ts j).name ≠ nm) : fstF ts nm = ((at' ts k).proc, (at' ts k).extra) := by
  have h : ts.find? (fun t => decide (t.name = nm)) = some (at' ts k) := by
    rw [List.find?_eq_some_iff_getElem]
    refine ⟨by simpa using hn, k, hk, (at_eq hk).symm, fun j hj => ?_⟩
    have := hb j hj
    rw [at_eq (by omega)] at this
    simpa using this
  rw [fstF, h]
theorem fst_none {ts : List Tg} {nm : ByteArray} (hb : ∀ j, j < ts.length → (at' ts j).name ≠ nm) : fstF ts nm = (nm, []) := by
  have h : ts.find? (fun t => decide (t.name = nm)) = none := by
    rw [List.find?_eq_none]
    intro t ht
    obtain ⟨j, hj, rfl⟩ := List.mem_iff_getElem.1 ht
    have := hb j hj
    rw [at_eq hj] at this
    simpa using this
  rw [fstF, h]

set_option maxRecDepth 100000 in
set_option maxHeartbeats 3200000 in
theorem clos_C (ts : List Tg) (nm : ByteArray) (g : Nat) (tv : Value) (w : World) (hg : w.heap[g]? = some (.cells #[tv] 32 (0, 0))) (hts : RowsAt TgE Any w tv ts) (hnm : nm.size ≤ maxLen) :
    Calls Tryz.prog 12 #[.string nm, .pointer (some ⟨g, 0, none⟩)] w fun e w' => ∃ xa xn xc, e = .returned (.tuple #[.string (fstF ts nm).1, .slice xa xn xc]) ∧ StrsAt Any w' (.slice xa xn xc) (fstF ts nm).2 ∧ Below w.heap.size w w' := by
  obtain ⟨htl, ta, tc, rfl⟩ := hts.form
  unfold maxLen at htl
  have c0 : w.cell? ⟨g, 0, none⟩ = some (.slice ta ts.length tc) := cell_blk hg 0 rfl
  have HT := Lib.hid hts
  clear hts hg
  go_enter Tryz.func12, Tryz.ntmps12
  go_wp2
  go_loopw [9] (fun i wr => ∃ k : Nat, i = .int .i64 k ∧ k ≤ ts.length ∧ Below w.heap.size w wr ∧ ∀ j, j < k → (at' ts j).name ≠ nm) (fun i _ => ts.length - (intOf i).toNat)
  case atStart => exact ⟨0, rfl, Nat.zero_le _, Below.refl _ _, fun j hj => by omega⟩
  case round =>
    obtain ⟨k, rfl, hk, hbl, hno⟩ := hrel
    have HNO := Lib.hid hno
    clear hno
    by_cases hlt : k < ts.length
    · obtain ⟨b, off, cap, a, c, he, hb, hcap, d0, d1, d2, hxs, hs0, hs1⟩ := tgs_at (HT.out.stays (Stays.of_below hbl)) hlt
      simp only [Value.slice.injEq] at he
      obtain ⟨rfl, -, rfl⟩ := he
      have HXS := Lib.hid hxs
      clear hxs
      have hA : Below wr.heap.size wr (wr.alloc (.cells #[.string (at' ts k).name, .string (at' ts k).proc, .slice a (at' ts k).extra.length c] 39)) := (Below.refl _ _).alloc (Nat.le_refl _) _
      by_cases hnn : (at' ts k).name = nm
      · have d : ((at' ts k).name.toList == nm.toList) = true := by rw [hnn]; simp
        have HF := Lib.hid (fst_hit hlt hnn HNO.out)
        clear hnn
        go_wp2
        go_quiet (fail)
        go_wp2
        go_ret2
        rw [HF.out]
        refine ⟨_, _, _, rfl, HXS.out.stays (Stays.of_below (below_drewN hA _)), hbl.trans ((below_drewN hA _).mono hbl.size)⟩
      · have d : ((at' ts k).name.toList == nm.toList) = false := beq_eq_false_iff_ne.2 (fun e => hnn (toList_inj e))
        have HN2 : Hid (∀ j, j < k + 1 → (at' ts j).name ≠ nm) := Lib.hid (fun j hj => by
          by_cases e : j = k
          · subst e; exact hnn
          · exact HNO.out j (by omega))
        clear hnn
        go_wp2
        exact ⟨⟨k + 1, by go_num, by omega, hbl.trans (hA.mono hbl.size), HN2.out⟩, by simp [intOf]; omega⟩
    · obtain rfl : k = ts.length := by omega
      have hlt' : ¬ (ts.length : Int) < (ts.length : Int) := by omega
      have HF := Lib.hid (fst_none HNO.out)
      go_wp2
      go_ret2
      rw [HF.out]
      exact ⟨_, _, _, rfl, ⟨fun _ _ => undef, RowAt.empty _ _ _, fun j hj => by simp at hj⟩, hbl⟩
end Go.Proofs.YtehmmokkjojggabGreatDoor
/- CleangenCompute: the targets; Compute without a function. -/
namespace Go.Proofs.YtehmmokkjojggabGreatDoor
set_option linter.unusedVariables false
open Go.RowKit

theorem equalIn_nilFunc (d : Nat) (w : World) : (Op.equalIn (d + 1) 43 .nilFunc .nilFunc).run Tryz.prog w = .ok true w := by
  simp [Op.equalIn, run_underlying (P := Tryz.prog) (t := 43) Tryz.underlying43]
theorem eql_nilFunc (w : World) : (binOp .eql 43 .nilFunc .nilFunc).run Tryz.prog w = .ok (.bool true) w := by
  simp only [binOp]
  simp [show Op.equal 43 .nilFunc .nilFunc = Op.equalIn (9999 + 1) 43 .nilFunc .nilFunc from rfl, equalIn_nilFunc 9999 w]
set_option maxRecDepth 100000 in
set_option maxHeartbeats 1600000 in
theorem computeNil_C (g : AFn) (pa ta ba : Option Addr) (pc tc bc : Nat) (w : World) :
    Calls Tryz.prog 11 #[.agg #[.string g.name, .slice pa g.params.length pc, .bool g.list, .slice ta g.temps.length tc, .slice ba g.body.length bc, .string g.result], Value.nilFunc] w fun e w' => e = .returned (.tuple #[.agg #[.int .u8 0, .int .i64 0, .string ⟨#[]⟩, .slice none 0 0], .int .i64 1]) ∧ Below w.heap.size w w' := by
  have hA1 : Below w.heap.size w (w.alloc (.cells #[.string g.name, .slice pa g.params.length pc, .bool g.list, .slice ta g.temps.length tc, .slice ba g.body.length bc, .string g.result] 31)) := (Below.refl _ _).alloc (Nat.le_refl _) _
  have hA : Below w.heap.size w ((w.alloc (.cells #[.string g.name, .slice pa g.params.length pc, .bool g.list, .slice ta g.temps.length tc, .slice ba g.body.length bc, .string g.result] 31)).alloc (.cells #[.int .u8 0, .int .i64 0, .string ⟨#[]⟩, .slice none 0 0] 35)) := hA1.alloc hA1.size _
  have heq := fun w => eql_nilFunc w
  go_enter Tryz.func11, Tryz.ntmps11
  go_wp2
  (try simp only [Exit.inBlock, Exit.then])
  refine bodyPost_ret (results_cell_row2 (P := Tryz.prog) rfl _ _ (w.heap.size + 1) _ _ _ _ _ rfl (at_new w _ _) rfl Tryz.underlying35 rfl (by kernel_rfl)) rfl ?_
  exact ⟨rfl, hA⟩

/-- the target of the i-th function -/
def tgOf (extra : List ByteArray) (i : Nat) (f : Fn) : Tg := ⟨f.name, f.name ++ ⟨#[120]⟩, if i % 2 = 0 then extra else []⟩
def tgL (extra : List ByteArray) (lib : List Fn) : List Tg := lib.mapIdx (tgOf extra)
theorem tgL_len (extra : List ByteArray) (lib : List Fn) : (tgL extra lib).length = lib.length := by simp [tgL]
theorem tgL_at (extra : List ByteArray) (lib : List Fn) {k : Nat} (h : k < lib.length) : at' (tgL extra lib) k = tgOf extra k (at' lib k) := by
  rw [at_eq (by rw [tgL_len]; exact h), at_eq h]; simp [tgL]
theorem tgL_take (extra : List ByteArray) (lib : List Fn) {k : Nat} (h : k < lib.length) : (tgL extra lib).take (k + 1) = (tgL extra lib).take k ++ [tgOf extra k (at' lib k)] := by
  rw [List.take_add_one, List.getElem?_eq_getElem (by rw [tgL_len]; exact h), ← at_eq (by rw [tgL_len]; exact h), tgL_at extra lib h]; rfl

/-- where the names are apart, the first target of a name is the last one -/
theorem fst_ref {ts : List Tg} (h : ∀ i j, i < j → j < ts.length → (at' ts i).name ≠ (at' ts j).name) (nm : ByteArray) : fstF ts nm = refF ts nm := by
  have key : ∀ k, k ≤ ts.length → (∀ j, j < k → (at' ts j).name ≠ nm) → tgF (ts.take k) nm = ⟨ByteArray.empty, nm, []⟩ := by
    intro k
    induction k with
    | zero => intro _ _; rfl
    | succ k ih => intro hk hn; rw [tgF_take ts nm k (by omega), if_neg (hn k (by omega))]; exact ih (by omega) (fun j hj => hn j (by omega))
  by_cases hex : ∃ k, k < ts.length ∧ (at' ts k).name = nm
  · obtain ⟨k, hk, hn⟩ := hex
    have hb : ∀ j, j < k → (at' ts j).name ≠ nm := fun j hj e => h j k hj hk (e.trans hn.symm)
    rw [fst_hit hk hn hb]
    have key2 : ∀ d, k + 1 + d ≤ ts.length → tgF (ts.take (k + 1 + d)) nm = at' ts k := by
      intro d
      induction d with
      | zero => intro hd; rw [Nat.add_zero, tgF_take ts nm k hk, if_pos hn]
      | succ d ih => intro hd; rw [show k + 1 + (d + 1) = (k + 1 + d) + 1 by omega, tgF_take ts nm (k + 1 + d) (by omega), if_neg (fun e => h k (k + 1 + d) (by omega) (by omega) (hn.trans e.symm))]; exact ih (by omega)
    have := key2 (ts.length - (k + 1)) (by omega)
    rw [show k + 1 + (ts.length - (k + 1)) = ts.length by omega, List.take_length] at this
    rw [refF, this]
  · have hb : ∀ j, j < ts.length → (at' ts j).name ≠ nm := fun j hj e => hex ⟨j, hj, e⟩
    rw [fst_none hb]
    have := key ts.length (Nat.le_refl _) hb
    rw [List.take_length] at this
    rw [refF, this]

/-- names of a valid library are apart -/
theorem names_apart {lib : List Fn} (h : (validE lib).2 = 0) : ∀ i j, i < j → j < lib.length → (at' lib i).name ≠ (at' lib j).name := by
  intro i j hij hj e
  have hv := (valid_ok h hj).first
  apply hv
  have : ∀ (l : List Fn) (b : Int) (i : Nat), i < l.length → (at' l i).name = (at' lib j).name → findFrom (at' lib j).name l b ≤ b + i := by
    intro l
    induction l with
    | nil => intro b i hi; simp at hi
    | cons f r ih =>
      intro b i hi he
      rw [findFrom]
      split
      · omega
      · cases i with
        | zero => rename_i hne; exact absurd he hne
        | succ i => have := ih (b + 1) i (by simpa using hi) he; push_cast; omega
  have h2 := this lib 0 i (by omega) e
  unfold findF
  omega
theorem tgL_apart {lib : List Fn} (h : (validE lib).2 = 0) (extra : List ByteArray) : ∀ i j, i < j → j < (tgL extra lib).length → (at' (tgL extra lib) i).name ≠ (at' (tgL extra lib) j).name := by
  intro i j hij hj
  rw [tgL_len] at hj
  rw [tgL_at extra lib (by omega), tgL_at extra lib hj]
  exact names_apart h i j hij hj
theorem bindsN_fst {lib : List Fn} (h : (validE lib).2 = 0) (extra : List ByteArray) (l : List Bd) : bindsN (fstF (tgL extra lib)) l = bindsN (refF (tgL extra lib)) l := by
  have : fstF (tgL extra lib) = refF (tgL extra lib) := funext fun nm => fst_ref (tgL_apart h extra) nm
  rw [this]
end Go.Proofs.YtehmmokkjojggabGreatDoor
