/- Contracts and plain lemmas (RefM, RefN): no statement of the seat is proved here. -/
import Derived.Test.YtehmmokkjojggabGreatDoorZq29
set_option linter.unusedSimpArgs false
set_option linter.unusedVariables false
set_option linter.unusedSectionVars false
/- Walks of package backstepref40: Inverse, at an if and at a local. -/
namespace Go.Proofs.YtehmmokkjojggabGreatDoor
set_option linter.unusedVariables false
open Go.RowKit

theorem rd_old {A : Nat → Prop} {w w1 : World} {v : Value} {n : Nd} (h : NdAt (fun j => A j ∧ j < w.heap.size) w1 v n) : NdAt (RD A w) w1 v n := h.stays ⟨Nat.le_refl _, fun _ _ a => ⟨rfl, .inl a⟩⟩
theorem rd_new {A : Nat → Prop} {w w5 w6 w1 : World} {v : Value} {n : Nd} (h : NdAt (NewB (fun j => A j ∧ j < w.heap.size) w5) w6 v n) (hb : Below w6.heap.size w6 w1) (hs : w.heap.size + 3 ≤ w5.heap.size) : NdAt (RD A w) w1 v n := (h.stays (Stays.of_below hb)).stays ⟨Nat.le_refl _, fun _ _ a => ⟨rfl, RD.new a hs⟩⟩
theorem nd_o {A : Nat → Prop} {w w3 : World} {v x : Value} {n : Nd} {o : Nat} (h : NdAt (RD A w) w3 v n) : NdAt (RD A w) (w3.setCell ⟨w.heap.size + 2, o, none⟩ x) v n :=
  h.stays ⟨(keeps_set w3 (w.heap.size + 2) o x).size, fun b hb a => ⟨(keeps_set w3 (w.heap.size + 2) o x).block b hb (fun e => by
    rcases a with ⟨_, a⟩ | a <;> omega), a⟩⟩
/-- three kids, in every later world -/
theorem kids3_open {A : Nat → Prop} {w : World} {ka : Option Addr} {kc : Nat} {x0 x1 x2 : Nd} (h : KidsAt A w (.slice ka 3 kc) [x0, x1, x2]) :
    ∃ b off a0 c0 a1 c1 a2 c2, ka = some ⟨b, off, none⟩ ∧ 3 ≤ kc ∧
      NdAt A w (.agg #[.int .u8 x0.kind, .int .i64 x0.num, .string x0.name, .slice a0 x0.kids.length c0]) x0 ∧ NdAt A w (.agg #[.int .u8 x1.kind, .int .i64 x1.num, .string x1.name, .slice a1 x1.kids.length c1]) x1 ∧
      NdAt A w (.agg #[.int .u8 x2.kind, .int .i64 x2.num, .string x2.name, .slice a2 x2.kids.length c2]) x2 ∧
      ∀ w1, Below w.heap.size w w1 →
        w1.cell? ⟨b, off, none⟩ = some (.int .u8 x0.kind) ∧ w1.cell? ⟨b, off + 1, none⟩ = some (.int .i64 x0.num) ∧ w1.cell? ⟨b, off + 2, none⟩ = some (.string x0.name) ∧ w1.cell? ⟨b, off + 3, none⟩ = some (.slice a0 x0.kids.length c0) ∧
        w1.cell? ⟨b, off + 4, none⟩ = some (.int .u8 x1.kind) ∧ w1.cell? ⟨b, off + 4 + 1, none⟩ = some (.int .i64 x1.num) ∧ w1.cell? ⟨b, off + 4 + 2, none⟩ = some (.string x1.name) ∧ w1.cell? ⟨b, off + 4 + 3, none⟩ = some (.slice a1 x1.kids.length c1) ∧
        w1.cell? ⟨b, off + 8, none⟩ = some (.int .u8 x2.kind) ∧ w1.cell? ⟨b, off + 8 + 1, none⟩ = some (.int .i64 x2.num) ∧ w1.cell? ⟨b, off + 8 + 2, none⟩ = some (.string x2.name) ∧ w1.cell? ⟨b, off + 8 + 3, none⟩ = some (.slice a2 x2.kids.length c2) := by
  obtain ⟨b, off, cap, a0, c0, he, hb, hcap, _, p0, p1, p2, p3, n0⟩ := h.at (j := 0) (by simp)
  simp only [Value.slice.injEq] at he
  obtain ⟨rfl, -, rfl⟩ := he
  obtain ⟨b1, off1, cap1, a1, c1, he, hb1, _, _, q0, q1, q2, q3, n1⟩ := h.at (j := 1) (by simp)
  simp only [Value.slice.injEq, Option.some.injEq, Addr.mk.injEq] at he
  obtain ⟨⟨rfl, rfl, -⟩, -, -⟩ := he
  obtain ⟨b2, off2, cap2, a2, c2, he, hb2, _, _, r0, r1, r2, r3, n2⟩ := h.at (j := 2) (by simp)
  simp only [Value.slice.injEq, Option.some.injEq, Addr.mk.injEq] at he
  obtain ⟨⟨rfl, rfl, -⟩, -, -⟩ := he
  simp only [Nat.zero_mul, Nat.add_zero, Nat.reduceMul] at p0 p1 p2 p3 q0 q1 q2 q3 r0 r1 r2 r3
  exact ⟨b, off, a0, c0, a1, c1, a2, c2, rfl, hcap, n0, n1, n2, fun w1 hw => ⟨(hw.cell hb).trans p0, (hw.cell hb).trans p1, (hw.cell hb).trans p2, (hw.cell hb).trans p3, (hw.cell hb).trans q0, (hw.cell hb).trans q1, (hw.cell hb).trans q2, (hw.cell hb).trans q3, (hw.cell hb).trans r0, (hw.cell hb).trans r1, (hw.cell hb).trans r2, (hw.cell hb).trans r3⟩⟩
/-- the block that a row lies in -/
theorem kids_blk {A : Nat → Prop} {w : World} {b off : Nat} {n kc : Nat} {l : List Nd} (h : KidsAt A w (.slice (some ⟨b, off, none⟩) n kc) l) (hl : 0 < l.length) : A b ∧ b < w.heap.size := by
  obtain ⟨b', off', cap, ka, kc', he, hb, _, hA, _⟩ := h.at hl
  simp only [Value.slice.injEq, Option.some.injEq, Addr.mk.injEq] at he
  obtain ⟨⟨rfl, rfl, -⟩, -, -⟩ := he
  exact ⟨hA, hb⟩

set_option maxRecDepth 100000 in set_option maxHeartbeats 3200000 in theorem rinv_if (num : Int) (name : ByteArray) (a0 b1 b2 d0 R1 R2 : Nd) (H1 : Hid (RInv b1 R1)) (H2 : Hid (RInv b2 R2)) : RInv (.mk 52 num name [a0, b1, b2, d0]) (.mk 52 num name [d0, R1, R2, a0]) := by
  intro v A w hv
  obtain ⟨hok, hlen, ka, kc, he, hk⟩ := hv.open
  have he' : v = .agg #[.int .u8 52, .int .i64 num, .string name, .slice ka 4 kc] := he
  subst he'
  have HK : Hid (KidsAt (fun j => A j ∧ j < w.heap.size) w (.slice ka 4 kc) [a0, b1, b2, d0]) := Lib.hid (KidsAt.stays ⟨Nat.le_refl _, fun j hj a => ⟨rfl, a, hj⟩⟩ hk)
  have HR := Lib.hid (rw_rows (k := 52) (num := num) (name := name) (l := [a0, b1, b2, d0]) (show KidsAt A w (.slice ka 4 kc) [a0, b1, b2, d0] from hk))
  have HOK := Lib.hid hok
  clear hv hk hok hlen he
  go_enter Tryz.func43, Tryz.ntmps43
  go_wp2_with (at_builtin; refine wpl_rows TNd rfl (by decide) rfl (.tmp 6) (.tmp 8) rfl rfl rfl HR.out.1 HR.out.2.1 HR.out.2.2 (by unfold maxLen; simp) (by simp) (by rw [rw_size]; omega) ?_; intro a c w3 h3 hg3 hn3; have HO := Lib.hid (rout_new h3 hg3); obtain ⟨n0, n1, n2, n3⟩ := cells4 HO.out.n; obtain ⟨o0, o1, o2, o3⟩ := cells4 HO.out.o; have fo := unfrozen HO.out.o; clear h3 hg3 hn3)
  have hb3 := HO.out.below
  have hs3 : w.heap.size + 3 ≤ w3.heap.size := by
    have h := HO.out.o
    rw [Array.getElem?_eq_some_iff] at h
    have := h.1; omega
  have HK3 : Hid (KidsAt (fun j => A j ∧ j < w.heap.size) w3 (.slice ka 4 kc) [a0, b1, b2, d0]) := Lib.hid (HK.out.stays (Stays.of_below hb3))
  obtain ⟨b, off, s0, t0, s1, t1, s2, t2, s3, t3, rfl, hkc, hx0, hx1, hx2, hx3, hcl⟩ := kids4_open HK3.out
  have hbb := (kids_blk HK3.out (by simp)).1.2
  have hK3 := keeps_set w3 (w.heap.size + 1 + 1) 3 (.slice a 4 c)
  have HN3 := Lib.hid (blk_set (o := 3) (x := .slice a 4 c) HO.out.n (show w.heap.size ≠ w.heap.size + 1 + 1 by omega))
  have HO3 := Lib.hid (set1_3 HO.out.o (.slice a 4 c))
  have HZ3 := Lib.hid (blk_set (o := 3) (x := .slice a 4 c) HO.out.z (show w.heap.size + 1 ≠ w.heap.size + 1 + 1 by omega))
  have hB3 : Below w.heap.size w (w3.setCell ⟨w.heap.size + 1 + 1, 3, none⟩ (.slice a 4 c)) := hb3.setCell (by show w.heap.size ≤ w.heap.size + 1 + 1; omega) _
  have hst3 : Stays (fun j => A j ∧ j < w.heap.size) (fun j => A j ∧ j < w.heap.size) w3 (w3.setCell ⟨w.heap.size + 1 + 1, 3, none⟩ (.slice a 4 c)) := ⟨hK3.size, fun j hj hd => ⟨hK3.block j hj (by omega), hd⟩⟩
  have HX0 := Lib.hid (hx0.stays hst3)
  have HX1 := Lib.hid (hx1.stays hst3)
  have HX2 := Lib.hid (hx2.stays hst3)
  have HX3 := Lib.hid (hx3.stays hst3)
  clear hx0 hx1 hx2 hx3
  have hcl3 : ∀ w1, Below (w3.setCell ⟨w.heap.size + 1 + 1, 3, none⟩ (.slice a 4 c)).heap.size (w3.setCell ⟨w.heap.size + 1 + 1, 3, none⟩ (.slice a 4 c)) w1 → w1.cell? ⟨w.heap.size, 3, none⟩ = some (.slice (some ⟨b, off, none⟩) 4 kc) ∧ w1.cell? ⟨b, off, none⟩ = some (.int .u8 a0.kind) ∧ w1.cell? ⟨b, off + 1, none⟩ = some (.int .i64 a0.num) ∧ w1.cell? ⟨b, off + 2, none⟩ = some (.string a0.name) ∧ w1.cell? ⟨b, off + 3, none⟩ = some (.slice s0 a0.kids.length t0) ∧ w1.cell? ⟨b, off + 4, none⟩ = some (.int .u8 b1.kind) ∧ w1.cell? ⟨b, off + 4 + 1, none⟩ = some (.int .i64 b1.num) ∧ w1.cell? ⟨b, off + 4 + 2, none⟩ = some (.string b1.name) ∧ w1.cell? ⟨b, off + 4 + 3, none⟩ = some (.slice s1 b1.kids.length t1) ∧ w1.cell? ⟨b, off + 8, none⟩ = some (.int .u8 b2.kind) ∧ w1.cell? ⟨b, off + 8 + 1, none⟩ = some (.int .i64 b2.num) ∧ w1.cell? ⟨b, off + 8 + 2, none⟩ = some (.string b2.name) ∧ w1.cell? ⟨b, off + 8 + 3, none⟩ = some (.slice s2 b2.kids.length t2) ∧ w1.cell? ⟨b, off + 12, none⟩ = some (.int .u8 d0.kind) ∧ w1.cell? ⟨b, off + 12 + 1, none⟩ = some (.int .i64 d0.num) ∧ w1.cell? ⟨b, off + 12 + 2, none⟩ = some (.string d0.name) ∧ w1.cell? ⟨b, off + 12 + 3, none⟩ = some (.slice s3 d0.kids.length t3) := fun w1 hw => by
    have hc : ∀ o, w1.cell? ⟨b, o, none⟩ = w3.cell? ⟨b, o, none⟩ := fun o => (hw.cell (p := ⟨b, o, none⟩) (Nat.lt_of_lt_of_le (show b < w3.heap.size by omega) hK3.size)).trans (hK3.cell (p := ⟨b, o, none⟩) (show b < w3.heap.size by omega) (show ¬ b = w.heap.size + 1 + 1 by omega))
    obtain ⟨h1, h2, h3, h4, h5, h6, h7, h8, h9, h10, h11, h12, h13, h14, h15, h16⟩ := hcl w3 (Below.refl _ _)
    exact ⟨(cells4 (blk_below hw HN3.out)).2.2.2, (hc _).trans h1, (hc _).trans h2, (hc _).trans h3, (hc _).trans h4, (hc _).trans h5, (hc _).trans h6, (hc _).trans h7, (hc _).trans h8, (hc _).trans h9, (hc _).trans h10, (hc _).trans h11, (hc _).trans h12, (hc _).trans h13, (hc _).trans h14, (hc _).trans h15, (hc _).trans h16⟩
  have HC := Lib.hid hcl3
  have hs3' : w.heap.size + 3 ≤ (w3.setCell ⟨w.heap.size + 1 + 1, 3, none⟩ (.slice a 4 c)).heap.size := Nat.le_trans hs3 hK3.size
  clear hcl3 hcl hst3 hK3 n0 n1 n2 n3 o0 o1 o2 o3 fo hb3 hs3
  have HG3 : Hid (∀ w1, Below (w3.setCell ⟨w.heap.size + 1 + 1, 3, none⟩ (.slice a 4 c)).heap.size (w3.setCell ⟨w.heap.size + 1 + 1, 3, none⟩ (.slice a 4 c)) w1 → w1.cell? ⟨w.heap.size + 1 + 1, 3, none⟩ = some (.slice a 4 c) ∧ w1.frozen? ⟨w.heap.size + 1 + 1, 3, none⟩ = false) := Lib.hid (fun w1 hw => ⟨(cells4 (blk_below hw HO3.out)).2.2.2, unfrozen (blk_below hw HO3.out) 3⟩)
  have HE3 : Hid (∀ w1, Below (w3.setCell ⟨w.heap.size + 1 + 1, 3, none⟩ (.slice a 4 c)).heap.size (w3.setCell ⟨w.heap.size + 1 + 1, 3, none⟩ (.slice a 4 c)) w1 → w1.heap[w.heap.size + 1 + 1]? = some (.cells #[.int .u8 52, .int .i64 num, .string name, .slice a 4 c] 35 (0, 0)) ∧ w1.heap[w.heap.size + 1]? = some (.cells #[.int .u8 0, .int .i64 0, .string ⟨#[]⟩, .slice none 0 0] 35)) := Lib.hid (fun w1 hw => ⟨blk_below hw HO3.out, blk_below hw HZ3.out⟩)
  generalize (w3.setCell ⟨w.heap.size + 1 + 1, 3, none⟩ (.slice a 4 c)) = W3 at *
  have HC2 : Hid (∀ (w1 : World) (x : Value), Below W3.heap.size W3 w1 → (w1.setCell ⟨w.heap.size + 1 + 1, 3, none⟩ x).cell? ⟨w.heap.size, 3, none⟩ = some (.slice (some ⟨b, off, none⟩) 4 kc) ∧ (w1.setCell ⟨w.heap.size + 1 + 1, 3, none⟩ x).cell? ⟨b, off, none⟩ = some (.int .u8 a0.kind) ∧ (w1.setCell ⟨w.heap.size + 1 + 1, 3, none⟩ x).cell? ⟨b, off + 1, none⟩ = some (.int .i64 a0.num) ∧ (w1.setCell ⟨w.heap.size + 1 + 1, 3, none⟩ x).cell? ⟨b, off + 2, none⟩ = some (.string a0.name) ∧ (w1.setCell ⟨w.heap.size + 1 + 1, 3, none⟩ x).cell? ⟨b, off + 3, none⟩ = some (.slice s0 a0.kids.length t0) ∧ (w1.setCell ⟨w.heap.size + 1 + 1, 3, none⟩ x).cell? ⟨b, off + 4, none⟩ = some (.int .u8 b1.kind) ∧ (w1.setCell ⟨w.heap.size + 1 + 1, 3, none⟩ x).cell? ⟨b, off + 4 + 1, none⟩ = some (.int .i64 b1.num) ∧ (w1.setCell ⟨w.heap.size + 1 + 1, 3, none⟩ x).cell? ⟨b, off + 4 + 2, none⟩ = some (.string b1.name) ∧ (w1.setCell ⟨w.heap.size + 1 + 1, 3, none⟩ x).cell? ⟨b, off + 4 + 3, none⟩ = some (.slice s1 b1.kids.length t1) ∧ (w1.setCell ⟨w.heap.size + 1 + 1, 3, none⟩ x).cell? ⟨b, off + 8, none⟩ = some (.int .u8 b2.kind) ∧ (w1.setCell ⟨w.heap.size + 1 + 1, 3, none⟩ x).cell? ⟨b, off + 8 + 1, none⟩ = some (.int .i64 b2.num) ∧ (w1.setCell ⟨w.heap.size + 1 + 1, 3, none⟩ x).cell? ⟨b, off + 8 + 2, none⟩ = some (.string b2.name) ∧ (w1.setCell ⟨w.heap.size + 1 + 1, 3, none⟩ x).cell? ⟨b, off + 8 + 3, none⟩ = some (.slice s2 b2.kids.length t2) ∧ (w1.setCell ⟨w.heap.size + 1 + 1, 3, none⟩ x).cell? ⟨b, off + 12, none⟩ = some (.int .u8 d0.kind) ∧ (w1.setCell ⟨w.heap.size + 1 + 1, 3, none⟩ x).cell? ⟨b, off + 12 + 1, none⟩ = some (.int .i64 d0.num) ∧ (w1.setCell ⟨w.heap.size + 1 + 1, 3, none⟩ x).cell? ⟨b, off + 12 + 2, none⟩ = some (.string d0.name) ∧ (w1.setCell ⟨w.heap.size + 1 + 1, 3, none⟩ x).cell? ⟨b, off + 12 + 3, none⟩ = some (.slice s3 d0.kids.length t3)) := Lib.hid (fun w1 x hw => by
    have hK := keeps_set w1 (w.heap.size + 1 + 1) 3 x
    have hsz := hw.size
    have hc : ∀ (bb o : Nat), bb < w.heap.size + 1 → (w1.setCell ⟨w.heap.size + 1 + 1, 3, none⟩ x).cell? ⟨bb, o, none⟩ = w1.cell? ⟨bb, o, none⟩ := fun bb o h => hK.cell (p := ⟨bb, o, none⟩) (show bb < w1.heap.size by omega) (show ¬ bb = w.heap.size + 1 + 1 by omega)
    obtain ⟨h0, h1, h2, h3, h4, h5, h6, h7, h8, h9, h10, h11, h12, h13, h14, h15, h16⟩ := HC.out w1 hw
    exact ⟨(hc _ _ (by omega)).trans h0, (hc _ _ (by omega)).trans h1, (hc _ _ (by omega)).trans h2, (hc _ _ (by omega)).trans h3, (hc _ _ (by omega)).trans h4, (hc _ _ (by omega)).trans h5, (hc _ _ (by omega)).trans h6, (hc _ _ (by omega)).trans h7, (hc _ _ (by omega)).trans h8, (hc _ _ (by omega)).trans h9, (hc _ _ (by omega)).trans h10, (hc _ _ (by omega)).trans h11, (hc _ _ (by omega)).trans h12, (hc _ _ (by omega)).trans h13, (hc _ _ (by omega)).trans h14, (hc _ _ (by omega)).trans h15, (hc _ _ (by omega)).trans h16⟩)
  have HI1 : Hid (∀ w1, Below W3.heap.size W3 w1 → Calls Tryz.prog 43 #[.agg #[.int .u8 b1.kind, .int .i64 b1.num, .string b1.name, .slice s1 b1.kids.length t1]] w1 (fun e w' => ∃ xa xc, e = .returned (.agg #[.int .u8 R1.kind, .int .i64 R1.num, .string R1.name, .slice xa R1.kids.length xc]) ∧ NdAt (NewB (fun j => A j ∧ j < w.heap.size) w1) w' (.agg #[.int .u8 R1.kind, .int .i64 R1.num, .string R1.name, .slice xa R1.kids.length xc]) R1 ∧ Below w1.heap.size w1 w')) := Lib.hid (fun w1 hw => H1.out _ _ _ (HX1.out.stays (Stays.of_below hw)))
  have HI2 : Hid (∀ w1, Below W3.heap.size W3 w1 → Calls Tryz.prog 43 #[.agg #[.int .u8 b2.kind, .int .i64 b2.num, .string b2.name, .slice s2 b2.kids.length t2]] w1 (fun e w' => ∃ xa xc, e = .returned (.agg #[.int .u8 R2.kind, .int .i64 R2.num, .string R2.name, .slice xa R2.kids.length xc]) ∧ NdAt (NewB (fun j => A j ∧ j < w.heap.size) w1) w' (.agg #[.int .u8 R2.kind, .int .i64 R2.num, .string R2.name, .slice xa R2.kids.length xc]) R2 ∧ Below w1.heap.size w1 w')) := Lib.hid (fun w1 hw => H2.out _ _ _ (HX2.out.stays (Stays.of_below hw)))
  obtain ⟨s0', h1, h2, h3, h4, h5, h6, h7, h8, h9, h10, h11, h12, h13, h14, h15, h16⟩ := HC.out W3 (Below.refl _ _)
  go_wp2
  go_region_held3 (fun w1 => w1.cell? ⟨w.heap.size, 3, none⟩ = some (.slice (some ⟨b, off, none⟩) 4 kc) ∧ w1.cell? ⟨b, off, none⟩ = some (.int .u8 a0.kind) ∧ w1.cell? ⟨b, off + 1, none⟩ = some (.int .i64 a0.num) ∧ w1.cell? ⟨b, off + 2, none⟩ = some (.string a0.name) ∧ w1.cell? ⟨b, off + 3, none⟩ = some (.slice s0 a0.kids.length t0) ∧ w1.cell? ⟨b, off + 4, none⟩ = some (.int .u8 b1.kind) ∧ w1.cell? ⟨b, off + 4 + 1, none⟩ = some (.int .i64 b1.num) ∧ w1.cell? ⟨b, off + 4 + 2, none⟩ = some (.string b1.name) ∧ w1.cell? ⟨b, off + 4 + 3, none⟩ = some (.slice s1 b1.kids.length t1) ∧ w1.cell? ⟨b, off + 8, none⟩ = some (.int .u8 b2.kind) ∧ w1.cell? ⟨b, off + 8 + 1, none⟩ = some (.int .i64 b2.num) ∧ w1.cell? ⟨b, off + 8 + 2, none⟩ = some (.string b2.name) ∧ w1.cell? ⟨b, off + 8 + 3, none⟩ = some (.slice s2 b2.kids.length t2) ∧ w1.cell? ⟨b, off + 12, none⟩ = some (.int .u8 d0.kind) ∧ w1.cell? ⟨b, off + 12 + 1, none⟩ = some (.int .i64 d0.num) ∧ w1.cell? ⟨b, off + 12 + 2, none⟩ = some (.string d0.name) ∧ w1.cell? ⟨b, off + 12 + 3, none⟩ = some (.slice s3 d0.kids.length t3))
    (first | (with_reducible exact HC2.out _ _ (by (repeat (with_reducible first | exact Below.refl _ _ | refine bel_drew ?_ | refine bel_alloc ?_ | (apply bel_step; focus assumption))))) | (with_reducible exact HC.out _ (by (repeat (with_reducible first | exact Below.refl _ _ | refine bel_drew ?_ | refine bel_alloc ?_ | (apply bel_step; focus assumption))))))
    (first
    | (go_at_call 43; with_reducible refine (HI1.out _ (by (repeat (with_reducible first | exact Below.refl _ _ | refine bel_drew ?_ | refine bel_alloc ?_ | (apply bel_step; focus assumption))))).mono ?_; rintro e w6 ⟨xa6, xc6, rfl, hx6, hb6⟩; have HX6 := Lib.hid hx6; clear hx6)
    | (go_at_call 43; with_reducible refine (HI2.out _ (by (repeat (with_reducible first | exact Below.refl _ _ | refine bel_drew ?_ | refine bel_alloc ?_ | (apply bel_step; focus assumption))))).mono ?_; rintro e w7 ⟨xa7, xc7, rfl, hx7, hb7⟩; have HX7 := Lib.hid hx7; clear hx7; have hB7 : Below W3.heap.size W3 w7 := (by (repeat (with_reducible first | exact Below.refl _ _ | refine bel_drew ?_ | refine bel_alloc ?_ | (apply bel_step; focus assumption)))); have o7 : ∀ X, (w7.alloc X).cell? ⟨w.heap.size + 1 + 1, 3, none⟩ = some (.slice a 4 c) := fun X => (HG3.out _ (bel_alloc hB7)).1; have f7 : ∀ X, (w7.alloc X).frozen? ⟨w.heap.size + 1 + 1, 3, none⟩ = false := fun X => (HG3.out _ (bel_alloc hB7)).2)
    | fail)
  all_goals
    have hs6 : w.heap.size + 3 ≤ w6.heap.size := by have := hb6.size; simp at this; omega
    have hE8 := HE3.out (w7.alloc (.cells #[.int .u8 d0.kind, .int .i64 d0.num, .string d0.name, .slice s3 d0.kids.length t3, .int .u8 R1.kind, .int .i64 R1.num, .string R1.name, .slice xa6 R1.kids.length xc6, .int .u8 R2.kind, .int .i64 R2.num, .string R2.name, .slice xa7 R2.kids.length xc7, .int .u8 a0.kind, .int .i64 a0.num, .string a0.name, .slice s0 a0.kids.length t0] 35)) (bel_alloc hB7)
    have HK8 : Hid (KidsAt (RD A w) (w7.alloc (.cells #[.int .u8 d0.kind, .int .i64 d0.num, .string d0.name, .slice s3 d0.kids.length t3, .int .u8 R1.kind, .int .i64 R1.num, .string R1.name, .slice xa6 R1.kids.length xc6, .int .u8 R2.kind, .int .i64 R2.num, .string R2.name, .slice xa7 R2.kids.length xc7, .int .u8 a0.kind, .int .i64 a0.num, .string a0.name, .slice s0 a0.kids.length t0] 35)) (.slice (some ⟨w7.heap.size, 0, none⟩) 4 4) [d0, R1, R2, a0]) := Lib.hid (kids_4 (heap_alloc_new w7 _) (.inr (by have := hb7.size; omega)) (rd_old (HX3.out.stays (Stays.of_below (bel_alloc hB7)))) (rd_new HX6.out (bel_alloc hb7) hs3') (rd_new HX7.out (bel_alloc (Below.refl _ _)) hs6) (rd_old (HX0.out.stays (Stays.of_below (bel_alloc hB7)))))
    have hBW : Below w.heap.size w (w7.alloc (.cells #[.int .u8 d0.kind, .int .i64 d0.num, .string d0.name, .slice s3 d0.kids.length t3, .int .u8 R1.kind, .int .i64 R1.num, .string R1.name, .slice xa6 R1.kids.length xc6, .int .u8 R2.kind, .int .i64 R2.num, .string R2.name, .slice xa7 R2.kids.length xc7, .int .u8 a0.kind, .int .i64 a0.num, .string a0.name, .slice s0 a0.kids.length t0] 35)) := hB3.trans ((bel_alloc hB7).mono hB3.size)
    generalize (w7.alloc (.cells #[.int .u8 d0.kind, .int .i64 d0.num, .string d0.name, .slice s3 d0.kids.length t3, .int .u8 R1.kind, .int .i64 R1.num, .string R1.name, .slice xa6 R1.kids.length xc6, .int .u8 R2.kind, .int .i64 R2.num, .string R2.name, .slice xa7 R2.kids.length xc7, .int .u8 a0.kind, .int .i64 a0.num, .string a0.name, .slice s0 a0.kids.length t0] 35)) = w8 at *
    clear o7 f7
    have HO8 := Lib.hid (set1_3 hE8.1 (.slice (some ⟨w7.heap.size, 0, none⟩) 4 4))
    have HZ8 := Lib.hid (blk_set (o := 3) (x := .slice (some ⟨w7.heap.size, 0, none⟩) 4 4) hE8.2 (show w.heap.size + 1 ≠ w.heap.size + 1 + 1 by omega))
    obtain ⟨o0, o1, o2, o3⟩ := cells4 HO8.out
    obtain ⟨z0, z1, z2, z3⟩ := cells4 HZ8.out
    have fz := unfrozen HZ8.out
    go_wp2
    (try simp only [Exit.inBlock, Exit.then])
    refine bodyPost_ret (results_cell_row (P := Tryz.prog) rfl _ _ (w.heap.size + 1) _ _ _ _ rfl (set4 HZ8.out _ _ _ _) Tryz.underlying35 rfl (by kernel_rfl)) rfl ?_
    exact rinv_done HZ8.out (hBW.setCell (by show w.heap.size ≤ w.heap.size + 1 + 1; omega) _) (kids_o HK8.out) (ok_kind HOK.out (by omega))

set_option maxRecDepth 100000 in set_option maxHeartbeats 3200000 in theorem rinv_local (num : Int) (name : ByteArray) (a0 b1 d0 R1 : Nd) (H1 : Hid (RInv b1 R1)) : RInv (.mk 54 num name [a0, b1, d0]) (.mk 54 num name [d0, R1, a0]) := by
  intro v A w hv
  obtain ⟨hok, hlen, ka, kc, he, hk⟩ := hv.open
  have he' : v = .agg #[.int .u8 54, .int .i64 num, .string name, .slice ka 3 kc] := he
  subst he'
  have HK : Hid (KidsAt (fun j => A j ∧ j < w.heap.size) w (.slice ka 3 kc) [a0, b1, d0]) := Lib.hid (KidsAt.stays ⟨Nat.le_refl _, fun j hj a => ⟨rfl, a, hj⟩⟩ hk)
  have HR := Lib.hid (rw_rows (k := 54) (num := num) (name := name) (l := [a0, b1, d0]) (show KidsAt A w (.slice ka 3 kc) [a0, b1, d0] from hk))
  have HOK := Lib.hid hok
  clear hv hk hok hlen he
  go_enter Tryz.func43, Tryz.ntmps43
  go_wp2_with (at_builtin; refine wpl_rows TNd rfl (by decide) rfl (.tmp 6) (.tmp 8) rfl rfl rfl HR.out.1 HR.out.2.1 HR.out.2.2 (by unfold maxLen; simp) (by simp) (by rw [rw_size]; omega) ?_; intro a c w3 h3 hg3 hn3; have HO := Lib.hid (rout_new h3 hg3); obtain ⟨n0, n1, n2, n3⟩ := cells4 HO.out.n; obtain ⟨o0, o1, o2, o3⟩ := cells4 HO.out.o; have fo := unfrozen HO.out.o; clear h3 hg3 hn3)
  have hb3 := HO.out.below
  have hs3 : w.heap.size + 3 ≤ w3.heap.size := by
    have h := HO.out.o
    rw [Array.getElem?_eq_some_iff] at h
    have := h.1; omega
  have HK3 : Hid (KidsAt (fun j => A j ∧ j < w.heap.size) w3 (.slice ka 3 kc) [a0, b1, d0]) := Lib.hid (HK.out.stays (Stays.of_below hb3))
  obtain ⟨b, off, s0, t0, s1, t1, s2, t2, rfl, hkc, hx0, hx1, hx2, hcl⟩ := kids3_open HK3.out
  have hbb := (kids_blk HK3.out (by simp)).1.2
  have hK3 := keeps_set w3 (w.heap.size + 1 + 1) 3 (.slice a 3 c)
  have HN3 := Lib.hid (blk_set (o := 3) (x := .slice a 3 c) HO.out.n (show w.heap.size ≠ w.heap.size + 1 + 1 by omega))
  have HO3 := Lib.hid (set1_3 HO.out.o (.slice a 3 c))
  have HZ3 := Lib.hid (blk_set (o := 3) (x := .slice a 3 c) HO.out.z (show w.heap.size + 1 ≠ w.heap.size + 1 + 1 by omega))
  have hB3 : Below w.heap.size w (w3.setCell ⟨w.heap.size + 1 + 1, 3, none⟩ (.slice a 3 c)) := hb3.setCell (by show w.heap.size ≤ w.heap.size + 1 + 1; omega) _
  have hst3 : Stays (fun j => A j ∧ j < w.heap.size) (fun j => A j ∧ j < w.heap.size) w3 (w3.setCell ⟨w.heap.size + 1 + 1, 3, none⟩ (.slice a 3 c)) := ⟨hK3.size, fun j hj hd => ⟨hK3.block j hj (by omega), hd⟩⟩
  have HX0 := Lib.hid (hx0.stays hst3)
  have HX1 := Lib.hid (hx1.stays hst3)
  have HX2 := Lib.hid (hx2.stays hst3)
  clear hx0 hx1 hx2
  have hcl3 : ∀ w1, Below (w3.setCell ⟨w.heap.size + 1 + 1, 3, none⟩ (.slice a 3 c)).heap.size (w3.setCell ⟨w.heap.size + 1 + 1, 3, none⟩ (.slice a 3 c)) w1 → w1.cell? ⟨w.heap.size, 3, none⟩ = some (.slice (some ⟨b, off, none⟩) 3 kc) ∧ w1.cell? ⟨b, off, none⟩ = some (.int .u8 a0.kind) ∧ w1.cell? ⟨b, off + 1, none⟩ = some (.int .i64 a0.num) ∧ w1.cell? ⟨b, off + 2, none⟩ = some (.string a0.name) ∧ w1.cell? ⟨b, off + 3, none⟩ = some (.slice s0 a0.kids.length t0) ∧ w1.cell? ⟨b, off + 4, none⟩ = some (.int .u8 b1.kind) ∧ w1.cell? ⟨b, off + 4 + 1, none⟩ = some (.int .i64 b1.num) ∧ w1.cell? ⟨b, off + 4 + 2, none⟩ = some (.string b1.name) ∧ w1.cell? ⟨b, off + 4 + 3, none⟩ = some (.slice s1 b1.kids.length t1) ∧ w1.cell? ⟨b, off + 8, none⟩ = some (.int .u8 d0.kind) ∧ w1.cell? ⟨b, off + 8 + 1, none⟩ = some (.int .i64 d0.num) ∧ w1.cell? ⟨b, off + 8 + 2, none⟩ = some (.string d0.name) ∧ w1.cell? ⟨b, off + 8 + 3, none⟩ = some (.slice s2 d0.kids.length t2) := fun w1 hw => by
    have hc : ∀ o, w1.cell? ⟨b, o, none⟩ = w3.cell? ⟨b, o, none⟩ := fun o => (hw.cell (p := ⟨b, o, none⟩) (Nat.lt_of_lt_of_le (show b < w3.heap.size by omega) hK3.size)).trans (hK3.cell (p := ⟨b, o, none⟩) (show b < w3.heap.size by omega) (show ¬ b = w.heap.size + 1 + 1 by omega))
    obtain ⟨h1, h2, h3, h4, h5, h6, h7, h8, h9, h10, h11, h12⟩ := hcl w3 (Below.refl _ _)
    exact ⟨(cells4 (blk_below hw HN3.out)).2.2.2, (hc _).trans h1, (hc _).trans h2, (hc _).trans h3, (hc _).trans h4, (hc _).trans h5, (hc _).trans h6, (hc _).trans h7, (hc _).trans h8, (hc _).trans h9, (hc _).trans h10, (hc _).trans h11, (hc _).trans h12⟩
  have HC := Lib.hid hcl3
  have hs3' : w.heap.size + 3 ≤ (w3.setCell ⟨w.heap.size + 1 + 1, 3, none⟩ (.slice a 3 c)).heap.size := Nat.le_trans hs3 hK3.size
  clear hcl3 hcl hst3 hK3 n0 n1 n2 n3 o0 o1 o2 o3 fo hb3 hs3
  have HG3 : Hid (∀ w1, Below (w3.setCell ⟨w.heap.size + 1 + 1, 3, none⟩ (.slice a 3 c)).heap.size (w3.setCell ⟨w.heap.size + 1 + 1, 3, none⟩ (.slice a 3 c)) w1 → w1.cell? ⟨w.heap.size + 1 + 1, 3, none⟩ = some (.slice a 3 c) ∧ w1.frozen? ⟨w.heap.size + 1 + 1, 3, none⟩ = false) := Lib.hid (fun w1 hw => ⟨(cells4 (blk_below hw HO3.out)).2.2.2, unfrozen (blk_below hw HO3.out) 3⟩)
  have HE3 : Hid (∀ w1, Below (w3.setCell ⟨w.heap.size + 1 + 1, 3, none⟩ (.slice a 3 c)).heap.size (w3.setCell ⟨w.heap.size + 1 + 1, 3, none⟩ (.slice a 3 c)) w1 → w1.heap[w.heap.size + 1 + 1]? = some (.cells #[.int .u8 54, .int .i64 num, .string name, .slice a 3 c] 35 (0, 0)) ∧ w1.heap[w.heap.size + 1]? = some (.cells #[.int .u8 0, .int .i64 0, .string ⟨#[]⟩, .slice none 0 0] 35)) := Lib.hid (fun w1 hw => ⟨blk_below hw HO3.out, blk_below hw HZ3.out⟩)
  generalize (w3.setCell ⟨w.heap.size + 1 + 1, 3, none⟩ (.slice a 3 c)) = W3 at *
  have HC2 : Hid (∀ (w1 : World) (x : Value), Below W3.heap.size W3 w1 → (w1.setCell ⟨w.heap.size + 1 + 1, 3, none⟩ x).cell? ⟨w.heap.size, 3, none⟩ = some (.slice (some ⟨b, off, none⟩) 3 kc) ∧ (w1.setCell ⟨w.heap.size + 1 + 1, 3, none⟩ x).cell? ⟨b, off, none⟩ = some (.int .u8 a0.kind) ∧ (w1.setCell ⟨w.heap.size + 1 + 1, 3, none⟩ x).cell? ⟨b, off + 1, none⟩ = some (.int .i64 a0.num) ∧ (w1.setCell ⟨w.heap.size + 1 + 1, 3, none⟩ x).cell? ⟨b, off + 2, none⟩ = some (.string a0.name) ∧ (w1.setCell ⟨w.heap.size + 1 + 1, 3, none⟩ x).cell? ⟨b, off + 3, none⟩ = some (.slice s0 a0.kids.length t0) ∧ (w1.setCell ⟨w.heap.size + 1 + 1, 3, none⟩ x).cell? ⟨b, off + 4, none⟩ = some (.int .u8 b1.kind) ∧ (w1.setCell ⟨w.heap.size + 1 + 1, 3, none⟩ x).cell? ⟨b, off + 4 + 1, none⟩ = some (.int .i64 b1.num) ∧ (w1.setCell ⟨w.heap.size + 1 + 1, 3, none⟩ x).cell? ⟨b, off + 4 + 2, none⟩ = some (.string b1.name) ∧ (w1.setCell ⟨w.heap.size + 1 + 1, 3, none⟩ x).cell? ⟨b, off + 4 + 3, none⟩ = some (.slice s1 b1.kids.length t1) ∧ (w1.setCell ⟨w.heap.size + 1 + 1, 3, none⟩ x).cell? ⟨b, off + 8, none⟩ = some (.int .u8 d0.kind) ∧ (w1.setCell ⟨w.heap.size + 1 + 1, 3, none⟩ x).cell? ⟨b, off + 8 + 1, none⟩ = some (.int .i64 d0.num) ∧ (w1.setCell ⟨w.heap.size + 1 + 1, 3, none⟩ x).cell? ⟨b, off + 8 + 2, none⟩ = some (.string d0.name) ∧ (w1.setCell ⟨w.heap.size + 1 + 1, 3, none⟩ x).cell? ⟨b, off + 8 + 3, none⟩ = some (.slice s2 d0.kids.length t2)) := Lib.hid (fun w1 x hw => by
    have hK := keeps_set w1 (w.heap.size + 1 + 1) 3 x
    have hsz := hw.size
    have hc : ∀ (bb o : Nat), bb < w.heap.size + 1 → (w1.setCell ⟨w.heap.size + 1 + 1, 3, none⟩ x).cell? ⟨bb, o, none⟩ = w1.cell? ⟨bb, o, none⟩ := fun bb o h => hK.cell (p := ⟨bb, o, none⟩) (show bb < w1.heap.size by omega) (show ¬ bb = w.heap.size + 1 + 1 by omega)
    obtain ⟨h0, h1, h2, h3, h4, h5, h6, h7, h8, h9, h10, h11, h12⟩ := HC.out w1 hw
    exact ⟨(hc _ _ (by omega)).trans h0, (hc _ _ (by omega)).trans h1, (hc _ _ (by omega)).trans h2, (hc _ _ (by omega)).trans h3, (hc _ _ (by omega)).trans h4, (hc _ _ (by omega)).trans h5, (hc _ _ (by omega)).trans h6, (hc _ _ (by omega)).trans h7, (hc _ _ (by omega)).trans h8, (hc _ _ (by omega)).trans h9, (hc _ _ (by omega)).trans h10, (hc _ _ (by omega)).trans h11, (hc _ _ (by omega)).trans h12⟩)
  have HI1 : Hid (∀ w1, Below W3.heap.size W3 w1 → Calls Tryz.prog 43 #[.agg #[.int .u8 b1.kind, .int .i64 b1.num, .string b1.name, .slice s1 b1.kids.length t1]] w1 (fun e w' => ∃ xa xc, e = .returned (.agg #[.int .u8 R1.kind, .int .i64 R1.num, .string R1.name, .slice xa R1.kids.length xc]) ∧ NdAt (NewB (fun j => A j ∧ j < w.heap.size) w1) w' (.agg #[.int .u8 R1.kind, .int .i64 R1.num, .string R1.name, .slice xa R1.kids.length xc]) R1 ∧ Below w1.heap.size w1 w')) := Lib.hid (fun w1 hw => H1.out _ _ _ (HX1.out.stays (Stays.of_below hw)))
  obtain ⟨s0', h1, h2, h3, h4, h5, h6, h7, h8, h9, h10, h11, h12⟩ := HC.out W3 (Below.refl _ _)
  go_wp2
  go_region_held3 (fun w1 => w1.cell? ⟨w.heap.size, 3, none⟩ = some (.slice (some ⟨b, off, none⟩) 3 kc) ∧ w1.cell? ⟨b, off, none⟩ = some (.int .u8 a0.kind) ∧ w1.cell? ⟨b, off + 1, none⟩ = some (.int .i64 a0.num) ∧ w1.cell? ⟨b, off + 2, none⟩ = some (.string a0.name) ∧ w1.cell? ⟨b, off + 3, none⟩ = some (.slice s0 a0.kids.length t0) ∧ w1.cell? ⟨b, off + 4, none⟩ = some (.int .u8 b1.kind) ∧ w1.cell? ⟨b, off + 4 + 1, none⟩ = some (.int .i64 b1.num) ∧ w1.cell? ⟨b, off + 4 + 2, none⟩ = some (.string b1.name) ∧ w1.cell? ⟨b, off + 4 + 3, none⟩ = some (.slice s1 b1.kids.length t1) ∧ w1.cell? ⟨b, off + 8, none⟩ = some (.int .u8 d0.kind) ∧ w1.cell? ⟨b, off + 8 + 1, none⟩ = some (.int .i64 d0.num) ∧ w1.cell? ⟨b, off + 8 + 2, none⟩ = some (.string d0.name) ∧ w1.cell? ⟨b, off + 8 + 3, none⟩ = some (.slice s2 d0.kids.length t2))
    (first | (with_reducible exact HC2.out _ _ (by (repeat (with_reducible first | exact Below.refl _ _ | refine bel_drew ?_ | refine bel_alloc ?_ | (apply bel_step; focus assumption))))) | (with_reducible exact HC.out _ (by (repeat (with_reducible first | exact Below.refl _ _ | refine bel_drew ?_ | refine bel_alloc ?_ | (apply bel_step; focus assumption))))))
    (first
    | (go_at_call 43; with_reducible refine (HI1.out _ (by (repeat (with_reducible first | exact Below.refl _ _ | refine bel_drew ?_ | refine bel_alloc ?_ | (apply bel_step; focus assumption))))).mono ?_; rintro e w7 ⟨xa7, xc7, rfl, hx7, hb7⟩; have HX7 := Lib.hid hx7; clear hx7; have hB7 : Below W3.heap.size W3 w7 := (by (repeat (with_reducible first | exact Below.refl _ _ | refine bel_drew ?_ | refine bel_alloc ?_ | (apply bel_step; focus assumption)))); have o7 : ∀ X, (w7.alloc X).cell? ⟨w.heap.size + 1 + 1, 3, none⟩ = some (.slice a 3 c) := fun X => (HG3.out _ (bel_alloc hB7)).1; have f7 : ∀ X, (w7.alloc X).frozen? ⟨w.heap.size + 1 + 1, 3, none⟩ = false := fun X => (HG3.out _ (bel_alloc hB7)).2)
    | fail)
  all_goals
    have hE8 := HE3.out (w7.alloc (.cells #[.int .u8 d0.kind, .int .i64 d0.num, .string d0.name, .slice s2 d0.kids.length t2, .int .u8 R1.kind, .int .i64 R1.num, .string R1.name, .slice xa7 R1.kids.length xc7, .int .u8 a0.kind, .int .i64 a0.num, .string a0.name, .slice s0 a0.kids.length t0] 35)) (bel_alloc hB7)
    have HK8 : Hid (KidsAt (RD A w) (w7.alloc (.cells #[.int .u8 d0.kind, .int .i64 d0.num, .string d0.name, .slice s2 d0.kids.length t2, .int .u8 R1.kind, .int .i64 R1.num, .string R1.name, .slice xa7 R1.kids.length xc7, .int .u8 a0.kind, .int .i64 a0.num, .string a0.name, .slice s0 a0.kids.length t0] 35)) (.slice (some ⟨w7.heap.size, 0, none⟩) 3 3) [d0, R1, a0]) := Lib.hid (kids_3 (heap_alloc_new w7 _) (.inr (by have := hb7.size; simp at this; omega)) (rd_old (HX2.out.stays (Stays.of_below (bel_alloc hB7)))) (rd_new HX7.out (bel_alloc (Below.refl _ _)) hs3') (rd_old (HX0.out.stays (Stays.of_below (bel_alloc hB7)))))
    have hBW : Below w.heap.size w (w7.alloc (.cells #[.int .u8 d0.kind, .int .i64 d0.num, .string d0.name, .slice s2 d0.kids.length t2, .int .u8 R1.kind, .int .i64 R1.num, .string R1.name, .slice xa7 R1.kids.length xc7, .int .u8 a0.kind, .int .i64 a0.num, .string a0.name, .slice s0 a0.kids.length t0] 35)) := hB3.trans ((bel_alloc hB7).mono hB3.size)
    generalize (w7.alloc (.cells #[.int .u8 d0.kind, .int .i64 d0.num, .string d0.name, .slice s2 d0.kids.length t2, .int .u8 R1.kind, .int .i64 R1.num, .string R1.name, .slice xa7 R1.kids.length xc7, .int .u8 a0.kind, .int .i64 a0.num, .string a0.name, .slice s0 a0.kids.length t0] 35)) = w8 at *
    clear o7 f7
    have HO8 := Lib.hid (set1_3 hE8.1 (.slice (some ⟨w7.heap.size, 0, none⟩) 3 3))
    have HZ8 := Lib.hid (blk_set (o := 3) (x := .slice (some ⟨w7.heap.size, 0, none⟩) 3 3) hE8.2 (show w.heap.size + 1 ≠ w.heap.size + 1 + 1 by omega))
    obtain ⟨o0, o1, o2, o3⟩ := cells4 HO8.out
    obtain ⟨z0, z1, z2, z3⟩ := cells4 HZ8.out
    have fz := unfrozen HZ8.out
    go_wp2
    (try simp only [Exit.inBlock, Exit.then])
    refine bodyPost_ret (results_cell_row (P := Tryz.prog) rfl _ _ (w.heap.size + 1) _ _ _ _ rfl (set4 HZ8.out _ _ _ _) Tryz.underlying35 rfl (by kernel_rfl)) rfl ?_
    exact rinv_done HZ8.out (hBW.setCell (by show w.heap.size ≤ w.heap.size + 1 + 1; omega) _) (kids_o HK8.out) (ok_kind HOK.out (by omega))

end Go.Proofs.YtehmmokkjojggabGreatDoor
/- Walks of package backstepref40: Inverse, at the statements of binds. -/
namespace Go.Proofs.YtehmmokkjojggabGreatDoor
set_option linter.unusedVariables false
open Go.RowKit

theorem rinv_list (l : List Nd) (h : ∀ s ∈ l, RInv s (invN s)) (hl : l.length ≤ 100000) : RInv (blockN l) (blockN (invL l).reverse) :=
  rinv_block 0 ByteArray.empty l (invL l) (invL_len l) hl (Lib.hid fun j hj => by rw [invL_at l hj]; exact h _ (at_mem hj))
/-- Inverse turns a statement of binds into its inverse -/
theorem rinv_cs {n : Nd} (h : CS n) : RInv n (invN n) := by
  induction h with
  | plus s e hs he h57 hz =>
    have e : invN (plusN s e) = .mk 41 0 ByteArray.empty [vN s, e] := by rw [plusN, nodeN, invN, invK]; rfl
    rw [e]
    exact rinv_flat 40 41 0 ByteArray.empty [vN s, _] (.inl ⟨rfl, rfl⟩) (by simp)
  | call p args hl =>
    have e : invN (callN p args) = nodeN 51 p (args.map vN) := by rw [callN, nodeN, invN, invK]; rfl
    rw [e]
    exact rinv_flat 50 51 0 p (args.map vN) (.inr (.inr (.inr ⟨rfl, rfl⟩))) (by simp; omega)
  | cond a d l1 l2 h1 h2 n1 n2 ih1 ih2 =>
    have e : invN (nodeN 52 ByteArray.empty [a, blockN l1, blockN l2, d]) = nodeN 52 ByteArray.empty [d, invN (blockN l1), invN (blockN l2), a] := by
      have : ∀ x y z u : Nd, invN (nodeN 52 ByteArray.empty [x, y, z, u]) = nodeN 52 ByteArray.empty [u, invN y, invN z, x] := fun x y z u => by
        rw [nodeN, invN, invK]; simp [invL, at', nodeN]
      exact this _ _ _ _
    rw [e, inv_blockN, inv_blockN]
    exact rinv_if 0 ByteArray.empty a _ _ d _ _ (Lib.hid (rinv_list l1 ih1 n1)) (Lib.hid (rinv_list l2 ih2 n2))
  | loc a c k k' s hk hs ha hc ka kc za zc =>
    have e : invN (nodeN 54 headS [a, blockN [nodeN k s [vN headS]], c]) = nodeN 54 headS [c, invN (blockN [nodeN k s [vN headS]]), a] := by
      have : ∀ x y z : Nd, invN (nodeN 54 headS [x, y, z]) = nodeN 54 headS [z, invN y, x] := fun x y z => by
        rw [nodeN, invN, invK]; simp [invL, at', nodeN]
      exact this _ _ _
    rw [e, inv_blockN]
    refine rinv_local 0 headS a _ c _ (Lib.hid (rinv_list [nodeN k s [vN headS]] (fun x hx => ?_) (by simp)))
    obtain rfl : x = nodeN k s [vN headS] := by simpa using hx
    rcases hk with ⟨rfl, rfl⟩ | ⟨rfl, rfl⟩
    · have e : invN (nodeN 44 s [vN headS]) = .mk 45 0 s [vN headS] := by rw [nodeN, invN, invK]; rfl
      rw [e]
      exact rinv_flat 44 45 0 s [vN headS] (.inr (.inl ⟨rfl, rfl⟩)) (by simp)
    · have e : invN (nodeN 45 s [vN headS]) = .mk 44 0 s [vN headS] := by rw [nodeN, invN, invK]; rfl
      rw [e]
      exact rinv_flat 45 44 0 s [vN headS] (.inr (.inr (.inl ⟨rfl, rfl⟩))) (by simp)
end Go.Proofs.YtehmmokkjojggabGreatDoor
