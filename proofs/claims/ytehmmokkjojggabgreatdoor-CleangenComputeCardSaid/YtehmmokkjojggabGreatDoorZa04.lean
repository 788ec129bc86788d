/- Contracts and plain lemmas for the law (AnfG, AnfH, AnfI, AnfJ, AnfK, AnfL, AnfM, AnfN): no statement of the seat is proved here. -/
import Derived.Test.YtehmmokkjojggabGreatDoorZa03
import Derived.Deep.DeepCutAuto
import Derived.StillTailTactics
import Derived.Deep.RegionHeld3
/- Walks of package anf: bind. -/
namespace Go.Proofs.YtehmmokkjojggabGreatDoor
set_option linter.unusedVariables false
open Go.RowKit

theorem StrsAt.form' {A : Nat → Prop} {w : World} {v : Value} {l : List ByteArray} (h : StrsAt A w v l) : ∃ a c, v = .slice a l.length c := by
  obtain ⟨cs, h, _⟩ := h; exact h.form

theorem at_mid' (w : World) (x y : Obj) : ((w.alloc x).alloc y).heap[w.heap.size]? = some x := by
  rw [Below.heap_alloc _ _ _ (by simp)]; exact at_new0 w x
theorem mut_of {bo bm pb k : Nat} {tv bv : Value} (h : k = bo ∨ tv.ownBlock = some k) : Mut bo bm pb tv bv k := by
  rcases h with h | h
  · exact .inl h
  · exact .inr (.inr (.inr (.inl h)))

theorem tname_le (n : Nat) : (tname n).size ≤ n + 2 := by
  have := dec_len n
  show (116 :: Lib.decDigits n).toArray.size ≤ _
  simp; omega

/-- the eight cells of a block -/
theorem cells8 {w : World} {b e : Nat} {v0 v1 v2 v3 v4 v5 v6 v7 : Value} (h : w.heap[b]? = some (.cells #[v0, v1, v2, v3, v4, v5, v6, v7] e (0, 0))) :
    w.cell? ⟨b, 0, none⟩ = some v0 ∧ w.cell? ⟨b, 1, none⟩ = some v1 ∧ w.cell? ⟨b, 2, none⟩ = some v2 ∧ w.cell? ⟨b, 3, none⟩ = some v3 ∧ w.cell? ⟨b, 4, none⟩ = some v4 ∧ w.cell? ⟨b, 5, none⟩ = some v5 ∧ w.cell? ⟨b, 6, none⟩ = some v6 ∧ w.cell? ⟨b, 7, none⟩ = some v7 :=
  ⟨cell_blk h 0 rfl, cell_blk h 1 rfl, cell_blk h 2 rfl, cell_blk h 3 rfl, cell_blk h 4 rfl, cell_blk h 5 rfl, cell_blk h 6 rfl, cell_blk h 7 rfl⟩
theorem src8 (w : World) (v0 v1 v2 v3 v4 v5 v6 v7 : Value) (e : TypeId) : ∀ j u, [v0, v1, v2, v3, v4, v5, v6, v7][j]? = some u → (w.alloc (.cells #[v0, v1, v2, v3, v4, v5, v6, v7] e)).cell? ((⟨w.heap.size, 0, none⟩ : Addr).add j) = some u := by
  intro j u hj
  have e0 : (⟨w.heap.size, 0, none⟩ : Addr).add j = ⟨w.heap.size, j, none⟩ := by
    simp only [Addr.add]; split
    · subst_vars; rfl
    · simp
  rw [e0]
  exact cell_blk (heap_alloc_new w _) j (by simpa using hj)

/-- behind the append: where the new element lies -/
theorem last8 {w : World} {base e n : Nat} {v : Value} {xs : List Value} {z0 z1 z2 z3 z4 z5 z6 z7 : Value} (h : w.ownsRow base e 8 v (n + 1) (xs ++ [z0, z1, z2, z3, z4, z5, z6, z7])) (hx : xs.length = n * 8) :
    ∃ g cap, v = .slice (some ⟨g, 0, none⟩) (n + 1) cap ∧ g < w.heap.size ∧ (∀ j, w.frozen? ⟨g, j, none⟩ = false) ∧ w.cell? ⟨g, n * 8, none⟩ = some z0 ∧ w.cell? ⟨g, n * 8 + 1, none⟩ = some z1 ∧ w.cell? ⟨g, n * 8 + 2, none⟩ = some z2 ∧ w.cell? ⟨g, n * 8 + 3, none⟩ = some z3 ∧
      w.cell? ⟨g, n * 8 + 4, none⟩ = some z4 ∧ w.cell? ⟨g, n * 8 + 5, none⟩ = some z5 ∧ w.cell? ⟨g, n * 8 + 6, none⟩ = some z6 ∧ w.cell? ⟨g, n * 8 + 7, none⟩ = some z7 := by
  obtain ⟨g, cap, cur, rfl, hnc, hh, hs, hm, hg, ht, hcl⟩ := row_cell h (by omega)
  refine ⟨g, cap, rfl, by rw [Array.getElem?_eq_some_iff] at hh; exact hh.1, fun j => by simp [World.frozen?, hh], ?_⟩
  refine ⟨hcl _ _ ?_, hcl _ _ ?_, hcl _ _ ?_, hcl _ _ ?_, hcl _ _ ?_, hcl _ _ ?_, hcl _ _ ?_, hcl _ _ ?_⟩ <;> (rw [List.getElem?_append_right (by omega), hx]; simp)

/-- the row of binds grew -/
theorem VSt.grow {A : Nat → Prop} {W WB w2 X : World} {bV bo bm pb po N : Nat} {c0 c1 c2 c4 c4' c5 tv bv v' lv : Value} {lib : List Fn} {ts : List Par} {bs : List Bd} {env : Env} {xs : List Value} {v0 v1 v2 v3 v4 v5 v6 v7 : Value} {b : Bd}
    (h : VSt A W bV bo bm pb po N c0 c1 c2 c4 c5 tv bv lv lib ts bs env) (hb : Below W.heap.size W WB) (hg : WB.grownBy w2 bv.ownBlock) (hn : NewOr WB bv v') (hk : Keeps w2 X (fun k => v'.ownBlock = some k ∨ k = pb))
    (ho : OutAt X bo c0 c1 c2 c4' c5 tv ts) (hp : PtrAt X bo pb po v' c4') (hr : X.ownsRow 0 88 8 v' (bs.length + 1) (xs ++ [v0, v1, v2, v3, v4, v5, v6, v7])) (hx : xs.length = bs.length * 8)
    (hcs : ∀ j, j < bs.length → BdCells A W (fun i => vat xs (j * 8 + i)) (at' bs j)) (hbc : BdCells A W (fun i => vat [v0, v1, v2, v3, v4, v5, v6, v7] i) b) :
    VSt A X bV bo bm pb po N c0 c1 c2 c4' c5 tv v' lv lib ts (bs ++ [b]) env ∧ Keeps W X (Mut bo bm pb tv bv) ∧ NewOr W bv v' := by
  have hlt := h.mutlt
  have hn' : NewOr W bv v' := fun k e => by
    rcases hn k e with e | e
    · exact .inl e
    · exact .inr (Nat.le_trans hb.size e)
  have hK : Keeps W X (fun k => bv.ownBlock = some k ∨ k = pb) := by
    refine (Keeps.of_below _ hb).trans ((Keeps.of_grown (S := fun k => bv.ownBlock = some k ∨ k = pb) hg (fun k e => .inl (.inl e))).trans hk (fun k e => ?_)) (fun k e => .inl e)
    rcases e with e | e
    · rcases hn k e with e | e
      · exact .inl (.inl e)
      · exact .inr e
    · exact .inl (.inr e)
  have hA : ∀ k, A k → ¬ (bv.ownBlock = some k ∨ k = pb) := by
    rintro k a (e | e)
    · exact h.mutA k (.inr (.inr (.inr (.inr e)))) a
    · exact h.mutA k (.inr (.inr (.inl e))) a
  have hne : ∀ k, k < W.heap.size → bv.ownBlock ≠ some k → v'.ownBlock ≠ some k := fun k hk' h1 e => by
    rcases hn' k e with e | e
    · exact h1 e
    · omega
  have hst : Stays A A W X := hK.stays fun k a _ => hA k a
  refine ⟨?_, hK.mono (by rintro k (e | e); exact .inr (.inr (.inr (.inr e))); exact .inr (.inr (.inl e))), hn'⟩
  exact {
    out := ho
    vis := h.vis.keeps hK (hA _ h.visA)
    lib := h.lib.stays hst
    map := hK.smap h.map (by rintro (e | e); exact h.bvbm e; exact h.pbbm e.symm)
    ptr := hp
    row := BdsOwn.snoc hr hx (fun j hj => (hcs j hj).stays hst) (hbc.stays hst)
    tab := h.tab.stays hK (fun g e => hA g (h.tabA g e))
    tabA := h.tabA
    visA := h.visA
    alt := fun k a => Nat.lt_of_lt_of_le (h.alt k a) hK.size
    mutA := by
      intro k hm a
      rcases Mut.new hm (NewOr.refl W tv) hn' with e | e
      · exact h.mutA k e a
      · have := h.alt k a; omega
    bobm := h.bobm
    pbbm := h.pbbm
    tvbm := h.tvbm
    tvpb := h.tvpb
    bvbo := hne _ h.out.lt h.bvbo
    bvbm := hne _ h.map.lt h.bvbm
    bvpb := hne _ (hlt _ (.inr (.inr (.inl rfl)))) h.bvpb
    sep := fun k e1 e2 => by
      rcases hn' k e2 with e | e
      · exact h.sep k e1 e
      · have := hlt k (.inr (.inr (.inr (.inl e1)))); omega }

abbrev set8 (w : World) (g o : Nat) (v0 v1 v2 v3 v4 v5 v6 v7 : Value) : World := (((((((w.setCell ⟨g, o, none⟩ v0).setCell ⟨g, o + 1, none⟩ v1).setCell ⟨g, o + 2, none⟩ v2).setCell ⟨g, o + 3, none⟩ v3).setCell ⟨g, o + 4, none⟩ v4).setCell ⟨g, o + 5, none⟩ v5).setCell ⟨g, o + 6, none⟩ v6).setCell ⟨g, o + 7, none⟩ v7

/-- what the stores behind the append leave, in either order -/
theorem VSt.stored {A : Nat → Prop} {W WB w2 : World} {bV bo bm pb po N g cap : Nat} {c0 c1 c2 c4 c5 tv bv lv : Value} {lib : List Fn} {ts : List Par} {bs : List Bd} {env : Env} {xs zs : List Value} {v0 v1 v2 v3 v4 v5 v6 v7 : Value} {b : Bd}
    (h : VSt A W bV bo bm pb po N c0 c1 c2 c4 c5 tv bv lv lib ts bs env) (hb : Below W.heap.size W WB) (hg : WB.grownBy w2 bv.ownBlock) (hn : NewOr WB bv (.slice (some ⟨g, 0, none⟩) (bs.length + 1) cap))
    (hr : w2.ownsRow 0 88 8 (.slice (some ⟨g, 0, none⟩) (bs.length + 1) cap) (bs.length + 1) (xs ++ zs)) (hx : xs.length = bs.length * 8) (hz : zs.length = 8)
    (hcs : ∀ j, j < bs.length → BdCells A W (fun i => vat xs (j * 8 + i)) (at' bs j)) (hbc : BdCells A W (fun i => vat [v0, v1, v2, v3, v4, v5, v6, v7] i) b) :
    ∀ X, (X = (set8 w2 g (bs.length * 8) v0 v1 v2 v3 v4 v5 v6 v7).setCell ⟨pb, po, none⟩ (.slice (some ⟨g, 0, none⟩) (bs.length + 1) cap) ∨ X = set8 (w2.setCell ⟨pb, po, none⟩ (.slice (some ⟨g, 0, none⟩) (bs.length + 1) cap)) g (bs.length * 8) v0 v1 v2 v3 v4 v5 v6 v7) →
    ∃ c4', VSt A X bV bo bm pb po N c0 c1 c2 c4' c5 tv (.slice (some ⟨g, 0, none⟩) (bs.length + 1) cap) lv lib ts (bs ++ [b]) env ∧ Keeps W X (Mut bo bm pb tv bv) ∧ NewOr W bv (.slice (some ⟨g, 0, none⟩) (bs.length + 1) cap) ∧ (pb ≠ bo → c4' = c4) := by
  have hlt := h.mutlt
  have hV2 : OutAt w2 bo c0 c1 c2 c4 c5 tv ts ∧ PtrAt w2 bo pb po bv c4 := by
    have hk : Keeps W w2 (fun k => bv.ownBlock = some k) := (Keeps.of_below _ hb).trans (Keeps.of_grown (S := fun k => bv.ownBlock = some k) hg (fun k e => .inl e)) (fun k e => .inl e)
    exact ⟨h.out.keeps hk h.bvbo (fun k e e2 => h.sep k e e2), h.ptr.keeps hk h.bvpb⟩
  obtain ⟨ho2, hp2⟩ := hV2
  have hgne : ∀ k, k < W.heap.size → bv.ownBlock ≠ some k → k ≠ g := fun k hk h1 e => by
    subst e
    rcases hn k rfl with e | e
    · exact h1 e
    · have := hb.size; omega
  have hgbo : bo ≠ g := hgne _ h.out.lt h.bvbo
  have hgpb : pb ≠ g := hgne _ (hlt _ (.inr (.inr (.inl rfl)))) h.bvpb
  have hgtv : ∀ k, tv.ownBlock = some k → k ≠ g := fun k e e2 => by
    subst e2
    rcases hn k rfl with e' | e'
    · exact h.sep k e e'
    · have := hlt k (.inr (.inr (.inr (.inl e)))); have := hb.size; omega
  rintro X (rfl | rfl)
  · obtain ⟨r1, r2⟩ := elems_set (n := bs.length) v0 v1 v2 v3 v4 v5 v6 v7 hr rfl hx hz
    have ho3 := ho2.keeps r2 hgbo hgtv
    have hp3 := hp2.keeps r2 hgpb
    obtain ⟨c4', a1, a2, a3⟩ := head_set (.slice (some ⟨g, 0, none⟩) (bs.length + 1) cap) hp3 ho3 h.tvpb
    have hks := keeps_set (set8 w2 g (bs.length * 8) v0 v1 v2 v3 v4 v5 v6 v7) pb po (.slice (some ⟨g, 0, none⟩) (bs.length + 1) cap)
    have r3 := row_keeps r1 hks (fun k e e2 => by simp only [Value.ownBlock, Option.some.injEq] at e; exact hgpb ((show k = pb from e2) ▸ e.symm))
    obtain ⟨b1, b2, b3⟩ := h.grow hb hg hn ((r2.mono (T := fun k => (Value.slice (some ⟨g, 0, none⟩) (bs.length + 1) cap).ownBlock = some k ∨ k = pb) (fun k e => .inl (by simp [Value.ownBlock, (show k = g from e)]))).same (hks.mono (fun k e => .inr e))) a1 a2 r3 hx hcs hbc
    exact ⟨c4', b1, b2, b3, a3⟩
  · obtain ⟨c4', a1, a2, a3⟩ := head_set (.slice (some ⟨g, 0, none⟩) (bs.length + 1) cap) hp2 ho2 h.tvpb
    have hks := keeps_set w2 pb po (.slice (some ⟨g, 0, none⟩) (bs.length + 1) cap)
    have r3 := row_keeps hr hks (fun k e e2 => by simp only [Value.ownBlock, Option.some.injEq] at e; exact hgpb ((show k = pb from e2) ▸ e.symm))
    obtain ⟨r1, r2⟩ := elems_set (n := bs.length) v0 v1 v2 v3 v4 v5 v6 v7 r3 rfl hx hz
    have ho3 := a1.keeps r2 hgbo hgtv
    have hp3 := a2.keeps r2 hgpb
    obtain ⟨b1, b2, b3⟩ := h.grow hb hg hn ((hks.mono (T := fun k => (Value.slice (some ⟨g, 0, none⟩) (bs.length + 1) cap).ownBlock = some k ∨ k = pb) (fun k e => .inr e)).same (r2.mono (fun k e => .inl (by simp [Value.ownBlock, (show k = g from e)])))) ho3 hp3 r1 hx hcs hbc
    exact ⟨c4', b1, b2, b3, a3⟩

theorem name_end {Q : Exit → Act → World → Prop} {e : Exit} {a : Act} {w : World} (h : ∀ X, X = w → Q e a X) : Q e a w := h w rfl
theorem VSt.headAt {A : Nat → Prop} {W WB w2 : World} {bV bo bm pb po N : Nat} {c0 c1 c2 c4 c5 tv bv lv : Value} {lib : List Fn} {ts : List Par} {bs : List Bd} {env : Env}
    (h : VSt A W bV bo bm pb po N c0 c1 c2 c4 c5 tv bv lv lib ts bs env) (hb : Below W.heap.size W WB) (hg : WB.grownBy w2 bv.ownBlock) : w2.cell? ⟨pb, po, none⟩ = some bv ∧ w2.frozen? ⟨pb, po, none⟩ = false := by
  have hk : Keeps W w2 (fun k => bv.ownBlock = some k) := (Keeps.of_below _ hb).trans (Keeps.of_grown (S := fun k => bv.ownBlock = some k) hg (fun k e => .inl e)) (fun k e => .inl e)
  exact (h.ptr.keeps hk h.bvpb).cell (h.out.keeps hk h.bvbo (fun k e e2 => h.sep k e e2))

/-- what the append leaves -/
def BindPost (A : Nat → Prop) (W : World) (bV bo bm pb po N : Nat) (c0 c1 c2 c4 c5 tv bv lv : Value) (lib : List Fn) (ts : List Par) (bs : List Bd) (env : Env) (X : World) : Prop :=
  ∃ v' c4', VSt A X bV bo bm pb po N c0 c1 c2 c4' c5 tv v' lv lib ts bs env ∧ Keeps W X (Mut bo bm pb tv bv) ∧ NewOr W bv v' ∧ (pb ≠ bo → c4' = c4)

set_option maxRecDepth 100000 in
set_option maxHeartbeats 6400000 in
theorem bind_any (A : Nat → Prop) (w : World) (bV bo bm pb po N : Nat) (c0 c1 c2 c4 c5 tv bv lv : Value) (lib : List Fn) (ts : List Par) (bs : List Bd) (env : Env) (to0 name : ByteArray) (l0 list : Bool) (op num : Int) (av hv ev : Value) (args : List ByteArray) (thn els : List Bd)
    (h : VSt A w bV bo bm pb po N c0 c1 c2 c4 c5 tv bv lv lib ts bs env) (ha : StrsAt A w av args) (ht : BdsAt A w hv thn) (he : BdsAt A w ev els) (hop : 0 ≤ op ∧ op ≤ 255) (hnum : In64 num) (hname : name.size ≤ maxLen) (hl : ts.length < 200000) (hb : bs.length < 200000) :
    Calls Tryz.prog 133 #[.pointer (some ⟨bV, 0, none⟩), .agg #[.string to0, .bool l0, .int .u8 op, .int .i64 num, .string name, av, hv, ev], .bool list, .pointer (some ⟨pb, po, none⟩)] w fun e w' =>
      e = .returned (parV ⟨tname ts.length, list⟩) ∧ VLeft A w w' bV bo bm pb po N c0 c1 c2 c4 c5 tv bv lv lib (ts ++ [⟨tname ts.length, list⟩]) (bs ++ [.mk (tname ts.length) list op num name args thn els]) env := by
  obtain ⟨aa, ca, rfl⟩ := ha.form'
  obtain ⟨_, ah, ch, rfl⟩ := ht.form
  obtain ⟨_, ae, ce, rfl⟩ := he.form
  have hA : Below w.heap.size w ((w.alloc (.cells #[.string to0, .bool l0, .int .u8 op, .int .i64 num, .string name, .slice aa args.length ca, .slice ah thn.length ch, .slice ae els.length ce] 88)).alloc (.cells #[.string ⟨#[]⟩, .bool false] 57)) := ((Below.refl _ _).alloc (Nat.le_refl _) _).alloc (by simp) _
  have h0 := h.below hA
  have HT := Lib.hid (temp_any _ bV bo bm c0 c1 c2 c4 c5 tv lv ts list h0.vis h0.out (fun e => h0.mutA _ (.inl rfl) (e ▸ h0.visA)) (fun e => h0.mutA _ (.inr (.inr (.inr (.inl e)))) h0.visA) hl h0.tab)
  have HL := Lib.hid h.mutlt
  have hn0 := at_mid' w (.cells #[.string to0, .bool l0, .int .u8 op, .int .i64 num, .string name, .slice aa args.length ca, .slice ah thn.length ch, .slice ae els.length ce] 88) (.cells #[.string ⟨#[]⟩, .bool false] 57)
  have hsz0 : ((w.alloc (.cells #[.string to0, .bool l0, .int .u8 op, .int .i64 num, .string name, .slice aa args.length ca, .slice ah thn.length ch, .slice ae els.length ce] 88)).alloc (.cells #[.string ⟨#[]⟩, .bool false] 57)).heap.size = w.heap.size + 1 + 1 := by simp
  have hn1' := at_new w (.cells #[.string to0, .bool l0, .int .u8 op, .int .i64 num, .string name, .slice aa args.length ca, .slice ah thn.length ch, .slice ae els.length ce] 88) (.cells #[.string ⟨#[]⟩, .bool false] 57)
  have H := Lib.hid h
  have H0 := Lib.hid h0
  clear h h0
  go_enter Tryz.func133, Tryz.ntmps133
  go_wp2_with (go_at_call 141; refine HT.out.mono ?_; rintro e w1 ⟨rfl, tv1, ho1, hk1, hn1⟩; simp only [parV]; have n1 := (hk1.block w.heap.size (by omega) (fun e => absurd (HL.out _ (mut_of e)) (Nat.lt_irrefl _))).trans hn0; have b0 := cell_blk n1 0 rfl; have b1 := cell_blk n1 1 rfl; have g0 := unfrozen n1 0; have g1 := unfrozen n1 1; have hlt1 : w.heap.size < w1.heap.size := Nat.lt_of_lt_of_le (by omega) hk1.size)
  have hV1 := H0.out.temp ho1 hk1 hn1
  have HMA : Hid (∀ k, Mut bo bm pb tv1 bv k → k ≠ w.heap.size) := Lib.hid (fun k hm e => by
    rcases Mut.new hm hn1 (NewOr.refl _ bv) with e' | e'
    · have := HL.out k e'; omega
    · omega)
  have hV2 := (hV1.keeps (keeps_set w1 w.heap.size 0 (.string (tname ts.length))) (fun k a e => by have := H.out.alt k a; omega) HMA.out).keeps (keeps_set _ w.heap.size 1 (.bool list)) (fun k a e => by have := H.out.alt k a; omega) HMA.out
  have hAP := (Below.refl (((w1.setCell ⟨w.heap.size, 0, none⟩ (.string (tname ts.length))).setCell ⟨w.heap.size, 1, none⟩ (.bool list))).heap.size ((w1.setCell ⟨w.heap.size, 0, none⟩ (.string (tname ts.length))).setCell ⟨w.heap.size, 1, none⟩ (.bool list))).alloc (Nat.le_refl _) (.cells #[.string (tname ts.length), .bool list] 57)
  have hV3 := hV2.below hAP
  have n2 := heap_setCell_same _ _ 1 _ _ (.bool list) (heap_setCell_same w1 _ 0 _ _ (.string (tname ts.length)) n1)
  have hlt2 : w.heap.size < ((w1.setCell ⟨w.heap.size, 0, none⟩ (.string (tname ts.length))).setCell ⟨w.heap.size, 1, none⟩ (.bool list)).heap.size := by simpa [World.setCell] using hlt1
  have n3 := (hAP.block w.heap.size hlt2).trans n2
  have hlw := Nat.lt_of_lt_of_le hlt2 hAP.size
  have hsz2 : ((w1.setCell ⟨w.heap.size, 0, none⟩ (.string (tname ts.length))).setCell ⟨w.heap.size, 1, none⟩ (.bool list)).heap.size = w1.heap.size := by simp [World.setCell]
  have hlt9 : w1.heap.size < (((w1.setCell ⟨w.heap.size, 0, none⟩ (.string (tname ts.length))).setCell ⟨w.heap.size, 1, none⟩ (.bool list)).alloc (.cells #[.string (tname ts.length), .bool list] 57)).heap.size := by simp [World.setCell]
  have m9 := at_new0 ((w1.setCell ⟨w.heap.size, 0, none⟩ (.string (tname ts.length))).setCell ⟨w.heap.size, 1, none⟩ (.bool list)) (.cells #[.string (tname ts.length), .bool list] 57)
  rw [hsz2] at m9
  have HMB : Hid (∀ k, Mut bo bm pb tv1 bv k → k ≠ w.heap.size + 1) := Lib.hid (fun k hm e => by
    rcases Mut.new hm hn1 (NewOr.refl _ bv) with e' | e'
    · have := HL.out k e'; omega
    · omega)
  have HMC : Hid (∀ k, Mut bo bm pb tv1 bv k → k ≠ w1.heap.size) := Lib.hid (fun k hm e => by
    have := hV1.mutlt k hm; omega)
  have m8 := (hk1.block (w.heap.size + 1) (by omega) (fun e => by have := HL.out _ (mut_of e); omega)).trans hn1'
  have hlt8 : w.heap.size + 1 < w1.heap.size := by have := hk1.size; omega
  have m8 := ((hAP.block (w.heap.size + 1) (by rw [hsz2]; exact hlt8)).trans (((keeps_set _ w.heap.size 1 (.bool list)).block (w.heap.size + 1) (by simpa [World.setCell] using hlt8) (by omega)).trans ((keeps_set w1 w.heap.size 0 (.string (tname ts.length))).block (w.heap.size + 1) hlt8 (by omega)))).trans m8
  obtain ⟨p0, p1, p2, p3, p4, p5, p6, p7⟩ := cells8 n3
  have hKW := (((((Keeps.of_below (Mut bo bm pb tv bv) hA).trans hk1 (fun k e => .inl (mut_of e))).trans (keeps_set w1 w.heap.size 0 (.string (tname ts.length))) (fun k e => .inr (by omega))).trans (keeps_set _ w.heap.size 1 (.bool list)) (fun k e => .inr (by omega)))).alloc (.cells #[.string (tname ts.length), .bool list] 57)
  clear n2 n1 b0 b1 g0 g1 hAP hV2 hV1 hlt2 hsz2
  obtain ⟨q0, q1⟩ := hV3.ptr.cell hV3.out
  generalize hW : (((w1.setCell ⟨w.heap.size, 0, none⟩ (.string (tname ts.length))).setCell ⟨w.heap.size, 1, none⟩ (.bool list)).alloc (.cells #[.string (tname ts.length), .bool list] 57)) = W at *
  obtain ⟨xs, hrow, hcs⟩ := hV3.row
  obtain ⟨ab, cb, rfl⟩ := row_form hrow
  have HCS := Lib.hid hcs
  have HROW := Lib.hid hrow
  have H3 := Lib.hid hV3
  have HX : Hid (xs.length = bs.length * 8) := Lib.hid hrow.1
  have HM8 := Lib.hid m8
  have HM9 := Lib.hid m9
  clear hcs hrow hV3 hW n3 m8 m9
  have hB : Below W.heap.size W (W.alloc (.cells #[.string ⟨#[]⟩, .bool false, .int .u8 0, .int .i64 0, .string ⟨#[]⟩, .slice none 0 0, .slice none 0 0, .slice none 0 0] 88)).drew := below_drewN ((Below.refl _ _).alloc (Nat.le_refl _) _) 1
  have HBC : Hid (BdCells A W (fun i => vat [.string (tname ts.length), .bool list, .int .u8 op, .int .i64 num, .string name, .slice aa args.length ca, .slice ah thn.length ch, .slice ae els.length ce] i) (.mk (tname ts.length) list op num name args thn els)) := Lib.hid (by
    have hst : Stays A A w W := hKW.stays (fun k a _ hm => H.out.mutA k hm a)
    exact ⟨rfl, rfl, rfl, rfl, rfl, ha.stays hst, ht.stays hst, he.stays hst, by have := tname_le ts.length; unfold maxLen; simp only [Bd.to]; omega, hop, hnum, hname⟩)
  have HSRC := Lib.hid (src8 W (.string ⟨#[]⟩) (.bool false) (.int .u8 0) (.int .i64 0) (.string ⟨#[]⟩) (.slice none 0 0) (.slice none 0 0) (.slice none 0 0) 88)
  have HPN : Hid (∀ g cap, NewOr (W.alloc (.cells #[.string ⟨#[]⟩, .bool false, .int .u8 0, .int .i64 0, .string ⟨#[]⟩, .slice none 0 0, .slice none 0 0, .slice none 0 0] 88)).drew (.slice ab bs.length cb) (.slice (some ⟨g, 0, none⟩) (bs.length + 1) cap) → g ≠ pb) := Lib.hid (by
    intro g cap hn e
    subst e
    rcases hn g rfl with e | e
    · exact H3.out.bvpb e
    · have := H3.out.mutlt g (.inr (.inr (.inl rfl)))
      have := hB.size
      omega)
  have hil : (bs.length : Int) < (bs.length : Int) + 1 := by omega
  have hlp := H3.out.mutlt pb (.inr (.inr (.inl rfl)))
  have k0 := (hB.cell (p := ⟨w.heap.size, 0, none⟩) hlw).trans p0
  have k1 := (hB.cell (p := ⟨w.heap.size, 1, none⟩) hlw).trans p1
  have k2 := (hB.cell (p := ⟨w.heap.size, 2, none⟩) hlw).trans p2
  have k3 := (hB.cell (p := ⟨w.heap.size, 3, none⟩) hlw).trans p3
  have k4 := (hB.cell (p := ⟨w.heap.size, 4, none⟩) hlw).trans p4
  have k5 := (hB.cell (p := ⟨w.heap.size, 5, none⟩) hlw).trans p5
  have k6 := (hB.cell (p := ⟨w.heap.size, 6, none⟩) hlw).trans p6
  have k7 := (hB.cell (p := ⟨w.heap.size, 7, none⟩) hlw).trans p7
  have kp := (hB.cell (p := ⟨pb, po, none⟩) hlp).trans q0
  go_cut [24] (fun s24 wx => BindPost A W bV bo bm pb po N c0 c1 c2 c4 c5 tv1 (.slice ab bs.length cb) lv lib (ts ++ [⟨tname ts.length, list⟩]) (bs ++ [.mk (tname ts.length) list op num name args thn els]) env wx)
  case first =>
    go_region_law (
      (refine step_append TBd (by rfl) (by decide) (by rfl) (.tmp 20) (.tmp 23) (by rfl) (by rfl) (by rfl) (row_below HROW.out hB) (.inr ⟨⟨W.heap.size, 0, none⟩, 1, by rfl, HSRC.out⟩) (by rfl) (by simp [Value.oneCell']) (by unfold maxLen; omega) (by omega) (Nat.zero_le _) ?_; intro v' w2 hown hg hnew; obtain ⟨g, cap, rfl, hglt, hfz, z0, z1, z2, z3, z4, z5, z6, z7⟩ := last8 hown HX.out; have hgp := HPN.out g cap hnew; have HP := Lib.hid (H3.out.stored hB hg hnew hown HX.out rfl HCS.out HBC.out); obtain ⟨y0, y1⟩ := H3.out.headAt hB hg; clear hown hg hnew))
    all_goals
      clear z0 z1 z2 z3 z4 z5 z6 z7 y0 y1 k0 k1 k2 k3 k4 k5 k6 k7 kp p0 p1 p2 p3 p4 p5 p6 p7 hil
      go_wp2
      go_meet
      refine ⟨_, HP.out _ ?_⟩
      first | (left; with_reducible rfl) | (right; with_reducible rfl)
  case rest =>
    obtain ⟨v', c4', hVX, hkX, hnX, hcX⟩ := hcut
    have x8 := (hkX.block (w.heap.size + 1) (by omega) (fun e => HMB.out _ e rfl)).trans HM8.out
    have x9 := (hkX.block w1.heap.size hlt9 (fun e => HMC.out _ e rfl)).trans HM9.out
    have u0 := cell_blk x9 0 rfl
    have u1 := cell_blk x9 1 rfl
    have t0 := cell_blk x8 0 rfl
    have t1 := cell_blk x8 1 rfl
    have f0 := unfrozen x8 0
    have f1 := unfrozen x8 1
    have hlX : w.heap.size + 1 < wc.heap.size := by have := hkX.size; omega
    have HX8 := Lib.hid x8
    have HVX := Lib.hid hVX
    clear k0 k1 k2 k3 k4 k5 k6 k7 kp p0 p1 p2 p3 p4 p5 p6 p7 hil q0 q1 hVX x8 x9
    go_wp2
    have e0 := heap_setCell_same wc _ 0 _ _ (.string (tname ts.length)) HX8.out
    have e1 := heap_setCell_same _ _ 1 _ _ (.bool list) e0
    (try simp only [Exit.inBlock, Exit.then])
    refine bodyPost_ret (results_cell_row (P := Tryz.prog) rfl _ _ (w.heap.size + 1) _ _ _ _ rfl e1 Tryz.underlying57 rfl (by kernel_rfl)) rfl ?_
    have hMX : ∀ k, Mut bo bm pb tv1 v' k → k ≠ w.heap.size + 1 := fun k hm e => by
      rcases Mut.new hm (NewOr.refl W tv1) hnX with e' | e'
      · exact HMB.out k e' e
      · omega
    have hAX : ∀ k, A k → ¬ k = w.heap.size + 1 := fun k a e => by have := H.out.alt k a; omega
    refine ⟨rfl, A, tv1, v', c4', (HVX.out.keeps (keeps_set wc (w.heap.size + 1) 0 _) hAX hMX).keeps (keeps_set _ (w.heap.size + 1) 1 _) hAX hMX, ?_, fun _ a => a, fun _ a => .inl a, ?_, ?_, hcX⟩
    · refine ((hKW.trans hkX (fun k e => ?_)).trans (keeps_set wc (w.heap.size + 1) 0 _) (fun k e => .inr (by omega))).trans (keeps_set _ (w.heap.size + 1) 1 _) (fun k e => .inr (by omega))
      rcases Mut.new e hn1 (NewOr.refl _ _) with e' | e'
      · exact .inl e'
      · exact .inr (by omega)
    · intro k e
      rcases hn1 k e with e | e
      · exact .inl e
      · exact .inr (by omega)
    · intro k e
      rcases hnX k e with e | e
      · exact .inl e
      · exact .inr (by omega)
end Go.Proofs.YtehmmokkjojggabGreatDoor
/- The visitor of package anf: steps of its state, and the blocks of a call's own beside it. -/
namespace Go.Proofs.YtehmmokkjojggabGreatDoor
set_option linter.unusedVariables false
open Go.RowKit

/-- what stays the same while one function is normalized -/
structure VC where
  bV : Nat
  bo : Nat
  bm : Nat
  c0 : Value
  c1 : Value
  c2 : Value
  c5 : Value
  lv : Value
  lib : List Fn

/-- the state of the visitor -/
def St (C : VC) (pb po : Nat) (A : Nat → Prop) (w : World) (tv bv c4 : Value) (ts : List Par) (bs : List Bd) (env : Env) (N : Nat) : Prop :=
  VSt A w C.bV C.bo C.bm pb po N C.c0 C.c1 C.c2 c4 C.c5 tv bv C.lv C.lib ts bs env
/-- the blocks that it writes -/
def Mu (C : VC) (pb : Nat) (tv bv : Value) (k : Nat) : Prop := Mut C.bo C.bm pb tv bv k

/-- from one state to a later one -/
structure Step (C : VC) (pb : Nat) (A : Nat → Prop) (w : World) (tv bv c4 : Value) (A' : Nat → Prop) (w' : World) (tv' bv' c4' : Value) : Prop where
  keeps : Keeps w w' (Mu C pb tv bv)
  up : ∀ k, A k → A' k
  new : ∀ k, A' k → A k ∨ w.heap.size ≤ k
  ntv : NewOr w tv tv'
  nbv : NewOr w bv bv'
  hc4 : pb ≠ C.bo → c4' = c4

theorem Step.refl (C : VC) (pb : Nat) (A : Nat → Prop) (w : World) (tv bv c4 : Value) : Step C pb A w tv bv c4 A w tv bv c4 :=
  ⟨Keeps.refl _ _, fun _ a => a, fun _ a => .inl a, NewOr.refl _ _, NewOr.refl _ _, fun _ => rfl⟩
theorem Step.trans {C : VC} {pb : Nat} {A A1 A2 : Nat → Prop} {w w1 w2 : World} {tv bv c4 tv1 bv1 c41 tv2 bv2 c42 : Value} (h : Step C pb A w tv bv c4 A1 w1 tv1 bv1 c41) (h' : Step C pb A1 w1 tv1 bv1 c41 A2 w2 tv2 bv2 c42) : Step C pb A w tv bv c4 A2 w2 tv2 bv2 c42 where
  keeps := h.keeps.trans h'.keeps (fun k e => Mut.new e h.ntv h.nbv)
  up := fun k a => h'.up k (h.up k a)
  new := fun k a => by
    rcases h'.new k a with a | a
    · exact h.new k a
    · exact .inr (Nat.le_trans h.keeps.size a)
  ntv := h.ntv.trans h'.ntv h.keeps.size
  nbv := h.nbv.trans h'.nbv h.keeps.size
  hc4 := fun e => (h'.hc4 e).trans (h.hc4 e)
/-- a write that leaves the old blocks alone -/
theorem Step.young {C : VC} {pb : Nat} {A A1 : Nat → Prop} {w w1 w2 : World} {tv bv c4 tv1 bv1 c41 : Value} {S : Nat → Prop} (h : Step C pb A w tv bv c4 A1 w1 tv1 bv1 c41) (hk : Keeps w1 w2 S) (hS : ∀ k, S k → w.heap.size ≤ k) : Step C pb A w tv bv c4 A1 w2 tv1 bv1 c41 :=
  ⟨h.keeps.trans hk (fun k e => .inr (hS k e)), h.up, h.new, h.ntv, h.nbv, h.hc4⟩
theorem Step.below {C : VC} {pb : Nat} {A A1 : Nat → Prop} {w w1 w2 : World} {tv bv c4 tv1 bv1 c41 : Value} (h : Step C pb A w tv bv c4 A1 w1 tv1 bv1 c41) (hb : Below w1.heap.size w1 w2) : Step C pb A w tv bv c4 A1 w2 tv1 bv1 c41 :=
  h.young (Keeps.of_below (fun _ => False) hb) (fun _ e => e.elim)
theorem Step.size {C : VC} {pb : Nat} {A A1 : Nat → Prop} {w w1 : World} {tv bv c4 tv1 bv1 c41 : Value} (h : Step C pb A w tv bv c4 A1 w1 tv1 bv1 c41) : w.heap.size ≤ w1.heap.size := h.keeps.size
/-- more blocks stay -/
theorem Step.more {C : VC} {pb : Nat} {A A1 A2 : Nat → Prop} {w w1 : World} {tv bv c4 tv1 bv1 c41 : Value} (h : Step C pb A w tv bv c4 A1 w1 tv1 bv1 c41) (h1 : ∀ k, A1 k → A2 k) (h2 : ∀ k, A2 k → A1 k ∨ w.heap.size ≤ k) : Step C pb A w tv bv c4 A2 w1 tv1 bv1 c41 :=
  ⟨h.keeps, fun k a => h1 k (h.up k a), fun k a => by
    rcases h2 k a with a | a
    · exact h.new k a
    · exact .inr a, h.ntv, h.nbv, h.hc4⟩

theorem St.young {C : VC} {pb po N : Nat} {A : Nat → Prop} {w w' : World} {tv bv c4 : Value} {ts : List Par} {bs : List Bd} {env : Env} {S : Nat → Prop} (h : St C pb po A w tv bv c4 ts bs env N) (hk : Keeps w w' S) (hA : ∀ k, A k → ¬ S k) (hM : ∀ k, Mu C pb tv bv k → ¬ S k) : St C pb po A w' tv bv c4 ts bs env N := VSt.keeps h hk hA hM
theorem St.below {C : VC} {pb po N : Nat} {A : Nat → Prop} {w w' : World} {tv bv c4 : Value} {ts : List Par} {bs : List Bd} {env : Env} (h : St C pb po A w tv bv c4 ts bs env N) (hb : Below w.heap.size w w') : St C pb po A w' tv bv c4 ts bs env N := VSt.below h hb
theorem St.mono {C : VC} {pb po N N' : Nat} {A : Nat → Prop} {w : World} {tv bv c4 : Value} {ts : List Par} {bs : List Bd} {env : Env} (h : St C pb po A w tv bv c4 ts bs env N) (hN : N ≤ N') : St C pb po A w tv bv c4 ts bs env N' :=
  { h with map := h.map.mono hN }
/-- more blocks stay -/
theorem St.more {C : VC} {pb po N : Nat} {A A' : Nat → Prop} {w : World} {tv bv c4 : Value} {ts : List Par} {bs : List Bd} {env : Env} (h : St C pb po A w tv bv c4 ts bs env N) (h1 : ∀ k, A k → A' k) (h2 : ∀ k, A' k → A k ∨ k < w.heap.size ∧ ¬ Mu C pb tv bv k) : St C pb po A' w tv bv c4 ts bs env N :=
  have hst : Stays A A' w w := ⟨Nat.le_refl _, fun b _ a => ⟨rfl, h1 b a⟩⟩
  { h with
    lib := VSt.lib h |>.stays hst
    row := VSt.row h |>.mono h1
    tabA := fun g e => h1 g (VSt.tabA h g e)
    visA := h1 _ (VSt.visA h)
    alt := fun k a => by
      rcases h2 k a with a | a
      · exact VSt.alt h k a
      · exact a.1
    mutA := fun k m a => by
      rcases h2 k a with a | a
      · exact VSt.mutA h k m a
      · exact a.2 m }
theorem St.alt {C : VC} {pb po N : Nat} {A : Nat → Prop} {w : World} {tv bv c4 : Value} {ts : List Par} {bs : List Bd} {env : Env} (h : St C pb po A w tv bv c4 ts bs env N) {k : Nat} (a : A k) : k < w.heap.size := VSt.alt h k a
theorem St.mlt {C : VC} {pb po N : Nat} {A : Nat → Prop} {w : World} {tv bv c4 : Value} {ts : List Par} {bs : List Bd} {env : Env} (h : St C pb po A w tv bv c4 ts bs env N) {k : Nat} (a : Mu C pb tv bv k) : k < w.heap.size := VSt.mutlt h k a
theorem St.stays {C : VC} {pb po N : Nat} {A A' : Nat → Prop} {w w' : World} {tv bv c4 tv' bv' c4' : Value} {ts : List Par} {bs : List Bd} {env : Env} (h : St C pb po A w tv bv c4 ts bs env N) (hs : Step C pb A w tv bv c4 A' w' tv' bv' c4') : Stays A A' w w' :=
  ⟨hs.keeps.size, fun b hb a => ⟨hs.keeps.block b hb (fun m => VSt.mutA h b m a), hs.up b a⟩⟩

/-- blocks of the call's own beside the state -/
def Locs (C : VC) (pb : Nat) (A : Nat → Prop) (tv bv : Value) (w : World) (L : List (Nat × Obj)) : Prop := ∀ p ∈ L, w.heap[p.1]? = some p.2 ∧ ¬ A p.1 ∧ ¬ Mu C pb tv bv p.1
theorem Locs.lt {C : VC} {pb : Nat} {A : Nat → Prop} {tv bv : Value} {w : World} {L : List (Nat × Obj)} (h : Locs C pb A tv bv w L) {p : Nat × Obj} (hp : p ∈ L) : p.1 < w.heap.size := by
  have := (h p hp).1
  rw [Array.getElem?_eq_some_iff] at this; exact this.1
theorem Locs.nil {C : VC} {pb : Nat} {A : Nat → Prop} {tv bv : Value} {w : World} : Locs C pb A tv bv w [] := fun p h => by simp at h
theorem Locs.step {C : VC} {pb : Nat} {A A' : Nat → Prop} {w w' : World} {tv bv c4 tv' bv' c4' : Value} {L : List (Nat × Obj)} (h : Locs C pb A tv bv w L) (hs : Step C pb A w tv bv c4 A' w' tv' bv' c4') : Locs C pb A' tv' bv' w' L := fun p hp => by
  have hlt := h.lt hp
  obtain ⟨h1, h2, h3⟩ := h p hp
  refine ⟨(hs.keeps.block _ hlt h3).trans h1, fun a => ?_, fun m => ?_⟩
  · rcases hs.new _ a with a | a
    · exact h2 a
    · omega
  · rcases Mut.new m hs.ntv hs.nbv with a | a
    · exact h3 a
    · omega
theorem Locs.keeps {C : VC} {pb : Nat} {A : Nat → Prop} {w w' : World} {tv bv : Value} {L : List (Nat × Obj)} {S : Nat → Prop} (h : Locs C pb A tv bv w L) (hk : Keeps w w' S) (hS : ∀ p ∈ L, ¬ S p.1) : Locs C pb A tv bv w' L := fun p hp => by
  obtain ⟨h1, h2, h3⟩ := h p hp
  exact ⟨(hk.block _ (h.lt hp) (hS p hp)).trans h1, h2, h3⟩
theorem Locs.below {C : VC} {pb : Nat} {A : Nat → Prop} {w w' : World} {tv bv : Value} {L : List (Nat × Obj)} (h : Locs C pb A tv bv w L) (hb : Below w.heap.size w w') : Locs C pb A tv bv w' L := h.keeps (Keeps.of_below (fun _ => False) hb) (fun _ _ e => e)
theorem Locs.sub {C : VC} {pb : Nat} {A : Nat → Prop} {w : World} {tv bv : Value} {L L' : List (Nat × Obj)} (h : Locs C pb A tv bv w L) (hs : ∀ p ∈ L', p ∈ L) : Locs C pb A tv bv w L' := fun p hp => h p (hs p hp)
theorem Locs.alloc {C : VC} {pb po N : Nat} {A : Nat → Prop} {w : World} {tv bv c4 : Value} {ts : List Par} {bs : List Bd} {env : Env} {L : List (Nat × Obj)} (h : Locs C pb A tv bv w L) (hst : St C pb po A w tv bv c4 ts bs env N) (o : Obj) : Locs C pb A tv bv (w.alloc o) ((w.heap.size, o) :: L) := fun p hp => by
  rcases List.mem_cons.1 hp with rfl | hp
  · exact ⟨heap_alloc_new w o, fun a => Nat.lt_irrefl _ (hst.alt a), fun m => Nat.lt_irrefl _ (hst.mlt m)⟩
  · exact (h.below ((Below.refl _ _).alloc (Nat.le_refl _) _)) p hp
theorem Locs.set {C : VC} {pb : Nat} {A : Nat → Prop} {w : World} {tv bv : Value} {L : List (Nat × Obj)} {g e : Nat} {arr : Array Value} (h : Locs C pb A tv bv w ((g, .cells arr e (0, 0)) :: L)) (j : Nat) (x : Value) (hg : ∀ p ∈ L, p.1 ≠ g) : Locs C pb A tv bv (w.setCell ⟨g, j, none⟩ x) ((g, .cells (arr.setIfInBounds j x) e (0, 0)) :: L) := fun p hp => by
  rcases List.mem_cons.1 hp with rfl | hp
  · obtain ⟨h1, h2, h3⟩ := h _ (List.mem_cons_self ..)
    exact ⟨heap_setCell_same w g j arr e x h1, h2, h3⟩
  · exact ((h.sub (fun p hp => List.mem_cons_of_mem _ hp)).keeps (keeps_set w g j x) hg) p hp
theorem Locs.blk {C : VC} {pb : Nat} {A : Nat → Prop} {w : World} {tv bv : Value} {L : List (Nat × Obj)} (h : Locs C pb A tv bv w L) {g : Nat} {o : Obj} (hm : (g, o) ∈ L) : w.heap[g]? = some o := (h _ hm).1

/-- the state and a store into a block of the call's own -/
theorem St.setLoc {C : VC} {pb po N : Nat} {A : Nat → Prop} {w : World} {tv bv c4 : Value} {ts : List Par} {bs : List Bd} {env : Env} {L : List (Nat × Obj)} (h : St C pb po A w tv bv c4 ts bs env N) (hl : Locs C pb A tv bv w L) {g : Nat} {o : Obj} (hm : (g, o) ∈ L) (j : Nat) (x : Value) : St C pb po A (w.setCell ⟨g, j, none⟩ x) tv bv c4 ts bs env N :=
  h.young (keeps_set w g j x) (fun k a e => (hl _ hm).2.1 (by rw [show g = k from (e : k = g).symm]; exact a)) (fun k m e => (hl _ hm).2.2 (by rw [show g = k from (e : k = g).symm]; exact m))

/-- 'v.vars[s] = p' -/
theorem St.put {C : VC} {pb po N N' : Nat} {A : Nat → Prop} {w w' : World} {tv bv c4 : Value} {ts : List Par} {bs : List Bd} {env env' : Env} (h : St C pb po A w tv bv c4 ts bs env N) (hm : SMapLe Tryz.prog 9 w' C.bm (fun s => (env' s).map parV) N') (hg : w.grownBy w' (some C.bm)) :
    St C pb po A w' tv bv c4 ts bs env' N' ∧ Step C pb A w tv bv c4 A w' tv bv c4 := by
  have hk : Keeps w w' (fun k => k = C.bm) := Keeps.of_grown hg (fun k e => .inl (by simpa using e.symm))
  have hA : ∀ k, A k → ¬ k = C.bm := fun k a e => VSt.mutA h k (.inr (.inl e)) a
  have hlt := VSt.mutlt h
  refine ⟨?_, ⟨hk.mono (fun k e => .inr (.inl e)), fun _ a => a, fun _ a => .inl a, NewOr.refl _ _, NewOr.refl _ _, fun _ => rfl⟩⟩
  exact {
    out := (VSt.out h).keeps hk (VSt.bobm h) (fun k e e2 => VSt.tvbm h (e2 ▸ e))
    vis := (VSt.vis h).keeps hk (hA _ (VSt.visA h))
    lib := (VSt.lib h).stays (hk.stays fun k a _ => hA k a)
    map := hm
    ptr := (VSt.ptr h).keeps hk (VSt.pbbm h)
    row := (VSt.row h).keeps hk hA (fun k e e2 => VSt.bvbm h (e2 ▸ e))
    tab := (VSt.tab h).stays hk (fun g e => hA g (VSt.tabA h g e))
    tabA := VSt.tabA h
    visA := VSt.visA h
    alt := fun k a => Nat.lt_of_lt_of_le (VSt.alt h k a) hk.size
    mutA := VSt.mutA h
    bobm := VSt.bobm h
    pbbm := VSt.pbbm h
    tvbm := VSt.tvbm h
    tvpb := VSt.tvpb h
    bvbo := VSt.bvbo h
    bvbm := VSt.bvbm h
    bvpb := VSt.bvpb h
    sep := VSt.sep h }
theorem env_put (env : Env) (s : ByteArray) (p : Par) : ∀ y, (fun y => if y = s then some (parV p) else (env y).map parV) y = (fun y => ((env.put s p) y).map parV) y := by
  intro y
  simp only [Env.put]
  split <;> rfl
theorem env_cut (env : Env) (s : ByteArray) : ∀ y, (fun y => if y = s then none else (env y).map parV) y = (fun y => ((env.cut s) y).map parV) y := by
  intro y
  simp only [Env.cut]
  split <;> rfl

/-- what an expression leaves -/
def XPost (C : VC) (pb po : Nat) (A : Nat → Prop) (w : World) (tv bv c4 : Value) (bs : List Bd) (N : Nat) (X : XR) (e : Ending) (w' : World) : Prop :=
  e = .returned (.agg #[.string X.par.name, .bool X.par.list]) ∧ ∃ A' tv' bv' c4', St C pb po A' w' tv' bv' c4' X.ts (bs ++ X.bs) X.env N ∧ Step C pb A w tv bv c4 A' w' tv' bv' c4'

/-- the names in an environment are short -/
def SmallE (env : Env) : Prop := ∀ s p, env s = some p → p.name.size ≤ maxLen
theorem SmallE.put {env : Env} (h : SmallE env) (s : ByteArray) {p : Par} (hp : p.name.size ≤ maxLen) : SmallE (env.put s p) := fun y q e => by
  simp only [Env.put] at e
  split at e
  · simp only [Option.some.injEq] at e; subst e; exact hp
  · exact h y q e
theorem SmallE.cut {env : Env} (h : SmallE env) (s : ByteArray) : SmallE (env.cut s) := fun y q e => by
  simp only [Env.cut] at e
  split at e
  · simp at e
  · exact h y q e
theorem SmallE.get {env : Env} (h : SmallE env) (s : ByteArray) : ((env s).getD default).name.size ≤ maxLen := by
  cases e : env s with
  | none => exact Nat.zero_le _
  | some p => exact h s p e
theorem tname_small {n : Nat} (h : n ≤ 400000) : (tname n).size ≤ maxLen := by have := tname_le n; unfold maxLen; omega

def TsSmall (ts : List Par) : Prop := ∀ j, (at' ts j).name.size ≤ maxLen
theorem TsSmall.snoc {ts : List Par} (h : TsSmall ts) {p : Par} (hp : p.name.size ≤ maxLen) : TsSmall (ts ++ [p]) := fun j => by
  rcases Nat.lt_trichotomy j ts.length with hj | rfl | hj
  · have : at' (ts ++ [p]) j = at' ts j := by simp [at', List.getD_eq_getElem?_getD, List.getElem?_append_left hj]
    rw [this]; exact h j
  · have : at' (ts ++ [p]) ts.length = p := by simp [at']
    rw [this]; exact hp
  · have : at' (ts ++ [p]) j = default := by simp only [at', List.getD_eq_getElem?_getD]; rw [List.getElem?_eq_none (by simp; omega)]; rfl
    rw [this]; exact Nat.zero_le _
theorem TsSmall.ty {ts : List Par} (h : TsSmall ts) (i : Nat) (b : Bool) : TsSmall (setTy ts i b) := fun j => by
  by_cases e : i = j
  · subst e
    by_cases hi : i < ts.length
    · have : at' (setTy ts i b) i = ⟨(at' ts i).name, b⟩ := by simp [setTy, at', List.getD_eq_getElem?_getD, hi]
      rw [this]; exact h i
    · have : at' (setTy ts i b) i = default := by simp only [at', setTy, List.getD_eq_getElem?_getD]; rw [List.getElem?_eq_none (by simp; omega)]; rfl
      rw [this]; exact Nat.zero_le _
  · have : at' (setTy ts i b) j = at' ts j := by simp [setTy, at', List.getD_eq_getElem?_getD, e]
    rw [this]; exact h j

mutual
/-- the names that an expression leaves are short -/
theorem expr_small (lib : List Fn) : ∀ (n : Nd) (env : Env) (ts : List Par), SmallE env → TsSmall ts → ts.length + 2 * sizeN n ≤ 400000 →
    (exprN lib n env ts).par.name.size ≤ maxLen ∧ SmallE (exprN lib n env ts).env ∧ TsSmall (exprN lib n env ts).ts
  | .mk k num name kids, env, ts, he, ht, hl => by
    rw [sizeN] at hl
    unfold exprN
    split
    · exact ⟨he.get name, he, ht⟩
    · split
      · split
        · rename_i a b
          simp only [sizeL] at hl
          have la := expr_len lib a env ts
          have ha := expr_small lib a env ts he ht (by omega)
          have hb := expr_small lib b _ _ (ha.2.1.put name ha.1) ha.2.2 (by omega)
          exact ⟨hb.1, hb.2.1.cut name, hb.2.2⟩
        · exact ⟨Nat.zero_le _, he, ht⟩
      · split
        · split
          · rename_i c a b
            simp only [sizeL] at hl
            have lc := expr_len lib c env ts
            have hc := expr_small lib c env ts he ht (by omega)
            have la := expr_len lib a (exprN lib c env ts).env ((exprN lib c env ts).ts ++ [⟨tname (exprN lib c env ts).ts.length, false⟩])
            simp only [List.length_append, List.length_singleton] at la
            have ha := expr_small lib a (exprN lib c env ts).env ((exprN lib c env ts).ts ++ [⟨tname (exprN lib c env ts).ts.length, false⟩]) hc.2.1 (hc.2.2.snoc (tname_small (by omega))) (by simp only [List.length_append, List.length_singleton]; omega)
            have hb := expr_small lib b _ _ ha.2.1 (ha.2.2.ty (exprN lib c env ts).ts.length (exprN lib a (exprN lib c env ts).env ((exprN lib c env ts).ts ++ [⟨tname (exprN lib c env ts).ts.length, false⟩])).par.list) (by rw [setTy_len]; omega)
            exact ⟨hb.2.2.ty _ _ _, hb.2.1, hb.2.2.ty _ _⟩
          · exact ⟨Nat.zero_le _, he, ht⟩
        · have h := args_len lib (decide (k = 85)) kids env ts
          have hs := args_small lib (decide (k = 85)) kids env ts he ht (by omega)
          exact ⟨tname_small (by omega), hs.1, hs.2.1.snoc (tname_small (by omega))⟩
theorem args_small (lib : List Fn) (call : Bool) : ∀ (l : List Nd) (env : Env) (ts : List Par), SmallE env → TsSmall ts → ts.length + 2 * sizeL l ≤ 400000 →
    SmallE (argsN lib call l env ts).env ∧ TsSmall (argsN lib call l env ts).ts ∧ ∀ s ∈ (argsN lib call l env ts).args, s.size ≤ maxLen
  | [], env, ts, he, ht, hl => by rw [argsN]; exact ⟨he, ht, by simp⟩
  | n :: r, env, ts, he, ht, hl => by
    rw [sizeL] at hl
    rw [argsN]
    have hn := expr_len lib n env ts
    have hs := expr_small lib n env ts he ht (by omega)
    split
    · have hr := args_small lib call r _ _ hs.2.1 (hs.2.2.snoc (p := ⟨tname (exprN lib n env ts).ts.length, (exprN lib n env ts).par.list⟩) (tname_small (by omega))) (by simp only [List.length_append, List.length_singleton]; omega)
      refine ⟨hr.1, hr.2.1, fun s h => ?_⟩
      rcases List.mem_cons.1 h with rfl | h
      · exact tname_small (by omega)
      · exact hr.2.2 s h
    · have hr := args_small lib call r _ _ hs.2.1 hs.2.2 (by omega)
      refine ⟨hr.1, hr.2.1, fun s h => ?_⟩
      rcases List.mem_cons.1 h with rfl | h
      · exact hs.1
      · exact hr.2.2 s h
end
end Go.Proofs.YtehmmokkjojggabGreatDoor
/- The visitor of package anf: expr at a variable and at a let. -/
namespace Go.Proofs.YtehmmokkjojggabGreatDoor
set_option linter.unusedVariables false
open Go.RowKit

theorem MP : SmapT Tryz.prog 140 9 57 (.agg #[.string ByteArray.empty, .bool false]) := ⟨Tryz.underlying140, Tryz.underlying9, fun _ => by kernel_rfl⟩

mutual
/-- every call names a function of the library -/
def knownN (lib : List Fn) : Nd → Bool
  | .mk k num name kids => (!decide (k = 85) || decide (0 ≤ findF lib name)) && knownL lib kids
def knownL (lib : List Fn) : List Nd → Bool
  | [] => true
  | n :: r => knownN lib n && knownL lib r
end
theorem knownL_iff (lib : List Fn) : ∀ l : List Nd, knownL lib l = true ↔ ∀ j, j < l.length → knownN lib (at' l j) = true
  | [] => by simp [knownL]
  | n :: r => by
    rw [knownL, Bool.and_eq_true, knownL_iff lib r]
    constructor
    · rintro ⟨h1, h2⟩ j hj
      match j with
      | 0 => exact h1
      | j + 1 => exact h2 j (by simpa using hj)
    · intro h
      exact ⟨h 0 (by simp), fun j hj => h (j + 1) (by simpa using hj)⟩
theorem known_kid {lib : List Fn} {n : Nd} (h : knownN lib n = true) {j : Nat} (hj : j < n.kids.length) : knownN lib (at' n.kids j) = true := by
  cases n with
  | mk k num name kids =>
    rw [knownN, Bool.and_eq_true] at h
    exact (knownL_iff lib _).1 h.2 j hj
theorem known_call {lib : List Fn} {n : Nd} (h : knownN lib n = true) (hk : n.kind = 85) : 0 ≤ findF lib n.name := by
  cases n with
  | mk k num name kids =>
    rw [knownN, Bool.and_eq_true] at h
    have := h.1
    simp only [Nd.kind] at hk
    simpa [hk, Nd.name] using this

/-- the contract of expr at trees of at most m nodes -/
def XOk (m : Nat) : Prop := ∀ (C : VC) (n : Nd) (v : Value) (pb po : Nat) (A : Nat → Prop) (w : World) (tv bv c4 : Value) (ts : List Par) (bs : List Bd) (env : Env) (N : Nat), sizeN n ≤ m → formedN n = true → knownN C.lib n = true → NdAt A w v n → St C pb po A w tv bv c4 ts bs env N →
    SmallE env → TsSmall ts → ts.length + 2 * sizeN n ≤ 100000 → bs.length + 2 * sizeN n ≤ 100000 → N + 2 * sizeN n ≤ 100000 →
    Calls Tryz.prog 114 #[.pointer (some ⟨C.bV, 0, none⟩), v, .pointer (some ⟨pb, po, none⟩)] w (XPost C pb po A w tv bv c4 bs (N + 2 * sizeN n) (exprN C.lib n env ts))

theorem expr_var_eq (lib : List Fn) (n : Nd) (env : Env) (ts : List Par) (h : n.kind = 81) : exprN lib n env ts = ⟨ts, [], (env n.name).getD default, env⟩ := by
  cases n with
  | mk k num name kids => simp only [Nd.kind] at h; unfold exprN; rw [if_pos h]; rfl
theorem kids2 {l : List Nd} (h : l.length = 2) : l = [at' l 0, at' l 1] := by
  match l, h with
  | [a, b], _ => rfl
theorem kids3 {l : List Nd} (h : l.length = 3) : l = [at' l 0, at' l 1, at' l 2] := by
  match l, h with
  | [a, b, c], _ => rfl
theorem expr_let_eq (lib : List Fn) (n : Nd) (env : Env) (ts : List Par) (h : n.kind = 84) (hk : n.kids.length = 2) :
    exprN lib n env ts = ⟨(exprN lib (at' n.kids 1) ((exprN lib (at' n.kids 0) env ts).env.put n.name (exprN lib (at' n.kids 0) env ts).par) (exprN lib (at' n.kids 0) env ts).ts).ts,
      (exprN lib (at' n.kids 0) env ts).bs ++ (exprN lib (at' n.kids 1) ((exprN lib (at' n.kids 0) env ts).env.put n.name (exprN lib (at' n.kids 0) env ts).par) (exprN lib (at' n.kids 0) env ts).ts).bs,
      (exprN lib (at' n.kids 1) ((exprN lib (at' n.kids 0) env ts).env.put n.name (exprN lib (at' n.kids 0) env ts).par) (exprN lib (at' n.kids 0) env ts).ts).par,
      (exprN lib (at' n.kids 1) ((exprN lib (at' n.kids 0) env ts).env.put n.name (exprN lib (at' n.kids 0) env ts).par) (exprN lib (at' n.kids 0) env ts).ts).env.cut n.name⟩ := by
  cases n with
  | mk k num name kids =>
    simp only [Nd.kind] at h
    simp only [Nd.kids] at hk ⊢
    match kids, hk with
    | [a, b], _ => conv => lhs; unfold exprN
                   rw [if_neg (by omega), if_pos h]; rfl

theorem Locs.two {C : VC} {pb po N : Nat} {A : Nat → Prop} {w : World} {tv bv c4 : Value} {ts : List Par} {bs : List Bd} {env : Env} (hst : St C pb po A w tv bv c4 ts bs env N) (a b : Obj) : Locs C pb A tv bv ((w.alloc a).alloc b) [(w.heap.size + 1, b), (w.heap.size, a)] := by
  have := (Locs.nil.alloc hst a).alloc (hst.below ((Below.refl _ _).alloc (Nat.le_refl _) _)) b
  simpa using this

theorem found_par (env : Env) (s : ByteArray) : (if false then Value.tuple #[((env s).map parV).getD (.agg #[.string ByteArray.empty, .bool false]), .bool ((env s).map parV).isSome] else ((env s).map parV).getD (.agg #[.string ByteArray.empty, .bool false])) = .agg #[.string ((env s).getD default).name, .bool ((env s).getD default).list] := by
  cases env s <;> rfl

set_option maxRecDepth 100000 in
set_option maxHeartbeats 3200000 in
theorem expr_var (C : VC) (n : Nd) (v : Value) (pb po : Nat) (A : Nat → Prop) (w : World) (tv bv c4 : Value) (ts : List Par) (bs : List Bd) (env : Env) (N : Nat) (h81 : n.kind = 81) (hv : NdAt A w v n) (hst : St C pb po A w tv bv c4 ts bs env N) :
    Calls Tryz.prog 114 #[.pointer (some ⟨C.bV, 0, none⟩), v, .pointer (some ⟨pb, po, none⟩)] w (XPost C pb po A w tv bv c4 bs (N + 2 * sizeN n) (exprN C.lib n env ts)) := by
  obtain ⟨hok, hlen, ka, kc, rfl, hk⟩ := hv.open
  have HEQ := Lib.hid (expr_var_eq C.lib n env ts h81)
  have d81 : (n.kind == 81) = true := by simpa using h81
  have hs := hok.2.2
  have HL := Lib.hid (Locs.two hst (.cells #[.int .u8 n.kind, .int .i64 n.num, .string n.name, .slice ka n.kids.length kc] 35) (.cells #[.string ⟨#[]⟩, .bool false] 57))
  have hA : Below w.heap.size w ((w.alloc (.cells #[.int .u8 n.kind, .int .i64 n.num, .string n.name, .slice ka n.kids.length kc] 35)).alloc (.cells #[.string ⟨#[]⟩, .bool false] 57)) := ((Below.refl _ _).alloc (Nat.le_refl _) _).alloc (by simp) _
  have hS0 := hst.below hA
  have v1 := cell_blk (VSt.vis hS0) 1 rfl
  have q2 := cell_blk (HL.out.blk (g := w.heap.size) (List.mem_cons_of_mem _ (List.mem_cons_self ..))) 2 rfl
  have HST := Lib.hid hst
  have HS0 := Lib.hid hS0
  clear h81 hst hS0
  go_enter Tryz.func114, Tryz.ntmps114
  go_wp2
  generalize ((w.alloc (.cells #[.int .u8 n.kind, .int .i64 n.num, .string n.name, .slice ka n.kids.length kc] 35)).alloc (.cells #[.string ⟨#[]⟩, .bool false] 57)) = W at *
  have hD : Below W.heap.size W W.drew := below_drewN (Below.refl _ _) 1
  have HM := Lib.hid (VSt.map (HS0.out.below hD))
  have hR := HL.out.blk (List.mem_cons_self ..)
  have r0 : W.cell? ⟨w.heap.size + 1, 0, none⟩ = some (.string ⟨#[]⟩) := cell_blk hR 0 rfl
  have r1 : W.cell? ⟨w.heap.size + 1, 1, none⟩ = some (.bool false) := cell_blk hR 1 rfl
  have f0 := unfrozen hR 0
  have f1 := unfrozen hR 1
  clear hR
  go_still_tail 6, (by kernel_rfl)
  change wpList _ _ _ _ _ W.drew
  have HD := Lib.hid hD
  clear hD
  go_wp2_with (refine wpl_find MP rfl (.tmp 20) (.tmp 22) false rfl rfl rfl (by exact HM.out) hs (found_par env n.name) ?_)
  have hL2 := HL.out.below HD.out
  have hL3 := (hL2.set 0 (.string ((env n.name).getD default).name) (by simp)).set 1 (.bool ((env n.name).getD default).list) (by simp)
  have hS2 := ((HS0.out.below HD.out).setLoc hL2 (List.mem_cons_self ..) 0 (.string ((env n.name).getD default).name)).setLoc (hL2.set 0 _ (by simp)) (List.mem_cons_self ..) 1 (.bool ((env n.name).getD default).list)
  (try simp only [Exit.inBlock, Exit.then])
  refine bodyPost_ret (results_cell_row (P := Tryz.prog) rfl _ _ (w.heap.size + 1) _ _ _ _ rfl (hL3.blk (List.mem_cons_self ..)) Tryz.underlying57 rfl (by kernel_rfl)) rfl ?_
  rw [HEQ.out]
  refine ⟨rfl, A, tv, bv, c4, ?_, ?_⟩
  · rw [List.append_nil]; exact hS2.mono (by omega)
  · exact (((Step.refl C pb A w tv bv c4).below hA).below HD.out).young ((keeps_set _ (w.heap.size + 1) 0 _).same (keeps_set _ (w.heap.size + 1) 1 _)) (fun k e => by omega)

/-- the cells of a kid, in a later world -/
theorem KidsAt.later {A A' : Nat → Prop} {w w' : World} {v : Value} {kids : List Nd} (h : KidsAt A w v kids) (hs : Stays A A' w w') {j : Nat} (hj : j < kids.length) :
    ∃ b off cap ka kc, v = .slice (some ⟨b, off, none⟩) kids.length cap ∧ w'.cell? ⟨b, off + j * 4, none⟩ = some (.int .u8 (at' kids j).kind) ∧ w'.cell? ⟨b, off + j * 4 + 1, none⟩ = some (.int .i64 (at' kids j).num) ∧
      w'.cell? ⟨b, off + j * 4 + 2, none⟩ = some (.string (at' kids j).name) ∧ w'.cell? ⟨b, off + j * 4 + 3, none⟩ = some (.slice ka (at' kids j).kids.length kc) ∧ NdAt A' w' (.agg #[.int .u8 (at' kids j).kind, .int .i64 (at' kids j).num, .string (at' kids j).name, .slice ka (at' kids j).kids.length kc]) (at' kids j) := by
  obtain ⟨b, off, cap, ka, kc, h1, _, _, _, h2, h3, h4, h5, h6⟩ := (h.stays hs).at hj
  exact ⟨b, off, cap, ka, kc, h1, h2, h3, h4, h5, h6⟩

set_option maxRecDepth 100000 in
set_option maxHeartbeats 6400000 in
theorem expr_let (m : Nat) (ih : XOk m) (C : VC) (n : Nd) (v : Value) (pb po : Nat) (A : Nat → Prop) (w : World) (tv bv c4 : Value) (ts : List Par) (bs : List Bd) (env : Env) (N : Nat) (h84 : n.kind = 84) (hm : sizeN n ≤ m + 1) (hform : formedN n = true) (hkn : knownN C.lib n = true) (hv : NdAt A w v n) (hst : St C pb po A w tv bv c4 ts bs env N)
    (hse : SmallE env) (hts : TsSmall ts) (hl1 : ts.length + 2 * sizeN n ≤ 100000) (hl2 : bs.length + 2 * sizeN n ≤ 100000) (hl3 : N + 2 * sizeN n ≤ 100000) :
    Calls Tryz.prog 114 #[.pointer (some ⟨C.bV, 0, none⟩), v, .pointer (some ⟨pb, po, none⟩)] w (XPost C pb po A w tv bv c4 bs (N + 2 * sizeN n) (exprN C.lib n env ts)) := by
  obtain ⟨hok, hlen, ka, kc, rfl, hk⟩ := hv.open
  have hk2 := formed_let hform h84
  have HEQ := Lib.hid (expr_let_eq C.lib n env ts h84 hk2)
  have hsz : sizeN n = sizeN (at' n.kids 0) + sizeN (at' n.kids 1) + 1 := by rw [sizeN_eq, kids2 hk2]; simp [sizeL, at']
  have hx1 := expr_len C.lib (at' n.kids 0) env ts
  have hx2 := expr_small C.lib (at' n.kids 0) env ts hse hts (by omega)
  have d81 : (n.kind == 81) = false := by simp [h84]
  have d84 : (n.kind == 84) = true := by simpa using h84
  have hs := hok.2.2
  have i0 : (0 : Int) < (n.kids.length : Int) := by omega
  have i1 : (1 : Int) < (n.kids.length : Int) := by omega
  have HL := Lib.hid (Locs.two hst (.cells #[.int .u8 n.kind, .int .i64 n.num, .string n.name, .slice ka n.kids.length kc] 35) (.cells #[.string ⟨#[]⟩, .bool false] 57))
  have hA : Below w.heap.size w ((w.alloc (.cells #[.int .u8 n.kind, .int .i64 n.num, .string n.name, .slice ka n.kids.length kc] 35)).alloc (.cells #[.string ⟨#[]⟩, .bool false] 57)) := ((Below.refl _ _).alloc (Nat.le_refl _) _).alloc (by simp) _
  have hS0 := hst.below hA
  have hT0 := (Step.refl C pb A w tv bv c4).below hA
  obtain ⟨b, off, cap, ka0, kc0, he, q0, q1, q2, q3, hnd0⟩ := hk.later (hst.stays hT0) (j := 0) (by omega)
  simp only [Value.slice.injEq] at he
  obtain ⟨rfl, -, rfl⟩ := he
  simp only [Nat.zero_mul, Nat.add_zero] at q0 q1 q2 q3
  have HCX := Lib.hid (ih C (at' n.kids 0) _ pb po A _ tv bv c4 ts bs env N (by omega) (formed_kid hform (by omega)) (known_kid hkn (by omega)) hnd0 hS0 hse hts (by omega) (by omega) (by omega))
  have HST := Lib.hid hst
  have HS0 := Lib.hid hS0
  have HK := Lib.hid hk
  have HK2 := Lib.hid hk2
  have HF := Lib.hid hform
  have HKN := Lib.hid hkn
  have HSZ := Lib.hid hsz
  clear hst hS0 h84 hk hform hkn hk2 hnd0 hsz
  go_enter Tryz.func114, Tryz.ntmps114
  go_wp2_with (go_at_call 114; refine HCX.out.mono ?_; rintro e w1 ⟨rfl, A1, tv1, bv1, c41, hS1, hT1⟩)
  clear q0 q1 q2 q3 HCX
  generalize exprN C.lib (at' n.kids 0) env ts = X at *
  have hT1' := hT0.trans hT1
  have hL1 := (HL.out.step hT1).alloc hS1 (.cells #[.string X.par.name, .bool X.par.list] 57)
  have hA1 : Below w1.heap.size w1 (w1.alloc (.cells #[.string X.par.name, .bool X.par.list] 57)).drew := below_drewN ((Below.refl _ _).alloc (Nat.le_refl _) _) 1
  have hS2 := hS1.below hA1
  have hT2 := hT1'.below hA1
  have hL2 : Locs C pb A1 tv1 bv1 (w1.alloc (.cells #[.string X.par.name, .bool X.par.list] 57)).drew _ := hL1.below (below_drewN (Below.refl _ _) 1)
  have v1 : (w1.alloc (.cells #[.string X.par.name, .bool X.par.list] 57)).cell? ⟨C.bV, 1, none⟩ = some (.map (some C.bm)) := cell_blk (VSt.vis (hS1.below ((Below.refl _ _).alloc (Nat.le_refl _) _))) 1 rfl
  have q2 : (w1.alloc (.cells #[.string X.par.name, .bool X.par.list] 57)).cell? ⟨w.heap.size, 2, none⟩ = some (.string n.name) := cell_blk (hL1.blk (g := w.heap.size) (List.mem_cons_of_mem _ (List.mem_cons_of_mem _ (List.mem_cons_self ..)))) 2 rfl
  have r0 : (w1.alloc (.cells #[.string X.par.name, .bool X.par.list] 57)).cell? ⟨w1.heap.size, 0, none⟩ = some (.string X.par.name) := cell_blk (hL1.blk (List.mem_cons_self ..)) 0 rfl
  have r1 : (w1.alloc (.cells #[.string X.par.name, .bool X.par.list] 57)).cell? ⟨w1.heap.size, 1, none⟩ = some (.bool X.par.list) := cell_blk (hL1.blk (List.mem_cons_self ..)) 1 rfl
  have HM := Lib.hid (VSt.map hS2)
  have HS2 := Lib.hid hS2
  have HL2 := Lib.hid hL2
  clear hS2 hL1 hL2 hS1 hA1
  generalize (w1.alloc (.cells #[.string X.par.name, .bool X.par.list] 57)) = W at *
  go_still_tail 7, (by kernel_rfl)
  change wpList _ _ _ _ _ W.drew
  go_wp2_with (refine wpl_ins MP rfl (.tmp 36) (.tmp 38) _ (.inr rfl) rfl rfl rfl (by exact HM.out) hs (by have := HSZ.out; unfold maxLen; omega) ?_)
  intro w3 hm3 hg3
  obtain ⟨hS3, hT3⟩ := HS2.out.put (hm3.ext (env_put X.env n.name X.par)) hg3
  have hL3 := HL2.out.step hT3
  have hT3' := hT2.trans hT3
  clear hm3 hg3 v1 q2 r0 r1
  obtain ⟨b', off', cap', ka1, kc1, he, q0, q1, q2, q3, hnd1⟩ := HK.out.later (HST.out.stays hT3') (j := 1) (by have := HK2.out; omega)
  simp only [Value.slice.injEq, Option.some.injEq, Addr.mk.injEq, and_true] at he
  obtain ⟨⟨rfl, rfl⟩, -, rfl⟩ := he
  simp only [Nat.one_mul] at q0 q1 q2 q3
  have p3 : w3.cell? ⟨w.heap.size, 3, none⟩ = some (.slice (some ⟨b, off, none⟩) n.kids.length kc) := cell_blk (hL3.blk (g := w.heap.size) (List.mem_cons_of_mem _ (List.mem_cons_of_mem _ (List.mem_cons_self ..)))) 3 rfl
  have hsz := HSZ.out
  have HCX := Lib.hid (ih C (at' n.kids 1) _ pb po A1 _ tv1 bv1 c41 X.ts (bs ++ X.bs) (X.env.put n.name X.par) _ (by omega) (formed_kid HF.out (by have := HK2.out; omega)) (known_kid HKN.out (by have := HK2.out; omega)) hnd1 hS3 (hx2.2.1.put n.name hx2.1) hx2.2.2 (by omega) (by rw [List.length_append]; omega) (by omega))
  clear hnd1 hsz
  have HS3 := Lib.hid hS3
  have HL3 := Lib.hid hL3
  clear hS3 hL3
  go_wp2_with (go_at_call 114; refine HCX.out.mono ?_; rintro e w4 ⟨rfl, A4, tv4, bv4, c44, hS4, hT4⟩)
  clear q0 q1 q2 q3 HCX p3
  generalize exprN C.lib (at' n.kids 1) (X.env.put n.name X.par) X.ts = Y at *
  have hT4' := hT3'.trans hT4
  have hL4 := (HL3.out.step hT4).alloc hS4 (.cells #[.string Y.par.name, .bool Y.par.list] 57)
  have hA4 : Below w4.heap.size w4 (w4.alloc (.cells #[.string Y.par.name, .bool Y.par.list] 57)).drew := below_drewN ((Below.refl _ _).alloc (Nat.le_refl _) _) 1
  have hS5 := hS4.below hA4
  have hT5 := hT4'.below hA4
  have hL5 : Locs C pb A4 tv4 bv4 (w4.alloc (.cells #[.string Y.par.name, .bool Y.par.list] 57)).drew _ := hL4.below (below_drewN (Below.refl _ _) 1)
  have v1 : (w4.alloc (.cells #[.string Y.par.name, .bool Y.par.list] 57)).cell? ⟨C.bV, 1, none⟩ = some (.map (some C.bm)) := cell_blk (VSt.vis (hS4.below ((Below.refl _ _).alloc (Nat.le_refl _) _))) 1 rfl
  have q2 : (w4.alloc (.cells #[.string Y.par.name, .bool Y.par.list] 57)).cell? ⟨w.heap.size, 2, none⟩ = some (.string n.name) := cell_blk (hL4.blk (g := w.heap.size) (List.mem_cons_of_mem _ (List.mem_cons_of_mem _ (List.mem_cons_of_mem _ (List.mem_cons_self ..))))) 2 rfl
  have HM := Lib.hid (VSt.map hS5)
  have HS5 := Lib.hid hS5
  have HL5 := Lib.hid hL5
  clear hS5 hL4 hL5 hS4 hA4
  generalize (w4.alloc (.cells #[.string Y.par.name, .bool Y.par.list] 57)) = W5 at *
  go_still_tail 6, (by kernel_rfl)
  change wpList _ _ _ _ _ W5.drew
  go_wp2_with (refine wpl_drop MP rfl (.tmp 50) (.tmp 52) rfl rfl rfl (by exact HM.out) hs ?_)
  intro w6 hm6 hg6
  obtain ⟨hS6, hT6⟩ := HS5.out.put (hm6.ext (env_cut Y.env n.name)) hg6
  have hL6 := (HL5.out.step hT6).sub (L' := [(w.heap.size + 1, .cells #[.string ⟨#[]⟩, .bool false] 57), (w4.heap.size, .cells #[.string Y.par.name, .bool Y.par.list] 57)]) (by simp)
  have hT6' := hT5.trans hT6
  have hR := hL6.blk (List.mem_cons_self ..)
  have r0 : w6.cell? ⟨w.heap.size + 1, 0, none⟩ = some (.string ⟨#[]⟩) := cell_blk hR 0 rfl
  have r1 : w6.cell? ⟨w.heap.size + 1, 1, none⟩ = some (.bool false) := cell_blk hR 1 rfl
  have f0 := unfrozen hR 0
  have f1 := unfrozen hR 1
  have hY := hL6.blk (List.mem_cons_of_mem _ (List.mem_cons_self ..))
  have y0 : w6.cell? ⟨w4.heap.size, 0, none⟩ = some (.string Y.par.name) := cell_blk hY 0 rfl
  have y1 : w6.cell? ⟨w4.heap.size, 1, none⟩ = some (.bool Y.par.list) := cell_blk hY 1 rfl
  have hne : w.heap.size + 1 < w4.heap.size := by have := (HL3.out.step hT4).lt (p := (w.heap.size + 1, .cells #[.string ⟨#[]⟩, .bool false] 57)) (by simp); exact this
  have HS6 := Lib.hid hS6
  have HL6 := Lib.hid hL6
  clear hm6 hg6 v1 q2 hR hY hS6 hL6
  go_wp2
  have hL7 := HL6.out.set 0 (.string Y.par.name) (by simp; omega)
  have hL8 := hL7.set 1 (.bool Y.par.list) (by simp; omega)
  have hS8 := (HS6.out.setLoc HL6.out (List.mem_cons_self ..) 0 (.string Y.par.name)).setLoc hL7 (List.mem_cons_self ..) 1 (.bool Y.par.list)
  (try simp only [Exit.inBlock, Exit.then])
  refine bodyPost_ret (results_cell_row (P := Tryz.prog) rfl _ _ (w.heap.size + 1) _ _ _ _ rfl (hL8.blk (List.mem_cons_self ..)) Tryz.underlying57 rfl (by kernel_rfl)) rfl ?_
  rw [HEQ.out]
  refine ⟨rfl, A4, tv4, bv4, c44, ?_, ?_⟩
  · rw [← List.append_assoc]; exact hS8.mono (by have := HSZ.out; omega)
  · exact hT6'.young ((keeps_set _ (w.heap.size + 1) 0 _).same (keeps_set _ (w.heap.size + 1) 1 _)) (fun k e => by omega)
end Go.Proofs.YtehmmokkjojggabGreatDoor
/- The visitor of package anf: rows of arguments. -/
namespace Go.Proofs.YtehmmokkjojggabGreatDoor
set_option linter.unusedVariables false
open Go.RowKit

theorem TStr : RowT Tryz.prog 23 9 (.string ByteArray.empty) 1 16 := ⟨Tryz.underlying23, by kernel_rfl⟩

/-- a row of names of the call's own, beside the state -/
structure ArgsRow (C : VC) (pb : Nat) (A : Nat → Prop) (tv bv : Value) (base : Nat) (w : World) (av : Value) (args : List ByteArray) : Prop where
  own : w.ownsRow base 9 1 av args.length (args.map Value.string)
  small : ∀ s ∈ args, s.size ≤ maxLen
  apart : ∀ k, av.ownBlock = some k → ¬ A k ∧ ¬ Mu C pb tv bv k

theorem ArgsRow.nil (C : VC) (pb : Nat) (A : Nat → Prop) (tv bv : Value) (base : Nat) (w : World) : ArgsRow C pb A tv bv base w (.slice none 0 0) [] :=
  ⟨World.ownsRow_nil _ _ _ _, fun _ h => by simp at h, fun k h => by simp [Value.ownBlock] at h⟩
theorem ArgsRow.form {C : VC} {pb : Nat} {A : Nat → Prop} {tv bv : Value} {base : Nat} {w : World} {av : Value} {args : List ByteArray} (h : ArgsRow C pb A tv bv base w av args) : ∃ a c, av = .slice a args.length c := row_form h.own
theorem ArgsRow.lt {C : VC} {pb : Nat} {A : Nat → Prop} {tv bv : Value} {base : Nat} {w : World} {av : Value} {args : List ByteArray} (h : ArgsRow C pb A tv bv base w av args) {k : Nat} (e : av.ownBlock = some k) : base ≤ k ∧ k < w.heap.size := h.own.lt k e
theorem ArgsRow.step {C : VC} {pb : Nat} {A A' : Nat → Prop} {w w' : World} {tv bv c4 tv' bv' c4' : Value} {base : Nat} {av : Value} {args : List ByteArray} (h : ArgsRow C pb A tv bv base w av args) (hs : Step C pb A w tv bv c4 A' w' tv' bv' c4') : ArgsRow C pb A' tv' bv' base w' av args := by
  refine ⟨row_keeps h.own hs.keeps (fun k e => (h.apart k e).2), h.small, fun k e => ⟨fun a => ?_, fun m => ?_⟩⟩
  · rcases hs.new k a with a | a
    · exact (h.apart k e).1 a
    · have := (h.lt e).2; omega
  · rcases Mut.new m hs.ntv hs.nbv with a | a
    · exact (h.apart k e).2 a
    · have := (h.lt e).2; omega
theorem ArgsRow.keeps {C : VC} {pb : Nat} {A : Nat → Prop} {w w' : World} {tv bv : Value} {base : Nat} {av : Value} {args : List ByteArray} {S : Nat → Prop} (h : ArgsRow C pb A tv bv base w av args) (hk : Keeps w w' S) (hS : ∀ k, av.ownBlock = some k → ¬ S k) : ArgsRow C pb A tv bv base w' av args :=
  ⟨row_keeps h.own hk hS, h.small, h.apart⟩
theorem ArgsRow.below {C : VC} {pb : Nat} {A : Nat → Prop} {w w' : World} {tv bv : Value} {base : Nat} {av : Value} {args : List ByteArray} (h : ArgsRow C pb A tv bv base w av args) (hb : Below w.heap.size w w') : ArgsRow C pb A tv bv base w' av args :=
  h.keeps (Keeps.of_below (fun _ => False) hb) (fun _ _ e => e)
/-- a row that stays from now on -/
theorem ArgsRow.shut {C : VC} {pb : Nat} {A A' : Nat → Prop} {tv bv : Value} {base : Nat} {w : World} {av : Value} {args : List ByteArray} (h : ArgsRow C pb A tv bv base w av args) (hv : ∀ k, av.ownBlock = some k → A' k) (hl : args.length ≤ maxLen) : StrsAt A' w av args := by
  refine ⟨fun j i => .string (at' args j), ⟨hl, ?_⟩, fun j hj => ⟨rfl, h.small _ (at_mem hj)⟩⟩
  obtain ⟨h0, ⟨rfl, h1⟩ | ⟨g, cap, cur, rfl, hg, hh, hn, hm, hc, ht⟩⟩ := h.own
  · exact ⟨none, 0, by rw [h1], by omega, fun _ => rfl, fun h => by omega⟩
  · refine ⟨_, cap, rfl, hn, nofun, fun hp => ⟨g, 0, rfl, by rw [Array.getElem?_eq_some_iff] at hh; exact hh.1, hv g rfl, fun j hj i hi => ?_⟩⟩
    obtain rfl : i = 0 := by omega
    have e : (0 : Nat) + j * 1 + 0 = j := by omega
    rw [e]
    simp only [World.cell?, hh]
    have hx2 : (args.map Value.string)[j]? = cur[j]? := by rw [← ht, List.getElem?_take, if_pos (by omega)]; simp
    rw [← hx2, List.getElem?_map, List.getElem?_eq_getElem hj, at_eq hj]; rfl

/-- one argument more: the append and the store into the bind under way -/
theorem args_next {C : VC} {pb po N g2 be : Nat} {A A1 : Nat → Prop} {w w1 wB w2 : World} {tv bv c4 tv1 bv1 c41 : Value} {ts : List Par} {bs : List Bd} {env : Env} {base : Nat} {av v' : Value} {args : List ByteArray} {s : ByteArray} {L : List (Nat × Obj)} {s0 s1 s2 s3 s4 s6 s7 : Value}
    (hS : St C pb po A1 w1 tv1 bv1 c41 ts bs env N) (hT : Step C pb A w tv bv c4 A1 w1 tv1 bv1 c41) (hL : Locs C pb A1 tv1 bv1 w1 ((g2, .cells #[s0, s1, s2, s3, s4, av, s6, s7] be (0, 0)) :: L)) (hR : ArgsRow C pb A1 tv1 bv1 base w1 av args)
    (hLg : ∀ p ∈ L, p.1 ≠ g2 ∧ p.1 < base) (hg2 : g2 < base) (hg2w : w.heap.size ≤ g2) (hsz : base ≤ w1.heap.size) (hs : s.size ≤ maxLen) (hB : Below w1.heap.size w1 wB) (hown : w2.ownsRow base 9 1 v' (args.length + 1) (args.map Value.string ++ [.string s])) (hg : wB.grownBy w2 av.ownBlock) (hn : NewOr wB av v') :
    St C pb po A1 (w2.setCell ⟨g2, 5, none⟩ v') tv1 bv1 c41 ts bs env N ∧ Step C pb A w tv bv c4 A1 (w2.setCell ⟨g2, 5, none⟩ v') tv1 bv1 c41 ∧
      Locs C pb A1 tv1 bv1 (w2.setCell ⟨g2, 5, none⟩ v') ((g2, .cells #[s0, s1, s2, s3, s4, v', s6, s7] be (0, 0)) :: L) ∧ ArgsRow C pb A1 tv1 bv1 base (w2.setCell ⟨g2, 5, none⟩ v') v' (args ++ [s]) := by
  have hk : Keeps w1 w2 (fun k => av.ownBlock = some k) := (Keeps.of_below _ hB).trans (Keeps.of_grown (S := fun k => av.ownBlock = some k) hg (fun k e => .inl e)) (fun k e => .inl e)
  have hn' : NewOr w1 av v' := fun k e => by
    rcases hn k e with e | e
    · exact .inl e
    · exact .inr (Nat.le_trans hB.size e)
  have hL2 : Locs C pb A1 tv1 bv1 w2 ((g2, .cells #[s0, s1, s2, s3, s4, av, s6, s7] be (0, 0)) :: L) := hL.keeps hk (fun p hp e => by
    have := (hR.lt e).1
    rcases List.mem_cons.1 hp with rfl | hp
    · simp only at this; omega
    · have := (hLg p hp).2; omega)
  have hS2 : St C pb po A1 w2 tv1 bv1 c41 ts bs env N := hS.young hk (fun k a e => (hR.apart k e).1 a) (fun k m e => (hR.apart k e).2 m)
  have hvb : ∀ k, v'.ownBlock = some k → base ≤ k := fun k e => (hown.lt k e).1
  refine ⟨hS2.setLoc hL2 (List.mem_cons_self ..) 5 v', ?_, ?_, ?_⟩
  · refine (hT.young hk (fun k e => ?_)).young (keeps_set w2 g2 5 v') (fun k e => by omega)
    have := (hR.lt e).1; omega
  · exact hL2.set 5 v' (fun p hp => (hLg p hp).1)
  · have h1 : ArgsRow C pb A1 tv1 bv1 base w2 v' (args ++ [s]) := by
      refine ⟨by rw [List.length_append, List.map_append]; exact hown, fun x hx => ?_, fun k e => ?_⟩
      · rcases List.mem_append.1 hx with hx | hx
        · exact hR.small x hx
        · simp at hx; subst hx; exact hs
      · rcases hn' k e with e | e
        · exact hR.apart k e
        · exact ⟨fun a => by have := hS.alt a; omega, fun m => by have := hS.mlt m; omega⟩
    exact h1.keeps (keeps_set w2 g2 5 v') (fun k e e2 => by have := hvb k e; omega)

/-- one argument more, plainly -/
def argStep (lib : List Fn) (call : Bool) (r : YR) (n : Nd) : YR :=
  let x := exprN lib n r.env r.ts
  if call && namesN (sizeN n) n then ⟨x.ts ++ [⟨tname x.ts.length, x.par.list⟩], r.bs ++ x.bs ++ [varB (tname x.ts.length) x.par.list x.par.name], r.args ++ [tname x.ts.length], x.env⟩
  else ⟨x.ts, r.bs ++ x.bs, r.args ++ [x.par.name], x.env⟩
theorem args_snoc (lib : List Fn) (call : Bool) (n : Nd) : ∀ (l : List Nd) (env : Env) (ts : List Par), argsN lib call (l ++ [n]) env ts = argStep lib call (argsN lib call l env ts) n
  | [], env, ts => by
    rw [List.nil_append, argsN, argsN, argStep]
    simp only []
    split
    · rw [argsN]; simp
    · rw [argsN]; simp
  | m :: l, env, ts => by
    rw [List.cons_append, argsN, argsN]
    simp only []
    split
    · rw [args_snoc lib call n l, argStep, argStep]
      simp only []
      split <;> simp
    · rw [args_snoc lib call n l, argStep, argStep]
      simp only []
      split <;> simp
theorem args_take (lib : List Fn) (call : Bool) {l : List Nd} {q : Nat} (h : q < l.length) (env : Env) (ts : List Par) : argsN lib call (l.take (q + 1)) env ts = argStep lib call (argsN lib call (l.take q) env ts) (at' l q) := by
  rw [List.take_add_one, List.getElem?_eq_getElem h, Option.toList_some, args_snoc, at_eq h]
theorem args_len2 (lib : List Fn) (call : Bool) : ∀ (l : List Nd) (env : Env) (ts : List Par), (argsN lib call l env ts).args.length = l.length
  | [], env, ts => by rw [argsN]; rfl
  | n :: r, env, ts => by
    rw [argsN]
    simp only []
    split
    · simp [args_len2 lib call r]
    · simp [args_len2 lib call r]
end Go.Proofs.YtehmmokkjojggabGreatDoor
/- The visitor of package anf: expr at an operation. -/
namespace Go.Proofs.YtehmmokkjojggabGreatDoor
set_option linter.unusedVariables false
open Go.RowKit

/-- the contract of bind, in the words of the steps -/
theorem bind_st (C : VC) (pb po : Nat) (A : Nat → Prop) (w : World) (tv bv c4 : Value) (ts : List Par) (bs : List Bd) (env : Env) (N : Nat) (to0 name : ByteArray) (l0 list : Bool) (op num : Int) (av hv ev : Value) (args : List ByteArray) (thn els : List Bd)
    (hS : St C pb po A w tv bv c4 ts bs env N) (ha : StrsAt A w av args) (ht : BdsAt A w hv thn) (he : BdsAt A w ev els) (hop : 0 ≤ op ∧ op ≤ 255) (hnum : In64 num) (hname : name.size ≤ maxLen) (hl : ts.length < 200000) (hb : bs.length < 200000) :
    Calls Tryz.prog 133 #[.pointer (some ⟨C.bV, 0, none⟩), .agg #[.string to0, .bool l0, .int .u8 op, .int .i64 num, .string name, av, hv, ev], .bool list, .pointer (some ⟨pb, po, none⟩)] w fun e w' =>
      e = .returned (.agg #[.string (tname ts.length), .bool list]) ∧ ∃ A' tv' bv' c4', St C pb po A' w' tv' bv' c4' (ts ++ [⟨tname ts.length, list⟩]) (bs ++ [.mk (tname ts.length) list op num name args thn els]) env N ∧ Step C pb A w tv bv c4 A' w' tv' bv' c4' := by
  refine (bind_any A w C.bV C.bo C.bm pb po N C.c0 C.c1 C.c2 c4 C.c5 tv bv C.lv C.lib ts bs env to0 name l0 list op num av hv ev args thn els hS ha ht he hop hnum hname hl hb).mono ?_
  rintro e w' ⟨rfl, A', tv', bv', c4', h1, h2, h3, h4, h5, h6, h7⟩
  exact ⟨rfl, A', tv', bv', c4', h1, h2, h3, h4, h5, h6, h7⟩

theorem expr_op_eq (lib : List Fn) (n : Nd) (env : Env) (ts : List Par) (h81 : n.kind ≠ 81) (h84 : n.kind ≠ 84) (h83 : n.kind ≠ 83) (h85 : n.kind ≠ 85) :
    exprN lib n env ts = ⟨(argsN lib false n.kids env ts).ts ++ [⟨tname (argsN lib false n.kids env ts).ts.length, opList n.kind⟩],
      (argsN lib false n.kids env ts).bs ++ [.mk (tname (argsN lib false n.kids env ts).ts.length) (opList n.kind) n.kind n.num ByteArray.empty (argsN lib false n.kids env ts).args [] []],
      ⟨tname (argsN lib false n.kids env ts).ts.length, opList n.kind⟩, (argsN lib false n.kids env ts).env⟩ := by
  cases n with
  | mk k num name kids =>
    simp only [Nd.kind] at h81 h84 h83 h85
    unfold exprN
    rw [if_neg h81, if_neg h84, if_neg h83]
    have e : decide (k = 85) = false := by simpa using h85
    simp only [e, if_neg h85]
    rfl
theorem expr_call_eq (lib : List Fn) (n : Nd) (env : Env) (ts : List Par) (h85 : n.kind = 85) :
    exprN lib n env ts = ⟨(argsN lib true n.kids env ts).ts ++ [⟨tname (argsN lib true n.kids env ts).ts.length, (fnAt lib (findF lib n.name)).list⟩],
      (argsN lib true n.kids env ts).bs ++ [.mk (tname (argsN lib true n.kids env ts).ts.length) (fnAt lib (findF lib n.name)).list 85 0 n.name (argsN lib true n.kids env ts).args [] []],
      ⟨tname (argsN lib true n.kids env ts).ts.length, (fnAt lib (findF lib n.name)).list⟩, (argsN lib true n.kids env ts).env⟩ := by
  cases n with
  | mk k num name kids =>
    simp only [Nd.kind] at h85
    subst h85
    unfold exprN
    rw [if_neg (by omega), if_neg (by omega), if_neg (by omega)]
    rfl

theorem Locs.three {C : VC} {pb po N : Nat} {A : Nat → Prop} {w : World} {tv bv c4 : Value} {ts : List Par} {bs : List Bd} {env : Env} (hst : St C pb po A w tv bv c4 ts bs env N) (a b c : Obj) : Locs C pb A tv bv (((w.alloc a).alloc b).alloc c) [(w.heap.size + 1 + 1, c), (w.heap.size + 1, b), (w.heap.size, a)] := by
  have := (Locs.two hst a b).alloc (hst.below (((Below.refl _ _).alloc (Nat.le_refl _) _).alloc (by simp) _)) c
  simpa using this

/-- the loop over the arguments: behind q of them -/
def ALoop (C : VC) (pb po : Nat) (A : Nat → Prop) (w : World) (tv bv c4 : Value) (ts : List Par) (bs : List Bd) (env : Env) (N : Nat) (call : Bool) (n : Nd) (nv s2 s3 s4 : Value) (q : Nat) (wr : World) : Prop :=
  q ≤ n.kids.length ∧ ∃ Aq tvq bvq c4q av, St C pb po Aq wr tvq bvq c4q (argsN C.lib call (n.kids.take q) env ts).ts (bs ++ (argsN C.lib call (n.kids.take q) env ts).bs) (argsN C.lib call (n.kids.take q) env ts).env (N + 2 * sizeL (n.kids.take q)) ∧
    Step C pb A w tv bv c4 Aq wr tvq bvq c4q ∧ Locs C pb Aq tvq bvq wr [(w.heap.size + 1 + 1, .cells #[.string ⟨#[]⟩, .bool false, s2, s3, s4, av, .slice none 0 0, .slice none 0 0] 88), (w.heap.size + 1, .cells #[.string ⟨#[]⟩, .bool false] 57), (w.heap.size, .cells #[.int .u8 n.kind, .int .i64 n.num, .string n.name, nv] 35)] ∧
    ArgsRow C pb Aq tvq bvq (w.heap.size + 1 + 1 + 1) wr av (argsN C.lib call (n.kids.take q) env ts).args

theorem one_src (w : World) (u : Value) (e : TypeId) : ∀ j x, [u][j]? = some x → (w.alloc (.cells #[u] e)).cell? ((⟨w.heap.size, 0, none⟩ : Addr).add j) = some x := by
  intro j x hj
  match j, hj with
  | 0, hj => simp at hj; subst hj; simp [Addr.add]

theorem args_blk {C : VC} {pb g2 be : Nat} {A1 : Nat → Prop} {w1 wB w2 : World} {tv1 bv1 : Value} {base : Nat} {av : Value} {args : List ByteArray} {L : List (Nat × Obj)} {arr : Array Value}
    (hL : Locs C pb A1 tv1 bv1 w1 ((g2, .cells arr be (0, 0)) :: L)) (hR : ArgsRow C pb A1 tv1 bv1 base w1 av args) (hg2 : g2 < base) (hB : Below w1.heap.size w1 wB) (hg : wB.grownBy w2 av.ownBlock) : w2.heap[g2]? = some (.cells arr be (0, 0)) := by
  have hk : Keeps w1 w2 (fun k => av.ownBlock = some k) := (Keeps.of_below _ hB).trans (Keeps.of_grown (S := fun k => av.ownBlock = some k) hg (fun k e => .inl e)) (fun k e => .inl e)
  exact (hk.block g2 (hL.lt (p := (g2, .cells arr be (0, 0))) (List.mem_cons_self ..)) (fun e => by have := (hR.lt e).1; omega)).trans (hL.blk (List.mem_cons_self ..))
theorem field_par0 (a b : Value) (w : World) : (Instr.field 57 (.agg #[a, b]) 0).run Tryz.prog w = .ok a w := by kernel_rfl
theorem opList_eq (k : Int) : opList k = ((k == 86) || ((k == 87) || (k == 89))) := rfl
theorem argStep_op (lib : List Fn) (r : YR) (n : Nd) : argStep lib false r n = ⟨(exprN lib n r.env r.ts).ts, r.bs ++ (exprN lib n r.env r.ts).bs, r.args ++ [(exprN lib n r.env r.ts).par.name], (exprN lib n r.env r.ts).env⟩ := by
  simp [argStep]

/-- a row of arguments stays from now on -/
theorem shut_args {C : VC} {pb po N base : Nat} {A : Nat → Prop} {w w0 : World} {tv bv c4 tv0 bv0 c40 : Value} {A0 : Nat → Prop} {ts : List Par} {bs : List Bd} {env : Env} {av : Value} {args : List ByteArray} (hS : St C pb po A w tv bv c4 ts bs env N) (hT : Step C pb A0 w0 tv0 bv0 c40 A w tv bv c4) (hR : ArgsRow C pb A tv bv base w av args) (hb : w0.heap.size ≤ base) (hl : args.length ≤ maxLen) :
    St C pb po (fun k => A k ∨ av.ownBlock = some k) w tv bv c4 ts bs env N ∧ Step C pb A0 w0 tv0 bv0 c40 (fun k => A k ∨ av.ownBlock = some k) w tv bv c4 ∧ StrsAt (fun k => A k ∨ av.ownBlock = some k) w av args ∧ (∀ L, Locs C pb A tv bv w L → (∀ p ∈ L, p.1 < base) → Locs C pb (fun k => A k ∨ av.ownBlock = some k) tv bv w L) := by
  refine ⟨hS.more (fun k a => .inl a) (fun k a => ?_), hT.more (fun k a => .inl a) (fun k a => ?_), hR.shut (fun k e => .inr e) hl, fun L hL hp p hm => ?_⟩
  · rcases a with a | a
    · exact .inl a
    · exact .inr ⟨(hR.lt a).2, (hR.apart k a).2⟩
  · rcases a with a | a
    · exact .inl a
    · exact .inr (Nat.le_trans hb (hR.lt a).1)
  · obtain ⟨h1, h2, h3⟩ := hL p hm
    refine ⟨h1, fun a => ?_, h3⟩
    rcases a with a | a
    · exact h2 a
    · have := (hR.lt a).1; have := hp p hm; omega

set_option maxRecDepth 100000 in
set_option maxHeartbeats 6400000 in
theorem expr_op (m : Nat) (ih : XOk m) (C : VC) (n : Nd) (v : Value) (pb po : Nat) (A : Nat → Prop) (w : World) (tv bv c4 : Value) (ts : List Par) (bs : List Bd) (env : Env) (N : Nat) (h81 : n.kind ≠ 81) (h84 : n.kind ≠ 84) (h83 : n.kind ≠ 83) (h85 : n.kind ≠ 85) (hm : sizeN n ≤ m + 1) (hform : formedN n = true) (hkn : knownN C.lib n = true) (hv : NdAt A w v n) (hst : St C pb po A w tv bv c4 ts bs env N)
    (hse : SmallE env) (hts : TsSmall ts) (hl1 : ts.length + 2 * sizeN n ≤ 100000) (hl2 : bs.length + 2 * sizeN n ≤ 100000) (hl3 : N + 2 * sizeN n ≤ 100000) :
    Calls Tryz.prog 114 #[.pointer (some ⟨C.bV, 0, none⟩), v, .pointer (some ⟨pb, po, none⟩)] w (XPost C pb po A w tv bv c4 bs (N + 2 * sizeN n) (exprN C.lib n env ts)) := by
  obtain ⟨hok, hlen, ka, kc, rfl, hk⟩ := hv.open
  unfold maxLen at hlen
  have HEQ := Lib.hid (expr_op_eq C.lib n env ts h81 h84 h83 h85)
  have d81 : (n.kind == 81) = false := by simpa using h81
  have d84 : (n.kind == 84) = false := by simpa using h84
  have d83 : (n.kind == 83) = false := by simpa using h83
  have d85 : (n.kind == 85) = false := by simpa using h85
  have hsz := sizeN_eq n
  have hkl := length_size n.kids
  have hs := hok.2.2
  have hL0 := Locs.three hst (.cells #[.int .u8 n.kind, .int .i64 n.num, .string n.name, .slice ka n.kids.length kc] 35) (.cells #[.string ⟨#[]⟩, .bool false] 57) (.cells #[.string ⟨#[]⟩, .bool false, .int .u8 n.kind, .int .i64 n.num, .string ⟨#[]⟩, .slice none 0 0, .slice none 0 0, .slice none 0 0] 88)
  have hA : Below w.heap.size w (((w.alloc (.cells #[.int .u8 n.kind, .int .i64 n.num, .string n.name, .slice ka n.kids.length kc] 35)).alloc (.cells #[.string ⟨#[]⟩, .bool false] 57)).alloc (.cells #[.string ⟨#[]⟩, .bool false, .int .u8 n.kind, .int .i64 n.num, .string ⟨#[]⟩, .slice none 0 0, .slice none 0 0, .slice none 0 0] 88)) := (((Below.refl _ _).alloc (Nat.le_refl _) _).alloc (by simp) _).alloc (by simp; omega) _
  have hS0 := hst.below hA
  have hT0 := (Step.refl C pb A w tv bv c4).below hA
  have HR : Hid (ALoop C pb po A w tv bv c4 ts bs env N false n (.slice ka n.kids.length kc) (.int .u8 n.kind) (.int .i64 n.num) (.string ⟨#[]⟩) 0 (((w.alloc (.cells #[.int .u8 n.kind, .int .i64 n.num, .string n.name, .slice ka n.kids.length kc] 35)).alloc (.cells #[.string ⟨#[]⟩, .bool false] 57)).alloc (.cells #[.string ⟨#[]⟩, .bool false, .int .u8 n.kind, .int .i64 n.num, .string ⟨#[]⟩, .slice none 0 0, .slice none 0 0, .slice none 0 0] 88))) := Lib.hid ⟨Nat.zero_le _, A, tv, bv, c4, .slice none 0 0, by simpa [argsN, sizeL] using hS0, hT0, hL0, ArgsRow.nil ..⟩
  have HST := Lib.hid hst
  have HK := Lib.hid hk
  have HF := Lib.hid hform
  have HKN := Lib.hid hkn
  have HSZ := Lib.hid hsz
  clear hst hS0 h84 h81 h83 h85 hk hform hkn hsz hL0 hT0 hA
  go_enter Tryz.func114, Tryz.ntmps114
  go_wp2
  generalize (((w.alloc (.cells #[.int .u8 n.kind, .int .i64 n.num, .string n.name, .slice ka n.kids.length kc] 35)).alloc (.cells #[.string ⟨#[]⟩, .bool false] 57)).alloc (.cells #[.string ⟨#[]⟩, .bool false, .int .u8 n.kind, .int .i64 n.num, .string ⟨#[]⟩, .slice none 0 0, .slice none 0 0, .slice none 0 0] 88)) = W at *
  go_loopw [74] (fun i wr => ∃ q : Nat, i = .int .i64 q ∧ ALoop C pb po A w tv bv c4 ts bs env N false n (.slice ka n.kids.length kc) (.int .u8 n.kind) (.int .i64 n.num) (.string ⟨#[]⟩) q wr) (fun i _ => n.kids.length - (intOf i).toNat)
  case atStart => exact ⟨0, rfl, HR.out⟩
  case round =>
    clear HR
    obtain ⟨q, rfl, hq, Aq, tvq, bvq, c4q, av, hS, hT, hL, hR⟩ := hrel
    by_cases hlt : q < n.kids.length
    · obtain ⟨b, off, cap, kaq, kcq, he, q0, q1, q2, q3, hnd⟩ := HK.out.later (HST.out.stays hT) hlt
      simp only [Value.slice.injEq] at he
      obtain ⟨rfl, -, rfl⟩ := he
      have HST1 : Hid (argsN C.lib false (n.kids.take (q + 1)) env ts = _) := Lib.hid ((args_take C.lib false hlt env ts).trans (argStep_op _ _ _))
      have hsl := sizeL_take_le n.kids (q + 1)
      have HSL := Lib.hid (sizeL_take n.kids q hlt)
      have hy := args_len C.lib false (n.kids.take q) env ts
      have hal := args_len2 C.lib false (n.kids.take q) env ts
      rw [List.length_take, Nat.min_eq_left hq] at hal
      have hsz := HSZ.out
      have hys := args_small C.lib false (n.kids.take q) env ts hse hts (by have := HSL.out; omega)
      generalize argsN C.lib false (n.kids.take q) env ts = Y at *
      have hA2 : Below wr.heap.size wr (wr.alloc (.cells #[.int .u8 (at' n.kids q).kind, .int .i64 (at' n.kids q).num, .string (at' n.kids q).name, .slice kaq (at' n.kids q).kids.length kcq] 35)).drew := below_drewN ((Below.refl _ _).alloc (Nat.le_refl _) _) 1
      have hS2 := hS.below hA2
      have hT2 := hT.below hA2
      have hL2 := hL.below hA2
      have hR2 := hR.below hA2
      have p5 : (wr.alloc (.cells #[.int .u8 (at' n.kids q).kind, .int .i64 (at' n.kids q).num, .string (at' n.kids q).name, .slice kaq (at' n.kids q).kids.length kcq] 35)).cell? ⟨w.heap.size + 1 + 1, 5, none⟩ = some av := cell_blk ((hL.below ((Below.refl _ _).alloc (Nat.le_refl _) _)).blk (List.mem_cons_self ..)) 5 rfl
      have hx := expr_len C.lib (at' n.kids q) Y.env Y.ts
      have hxs := expr_small C.lib (at' n.kids q) Y.env Y.ts hys.1 hys.2.1 (by have := HSL.out; omega)
      have HCX := Lib.hid (ih C (at' n.kids q) _ pb po Aq _ tvq bvq c4q Y.ts (bs ++ Y.bs) Y.env _ (by have := size_kid n q hlt; omega) (formed_kid HF.out hlt) (known_kid HKN.out hlt) (hnd.stays (Stays.of_below hA2)) hS2 hys.1 hys.2.1 (by have := HSL.out; omega) (by have := HSL.out; rw [List.length_append]; omega) (by have := HSL.out; omega))
      have HL2 := Lib.hid hL2
      have HR2 := Lib.hid hR2
      have HT2 := Lib.hid hT2
      have hlw : w.heap.size + 1 + 1 < wr.heap.size := hL.lt (p := (w.heap.size + 1 + 1, _)) (List.mem_cons_self ..)
      have HAL := Lib.hid hal
      have HYB : Y.args.length + 1 ≤ 100000 := by omega
      clear hal hsz hL2 hR2 hT2 hS2 hL hR hT hS hnd
      have hnew := at_new0 wr (.cells #[.int .u8 (at' n.kids q).kind, .int .i64 (at' n.kids q).num, .string (at' n.kids q).name, .slice kaq (at' n.kids q).kids.length kcq] 35)
      have kk0 : (wr.alloc (.cells #[.int .u8 (at' n.kids q).kind, .int .i64 (at' n.kids q).num, .string (at' n.kids q).name, .slice kaq (at' n.kids q).kids.length kcq] 35)).cell? ⟨wr.heap.size, 0, none⟩ = some (.int .u8 (at' n.kids q).kind) := cell_blk hnew 0 rfl
      have kk1 : (wr.alloc (.cells #[.int .u8 (at' n.kids q).kind, .int .i64 (at' n.kids q).num, .string (at' n.kids q).name, .slice kaq (at' n.kids q).kids.length kcq] 35)).cell? ⟨wr.heap.size, 1, none⟩ = some (.int .i64 (at' n.kids q).num) := cell_blk hnew 1 rfl
      have kk2 : (wr.alloc (.cells #[.int .u8 (at' n.kids q).kind, .int .i64 (at' n.kids q).num, .string (at' n.kids q).name, .slice kaq (at' n.kids q).kids.length kcq] 35)).cell? ⟨wr.heap.size, 2, none⟩ = some (.string (at' n.kids q).name) := cell_blk hnew 2 rfl
      have kk3 : (wr.alloc (.cells #[.int .u8 (at' n.kids q).kind, .int .i64 (at' n.kids q).num, .string (at' n.kids q).name, .slice kaq (at' n.kids q).kids.length kcq] 35)).cell? ⟨wr.heap.size, 3, none⟩ = some (.slice kaq (at' n.kids q).kids.length kcq) := cell_blk hnew 3 rfl
      clear hnew
      go_wp2
      generalize (wr.alloc (.cells #[.int .u8 (at' n.kids q).kind, .int .i64 (at' n.kids q).num, .string (at' n.kids q).name, .slice kaq (at' n.kids q).kids.length kcq] 35)) = W2 at *
      clear q0 q1 q2 q3
      generalize hXe : exprN C.lib (at' n.kids q) Y.env Y.ts = X at *
      clear hXe
      have hfd := field_par0
      go_region_law (first
        | (go_simp; go_at_call 114; refine HCX.out.mono ?_; rintro e w1 ⟨rfl, A1, tv1, bv1, c41, hS1, hT1⟩; have hL1 := HL2.out.step hT1; have hR1 := HR2.out.step hT1; have hT1' := HT2.out.trans hT1; have b5 : w1.cell? ⟨w.heap.size + 1 + 1, 5, none⟩ = some av := cell_blk (hL1.blk (List.mem_cons_self ..)) 5 rfl; have hB1 : Below w1.heap.size w1 (w1.alloc (.cells #[.string X.par.name] 9)) := (Below.refl _ _).alloc (Nat.le_refl _) _; have b5' : (w1.alloc (.cells #[.string X.par.name] 9)).cell? ⟨w.heap.size + 1 + 1, 5, none⟩ = some av := cell_blk ((hL1.below hB1).blk (List.mem_cons_self ..)) 5 rfl; have HL1 := Lib.hid hL1; have HR1 := Lib.hid hR1; have HS1 := Lib.hid hS1; clear hL1 hR1 hS1)
        | (refine step_append TStr (by rfl) (by decide) (by rfl) (.tmp 79) (.tmp 85) (by rfl) (by rfl) (by rfl) (row_below HR1.out.own hB1) (.inr ⟨⟨w1.heap.size, 0, none⟩, 1, by rfl, one_src w1 _ _⟩) (by rfl) (by simp [Value.oneCell']) (by unfold maxLen; omega) (by omega) (by have := hB1.size; have := HL1.out.lt (p := (w.heap.size + 1 + 1, _)) (List.mem_cons_self ..); simp only at this; omega) ?_; intro v' w2 hown hg hnew; obtain ⟨av', cv', rfl⟩ := row_form hown; have hbk := args_blk HL1.out HR1.out (by omega) hB1 hg; have s5 : w2.cell? ⟨w.heap.size + 1 + 1, 5, none⟩ = some av := cell_blk hbk 5 rfl; have s6 := unfrozen hbk 5; have HN := Lib.hid (args_next HS1.out hT1' HL1.out HR1.out (by simp; omega) (by omega) (by omega) (by have := HL1.out.lt (p := (w.heap.size + 1 + 1, _)) (List.mem_cons_self ..); simp only at this; omega) hxs.1 hB1 hown hg hnew); clear hbk hown hg hnew))
      all_goals
        clear kk0 kk1 kk2 kk3 p5 b5 b5' s5 s6
        go_wp2
        obtain ⟨hS3, hT3, hL3, hR3⟩ := HN.out
        have hR : ALoop C pb po A w tv bv c4 ts bs env N false n (.slice (some ⟨b, off, none⟩) n.kids.length kc) (.int .u8 n.kind) (.int .i64 n.num) (.string ⟨#[]⟩) (q + 1) _ := ⟨by omega, A1, tv1, bv1, c41, .slice av' (Y.args.length + 1) cv', by rw [HST1.out, ← List.append_assoc]; exact hS3.mono (by have := HSL.out; omega), hT3, hL3, by rw [HST1.out]; exact hR3⟩
        go_roundw
        case rel => exact ⟨q + 1, by go_num, hR⟩
        case measure => simp [intOf]; omega
    · obtain rfl : q = n.kids.length := by omega
      rw [List.take_length] at hS hR
      have hal := args_len2 C.lib false n.kids env ts
      have hy := args_len C.lib false n.kids env ts
      generalize argsN C.lib false n.kids env ts = Y at *
      have hsz := HSZ.out
      obtain ⟨aa, ca, rfl⟩ := hR.form
      obtain ⟨hS2, hT2, hA2, hLL⟩ := shut_args hS hT hR (by omega) (by unfold maxLen; omega)
      have hL2 := hLL _ hL (by simp; omega)
      obtain ⟨b0, b1, b2, b3, b4, b5, b6, b7⟩ := cells8 (hL.blk (List.mem_cons_self ..))
      have k0 : wr.cell? ⟨w.heap.size, 0, none⟩ = some (.int .u8 n.kind) := cell_blk (hL.blk (g := w.heap.size) (List.mem_cons_of_mem _ (List.mem_cons_of_mem _ (List.mem_cons_self ..)))) 0 rfl
      have HCX : Hid (∀ L, opList n.kind = L → Calls Tryz.prog 133 _ wr _) := Lib.hid (fun L _ => bind_st C pb po _ wr tvq bvq c4q Y.ts (bs ++ Y.bs) Y.env _ ⟨#[]⟩ ⟨#[]⟩ false L n.kind n.num _ _ _ Y.args [] [] hS2 hA2 (BdsAt.nil _) (BdsAt.nil _) hok.1 hok.2.1 (Nat.zero_le _) (by omega) (by rw [List.length_append]; omega))
      have HL2 := Lib.hid hL2
      have HT2 := Lib.hid hT2
      have hlt : ¬ (n.kids.length : Int) < (n.kids.length : Int) := by omega
      clear hS hT hL hR hS2 hT2 hA2 hLL hL2 hal hy hsz
      cases h6 : (n.kind == 86)
      · cases h7 : (n.kind == 87)
        · cases h9 : (n.kind == 89)
          · have tok1 : True := trivial
            have HO : Hid (opList n.kind = false) := Lib.hid (by rw [opList_eq, h6, h7, h9]; rfl)
            go_wp2_with (go_at_call 133; refine (HCX.out _ HO.out).mono ?_; rintro e w5 ⟨rfl, A5, tv5, bv5, c45, hS5, hT5⟩; have hL5 := (HL2.out.step hT5).sub (L' := [(w.heap.size + 1, .cells #[.string ⟨#[]⟩, .bool false] 57)]) (by simp); have hR5 := hL5.blk (List.mem_cons_self ..); have r0 : w5.cell? ⟨w.heap.size + 1, 0, none⟩ = some (.string ⟨#[]⟩) := cell_blk hR5 0 rfl; have r1 : w5.cell? ⟨w.heap.size + 1, 1, none⟩ = some (.bool false) := cell_blk hR5 1 rfl; have f0 := unfrozen hR5 0; have f1 := unfrozen hR5 1; have HS5 := Lib.hid hS5; have HL5 := Lib.hid hL5; have HT5 := Lib.hid (HT2.out.trans hT5); clear hR5 hS5 hL5 hT5)
            (try simp only [Exit.inBlock, Exit.then])
            have hL6 := HL5.out.set 0 (.string (tname Y.ts.length)) (by simp)
            have hL7 := hL6.set 1 (.bool false) (by simp)
            have hS7 := (HS5.out.setLoc HL5.out (List.mem_cons_self ..) 0 (.string (tname Y.ts.length))).setLoc hL6 (List.mem_cons_self ..) 1 (.bool false)
            refine bodyPost_ret (results_cell_row (P := Tryz.prog) rfl _ _ (w.heap.size + 1) _ _ _ _ rfl (hL7.blk (List.mem_cons_self ..)) Tryz.underlying57 rfl (by kernel_rfl)) rfl ?_
            rw [HEQ.out, HO.out]
            refine ⟨rfl, A5, tv5, bv5, c45, ?_, ?_⟩
            · rw [← List.append_assoc]; exact hS7.mono (by have := HSZ.out; omega)
            · exact HT5.out.young ((keeps_set _ (w.heap.size + 1) 0 _).same (keeps_set _ (w.heap.size + 1) 1 _)) (fun k e => by omega)
          · have tok1 : True := trivial
            have HO : Hid (opList n.kind = true) := Lib.hid (by rw [opList_eq, h6, h7, h9]; rfl)
            go_wp2_with (go_at_call 133; refine (HCX.out _ HO.out).mono ?_; rintro e w5 ⟨rfl, A5, tv5, bv5, c45, hS5, hT5⟩; have hL5 := (HL2.out.step hT5).sub (L' := [(w.heap.size + 1, .cells #[.string ⟨#[]⟩, .bool false] 57)]) (by simp); have hR5 := hL5.blk (List.mem_cons_self ..); have r0 : w5.cell? ⟨w.heap.size + 1, 0, none⟩ = some (.string ⟨#[]⟩) := cell_blk hR5 0 rfl; have r1 : w5.cell? ⟨w.heap.size + 1, 1, none⟩ = some (.bool false) := cell_blk hR5 1 rfl; have f0 := unfrozen hR5 0; have f1 := unfrozen hR5 1; have HS5 := Lib.hid hS5; have HL5 := Lib.hid hL5; have HT5 := Lib.hid (HT2.out.trans hT5); clear hR5 hS5 hL5 hT5)
            (try simp only [Exit.inBlock, Exit.then])
            have hL6 := HL5.out.set 0 (.string (tname Y.ts.length)) (by simp)
            have hL7 := hL6.set 1 (.bool true) (by simp)
            have hS7 := (HS5.out.setLoc HL5.out (List.mem_cons_self ..) 0 (.string (tname Y.ts.length))).setLoc hL6 (List.mem_cons_self ..) 1 (.bool true)
            refine bodyPost_ret (results_cell_row (P := Tryz.prog) rfl _ _ (w.heap.size + 1) _ _ _ _ rfl (hL7.blk (List.mem_cons_self ..)) Tryz.underlying57 rfl (by kernel_rfl)) rfl ?_
            rw [HEQ.out, HO.out]
            refine ⟨rfl, A5, tv5, bv5, c45, ?_, ?_⟩
            · rw [← List.append_assoc]; exact hS7.mono (by have := HSZ.out; omega)
            · exact HT5.out.young ((keeps_set _ (w.heap.size + 1) 0 _).same (keeps_set _ (w.heap.size + 1) 1 _)) (fun k e => by omega)
        · have tok1 : True := trivial
          have HO : Hid (opList n.kind = true) := Lib.hid (by rw [opList_eq, h6, h7]; rfl)
          go_wp2_with (go_at_call 133; refine (HCX.out _ HO.out).mono ?_; rintro e w5 ⟨rfl, A5, tv5, bv5, c45, hS5, hT5⟩; have hL5 := (HL2.out.step hT5).sub (L' := [(w.heap.size + 1, .cells #[.string ⟨#[]⟩, .bool false] 57)]) (by simp); have hR5 := hL5.blk (List.mem_cons_self ..); have r0 : w5.cell? ⟨w.heap.size + 1, 0, none⟩ = some (.string ⟨#[]⟩) := cell_blk hR5 0 rfl; have r1 : w5.cell? ⟨w.heap.size + 1, 1, none⟩ = some (.bool false) := cell_blk hR5 1 rfl; have f0 := unfrozen hR5 0; have f1 := unfrozen hR5 1; have HS5 := Lib.hid hS5; have HL5 := Lib.hid hL5; have HT5 := Lib.hid (HT2.out.trans hT5); clear hR5 hS5 hL5 hT5)
          (try simp only [Exit.inBlock, Exit.then])
          have hL6 := HL5.out.set 0 (.string (tname Y.ts.length)) (by simp)
          have hL7 := hL6.set 1 (.bool true) (by simp)
          have hS7 := (HS5.out.setLoc HL5.out (List.mem_cons_self ..) 0 (.string (tname Y.ts.length))).setLoc hL6 (List.mem_cons_self ..) 1 (.bool true)
          refine bodyPost_ret (results_cell_row (P := Tryz.prog) rfl _ _ (w.heap.size + 1) _ _ _ _ rfl (hL7.blk (List.mem_cons_self ..)) Tryz.underlying57 rfl (by kernel_rfl)) rfl ?_
          rw [HEQ.out, HO.out]
          refine ⟨rfl, A5, tv5, bv5, c45, ?_, ?_⟩
          · rw [← List.append_assoc]; exact hS7.mono (by have := HSZ.out; omega)
          · exact HT5.out.young ((keeps_set _ (w.heap.size + 1) 0 _).same (keeps_set _ (w.heap.size + 1) 1 _)) (fun k e => by omega)
      · have tok1 : True := trivial
        have HO : Hid (opList n.kind = true) := Lib.hid (by rw [opList_eq, h6]; rfl)
        go_wp2_with (go_at_call 133; refine (HCX.out _ HO.out).mono ?_; rintro e w5 ⟨rfl, A5, tv5, bv5, c45, hS5, hT5⟩; have hL5 := (HL2.out.step hT5).sub (L' := [(w.heap.size + 1, .cells #[.string ⟨#[]⟩, .bool false] 57)]) (by simp); have hR5 := hL5.blk (List.mem_cons_self ..); have r0 : w5.cell? ⟨w.heap.size + 1, 0, none⟩ = some (.string ⟨#[]⟩) := cell_blk hR5 0 rfl; have r1 : w5.cell? ⟨w.heap.size + 1, 1, none⟩ = some (.bool false) := cell_blk hR5 1 rfl; have f0 := unfrozen hR5 0; have f1 := unfrozen hR5 1; have HS5 := Lib.hid hS5; have HL5 := Lib.hid hL5; have HT5 := Lib.hid (HT2.out.trans hT5); clear hR5 hS5 hL5 hT5)
        (try simp only [Exit.inBlock, Exit.then])
        have hL6 := HL5.out.set 0 (.string (tname Y.ts.length)) (by simp)
        have hL7 := hL6.set 1 (.bool true) (by simp)
        have hS7 := (HS5.out.setLoc HL5.out (List.mem_cons_self ..) 0 (.string (tname Y.ts.length))).setLoc hL6 (List.mem_cons_self ..) 1 (.bool true)
        refine bodyPost_ret (results_cell_row (P := Tryz.prog) rfl _ _ (w.heap.size + 1) _ _ _ _ rfl (hL7.blk (List.mem_cons_self ..)) Tryz.underlying57 rfl (by kernel_rfl)) rfl ?_
        rw [HEQ.out, HO.out]
        refine ⟨rfl, A5, tv5, bv5, c45, ?_, ?_⟩
        · rw [← List.append_assoc]; exact hS7.mono (by have := HSZ.out; omega)
        · exact HT5.out.young ((keeps_set _ (w.heap.size + 1) 0 _).same (keeps_set _ (w.heap.size + 1) 1 _)) (fun k e => by omega)
end Go.Proofs.YtehmmokkjojggabGreatDoor
/- The visitor of package anf: call. -/
namespace Go.Proofs.YtehmmokkjojggabGreatDoor
set_option linter.unusedVariables false
open Go.RowKit

/-- a literal row of one name -/
theorem ArgsRow.lit {C : VC} {pb po N : Nat} {A : Nat → Prop} {w : World} {tv bv c4 : Value} {ts : List Par} {bs : List Bd} {env : Env} (hS : St C pb po A w tv bv c4 ts bs env N) {s : ByteArray} (hs : s.size ≤ maxLen) :
    ArgsRow C pb A tv bv w.heap.size (w.alloc (.cells #[.string s] 9)) (.slice (some ⟨w.heap.size, 0, none⟩) 1 1) [s] := by
  refine ⟨⟨rfl, .inr ⟨w.heap.size, 1, #[.string s], rfl, Nat.le_refl _, heap_alloc_new w _, Nat.le_refl _, by unfold maxLen; omega, rfl, rfl⟩⟩, fun x hx => by simp at hx; subst hx; exact hs, fun k e => ?_⟩
  simp only [Value.ownBlock, Option.some.injEq] at e
  subst e
  exact ⟨fun a => Nat.lt_irrefl _ (hS.alt a), fun m => Nat.lt_irrefl _ (hS.mlt m)⟩

theorem shut_rows {C : VC} {pb base base' : Nat} {A : Nat → Prop} {w : World} {tv bv : Value} {av av' : Value} {args args' : List ByteArray} (hR : ArgsRow C pb A tv bv base w av args) (hR' : ArgsRow C pb A tv bv base' w av' args') (h : ∀ k, av'.ownBlock = some k → k < base) : ArgsRow C pb (fun k => A k ∨ av.ownBlock = some k) tv bv base' w av' args' :=
  ⟨hR'.own, hR'.small, fun k e => ⟨fun a => by
    rcases a with a | a
    · exact (hR'.apart k e).1 a
    · have := (hR.lt a).1; have := h k e; omega, (hR'.apart k e).2⟩⟩

/-- the append of a name and the store into the bind under way, at the operation -/
theorem wpl_args {ops : Array Oper} {rest : List Oper} {o : Oper} {a : Act} {Q : Exit → Act → World → Prop} (hgd : o.guard = none) (s x : Operand) (ho : o.op = .call { callee := .builtin .append, args := #[s, x], argTypes := #[23, 23] })
    {C : VC} {pb po N g2 be : Nat} {A A1 : Nat → Prop} {w w1 : World} {tv bv c4 tv1 bv1 c41 : Value} {ts : List Par} {bs : List Bd} {env : Env} {base : Nat} {av : Value} {args : List ByteArray} {nm : ByteArray} {L : List (Nat × Obj)} {s0 s1 s2 s3 s4 s6 s7 : Value}
    (hS : St C pb po A1 w1 tv1 bv1 c41 ts bs env N) (hT : Step C pb A w tv bv c4 A1 w1 tv1 bv1 c41) (hL : Locs C pb A1 tv1 bv1 w1 ((g2, .cells #[s0, s1, s2, s3, s4, av, s6, s7] be (0, 0)) :: L)) (hR : ArgsRow C pb A1 tv1 bv1 base w1 av args)
    (hLg : ∀ p ∈ L, p.1 ≠ g2 ∧ p.1 < base) (hg2 : g2 < base) (hg2w : w.heap.size ≤ g2) (hsz : base ≤ w1.heap.size) (hs : nm.size ≤ maxLen) (hal : args.length < 100000)
    {g : Nat} (he : a.eval s = av) (hx : a.eval x = .slice (some ⟨g, 0, none⟩) 1 1) (hgw : g = w1.heap.size)
    (h : ∀ a' c' w2, w2.cell? ⟨g2, 5, none⟩ = some av → w2.frozen? ⟨g2, 5, none⟩ = false → Hid (St C pb po A1 (w2.setCell ⟨g2, 5, none⟩ (.slice a' (args.length + 1) c')) tv1 bv1 c41 ts bs env N ∧ Step C pb A w tv bv c4 A1 (w2.setCell ⟨g2, 5, none⟩ (.slice a' (args.length + 1) c')) tv1 bv1 c41 ∧
      Locs C pb A1 tv1 bv1 (w2.setCell ⟨g2, 5, none⟩ (.slice a' (args.length + 1) c')) ((g2, .cells #[s0, s1, s2, s3, s4, .slice a' (args.length + 1) c', s6, s7] be (0, 0)) :: L) ∧ ArgsRow C pb A1 tv1 bv1 base (w2.setCell ⟨g2, 5, none⟩ (.slice a' (args.length + 1) c')) (.slice a' (args.length + 1) c') (args ++ [nm])) →
      wpList Tryz.prog ops Q rest (a.put o.dst (.slice a' (args.length + 1) c')) w2) :
    wpList Tryz.prog ops Q (o :: rest) a (w1.alloc (.cells #[.string nm] 9)) := by
  subst hgw
  have hB1 : Below w1.heap.size w1 (w1.alloc (.cells #[.string nm] 9)) := (Below.refl _ _).alloc (Nat.le_refl _) _
  refine wpl_append TStr rfl (by decide) hgd s x ho (base := base) (v := av) (n := args.length) (m := 1) (xs := args.map Value.string) (news := [.string nm]) he hx (row_below hR.own hB1) (.inr ⟨_, _, rfl, one_src w1 _ _⟩) rfl (by simp [Value.oneCell']) (by unfold maxLen; omega) (by omega) (by have := hB1.size; omega) ?_
  intro v' w2 hown hg hnew
  obtain ⟨a', c', rfl⟩ := row_form hown
  have hbk := args_blk hL hR hg2 hB1 hg
  exact h a' c' w2 (cell_blk hbk 5 rfl) (unfrozen hbk 5) (Lib.hid (args_next hS hT hL hR hLg hg2 hg2w hsz hs hB1 hown hg hnew))

theorem argStep_call (lib : List Fn) (r : YR) (n : Nd) (h : namesN (sizeN n) n = true) : argStep lib true r n = ⟨(exprN lib n r.env r.ts).ts ++ [⟨tname (exprN lib n r.env r.ts).ts.length, (exprN lib n r.env r.ts).par.list⟩], r.bs ++ (exprN lib n r.env r.ts).bs ++ [varB (tname (exprN lib n r.env r.ts).ts.length) (exprN lib n r.env r.ts).par.list (exprN lib n r.env r.ts).par.name], r.args ++ [tname (exprN lib n r.env r.ts).ts.length], (exprN lib n r.env r.ts).env⟩ := by
  simp [argStep, h]
theorem argStep_other (lib : List Fn) (r : YR) (n : Nd) (h : namesN (sizeN n) n = false) : argStep lib true r n = ⟨(exprN lib n r.env r.ts).ts, r.bs ++ (exprN lib n r.env r.ts).bs, r.args ++ [(exprN lib n r.env r.ts).par.name], (exprN lib n r.env r.ts).env⟩ := by
  simp [argStep, h]

set_option maxRecDepth 100000 in
set_option maxHeartbeats 6400000 in
theorem call_st (m : Nat) (ih : XOk m) (C : VC) (n : Nd) (v : Value) (pb po : Nat) (A : Nat → Prop) (w : World) (tv bv c4 : Value) (ts : List Par) (bs : List Bd) (env : Env) (N : Nat) (h85 : n.kind = 85) (hm : sizeN n ≤ m + 1) (hform : formedN n = true) (hkn : knownN C.lib n = true) (hv : NdAt A w v n) (hst : St C pb po A w tv bv c4 ts bs env N)
    (hse : SmallE env) (hts : TsSmall ts) (hl1 : ts.length + 2 * sizeN n ≤ 100000) (hl2 : bs.length + 2 * sizeN n ≤ 100000) (hl3 : N + 2 * sizeN n ≤ 100000) :
    Calls Tryz.prog 132 #[.pointer (some ⟨C.bV, 0, none⟩), v, .pointer (some ⟨pb, po, none⟩)] w (XPost C pb po A w tv bv c4 bs (N + 2 * sizeN n) (exprN C.lib n env ts)) := by
  obtain ⟨hok, hlen, ka, kc, rfl, hk⟩ := hv.open
  unfold maxLen at hlen
  have HEQ := Lib.hid (expr_call_eq C.lib n env ts h85)
  have hsz := sizeN_eq n
  have hkl := length_size n.kids
  have hs := hok.2.2
  have hL0 := Locs.three hst (.cells #[.int .u8 n.kind, .int .i64 n.num, .string n.name, .slice ka n.kids.length kc] 35) (.cells #[.string ⟨#[]⟩, .bool false] 57) (.cells #[.string ⟨#[]⟩, .bool false, .int .u8 85, .int .i64 0, .string n.name, .slice none 0 0, .slice none 0 0, .slice none 0 0] 88)
  have hA : Below w.heap.size w (((w.alloc (.cells #[.int .u8 n.kind, .int .i64 n.num, .string n.name, .slice ka n.kids.length kc] 35)).alloc (.cells #[.string ⟨#[]⟩, .bool false] 57)).alloc (.cells #[.string ⟨#[]⟩, .bool false, .int .u8 85, .int .i64 0, .string n.name, .slice none 0 0, .slice none 0 0, .slice none 0 0] 88)) := (((Below.refl _ _).alloc (Nat.le_refl _) _).alloc (by simp) _).alloc (by simp; omega) _
  have hS0 := hst.below hA
  have hT0 := (Step.refl C pb A w tv bv c4).below hA
  have HR : Hid (ALoop C pb po A w tv bv c4 ts bs env N true n (.slice ka n.kids.length kc) (.int .u8 85) (.int .i64 0) (.string n.name) 0 (((w.alloc (.cells #[.int .u8 n.kind, .int .i64 n.num, .string n.name, .slice ka n.kids.length kc] 35)).alloc (.cells #[.string ⟨#[]⟩, .bool false] 57)).alloc (.cells #[.string ⟨#[]⟩, .bool false, .int .u8 85, .int .i64 0, .string n.name, .slice none 0 0, .slice none 0 0, .slice none 0 0] 88))) := Lib.hid ⟨Nat.zero_le _, A, tv, bv, c4, .slice none 0 0, by simpa [argsN, sizeL] using hS0, hT0, hL0, ArgsRow.nil ..⟩
  have HST := Lib.hid hst
  have HK := Lib.hid hk
  have HF := Lib.hid hform
  have HKN := Lib.hid hkn
  have HSZ := Lib.hid hsz
  have H85 := Lib.hid h85
  clear hst hS0 h85 hk hform hkn hsz hL0 hT0 hA
  go_enter Tryz.func132, Tryz.ntmps132
  go_wp2
  generalize (((w.alloc (.cells #[.int .u8 n.kind, .int .i64 n.num, .string n.name, .slice ka n.kids.length kc] 35)).alloc (.cells #[.string ⟨#[]⟩, .bool false] 57)).alloc (.cells #[.string ⟨#[]⟩, .bool false, .int .u8 85, .int .i64 0, .string n.name, .slice none 0 0, .slice none 0 0, .slice none 0 0] 88)) = W at *
  go_loopw [17] (fun i wr => ∃ q : Nat, i = .int .i64 q ∧ ALoop C pb po A w tv bv c4 ts bs env N true n (.slice ka n.kids.length kc) (.int .u8 85) (.int .i64 0) (.string n.name) q wr) (fun i _ => n.kids.length - (intOf i).toNat)
  case atStart => exact ⟨0, rfl, HR.out⟩
  case round =>
    clear HR
    obtain ⟨q, rfl, hq, Aq, tvq, bvq, c4q, av, hS, hT, hL, hR⟩ := hrel
    by_cases hlt : q < n.kids.length
    · obtain ⟨b, off, cap, kaq, kcq, he, q0, q1, q2, q3, hnd⟩ := HK.out.later (HST.out.stays hT) hlt
      simp only [Value.slice.injEq] at he
      obtain ⟨rfl, -, rfl⟩ := he
      have HST1 := Lib.hid (args_take C.lib true hlt env ts)
      have hsl := sizeL_take_le n.kids (q + 1)
      have HSL := Lib.hid (sizeL_take n.kids q hlt)
      have hy := args_len C.lib true (n.kids.take q) env ts
      have hal := args_len2 C.lib true (n.kids.take q) env ts
      rw [List.length_take, Nat.min_eq_left hq] at hal
      have hsz := HSZ.out
      have hys := args_small C.lib true (n.kids.take q) env ts hse hts (by have := HSL.out; omega)
      generalize argsN C.lib true (n.kids.take q) env ts = Y at *
      have hA2 : Below wr.heap.size wr (wr.alloc (.cells #[.int .u8 (at' n.kids q).kind, .int .i64 (at' n.kids q).num, .string (at' n.kids q).name, .slice kaq (at' n.kids q).kids.length kcq] 35)) := (Below.refl _ _).alloc (Nat.le_refl _) _
      have hS2 := hS.below hA2
      have hT2 := hT.below hA2
      have hL2 := hL.alloc hS (.cells #[.int .u8 (at' n.kids q).kind, .int .i64 (at' n.kids q).num, .string (at' n.kids q).name, .slice kaq (at' n.kids q).kids.length kcq] 35)
      have hR2 := hR.below hA2
      have hx := expr_len C.lib (at' n.kids q) Y.env Y.ts
      have hxs := expr_small C.lib (at' n.kids q) Y.env Y.ts hys.1 hys.2.1 (by have := HSL.out; omega)
      have hnd2 := hnd.stays (Stays.of_below hA2)
      have HCX := Lib.hid (ih C (at' n.kids q) _ pb po Aq _ tvq bvq c4q Y.ts (bs ++ Y.bs) Y.env _ (by have := size_kid n q hlt; omega) (formed_kid HF.out hlt) (known_kid HKN.out hlt) hnd2 hS2 hys.1 hys.2.1 (by have := HSL.out; omega) (by have := HSL.out; rw [List.length_append]; omega) (by have := HSL.out; omega))
      have HL2 := Lib.hid hL2
      have HR2 := Lib.hid hR2
      have HT2 := Lib.hid hT2
      have HS2 := Lib.hid hS2
      have HND := Lib.hid hnd2
      have hlw : w.heap.size + 1 + 1 < wr.heap.size := hL.lt (p := (w.heap.size + 1 + 1, _)) (List.mem_cons_self ..)
      have HAL := Lib.hid hal
      have HYB : Y.args.length + 1 ≤ 100000 := by omega
      clear hal hsz hL2 hR2 hT2 hS2 hL hR hT hS hnd hnd2
      go_wp2_with (go_at_call 114; refine HCX.out.mono ?_; rintro e w1 ⟨rfl, A1, tv1, bv1, c41, hS1, hT1⟩; have hL1 := (HL2.out.step hT1).alloc hS1 (.cells #[.string (exprN C.lib (at' n.kids q) Y.env Y.ts).par.name, .bool (exprN C.lib (at' n.kids q) Y.env Y.ts).par.list] 57); have HL1 := Lib.hid hL1; have HS1 := Lib.hid hS1; have HT1 := Lib.hid hT1; have hkb := (HL2.out.step hT1).blk (List.mem_cons_self ..); have k0 := cell_blk hkb 0 rfl; have k1 := cell_blk hkb 1 rfl; have k2 := cell_blk hkb 2 rfl; have k3 := cell_blk hkb 3 rfl; have hlk := (HL2.out.step hT1).lt (List.mem_cons_self ..); clear hL1 hS1 hT1 hkb)
      have HSTc := Lib.hid (fun h => HST1.out.trans (argStep_call C.lib Y (at' n.kids q) h))
      have HSTo := Lib.hid (fun h => HST1.out.trans (argStep_other C.lib Y (at' n.kids q) h))
      generalize exprN C.lib (at' n.kids q) Y.env Y.ts = X at *
      have hA3 : Below w1.heap.size w1 (w1.alloc (.cells #[.string X.par.name, .bool X.par.list] 57)) := (Below.refl _ _).alloc (Nat.le_refl _) _
      have hnd3 := (HND.out.stays (HS2.out.stays HT1.out)).stays (Stays.of_below hA3)
      have HT3 := Lib.hid ((HT2.out.trans HT1.out).below hA3)
      have HS3 := Lib.hid (HS1.out.below hA3)
      have HR3 := Lib.hid ((HR2.out.step HT1.out).below hA3)
      refine (names_any _ _ _ _ hnd3 (formed_kid HF.out hlt)).mono ?_
      rintro e w4 ⟨rfl, hb4⟩
      clear hnd3 hA3
      generalize (w1.alloc (.cells #[.string X.par.name, .bool X.par.list] 57)) = W3 at *
      have HL4 := Lib.hid (HL1.out.below hb4)
      have HT4 := Lib.hid (HT3.out.below hb4)
      have HS4 := Lib.hid (HS3.out.below hb4)
      have HR4 := Lib.hid (HR3.out.below hb4)
      have hxb := HL4.out.blk (List.mem_cons_self ..)
      have u0 : w4.cell? ⟨w1.heap.size, 0, none⟩ = some (.string X.par.name) := cell_blk hxb 0 rfl
      have u1 : w4.cell? ⟨w1.heap.size, 1, none⟩ = some (.bool X.par.list) := cell_blk hxb 1 rfl
      have hbb : w4.heap[w.heap.size + 1 + 1]? = _ := HL4.out.blk (g := w.heap.size + 1 + 1) (List.mem_cons_of_mem _ (List.mem_cons_of_mem _ (List.mem_cons_self ..)))
      have b5 : w4.cell? ⟨w.heap.size + 1 + 1, 5, none⟩ = some av := cell_blk hbb 5 rfl
      have hl4 : w.heap.size + 1 + 1 < w4.heap.size := HL4.out.lt (p := (w.heap.size + 1 + 1, _)) (List.mem_cons_of_mem _ (List.mem_cons_of_mem _ (List.mem_cons_self ..)))
      have hl5 : w1.heap.size < w4.heap.size := HL4.out.lt (p := (w1.heap.size, _)) (List.mem_cons_self ..)
      have HXB := Lib.hid hxb
      clear q0 q1 q2 q3 k0 k1 k2 k3 hxb hbb
      by_cases hnm : namesN (sizeN (at' n.kids q)) (at' n.kids q) = true
      · rw [hnm]
        have HST2 := Lib.hid (HSTc.out hnm)
        clear hnm
        have hBl : Below w4.heap.size w4 (w4.alloc (.cells #[.string X.par.name] 9)) := (Below.refl _ _).alloc (Nat.le_refl _) _
        have hlit := ArgsRow.lit HS4.out hxs.1
        obtain ⟨hS6, hT6, hA6, hLL⟩ := shut_args (HS4.out.below hBl) (HT4.out.below hBl) hlit (HT4.out.size) (by unfold maxLen; simp)
        have HL6 := Lib.hid (hLL _ (HL4.out.below hBl) (fun p hp => HL4.out.lt hp))
        have HR6 := Lib.hid (shut_rows hlit (HR4.out.below hBl) (fun k e => (HR4.out.lt e).2))
        have HCB := Lib.hid (bind_st C pb po _ _ tv1 bv1 c41 X.ts (bs ++ Y.bs ++ X.bs) X.env _ ⟨#[]⟩ ⟨#[]⟩ false X.par.list 81 0 _ _ _ [X.par.name] [] [] hS6 hA6 (BdsAt.nil _) (BdsAt.nil _) (by omega) (by unfold In64; omega) (Nat.zero_le _) (by have := HSL.out; have := HSZ.out; omega) (by have := HSL.out; have := HSZ.out; simp only [List.length_append]; omega))
        have HT6 := Lib.hid hT6
        have HRB : Hid (∀ k, av.ownBlock = some k → k ≠ w1.heap.size) := Lib.hid (fun k e => by have := ((HR2.out.step HT1.out).lt e).2; omega)
        have HNE : Hid (w.heap.size + 1 + 1 < w1.heap.size) := Lib.hid (by have := HT1.out.size; simp at this; omega)
        have HPN : Hid (∀ p ∈ [(wr.heap.size, Obj.cells #[.int .u8 (at' n.kids q).kind, .int .i64 (at' n.kids q).num, .string (at' n.kids q).name, .slice kaq (at' n.kids q).kids.length kcq] 35 (0, 0)), (w.heap.size + 1 + 1, .cells #[.string ⟨#[]⟩, .bool false, .int .u8 85, .int .i64 0, .string n.name, av, .slice none 0 0, .slice none 0 0] 88 (0, 0)), (w.heap.size + 1, .cells #[.string ⟨#[]⟩, .bool false] 57 (0, 0)), (w.heap.size, .cells #[.int .u8 n.kind, .int .i64 n.num, .string n.name, .slice (some ⟨b, off, none⟩) n.kids.length kc] 35 (0, 0))], p.1 ≠ w1.heap.size) := Lib.hid (fun p hp => by
          have := (HL2.out.step HT1.out).lt hp; omega)
        clear hS6 hT6 hA6 hLL hlit hBl
        go_wp2_with (first
          | (go_at_call 133; refine HCB.out.mono ?_; rintro e w6 ⟨rfl, A6, tv6, bv6, c46, hS7, hT7⟩; have hL7 := HL6.out.step hT7; have HR7 := Lib.hid (HR6.out.step hT7); have HT7 := Lib.hid (HT6.out.trans hT7); have hx7 := hL7.blk (List.mem_cons_self ..); have y0 : w6.cell? ⟨w1.heap.size, 0, none⟩ = some (.string X.par.name) := cell_blk hx7 0 rfl; have y1 : w6.cell? ⟨w1.heap.size, 1, none⟩ = some (.bool X.par.list) := cell_blk hx7 1 rfl; have g0 := unfrozen hx7 0; have g1 := unfrozen hx7 1; have hne7 : w.heap.size + 1 + 1 < w1.heap.size := HNE.out; have hL8 := (hL7.set 0 (.string (tname X.ts.length)) HPN.out).set 1 (.bool X.par.list) HPN.out; have HS8 := Lib.hid ((hS7.setLoc hL7 (List.mem_cons_self ..) 0 (.string (tname X.ts.length))).setLoc (hL7.set 0 (.string (tname X.ts.length)) HPN.out) (List.mem_cons_self ..) 1 (.bool X.par.list)); have HR8 := Lib.hid ((HR7.out.keeps (keeps_set w6 w1.heap.size 0 (.string (tname X.ts.length))) HRB.out).keeps (keeps_set _ w1.heap.size 1 (.bool X.par.list)) HRB.out); have HT8 := Lib.hid (HT7.out.young ((keeps_set w6 w1.heap.size 0 (.string (tname X.ts.length))).same (keeps_set _ w1.heap.size 1 (.bool X.par.list))) (fun k e => by have := (e : k = w1.heap.size); omega)); have HL8 := Lib.hid hL8; have hbb8 : ((w6.setCell ⟨w1.heap.size, 0, none⟩ (.string (tname X.ts.length))).setCell ⟨w1.heap.size, 1, none⟩ (.bool X.par.list)).heap[w.heap.size + 1 + 1]? = _ := hL8.blk (g := w.heap.size + 1 + 1) (List.mem_cons_of_mem _ (List.mem_cons_of_mem _ (List.mem_cons_self ..))); have hbb7 : w6.heap[w.heap.size + 1 + 1]? = _ := hL7.blk (g := w.heap.size + 1 + 1) (List.mem_cons_of_mem _ (List.mem_cons_of_mem _ (List.mem_cons_self ..))); have b58 : w6.cell? ⟨w.heap.size + 1 + 1, 5, none⟩ = some av := cell_blk hbb7 5 rfl; have hl8 : w.heap.size + 1 + 1 < w6.heap.size := hL7.lt (p := (w.heap.size + 1 + 1, _)) (List.mem_cons_of_mem _ (List.mem_cons_of_mem _ (List.mem_cons_self ..))); clear hL7 hL8 hS7 hT7 hx7 hbb7 hbb8)
          | (at_builtin; refine wpl_args rfl (.tmp 37) (.tmp 40) rfl HS8.out HT8.out (HL8.out.sub (L' := [(w.heap.size + 1 + 1, .cells #[.string ⟨#[]⟩, .bool false, .int .u8 85, .int .i64 0, .string n.name, av, .slice none 0 0, .slice none 0 0] 88), (w.heap.size + 1, .cells #[.string ⟨#[]⟩, .bool false] 57), (w.heap.size, .cells #[.int .u8 n.kind, .int .i64 n.num, .string n.name, .slice (some ⟨b, off, none⟩) n.kids.length kc] 35)]) (by simp)) HR8.out (by simp; omega) (by omega) (by omega) (by simp [World.setCell]; omega) (tname_small (by have := HSL.out; have := HSZ.out; omega)) (by omega) rfl rfl (by simp [World.setCell]) ?_; intro a' c' w9 s5 s6 HN))
        clear s5 s6 b5 u0 u1 y0 y1 g0 g1 b58
        obtain ⟨hS3, hT3, hL3, hR3⟩ := HN.out
        have hR : ALoop C pb po A w tv bv c4 ts bs env N true n (.slice (some ⟨b, off, none⟩) n.kids.length kc) (.int .u8 85) (.int .i64 0) (.string n.name) (q + 1) _ := ⟨by omega, A6, tv6, bv6, c46, .slice a' (Y.args.length + 1) c', by rw [HST2.out]; simp only [← List.append_assoc]; exact hS3.mono (by have := HSL.out; omega), hT3, hL3, by rw [HST2.out]; exact hR3⟩
        go_roundw
        case rel => exact ⟨q + 1, by go_num, hR⟩
        case measure => simp [intOf]; omega
      · rw [Bool.not_eq_true] at hnm
        rw [hnm]
        have HST2 := Lib.hid (HSTo.out hnm)
        clear hnm
        go_wp2_with (at_builtin; refine wpl_args rfl (.tmp 37) (.tmp 40) rfl HS4.out HT4.out (HL4.out.sub (L' := [(w.heap.size + 1 + 1, .cells #[.string ⟨#[]⟩, .bool false, .int .u8 85, .int .i64 0, .string n.name, av, .slice none 0 0, .slice none 0 0] 88), (w.heap.size + 1, .cells #[.string ⟨#[]⟩, .bool false] 57), (w.heap.size, .cells #[.int .u8 n.kind, .int .i64 n.num, .string n.name, .slice (some ⟨b, off, none⟩) n.kids.length kc] 35)]) (by simp)) HR4.out (by simp; omega) (by omega) (by omega) (by omega) hxs.1 (by omega) rfl rfl rfl ?_; intro a' c' w5 s5 s6 HN)
        clear s5 s6 b5 u0 u1
        obtain ⟨hS3, hT3, hL3, hR3⟩ := HN.out
        have hR : ALoop C pb po A w tv bv c4 ts bs env N true n (.slice (some ⟨b, off, none⟩) n.kids.length kc) (.int .u8 85) (.int .i64 0) (.string n.name) (q + 1) _ := ⟨by omega, A1, tv1, bv1, c41, .slice a' (Y.args.length + 1) c', by rw [HST2.out, ← List.append_assoc]; exact hS3.mono (by have := HSL.out; omega), hT3, hL3, by rw [HST2.out]; exact hR3⟩
        go_roundw
        case rel => exact ⟨q + 1, by go_num, hR⟩
        case measure => simp [intOf]; omega
    · obtain rfl : q = n.kids.length := by omega
      rw [List.take_length] at hS hR
      have hal := args_len2 C.lib true n.kids env ts
      have hy := args_len C.lib true n.kids env ts
      generalize argsN C.lib true n.kids env ts = Y at *
      have hsz := HSZ.out
      obtain ⟨aa, ca, rfl⟩ := hR.form
      obtain ⟨hS2, hT2, hA2, hLL⟩ := shut_args hS hT hR (by omega) (by unfold maxLen; omega)
      have hL2 := hLL _ hL (by simp; omega)
      clear hLL
      generalize hA' : (fun k => Aq k ∨ (Value.slice aa Y.args.length ca).ownBlock = some k) = A2 at *
      clear hA'
      rcases find_cases C.lib n.name with ⟨j, hj, e1, e2, e3⟩ | e1
      · have E1 := Lib.hid e1
        have E2 := Lib.hid e2
        have hlib := VSt.lib hS2
        obtain ⟨hll, la, lc, hlv⟩ := hlib.form
        unfold maxLen at hll
        have HLV := Lib.hid hlv
        rw [hlv] at hlib
        obtain ⟨bl, ol, cl, pal, pcl, kal, kcl, he, hbl, _, hblA, l0, l1, l2, _⟩ := hlib.at hj
        simp only [Value.slice.injEq] at he
        obtain ⟨rfl, -, rfl⟩ := he
        have v0 : wr.cell? ⟨C.bV, 0, none⟩ = some (.slice (some ⟨bl, ol, none⟩) C.lib.length lc) := by rw [← hlv]; exact cell_blk (VSt.vis hS2) 0 rfl
        obtain ⟨b0, b1, b2, b3, b4, b5, b6, b7⟩ := cells8 (hL.blk (List.mem_cons_self ..))
        have k2 : wr.cell? ⟨w.heap.size, 2, none⟩ = some (.string n.name) := cell_blk (hL.blk (g := w.heap.size) (List.mem_cons_of_mem _ (List.mem_cons_of_mem _ (List.mem_cons_self ..)))) 2 rfl
        have HCB : Hid (∀ w1, Below wr.heap.size wr w1 → Calls Tryz.prog 133 _ w1 _) := Lib.hid (fun w1 hb => bind_st C pb po _ w1 tvq bvq c4q Y.ts (bs ++ Y.bs) Y.env _ ⟨#[]⟩ n.name false (at' C.lib j).list 85 0 _ _ _ Y.args [] [] (hS2.below hb) (hA2.stays (Stays.of_below hb)) (BdsAt.nil _) (BdsAt.nil _) (by omega) (by unfold In64; omega) hs (by omega) (by rw [List.length_append]; omega))
        have hD : Below wr.heap.size wr wr.drew := below_drewN (Below.refl _ _) 1
        have HFI := Lib.hid (find_any _ C.lib n.name A2 wr.drew (hlib.stays (Stays.of_below hD)))
        have HL2 := Lib.hid hL2
        have HT2 := Lib.hid hT2
        have HS2 := Lib.hid hS2
        have HLB := Lib.hid hlib
        have i0 : (0 : Int) ≤ (j : Int) := by omega
        have i1 : (j : Int) < (C.lib.length : Int) := by omega
        have hlt : ¬ (n.kids.length : Int) < (n.kids.length : Int) := by omega
        clear hS hT hL hR hS2 hT2 hA2 hL2 hal hy hsz e1 e2 e3 hlib hlv
        go_wp2
        have HSA : Hid (∀ w1, Below wr.heap.size wr w1 → w1.cell? ⟨C.bV, 0, none⟩ = some (.slice (some ⟨bl, ol, none⟩) C.lib.length lc) ∧ w1.cell? ⟨w.heap.size, 2, none⟩ = some (.string n.name) ∧ w1.cell? ⟨bl, ol + j * 7 + 2, none⟩ = some (.bool (at' C.lib j).list) ∧ w1.cell? ⟨w.heap.size + 1 + 1, 0, none⟩ = some (.string ⟨#[]⟩) ∧ w1.cell? ⟨w.heap.size + 1 + 1, 1, none⟩ = some (.bool false) ∧ w1.cell? ⟨w.heap.size + 1 + 1, 2, none⟩ = some (.int .u8 85) ∧ w1.cell? ⟨w.heap.size + 1 + 1, 3, none⟩ = some (.int .i64 0) ∧ w1.cell? ⟨w.heap.size + 1 + 1, 4, none⟩ = some (.string n.name) ∧ w1.cell? ⟨w.heap.size + 1 + 1, 5, none⟩ = some (.slice aa Y.args.length ca) ∧ w1.cell? ⟨w.heap.size + 1 + 1, 6, none⟩ = some (.slice none 0 0) ∧ w1.cell? ⟨w.heap.size + 1 + 1, 7, none⟩ = some (.slice none 0 0)) := Lib.hid (fun w1 hb => ⟨(hb.cell (p := ⟨C.bV, 0, none⟩) (VSt.vis HS2.out).lt).trans v0, (hb.cell (p := ⟨w.heap.size, 2, none⟩) (HL2.out.lt (p := (w.heap.size, _)) (List.mem_cons_of_mem _ (List.mem_cons_of_mem _ (List.mem_cons_self ..))))).trans k2, (hb.cell (p := ⟨bl, ol + j * 7 + 2, none⟩) hbl).trans l2, cells8 ((HL2.out.below hb).blk (List.mem_cons_self ..))⟩)
        have HSB : Hid (∀ w1, Below wr.heap.size wr w1 → ∀ X, Keeps w1 X (fun k => Mu C pb tvq bvq k ∨ k = w.heap.size + 1) → X.cell? ⟨C.bV, 0, none⟩ = some (.slice (some ⟨bl, ol, none⟩) C.lib.length lc) ∧ X.cell? ⟨w.heap.size, 2, none⟩ = some (.string n.name) ∧ X.cell? ⟨bl, ol + j * 7 + 2, none⟩ = some (.bool (at' C.lib j).list) ∧ X.cell? ⟨w.heap.size + 1 + 1, 0, none⟩ = some (.string ⟨#[]⟩) ∧ X.cell? ⟨w.heap.size + 1 + 1, 1, none⟩ = some (.bool false) ∧ X.cell? ⟨w.heap.size + 1 + 1, 2, none⟩ = some (.int .u8 85) ∧ X.cell? ⟨w.heap.size + 1 + 1, 3, none⟩ = some (.int .i64 0) ∧ X.cell? ⟨w.heap.size + 1 + 1, 4, none⟩ = some (.string n.name) ∧ X.cell? ⟨w.heap.size + 1 + 1, 5, none⟩ = some (.slice aa Y.args.length ca) ∧ X.cell? ⟨w.heap.size + 1 + 1, 6, none⟩ = some (.slice none 0 0) ∧ X.cell? ⟨w.heap.size + 1 + 1, 7, none⟩ = some (.slice none 0 0)) := Lib.hid (fun w1 hb X hK => by
          have hL1 := HL2.out.below hb
          obtain ⟨a1, a2, a3, a4⟩ := HSA.out w1 hb
          have hr : (w.heap.size + 1, Obj.cells #[.string ⟨#[]⟩, .bool false] 57 (0, 0)) ∈ [(w.heap.size + 1 + 1, Obj.cells #[.string ⟨#[]⟩, .bool false, .int .u8 85, .int .i64 0, .string n.name, .slice aa Y.args.length ca, .slice none 0 0, .slice none 0 0] 88 (0, 0)), (w.heap.size + 1, .cells #[.string ⟨#[]⟩, .bool false] 57 (0, 0)), (w.heap.size, .cells #[.int .u8 n.kind, .int .i64 n.num, .string n.name, .slice ka n.kids.length kc] 35 (0, 0))] := List.mem_cons_of_mem _ (List.mem_cons_self ..)
          have hAn : ∀ k, A2 k → ¬ (Mu C pb tvq bvq k ∨ k = w.heap.size + 1) := by
            rintro k a (e | e)
            · exact VSt.mutA HS2.out k e a
            · subst e; exact (hL1 _ hr).2.1 a
          have hb2 : X.heap[w.heap.size + 1 + 1]? = _ := (hK.block _ (hL1.lt (List.mem_cons_self ..)) (by rintro (e | e); exact (hL1 _ (List.mem_cons_self ..)).2.2 e; omega)).trans (hL1.blk (List.mem_cons_self ..))
          obtain ⟨m1, _, m3⟩ := hL1 (w.heap.size, Obj.cells #[.int .u8 n.kind, .int .i64 n.num, .string n.name, .slice ka n.kids.length kc] 35 (0, 0)) (by simp)
          have hb0 : X.heap[w.heap.size]? = _ := (hK.block _ (by have m1' := m1; rw [Array.getElem?_eq_some_iff] at m1'; exact m1'.1) (by rintro (e | e); exact m3 e; omega)).trans m1
          exact ⟨(hK.cell (p := ⟨C.bV, 0, none⟩) (VSt.vis (HS2.out.below hb)).lt (hAn _ (VSt.visA HS2.out))).trans a1, cell_blk hb0 2 rfl, (hK.cell (p := ⟨bl, ol + j * 7 + 2, none⟩) (Nat.lt_of_lt_of_le hbl hb.size) (hAn _ hblA)).trans a3, cells8 hb2⟩)
        go_region_held3 (fun w' => w'.cell? ⟨C.bV, 0, none⟩ = some (.slice (some ⟨bl, ol, none⟩) C.lib.length lc) ∧ w'.cell? ⟨w.heap.size, 2, none⟩ = some (.string n.name) ∧ w'.cell? ⟨bl, ol + j * 7 + 2, none⟩ = some (.bool (at' C.lib j).list) ∧ w'.cell? ⟨w.heap.size + 1 + 1, 0, none⟩ = some (.string ⟨#[]⟩) ∧ w'.cell? ⟨w.heap.size + 1 + 1, 1, none⟩ = some (.bool false) ∧ w'.cell? ⟨w.heap.size + 1 + 1, 2, none⟩ = some (.int .u8 85) ∧ w'.cell? ⟨w.heap.size + 1 + 1, 3, none⟩ = some (.int .i64 0) ∧ w'.cell? ⟨w.heap.size + 1 + 1, 4, none⟩ = some (.string n.name) ∧ w'.cell? ⟨w.heap.size + 1 + 1, 5, none⟩ = some (.slice aa Y.args.length ca) ∧ w'.cell? ⟨w.heap.size + 1 + 1, 6, none⟩ = some (.slice none 0 0) ∧ w'.cell? ⟨w.heap.size + 1 + 1, 7, none⟩ = some (.slice none 0 0))
          (first | exact HSA.out _ (Below.refl _ _) | exact HSA.out _ hD | exact HSA.out _ hb1 | exact HSB.out _ hb1 _ hK5 | exact HSB.out _ hb1 _ ((hK5.same ((keeps_set _ _ _ _).mono (fun k e => .inr e))).same ((keeps_set _ _ _ _).mono (fun k e => .inr e))))
          (first
          | (go_at_call 90; refine HFI.out.mono ?_; rintro e w1 ⟨rfl, hb1'⟩; rw [E1.out]; have hb1 := hD.trans (hb1'.mono hD.size); have HL3 := Lib.hid (HL2.out.below hb1))
          | (go_at_call 133; refine (HCB.out w1 hb1).mono ?_; rintro e w5 ⟨rfl, A5, tv5, bv5, c45, hS5, hT5⟩; have hK5 : Keeps w1 w5 (fun k => Mu C pb tvq bvq k ∨ k = w.heap.size + 1) := hT5.keeps.mono (fun k e => .inl e); have hL5 := (HL3.out.step hT5).sub (L' := [(w.heap.size + 1, .cells #[.string ⟨#[]⟩, .bool false] 57)]) (by simp); have hR5 := hL5.blk (List.mem_cons_self ..); have r0 : w5.cell? ⟨w.heap.size + 1, 0, none⟩ = some (.string ⟨#[]⟩) := cell_blk hR5 0 rfl; have r1 : w5.cell? ⟨w.heap.size + 1, 1, none⟩ = some (.bool false) := cell_blk hR5 1 rfl; have f0 := unfrozen hR5 0; have f1 := unfrozen hR5 1; have HS5 := Lib.hid hS5; have HL5 := Lib.hid hL5; have HT5 := Lib.hid ((HT2.out.below hb1).trans hT5); clear hR5 hS5 hL5 hT5))
        all_goals
          clear b0 b1 b2 b3 b4 b5 b6 b7 v0 k2
          go_wp2
          (try simp only [Exit.inBlock, Exit.then])
          have hL6 := HL5.out.set 0 (.string (tname Y.ts.length)) (by simp)
          have hL7 := hL6.set 1 (.bool (at' C.lib j).list) (by simp)
          have hS7 := (HS5.out.setLoc HL5.out (List.mem_cons_self ..) 0 (.string (tname Y.ts.length))).setLoc hL6 (List.mem_cons_self ..) 1 (.bool (at' C.lib j).list)
          refine bodyPost_ret (results_cell_row (P := Tryz.prog) rfl _ _ (w.heap.size + 1) _ _ _ _ rfl (hL7.blk (List.mem_cons_self ..)) Tryz.underlying57 rfl (by kernel_rfl)) rfl ?_
          rw [HEQ.out, E2.out]
          refine ⟨rfl, A5, tv5, bv5, c45, ?_, ?_⟩
          · rw [← List.append_assoc]; exact hS7.mono (by have := HSZ.out; omega)
          · exact HT5.out.young ((keeps_set _ (w.heap.size + 1) 0 _).same (keeps_set _ (w.heap.size + 1) 1 _)) (fun k e => by omega)
      · have := known_call HKN.out H85.out
        omega
end Go.Proofs.YtehmmokkjojggabGreatDoor
/- The visitor of package anf: a branch of an if. -/
namespace Go.Proofs.YtehmmokkjojggabGreatDoor
set_option linter.unusedVariables false
open Go.RowKit

/-- the state with a new row of binds in a variable of its own -/
theorem St.sub {C : VC} {pb po N : Nat} {A : Nat → Prop} {w : World} {tv bv c4 : Value} {ts : List Par} {bs : List Bd} {env : Env} (h : St C pb po A w tv bv c4 ts bs env N) {W : World} (hb : Below w.heap.size w W) {g : Nat} (hg : w.heap.size ≤ g) (hW : W.heap[g]? = some (.cells #[.slice none 0 0] 29 (0, 0))) :
    St C g 0 A W tv (.slice none 0 0) c4 ts [] env N := by
  have h1 := VSt.below h hb
  have hlt := VSt.mutlt h
  have hne : ∀ k, k < w.heap.size → k ≠ g := fun k hk e => by omega
  have hnone : ∀ k, (Value.slice none 0 0).ownBlock ≠ some k := fun k e => by simp [Value.ownBlock] at e
  exact {
    out := h1.out
    vis := h1.vis
    lib := h1.lib
    map := h1.map
    ptr := .inr ⟨(hne _ (VSt.out h).lt).symm, rfl, hW⟩
    row := BdsOwn.nil _
    tab := h1.tab
    tabA := h1.tabA
    visA := h1.visA
    alt := h1.alt
    mutA := by
      rintro k (e | e | e | e | e) a
      · exact h1.mutA k (.inl e) a
      · exact h1.mutA k (.inr (.inl e)) a
      · have := VSt.alt h k a; omega
      · exact h1.mutA k (.inr (.inr (.inr (.inl e)))) a
      · exact hnone k e
    bobm := h1.bobm
    pbbm := fun e => by have := (VSt.map h).lt; omega
    tvbm := h1.tvbm
    tvpb := fun e => by have := hlt g (.inr (.inr (.inr (.inl e)))); omega
    bvbo := hnone _
    bvbm := hnone _
    bvpb := hnone _
    sep := fun k _ e => hnone k e }

/-- and back: the outer row is as it was -/
theorem St.back {C : VC} {pb po N N1 g : Nat} {A A1 : Nat → Prop} {w W w1 : World} {tv bv c4 tv1 bv1 c41 : Value} {ts ts1 : List Par} {bs bs1 : List Bd} {env env1 : Env} (h : St C pb po A w tv bv c4 ts bs env N) (hb : Below w.heap.size w W) (hg : w.heap.size ≤ g) (hgW : g < W.heap.size)
    (h1 : St C g 0 A1 w1 tv1 bv1 c41 ts1 bs1 env1 N1) (hs : Step C g A W tv (.slice none 0 0) c4 A1 w1 tv1 bv1 c41) :
    St C pb po A1 w1 tv1 bv c4 ts1 bs env1 N1 ∧ Keeps w w1 (Mu C pb tv bv) ∧ (∀ k, bv1.ownBlock = some k → W.heap.size ≤ k ∧ k < w1.heap.size ∧ ¬ Mu C pb tv1 bv k ∧ ¬ A1 k) := by
  have hW := VSt.below h hb
  have hlt := VSt.mutlt h
  have hc4 : c41 = c4 := hs.hc4 (fun e => by have := (VSt.out h).lt; omega)
  subst hc4
  have hnone : ∀ k, (Value.slice none 0 0).ownBlock ≠ some k := fun k e => by simp [Value.ownBlock] at e
  have hsz := hb.size
  have hMg : ∀ k, k < w.heap.size → Mu C g tv (.slice none 0 0) k → k = C.bo ∨ k = C.bm ∨ tv.ownBlock = some k := by
    rintro k hk (e | e | e | e | e)
    · exact .inl e
    · exact .inr (.inl e)
    · omega
    · exact .inr (.inr e)
    · exact absurd e (hnone k)
  have hpb : pb < w.heap.size := hlt pb (.inr (.inr (.inl rfl)))
  have hbvlt : ∀ k, bv.ownBlock = some k → k < w.heap.size := fun k e => hlt k (.inr (.inr (.inr (.inr e))))
  have hbv1 : ∀ k, bv1.ownBlock = some k → W.heap.size ≤ k := fun k e => by
    rcases hs.nbv k e with e | e
    · exact absurd e (hnone k)
    · exact e
  have hA1 : ∀ k, k < w.heap.size → A1 k → A k := fun k hk a => by
    rcases hs.new k a with a | a
    · exact a
    · omega
  have htv1 : ∀ k, k < w.heap.size → tv1.ownBlock = some k → tv.ownBlock = some k := fun k hk e => by
    rcases hs.ntv k e with e | e
    · exact e
    · omega
  refine ⟨?_, ?_, ?_⟩
  · exact {
      out := VSt.out h1
      vis := VSt.vis h1
      lib := VSt.lib h1
      map := VSt.map h1
      ptr := by
        rcases VSt.ptr hW with e | ⟨e0, e1, e2⟩
        · exact .inl e
        · refine .inr ⟨e0, e1, (hs.keeps.block pb (by omega) (fun m => ?_)).trans e2⟩
          rcases hMg pb hpb m with e | e | e
          · exact e0 e
          · exact VSt.pbbm h e
          · exact VSt.tvpb h e
      row := by
        have hr := (VSt.row hW).keeps (S := Mu C g tv (.slice none 0 0)) hs.keeps (fun k a m => by
          have hk := VSt.alt h k a
          rcases hMg k hk m with e | e | e
          · exact VSt.mutA h k (.inl e) a
          · exact VSt.mutA h k (.inr (.inl e)) a
          · exact VSt.mutA h k (.inr (.inr (.inr (.inl e)))) a) (fun k e m => by
          rcases hMg k (hbvlt k e) m with e' | e' | e'
          · exact VSt.bvbo h (e' ▸ e)
          · exact VSt.bvbm h (e' ▸ e)
          · exact VSt.sep h k e' e)
        exact hr.mono hs.up
      tab := VSt.tab h1
      tabA := VSt.tabA h1
      visA := VSt.visA h1
      alt := VSt.alt h1
      mutA := by
        rintro k (e | e | e | e | e) a
        · exact VSt.mutA h1 k (.inl e) a
        · exact VSt.mutA h1 k (.inr (.inl e)) a
        · subst e; exact VSt.mutA h k (.inr (.inr (.inl rfl))) (hA1 k hpb a)
        · exact VSt.mutA h1 k (.inr (.inr (.inr (.inl e)))) a
        · exact VSt.mutA h k (.inr (.inr (.inr (.inr e)))) (hA1 k (hbvlt k e) a)
      bobm := VSt.bobm h
      pbbm := VSt.pbbm h
      tvbm := VSt.tvbm h1
      tvpb := fun e => VSt.tvpb h (htv1 pb hpb e)
      bvbo := VSt.bvbo h
      bvbm := VSt.bvbm h
      bvpb := VSt.bvpb h
      sep := fun k e1 e2 => VSt.sep h k (htv1 k (hbvlt k e2) e1) e2 }
  · refine (Keeps.of_below _ hb).trans hs.keeps (fun k m => ?_)
    by_cases hk : k < w.heap.size
    · rcases hMg k hk m with e | e | e
      · exact .inl (.inl e)
      · exact .inl (.inr (.inl e))
      · exact .inl (.inr (.inr (.inr (.inl e))))
    · exact .inr (by omega)
  · intro k e
    have hk := hbv1 k e
    refine ⟨hk, VSt.mutlt h1 k (.inr (.inr (.inr (.inr e)))), ?_, VSt.mutA h1 k (.inr (.inr (.inr (.inr e))))⟩
    rintro (e' | e' | e' | e' | e')
    · exact VSt.bvbo h1 (e' ▸ e)
    · exact VSt.bvbm h1 (e' ▸ e)
    · omega
    · exact VSt.sep h1 k e' e
    · have := hbvlt k e'; omega

/-- the bytes of a bind's cells -/
theorem bind_cells {A : Nat → Prop} {w : World} {tn : ByteArray} {l : Bool} {av : Value} {s : ByteArray} (hto : tn.size ≤ maxLen) (ha : StrsAt A w av [s]) :
    BdCells A w (fun i => vat [.string tn, .bool l, .int .u8 81, .int .i64 0, .string ⟨#[]⟩, av, .slice none 0 0, .slice none 0 0] i) (varB tn l s) :=
  ⟨rfl, rfl, rfl, rfl, rfl, ha, BdsAt.nil _, BdsAt.nil _, hto, ⟨by show (0 : Int) ≤ 81; omega, by show (81 : Int) ≤ 255; omega⟩, by show In64 0; unfold In64; omega, Nat.zero_le _⟩

/-- what a branch leaves -/
def BrPost (C : VC) (pb po : Nat) (A : Nat → Prop) (w : World) (tv bv c4 : Value) (bs : List Bd) (N : Nat) (g9 i : Nat) (X : XR) (e : Ending) (w' : World) : Prop :=
  ∃ rv A' tv', e = .returned rv ∧ St C pb po A' w' tv' bv c4 (setTy X.ts i X.par.list) bs X.env N ∧ Keeps w w' (fun k => Mu C pb tv bv k ∨ k = g9) ∧ (∀ k, A k → A' k) ∧ (∀ k, A' k → A k ∨ w.heap.size ≤ k) ∧ NewOr w tv tv' ∧
    BdsAt A' w' rv (X.bs ++ [varB (at' (setTy X.ts i X.par.list) i).name (at' (setTy X.ts i X.par.list) i).list X.par.name]) ∧ w'.heap[g9]? = some (.cells #[.string (at' (setTy X.ts i X.par.list) i).name, .bool (at' (setTy X.ts i X.par.list) i).list] 57 (0, 0))

theorem Locs.inner {C : VC} {pb g : Nat} {A : Nat → Prop} {tv bv : Value} {w : World} {L : List (Nat × Obj)} (h : Locs C pb A tv bv w L) (hg : w.heap.size ≤ g) : Locs C g A tv (.slice none 0 0) w L := fun p hp => by
  obtain ⟨h1, h2, h3⟩ := h p hp
  refine ⟨h1, h2, ?_⟩
  have := h.lt hp
  rintro (e | e | e | e | e)
  · exact h3 (.inl e)
  · exact h3 (.inr (.inl e))
  · omega
  · exact h3 (.inr (.inr (.inr (.inl e))))
  · simp [Value.ownBlock] at e

/-- a literal row of one name that stays -/
theorem strs_one' {A : Nat → Prop} {w : World} {g : Nat} {s : ByteArray} (h : w.heap[g]? = some (.cells #[.string s] 9 (0, 0))) (hA : A g) (hs : s.size ≤ maxLen) : StrsAt A w (.slice (some ⟨g, 0, none⟩) 1 1) [s] := by
  refine ⟨fun j i => .string s, ⟨by unfold maxLen; simp, _, 1, rfl, by simp, nofun, fun _ => ⟨g, 0, rfl, by rw [Array.getElem?_eq_some_iff] at h; exact h.1, hA, fun j hj i hi => ?_⟩⟩, fun j hj => ?_⟩
  · obtain rfl : j = 0 := by simp at hj; omega
    obtain rfl : i = 0 := by omega
    exact cell_blk h 0 rfl
  · obtain rfl : j = 0 := by simp at hj; omega
    exact ⟨rfl, hs⟩

/-- behind the append of a branch -/
theorem branch_end {C : VC} {pb po N g9 : Nat} {A A1 : Nat → Prop} {w W w2 w3 W4 w5 : World} {tv bv c4 tv1 bv1 v' : Value} {ts1 : List Par} {bs bs1 : List Bd} {env1 : Env} {t : Par} {s : ByteArray} {xs : List Value}
    (hSo : St C pb po A1 w2 tv1 bv c4 ts1 bs env1 N) (hKo : Keeps w w2 (Mu C pb tv bv)) (hup : ∀ k, A k → A1 k) (hnew : ∀ k, A1 k → A k ∨ w.heap.size ≤ k) (hntv : NewOr w tv tv1) (hWw : w.heap.size ≤ W.heap.size)
    (hbv1 : ∀ k, bv1.ownBlock = some k → W.heap.size ≤ k ∧ k < w2.heap.size ∧ ¬ Mu C pb tv1 bv k ∧ ¬ A1 k) {p0 p1 : Value} (hL9 : Locs C pb A1 tv1 bv w2 [(g9, .cells #[p0, p1] 57 (0, 0))]) (hg9 : g9 < w.heap.size)
    {gs : Nat} (hgs : gs = w3.heap.size) (hw3 : w3 = (w2.setCell ⟨g9, 0, none⟩ (.string t.name)).setCell ⟨g9, 1, none⟩ (.bool t.list)) (hW4 : W4 = (w3.alloc (.cells #[.string s] 9)).alloc (.cells #[.string t.name, .bool t.list, .int .u8 81, .int .i64 0, .string ⟨#[]⟩, .slice (some ⟨gs, 0, none⟩) 1 1, .slice none 0 0, .slice none 0 0] 88))
    (hrow : w2.ownsRow 0 88 8 bv1 bs1.length xs) (hcs : ∀ j, j < bs1.length → BdCells A1 w2 (fun i => vat xs (j * 8 + i)) (at' bs1 j)) (hs : s.size ≤ maxLen) (ht : t.name.size ≤ maxLen) (hlen : bs1.length < 200000)
    (hown : w5.ownsRow 0 88 8 v' (bs1.length + 1) (xs ++ [.string t.name, .bool t.list, .int .u8 81, .int .i64 0, .string ⟨#[]⟩, .slice (some ⟨gs, 0, none⟩) 1 1, .slice none 0 0, .slice none 0 0])) (hg : W4.grownBy w5 bv1.ownBlock) (hn : NewOr W4 bv1 v') :
    ∃ A', St C pb po A' w5 tv1 bv c4 ts1 bs env1 N ∧ Keeps w w5 (fun k => Mu C pb tv bv k ∨ k = g9) ∧ (∀ k, A k → A' k) ∧ (∀ k, A' k → A k ∨ w.heap.size ≤ k) ∧ NewOr w tv tv1 ∧ BdsAt A' w5 v' (bs1 ++ [varB t.name t.list s]) ∧ w5.heap[g9]? = some (.cells #[.string t.name, .bool t.list] 57 (0, 0)) := by
  subst hgs
  have hkk : Keeps w2 w3 (fun k => k = g9) := by rw [hw3]; exact (keeps_set w2 g9 0 _).same (keeps_set _ g9 1 _)
  have hL9b := (hL9.set 0 (.string t.name) (by simp)).set 1 (.bool t.list) (by simp)
  have hS3 : St C pb po A1 w3 tv1 bv c4 ts1 bs env1 N := by
    rw [hw3]; exact (hSo.setLoc hL9 (List.mem_cons_self ..) 0 _).setLoc (hL9.set 0 _ (by simp)) (List.mem_cons_self ..) 1 _
  rw [← hw3] at hL9b
  have hB4 : Below w3.heap.size w3 W4 := by rw [hW4]; exact ((Below.refl _ _).alloc (Nat.le_refl _) _).alloc (by simp) _
  have hk5 : Keeps W4 w5 (fun k => bv1.ownBlock = some k) := Keeps.of_grown (S := fun k => bv1.ownBlock = some k) hg (fun k e => .inl e)
  have hsz23 : w3.heap.size = w2.heap.size := by rw [hw3]; simp [World.setCell]
  have hszw := hKo.size
  have hszb := hB4.size
  have hW4s : W4.heap.size = w3.heap.size + 2 := by rw [hW4]; simp
  have hk35 : Keeps w3 w5 (fun k => bv1.ownBlock = some k) := (Keeps.of_below _ hB4).trans hk5 (fun k e => .inl e)
  have hn3 : ∀ k, v'.ownBlock = some k → bv1.ownBlock = some k ∨ w3.heap.size ≤ k := fun k e => by
    rcases hn k e with e | e
    · exact .inl e
    · exact .inr (by omega)
  have hS5 : St C pb po A1 w5 tv1 bv c4 ts1 bs env1 N := hS3.young hk35 (fun k a e => (hbv1 k e).2.2.2 a) (fun k m e => (hbv1 k e).2.2.1 m)
  have hlit : w5.heap[w3.heap.size]? = some (.cells #[.string s] 9 (0, 0)) := by
    refine (hk5.block w3.heap.size (by omega) (fun e => by have := (hbv1 _ e).2.1; omega)).trans ?_
    rw [hW4, Below.heap_alloc _ _ _ (by simp)]; exact heap_alloc_new w3 _
  have hst : Stays A1 (fun k => A1 k ∨ k = w3.heap.size) w2 w5 := by
    refine ⟨by have := hk35.size; omega, fun b hb a => ⟨(hk35.block b (by omega) (fun e => (hbv1 b e).2.2.2 a)).trans (hkk.block b hb (fun e => (hL9 _ (List.mem_cons_self ..)).2.1 (by rw [show g9 = b from (e : b = g9).symm]; exact a))), .inl a⟩⟩
  refine ⟨fun k => (A1 k ∨ k = w3.heap.size) ∨ v'.ownBlock = some k, hS5.more (fun k a => .inl (.inl a)) (fun k a => ?_), ?_, fun k a => .inl (.inl (hup k a)), fun k a => ?_, hntv, ?_, ?_⟩
  · rcases a with (a | a) | a
    · exact .inl a
    · subst a; exact .inr ⟨by have := hk5.size; omega, fun m => by have := hS3.mlt m; omega⟩
    · refine .inr ⟨(hown.lt k a).2, ?_⟩
      rcases hn3 k a with e | e
      · exact (hbv1 k e).2.2.1
      · exact fun m => by have := hS3.mlt m; omega
  · refine ((hKo.mono (fun k e => .inl e)).trans hkk (fun k e => .inl (.inr e))).trans hk35 (fun k e => .inr ?_)
    have := (hbv1 k e).1; omega
  · rcases a with (a | a) | a
    · exact hnew k a
    · exact .inr (by omega)
    · rcases hn3 k a with e | e
      · exact .inr (by have := (hbv1 k e).1; omega)
      · exact .inr (by omega)
  · refine (BdsOwn.snoc hown hrow.1 (fun j hj => (hcs j hj).stays hst) (bind_cells ht (strs_one' hlit (.inr rfl) hs))).shut (fun k a => .inl a) (fun k e => .inr e) ?_
    unfold maxLen; simp; omega
  · exact (hk35.block g9 (by omega) (fun e => by have := (hbv1 _ e).1; omega)).trans (hL9b.blk (List.mem_cons_self ..))
end Go.Proofs.YtehmmokkjojggabGreatDoor
/- The visitor of package anf: the walk of a branch of an if. -/
namespace Go.Proofs.YtehmmokkjojggabGreatDoor
set_option linter.unusedVariables false
open Go.RowKit

theorem src8' (w : World) (g : Nat) (hg : g = w.heap.size) (v0 v1 v2 v3 v4 v5 v6 v7 : Value) (e : TypeId) : ∀ j u, [v0, v1, v2, v3, v4, v5, v6, v7][j]? = some u → (w.alloc (.cells #[v0, v1, v2, v3, v4, v5, v6, v7] e)).cell? ((⟨g, 0, none⟩ : Addr).add j) = some u := by
  subst hg; exact src8 w v0 v1 v2 v3 v4 v5 v6 v7 e
theorem branch_row {w : World} {base e size n : Nat} {v : Value} {xs : List Value} (h : w.ownsRow base e size v n xs) {g9 : Nat} (hne : ∀ k, v.ownBlock = some k → ¬ k = g9) (a b : Value) : ∀ o1 o2 : Obj, ((((w.setCell ⟨g9, 0, none⟩ a).setCell ⟨g9, 1, none⟩ b).alloc o1).alloc o2).ownsRow base e size v n xs := fun o1 o2 =>
  row_below (row_below (row_keeps (row_keeps h (keeps_set w g9 0 a) hne) (keeps_set _ g9 1 b) hne) ((Below.refl _ _).alloc (Nat.le_refl _) _)) ((Below.refl _ _).alloc (Nat.le_refl _) _)
theorem branch_loc {C : VC} {pb g g9 : Nat} {A A1 : Nat → Prop} {w W w2 : World} {tv bv c4 tv1 bv1 c41 nv : Value} {L L2 : List (Nat × Obj)} {o : Obj} (h : Locs C pb A tv bv w L) (h2 : Locs C g A1 tv1 bv1 w2 L2) (hs : Step C g A W tv nv c4 A1 w2 tv1 bv1 c41) (hb : Below w.heap.size w W) (hm : (g9, o) ∈ L) (hm2 : (g9, o) ∈ L2) : Locs C pb A1 tv1 bv w2 [(g9, o)] := fun p hp => by
  simp only [List.mem_singleton] at hp
  subst hp
  obtain ⟨_, _, h3⟩ := h _ hm
  obtain ⟨e1, e2, e3⟩ := h2 _ hm2
  have hlt := h.lt hm
  have := hb.size
  refine ⟨e1, e2, ?_⟩
  rintro (e | e | e | e | e)
  · exact h3 (.inl e)
  · exact h3 (.inr (.inl e))
  · exact h3 (.inr (.inr (.inl e)))
  · rcases hs.ntv _ e with e | e
    · exact h3 (.inr (.inr (.inr (.inl e))))
    · simp only at hlt e; omega
  · exact h3 (.inr (.inr (.inr (.inr e))))
theorem branch_typed {C : VC} {g : Nat} {A A1 : Nat → Prop} {W W1 w2 : World} {tv bv c4 tv1 bv1 c41 : Value} {ts : List Par} (hT : Step C g A W tv bv c4 A1 W1 tv1 bv1 c41) (ho : OutAt w2 C.bo C.c0 C.c1 C.c2 c41 C.c5 tv1 ts) (hk : Keeps W1 w2 (fun k => tv1.ownBlock = some k)) : Step C g A W tv bv c4 A1 w2 tv1 bv1 c41 :=
  hT.trans ⟨hk.mono (fun k e => .inr (.inr (.inr (.inl e)))), fun _ a => a, fun _ a => .inl a, NewOr.refl _ _, NewOr.refl _ _, fun _ => rfl⟩

set_option maxRecDepth 100000 in
set_option maxHeartbeats 6400000 in
theorem branch_st (m : Nat) (ih : XOk m) (C : VC) (n : Nd) (v : Value) (pb po : Nat) (A : Nat → Prop) (w : World) (tv bv c4 : Value) (ts : List Par) (bs : List Bd) (env : Env) (N : Nat) (g3 g8 g9 i : Nat) (s0 : ByteArray) (l0 : Bool) (hm : sizeN n ≤ m) (hform : formedN n = true) (hkn : knownN C.lib n = true) (hv : NdAt A w v n) (hst : St C pb po A w tv bv c4 ts bs env N)
    (hL : Locs C pb A tv bv w [(g9, .cells #[.string s0, .bool l0] 57 (0, 0)), (g8, .cells #[.int .i64 i] 3 (0, 0)), (g3, .cells #[.pointer (some ⟨C.bV, 0, none⟩)] 161 (0, 0))]) (hi : i < ts.length)
    (hse : SmallE env) (hts : TsSmall ts) (hl1 : ts.length + 2 * sizeN n ≤ 100000) (hl3 : N + 2 * sizeN n ≤ 100000) :
    Calls Tryz.prog 139 #[v, .pointer (some ⟨g3, 0, none⟩), .pointer (some ⟨g8, 0, none⟩), .pointer (some ⟨g9, 0, none⟩)] w (BrPost C pb po A w tv bv c4 bs (N + 2 * sizeN n) g9 i (exprN C.lib n env ts)) := by
  obtain ⟨hok, hlen, ka, kc, rfl, hk⟩ := hv.open
  have hsp := size_pos n
  have hx1 := expr_len C.lib n env ts
  have hx2 := expr_small C.lib n env ts hse hts (by omega)
  have hA : Below w.heap.size w ((w.alloc (.cells #[.int .u8 n.kind, .int .i64 n.num, .string n.name, .slice ka n.kids.length kc] 35)).alloc (.cells #[.slice none 0 0] 29)) := ((Below.refl _ _).alloc (Nat.le_refl _) _).alloc (by simp) _
  have hng := at_new w (.cells #[.int .u8 n.kind, .int .i64 n.num, .string n.name, .slice ka n.kids.length kc] 35) (.cells #[.slice none 0 0] 29)
  have hS0 := hst.sub hA (g := w.heap.size + 1) (by omega) hng
  have hL0 := (hL.inner (g := w.heap.size + 1) (by omega)).below hA
  have hb3 := hL0.blk (g := g3) (List.mem_cons_of_mem _ (List.mem_cons_of_mem _ (List.mem_cons_self ..)))
  have p3 : ((w.alloc (.cells #[.int .u8 n.kind, .int .i64 n.num, .string n.name, .slice ka n.kids.length kc] 35)).alloc (.cells #[.slice none 0 0] 29)).cell? ⟨g3, 0, none⟩ = some (.pointer (some ⟨C.bV, 0, none⟩)) := cell_blk hb3 0 rfl
  have HCX := Lib.hid (ih C n _ (w.heap.size + 1) 0 A _ tv (.slice none 0 0) c4 ts [] env N hm hform hkn (hv.stays (Stays.of_below hA)) hS0 hse hts hl1 (by simp; omega) hl3)
  have hWs : w.heap.size + 1 < ((w.alloc (.cells #[.int .u8 n.kind, .int .i64 n.num, .string n.name, .slice ka n.kids.length kc] 35)).alloc (.cells #[.slice none 0 0] 29)).heap.size := by simp
  have HST := Lib.hid hst
  have HL := Lib.hid hL
  have HL0 := Lib.hid hL0
  have h9lt := hL.lt (List.mem_cons_self ..)
  have HNW : Hid (∀ A1 : Nat → Prop, (∀ k, A1 k → A k ∨ ((w.alloc (.cells #[.int .u8 n.kind, .int .i64 n.num, .string n.name, .slice ka n.kids.length kc] 35)).alloc (.cells #[.slice none 0 0] 29)).heap.size ≤ k) → ∀ k, A1 k → A k ∨ w.heap.size ≤ k) := Lib.hid (fun A1 h k a => by
    rcases h k a with a | a
    · exact .inl a
    · exact .inr (Nat.le_trans hA.size a))
  have HNT : Hid (∀ tv1, NewOr ((w.alloc (.cells #[.int .u8 n.kind, .int .i64 n.num, .string n.name, .slice ka n.kids.length kc] 35)).alloc (.cells #[.slice none 0 0] 29)) tv tv1 → NewOr w tv tv1) := Lib.hid (fun tv1 h k e => by
    rcases h k e with e | e
    · exact .inl e
    · exact .inr (Nat.le_trans hA.size e))
  clear hst hL hS0 hL0 hng hb3
  go_enter Tryz.func139, Tryz.ntmps139
  go_wp2_with (go_at_call 114; refine HCX.out.mono ?_; rintro e w1 ⟨rfl, A1, tv1, bv1, c41, hS1, hT1⟩)
  generalize exprN C.lib n env ts = X at *
  generalize ((w.alloc (.cells #[.int .u8 n.kind, .int .i64 n.num, .string n.name, .slice ka n.kids.length kc] 35)).alloc (.cells #[.slice none 0 0] 29)) = W at *
  have hL1 := (HL0.out.step hT1).alloc hS1 (.cells #[.string X.par.name, .bool X.par.list] 57)
  have hA1 : Below w1.heap.size w1 (w1.alloc (.cells #[.string X.par.name, .bool X.par.list] 57)).drew := below_drewN ((Below.refl _ _).alloc (Nat.le_refl _) _) 1
  have hS1d := hS1.below hA1
  have hT1d := hT1.below hA1
  have hL1d : Locs C (w.heap.size + 1) A1 tv1 bv1 (w1.alloc (.cells #[.string X.par.name, .bool X.par.list] 57)).drew _ := hL1.below (below_drewN (Below.refl _ _) 1)
  have v3 : (w1.alloc (.cells #[.string X.par.name, .bool X.par.list] 57)).cell? ⟨C.bV, 3, none⟩ = some (.func (.func 113) #[] #[.pointer (some ⟨C.bo, 0, none⟩)]) := cell_blk (VSt.vis (hS1.below ((Below.refl _ _).alloc (Nat.le_refl _) _))) 3 rfl
  have q3 : (w1.alloc (.cells #[.string X.par.name, .bool X.par.list] 57)).cell? ⟨g3, 0, none⟩ = some (.pointer (some ⟨C.bV, 0, none⟩)) := cell_blk (hL1.blk (g := g3) (List.mem_cons_of_mem _ (List.mem_cons_of_mem _ (List.mem_cons_of_mem _ (List.mem_cons_self ..))))) 0 rfl
  have q8 : (w1.alloc (.cells #[.string X.par.name, .bool X.par.list] 57)).cell? ⟨g8, 0, none⟩ = some (.int .i64 i) := cell_blk (hL1.blk (g := g8) (List.mem_cons_of_mem _ (List.mem_cons_of_mem _ (List.mem_cons_self ..)))) 0 rfl
  have x1 : (w1.alloc (.cells #[.string X.par.name, .bool X.par.list] 57)).cell? ⟨w1.heap.size, 1, none⟩ = some (.bool X.par.list) := cell_blk (hL1.blk (List.mem_cons_self ..)) 1 rfl
  have hw1 : w.heap.size + 1 < w1.heap.size := by have := hT1.size; omega
  have HTY := Lib.hid (typed_any _ C.bo C.c0 C.c1 C.c2 c41 C.c5 tv1 X.ts i X.par.list (VSt.out hS1d) (by omega) (by omega))
  have HS1 := Lib.hid hS1d
  have HT1 := Lib.hid hT1d
  have HL1 := Lib.hid hL1d
  clear hS1 hS1d hT1d hL1 hL1d p3 HCX
  generalize (w1.alloc (.cells #[.string X.par.name, .bool X.par.list] 57)) = W1 at *
  go_still_tail 7, (by kernel_rfl)
  change wpList _ _ _ _ _ W1.drew
  go_wp2_with (first
    | (go_at_call 113; refine HTY.out.mono ?_; rintro e w2 ⟨rfl, ho2, hk2⟩; simp only [parV]; have hT2' := branch_typed HT1.out ho2 hk2; have hS2 : St C (w.heap.size + 1) 0 A1 w2 tv1 bv1 c41 _ X.bs X.env _ := VSt.temp HS1.out ho2 (hk2.mono (fun k e => .inr e)) (NewOr.refl _ _); have hL2 := HL1.out.keeps hk2 (fun p hp e => (HL1.out p hp).2.2 (.inr (.inr (.inr (.inl e))))); have h9 := hL2.blk (g := g9) (List.mem_cons_of_mem _ (List.mem_cons_self ..)); have n0 : w2.cell? ⟨g9, 0, none⟩ = some (.string s0) := cell_blk h9 0 rfl; have n1 : w2.cell? ⟨g9, 1, none⟩ = some (.bool l0) := cell_blk h9 1 rfl; have f0 := unfrozen h9 0; have f1 := unfrozen h9 1; have y0 : w2.cell? ⟨w1.heap.size, 0, none⟩ = some (.string X.par.name) := cell_blk (hL2.blk (List.mem_cons_self ..)) 0 rfl; obtain ⟨y6, _⟩ := (VSt.ptr hS2).cell (VSt.out hS2); have HS2 := Lib.hid hS2; have HT2 := Lib.hid hT2'; have HL2 := Lib.hid hL2; obtain ⟨hSo, hKo, hbv1⟩ := HST.out.back hA (by omega) hWs hS2 hT2'; obtain ⟨xs, hrow, hcs⟩ := VSt.row hS2; have HSRC := Lib.hid (src8' ((((w2.setCell ⟨g9, 0, none⟩ (.string (at' (setTy X.ts i X.par.list) i).name)).setCell ⟨g9, 1, none⟩ (.bool (at' (setTy X.ts i X.par.list) i).list)).alloc (.cells #[.string X.par.name] 9))) (w2.heap.size + 1) (by simp [World.setCell]) (.string (at' (setTy X.ts i X.par.list) i).name) (.bool (at' (setTy X.ts i X.par.list) i).list) (.int .u8 81) (.int .i64 0) (.string ⟨#[]⟩) (.slice (some ⟨w2.heap.size, 0, none⟩) 1 1) (.slice none 0 0) (.slice none 0 0) 88); have HROW4 := Lib.hid (branch_row hrow (g9 := g9) (fun k e e2 => by have := (hbv1 k e).1; have := hA.size; omega) (.string (at' (setTy X.ts i X.par.list) i).name) (.bool (at' (setTy X.ts i X.par.list) i).list)); have HL9 := Lib.hid (branch_loc HL.out hL2 hT2' hA (List.mem_cons_self ..) (List.mem_cons_of_mem _ (List.mem_cons_self ..))); have HSO := Lib.hid hSo; have HKO := Lib.hid hKo; have HBV := Lib.hid hbv1; have HROW := Lib.hid hrow; have HCS := Lib.hid hcs; clear hS2 hT2' hL2 h9 hSo hKo hbv1 hrow hcs)
    | (at_builtin; refine wpl_append TBd rfl (by decide) rfl (.tmp 19) (.tmp 28) rfl rfl rfl (HROW4.out _ _) (.inr ⟨⟨w2.heap.size + 1, 0, none⟩, 1, rfl, HSRC.out⟩) rfl (by simp [Value.oneCell']) (by unfold maxLen; omega) (by omega) (Nat.zero_le _) ?_; intro v' w5 hown hg hn; have HE := Lib.hid (branch_end HSO.out HKO.out (fun k a => HT2.out.up k a) (HNW.out A1 (HT2.out.new)) (HNT.out tv1 HT2.out.ntv) hA.size HBV.out HL9.out h9lt (by simp [World.setCell]) rfl rfl HROW.out HCS.out hx2.1 (hx2.2.2.ty _ _ _) (by omega) hown hg hn); obtain ⟨a5, c5, rfl⟩ := row_form hown; clear hown hg hn))
  go_ret
  obtain ⟨A', r1, r2, r3, r4, r5, r6, r7⟩ := HE.out
  exact ⟨_, A', tv1, rfl, r1, r2, r3, r4, r5, r6, r7⟩
end Go.Proofs.YtehmmokkjojggabGreatDoor
