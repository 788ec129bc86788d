/- slices.Clone, Insert and Delete at []int, in this text's own words. -/
import Derived.Test.YtpeiajmgkhajoabRows
import Derived.Test.YtpeiajmgkhajoabShelf
import Derived.Test.YtpeiajmgkhajoabRow
namespace Go.Proofs.Ytpeiajmgkhajoab
set_option linter.unusedVariables false
open Go.RowKit

theorem TI : RowT Try.prog 22 3 (.int .i64 0) 1 8 := ⟨Try.underlying22, by kernel_rfl⟩

theorem getD_nth (l : List Int) (j : Nat) : l.getD j 0 = nth l j := by simp [nth, List.getD_eq_getElem?_getD]

theorem clone_any (v : Value) (l : List Int) (w : World) (hi : IntsAt w v l) :
    Calls Try.prog 25 #[v] w fun e w' => ∃ v', e = .returned v' ∧ Own w' w.heap.size 3 v' l ∧ Below w.heap.size w w' := by
  obtain ⟨h1, h2, a, cap, rfl, hn, hc⟩ := hi
  by_cases h0 : 0 < l.length
  · obtain ⟨b, off, rfl, hlt, hcell⟩ := hc h0
    refine (Any.slices_Clone_int Try.laysNm215 b off l.length cap l w (Nat.le_refl _) (by omega) (fun j hj => by rw [getD_nth]; exact hcell j hj)).mono ?_
    rintro e w' ⟨v', rfl, ho, _, hb⟩
    rw [List.take_length] at ho
    exact ⟨v', rfl, ⟨h1, h2, ho⟩, hb⟩
  · obtain rfl : l = [] := List.eq_nil_of_length_eq_zero (by omega)
    cases a with
    | none =>
      refine (Any.slices_Clone_int_nil Try.laysNm215 0 cap w).mono ?_
      rintro e w' ⟨rfl, rfl⟩
      exact ⟨_, rfl, Own.nil _ _ _, Below.refl _ _⟩
    | some a =>
      refine (Any.slices_Clone_int_zero Try.laysNm215 a cap w).mono ?_
      rintro e w' ⟨v', rfl, ho, _, hb⟩
      exact ⟨v', rfl, ⟨h1, h2, ho⟩, hb⟩

/-- cells written one behind the other into a row -/
theorem setCells_row (g : Nat) (e : TypeId) : ∀ (vs : List Value) (o : Nat) (w : World) (cur : Array Value), w.heap[g]? = some (.cells cur e (0, 0)) → o + vs.length ≤ cur.size →
    ∃ cur', (w.setCells g o vs).heap[g]? = some (.cells cur' e (0, 0)) ∧ cur'.toList = cur.toList.take o ++ vs ++ cur.toList.drop (o + vs.length) ∧ w.grownBy (w.setCells g o vs) (some g)
  | [], o, w, cur, h, ho => ⟨cur, h, by simp, World.grownBy.refl _ _⟩
  | v :: vs, o, w, cur, h, ho => by
    simp only [List.length_cons] at ho
    have hs := heap_setCell_same w g o cur e v h
    obtain ⟨cur', h1, h2, h3⟩ := setCells_row g e vs (o + 1) (w.setCell ⟨g, o, none⟩ v) (cur.setIfInBounds o v) hs (by simp; omega)
    refine ⟨cur', h1, ?_, ?_⟩
    · rw [h2, Array.toList_setIfInBounds, List.take_set, List.take_add_one, List.drop_set, if_pos (by omega)]
      have hlt : o < cur.toList.length := by simp; omega
      rw [List.getElem?_eq_getElem hlt]
      simp only [Option.toList_some, List.length_cons]
      have hmin : min o cur.size = o := by omega
      rw [List.set_append_right _ _ (by simp; omega), show o + 1 + vs.length = o + (vs.length + 1) by omega]
      simp [hmin]
    · refine ⟨h3.os, h3.tape, h3.output, Nat.le_trans (by simp [World.setCell]) h3.size, fun k hk hne => ?_⟩
      rw [World.setCells, h3.block k (by simpa [World.setCell] using hk) hne]
      exact heap_setCell_other w ⟨g, o, none⟩ k v (fun e => hne (by simp [e]))

/-- a row, written out -/
theorem row_of {w : World} {base e g n cap : Nat} {cur : Array Value} {xs : List Value} (hb : base ≤ g) (hh : w.heap[g]? = some (.cells cur e (0, 0))) (hn : n ≤ cap) (hm : cap ≤ maxLen) (hs : cur.size = cap) (hx : xs.length = n) (ht : cur.toList.take n = xs) :
    w.ownsRow base e 1 (.slice (some ⟨g, 0, none⟩) n cap) n xs := ⟨by omega, .inr ⟨g, cap, cur, rfl, hb, hh, hn, hm, by omega, by rw [Nat.mul_one]; exact ht⟩⟩

/-- a new row of given cells, with room behind them -/
theorem row_new (W : World) (base e m C : Nat) (xs : List Value) (z : Value) (hb : base ≤ W.heap.size) (hx : xs.length = m) (hC : m ≤ C) (hM : C ≤ maxLen) (hz : z.cells.size = 1) :
    (W.drew.alloc (.cells (xs.toArray ++ Builtin.zeroCells z.cells (C - m)) e)).ownsRow base e 1 (.slice (some ⟨W.heap.size, 0, none⟩) m C) m xs ∧ W.grownBy (W.drew.alloc (.cells (xs.toArray ++ Builtin.zeroCells z.cells (C - m)) e)) none := by
  refine ⟨row_of (cur := xs.toArray ++ Builtin.zeroCells z.cells (C - m)) hb ?_ hC hM ?_ hx ?_, ⟨rfl, rfl, rfl, by simp, fun k hk _ => Below.heap_alloc W.drew _ _ hk⟩⟩
  · show (W.heap.push _)[W.heap.size]? = _
    simp
  · simp [size_zeroCells, hz]; omega
  · simp only [Array.toList_append]
    exact List.take_left' (by simpa using hx)

/-- an integer appended at the end, by slices.Insert -/
theorem insert_end (v : Value) (l : List Int) (x : Int) (base : Nat) (w : World) (ho : Own w base 3 v l) (hx : -9223372036854775808 ≤ x ∧ x ≤ 9223372036854775807) (hl : l.length ≤ 5000) (hb : base ≤ w.heap.size) :
    Calls Try.prog 29 #[v, .int .i64 l.length, .slice (some ⟨w.heap.size, 0, none⟩) 1 1] (w.alloc (.cells #[.int .i64 x] 3)) fun e w' =>
      ∃ v', e = .returned v' ∧ Own w' base 3 v' (l ++ [x]) ∧ w.grownBy w' v.ownBlock ∧ NewOr w v v' := by
  have hvs : ∀ j u, [Value.int .i64 x][j]? = some u → (w.alloc (.cells #[.int .i64 x] 3)).cell? ⟨w.heap.size, 0 + j, none⟩ = some u := by
    intro j u hj
    match j, hj with
    | 0, hj => simp at hj; subst hj; rw [World.cell?_alloc_at _ _ _ _ rfl]; rfl
  have h1v : ∀ u ∈ [Value.int .i64 x], u.oneCell' = true := by intro u hu; simp at hu; subst hu; rfl
  have hfit : Fits (l ++ [x]) := ho.2.1.append (fun y hy => by simp at hy; subst hy; exact hx)
  have hlen : (l ++ [x]).length * 8 ≤ 140737488351232 := by simp; omega
  have hmap : (l ++ [x]).map (Value.int .i64) = l.map (Value.int .i64) ++ [.int .i64 x] := by simp
  have hgrow : ∀ (c : Nat) (u : Value), (w.alloc (.cells #[.int .i64 x] 3)).drew.heap.size = w.heap.size + 1 := fun c u => by simp
  rcases ho.2.2.2 with ⟨rfl, hn⟩ | ⟨g, cap, cur, rfl, hbg, hg, hnc, hcm, hcs, htake⟩
  · obtain rfl : l = [] := List.eq_nil_of_length_eq_zero hn
    refine (Any2.slices_Insert_int_end_grow Try.laysNm221 none 0 0 w.heap.size 0 1 1 [] [.int .i64 x] (w.alloc (.cells #[.int .i64 x] 3)) (by omega) (by omega) (by omega) (by omega) rfl rfl (fun _ => rfl) nofun hvs h1v).mono ?_
    rintro e w' ⟨rfl, rfl⟩
    have hR := row_new (w.alloc (.cells #[.int .i64 x] 3)) base 3 1 (grownCap (w.alloc (.cells #[.int .i64 x] 3)) 1 0 3) [.int .i64 x] (.int .i64 0) (by simp; omega) rfl (grownCap_ge _ _ _ _) (grownCap_le_maxLen _ _ _ _ (by unfold maxLen; omega)) rfl
    refine ⟨_, rfl, ⟨hlen, hfit, hR.1⟩, ?_, ?_⟩
    · have := grown_alloc hR.2
      exact ⟨this.os, this.tape, this.output, this.size, fun k hk _ => this.block k hk (by simp)⟩
    · intro k hk
      simp only [Value.ownBlock, Option.some.injEq] at hk
      exact .inr (by rw [← hk]; simp)
  · have hgl : g < w.heap.size := by rw [Array.getElem?_eq_some_iff] at hg; exact hg.1
    have hg1 : (w.alloc (.cells #[.int .i64 x] 3)).heap[g]? = some (.cells cur 3 (0, 0)) := (Below.heap_alloc _ _ _ hgl).trans hg
    rw [Nat.mul_one] at hcs htake
    by_cases hroom : l.length + 1 ≤ cap
    · refine (Any2.slices_Insert_int_end_room Try.laysNm221 g 0 l.length cap w.heap.size 0 1 1 [.int .i64 x] (w.alloc (.cells #[.int .i64 x] 3)) (by omega) hroom (by simp only [maxLen] at hcm; omega) rfl ?_ ?_ hvs h1v).mono ?_
      · intro j hj
        have : l.length + j < cur.size := by omega
        simp [World.cell?, hg1, this]
      · intro j hj; simp [World.frozen?, hg1]
      rintro e w' ⟨rfl, rfl⟩
      obtain ⟨cur', c1, c2, c3⟩ := setCells_row g 3 [.int .i64 x] (0 + l.length) _ cur hg1 (by simp; omega)
      refine ⟨_, rfl, ⟨hlen, hfit, ?_⟩, grown_alloc c3, fun k hk => .inl hk⟩
      rw [hmap, show (l ++ [x]).length = l.length + 1 by simp]
      have hsz : cur'.size = cap := by
        have : cur'.toList.length = cur.size := by rw [c2]; simp; omega
        simpa [hcs] using this
      refine row_of hbg c1 hroom hcm hsz (by simp) ?_
      rw [c2, Nat.zero_add, htake]
      exact List.take_left' (by simp)
    · refine (Any2.slices_Insert_int_end_grow Try.laysNm221 (some ⟨g, 0, none⟩) l.length cap w.heap.size 0 1 1 (l.map (Value.int .i64)) [.int .i64 x] (w.alloc (.cells #[.int .i64 x] 3)) (by omega) hnc (by omega) (by omega) (by simp) rfl nofun ?_ hvs h1v).mono ?_
      · rintro a h j u hj
        obtain rfl : (⟨g, 0, none⟩ : Addr) = a := by simpa using h
        exact ((ho.2.2.alloc _).cells (g := g) rfl) j u hj
      rintro e w' ⟨rfl, rfl⟩
      have hR := row_new (w.alloc (.cells #[.int .i64 x] 3)) base 3 (l.length + 1) (grownCap (w.alloc (.cells #[.int .i64 x] 3)) (l.length + 1) cap 3) (l.map (Value.int .i64) ++ [.int .i64 x]) (.int .i64 0) (by simp; omega) (by simp) (grownCap_ge _ _ _ _) (grownCap_le_maxLen _ _ _ _ (by unfold maxLen; omega)) rfl
      refine ⟨_, rfl, ⟨hlen, hfit, ?_⟩, ?_, ?_⟩
      · rw [hmap, show (l ++ [x]).length = l.length + 1 by simp]; exact hR.1
      · have := grown_alloc hR.2
        exact ⟨this.os, this.tape, this.output, this.size, fun k hk _ => this.block k hk (by simp)⟩
      · intro k hk
        simp only [Value.ownBlock, Option.some.injEq] at hk
        exact .inr (by rw [← hk]; simp)

/-- an integer put in front, by slices.Insert -/
theorem insert_front (v : Value) (l : List Int) (x : Int) (base : Nat) (w : World) (ho : Own w base 3 v l) (hx : -9223372036854775808 ≤ x ∧ x ≤ 9223372036854775807) (hl : l.length ≤ 5000) (hb : base ≤ w.heap.size) :
    Calls Try.prog 29 #[v, .int .i64 0, .slice (some ⟨w.heap.size, 0, none⟩) 1 1] (w.alloc (.cells #[.int .i64 x] 3)) fun e w' =>
      ∃ v', e = .returned v' ∧ Own w' base 3 v' (x :: l) ∧ w.grownBy w' v.ownBlock ∧ NewOr w v v' := by
  by_cases h0 : l.length = 0
  · obtain rfl : l = [] := List.eq_nil_of_length_eq_zero h0
    exact insert_end v [] x base w ho hx hl hb
  have hvs : ∀ j u, [Value.int .i64 x][j]? = some u → (w.alloc (.cells #[.int .i64 x] 3)).cell? ⟨w.heap.size, 0 + j, none⟩ = some u := by
    intro j u hj
    match j, hj with
    | 0, hj => simp at hj; subst hj; rw [World.cell?_alloc_at _ _ _ _ rfl]; rfl
  have h1v : ∀ u ∈ [Value.int .i64 x], u.oneCell' = true := by intro u hu; simp at hu; subst hu; rfl
  have h1c : ∀ u ∈ l.map (Value.int .i64), u.oneCell' = true := by intro u hu; simp at hu; obtain ⟨_, _, rfl⟩ := hu; rfl
  have hfit : Fits (x :: l) := fun y hy => by
    rcases List.mem_cons.1 hy with rfl | hy
    · exact hx
    · exact ho.2.1 y hy
  have hlen : (x :: l).length * 8 ≤ 140737488351232 := by simp; omega
  have hmap : (x :: l).map (Value.int .i64) = [.int .i64 x] ++ l.map (Value.int .i64) := by simp
  rcases ho.2.2.2 with ⟨rfl, hn⟩ | ⟨g, cap, cur, rfl, hbg, hg, hnc, hcm, hcs, htake⟩
  · omega
  · have hgl : g < w.heap.size := by rw [Array.getElem?_eq_some_iff] at hg; exact hg.1
    have hg1 : (w.alloc (.cells #[.int .i64 x] 3)).heap[g]? = some (.cells cur 3 (0, 0)) := (Below.heap_alloc _ _ _ hgl).trans hg
    rw [Nat.mul_one] at hcs htake
    have hnew : (w.alloc (.cells #[.int .i64 x] 3)).heap[w.heap.size]? = some (.cells #[.int .i64 x] 3 (0, 0)) := by
      show (w.heap.push _)[w.heap.size]? = _
      simp
    have hcells : ∀ j u, (l.map (Value.int .i64))[j]? = some u → (w.alloc (.cells #[.int .i64 x] 3)).cell? ⟨g, 0 + j, none⟩ = some u := fun j u hj => by
      have := ((ho.2.2.alloc (.cells #[.int .i64 x] 3)).cells (g := g) rfl) j u hj
      rw [Addr.add_lit] at this
      exact this
    by_cases hroom : l.length + 1 ≤ cap
    · refine (Any2.slices_Insert_int_shift Try.laysNm221 g 0 l.length cap 0 w.heap.size 0 1 1 (l.map (Value.int .i64)) [.int .i64 x] (w.alloc (.cells #[.int .i64 x] 3)) (by omega) (by omega) hroom (by simp only [maxLen] at hcm; omega) (by omega) (by simp) rfl hcells ?_ ?_ hvs h1c h1v 3 3 1 cur.size ?_ ?_ (by omega) ?_ ?_).mono ?_
      · intro j hj
        have : j < cur.size := by omega
        simp [World.cell?, hg1, this]
      · intro j hj; simp [World.frozen?, hg1]
      · rw [World.shape?, hnew]; rfl
      · simp [World.shape?, hg1]
      · rw [World.frozen?, hnew]; rfl
      · rw [World.frozen?, hnew]; rfl
      rintro e w' ⟨rfl, rfl⟩
      have hg2 : (w.alloc (.cells #[.int .i64 x] 3)).drew.heap[g]? = some (.cells cur 3 (0, 0)) := hg1
      obtain ⟨cur1, c1, c2, c3⟩ := setCells_row g 3 ((l.map (Value.int .i64)).drop 0) (0 + (0 + 1)) _ cur hg2 (by simp <;> omega)
      have hs1 : cur1.size = cap := by
        have : cur1.toList.length = cur.size := by rw [c2]; simp; omega
        simpa [hcs] using this
      obtain ⟨cur', d1, d2, d3⟩ := setCells_row g 3 [.int .i64 x] (0 + 0) _ cur1 c1 (by simp <;> omega)
      have hs2 : cur'.size = cap := by
        have : cur'.toList.length = cur1.size := by rw [d2]; simp; omega
        simpa [hs1] using this
      have hgr : (w.alloc (.cells #[.int .i64 x] 3)).grownBy (((w.alloc (.cells #[.int .i64 x] 3)).drew.setCells g (0 + (0 + 1)) ((l.map (Value.int .i64)).drop 0)).setCells g (0 + 0) [.int .i64 x]) (some g) :=
        ⟨d3.os.trans c3.os, d3.tape.trans c3.tape, d3.output.trans c3.output, Nat.le_trans c3.size d3.size, fun k hk hne => (d3.block k (Nat.lt_of_lt_of_le hk c3.size) hne).trans (c3.block k hk hne)⟩
      refine ⟨_, rfl, ⟨hlen, hfit, ?_⟩, grown_alloc hgr, fun k hk => .inl hk⟩
      rw [hmap, show (x :: l).length = l.length + 1 by simp]
      refine row_of hbg d1 hroom hcm hs2 (by simp <;> omega) ?_
      rw [d2, c2]
      simp only [Nat.zero_add, List.take_zero, List.nil_append, List.drop_zero, List.length_singleton]
      have hp : (cur.toList.take 1).length = 1 := by simp; omega
      rw [List.append_assoc, List.drop_left' hp, ← List.append_assoc]
      exact List.take_left' (by simp <;> omega)
    · refine (Any2.slices_Insert_int_grow Try.laysNm221 g 0 l.length cap 0 w.heap.size 0 1 1 (l.map (Value.int .i64)) [.int .i64 x] (w.alloc (.cells #[.int .i64 x] 3)) (by omega) (by omega) hnc (by omega) (by omega) (by simp) rfl hcells hvs h1c h1v).mono ?_
      rintro e w' ⟨rfl, rfl⟩
      obtain ⟨W, hW⟩ : ∃ W, W = w.alloc (.cells #[.int .i64 x] 3) := ⟨_, rfl⟩
      obtain ⟨C, hC⟩ : ∃ C, C = grownCap W (l.length + 1) cap 3 := ⟨_, rfl⟩
      have hC1 : l.length + 1 ≤ C := by rw [hC]; exact grownCap_ge _ _ _ _
      have hC2 : C ≤ maxLen := by rw [hC]; exact grownCap_le_maxLen _ _ _ _ (by unfold maxLen; omega)
      have hWs : W.heap.size = w.heap.size + 1 := by rw [hW]; simp
      obtain ⟨Z, hZ⟩ : ∃ Z : Array Value, Z = ((l.map (Value.int .i64)).take 0).toArray ++ Builtin.zeroCells (Value.int .i64 0).cells (l.length + 1 - 0) ++ Builtin.zeroCells (Value.int .i64 0).cells (C - (l.length + 1)) := ⟨_, rfl⟩
      have hZs : Z.size = C := by
        have e1 : (Value.int .i64 0).cells.size = 1 := rfl
        rw [hZ]; simp [size_zeroCells, e1]; omega
      have hg2 : (W.alloc (.cells Z 3)).drew.heap[W.heap.size]? = some (.cells Z 3 (0, 0)) := by
        show (W.heap.push _)[W.heap.size]? = _
        simp
      obtain ⟨cur1, c1, c2, c3⟩ := setCells_row W.heap.size 3 [.int .i64 x] 0 _ Z hg2 (by simp <;> omega)
      have hs1 : cur1.size = C := by
        have : cur1.toList.length = Z.size := by rw [c2]; simp; omega
        simpa [hZs] using this
      have c1' : (((W.alloc (.cells Z 3)).drew.setCells W.heap.size 0 [.int .i64 x]).drew).heap[W.heap.size]? = some (.cells cur1 3 (0, 0)) := c1
      obtain ⟨cur', d1, d2, d3⟩ := setCells_row W.heap.size 3 ((l.map (Value.int .i64)).drop 0) (0 + 1) _ cur1 c1' (by simp <;> omega)
      have hs2 : cur'.size = C := by
        have : cur'.toList.length = cur1.size := by rw [d2]; simp; omega
        simpa [hs1] using this
      have hrow : ((((W.alloc (.cells Z 3)).drew.setCells W.heap.size 0 [.int .i64 x]).drew).setCells W.heap.size (0 + 1) ((l.map (Value.int .i64)).drop 0)).ownsRow base 3 1 (.slice (some ⟨W.heap.size, 0, none⟩) (l.length + 1) C) (l.length + 1) ([.int .i64 x] ++ l.map (Value.int .i64)) := by
        refine row_of (by omega) d1 hC1 hC2 hs2 (by simp <;> omega) ?_
        rw [d2, c2]
        simp only [Nat.zero_add, List.take_zero, List.nil_append, List.drop_zero, List.length_singleton]
        have e1 : ([Value.int .i64 x] ++ Z.toList.drop 1).take 1 = [Value.int .i64 x] := by simp
        rw [e1]
        exact List.take_left' (by simp <;> omega)
      have hgr : w.grownBy ((((W.alloc (.cells Z 3)).drew.setCells W.heap.size 0 [.int .i64 x]).drew).setCells W.heap.size (0 + 1) ((l.map (Value.int .i64)).drop 0)) (some g) := by
        have h0 : w.grownBy (W.alloc (.cells Z 3)).drew (some g) := ⟨by rw [hW]; rfl, by rw [hW]; rfl, by rw [hW]; rfl, by simp [hWs]; omega, fun k hk _ => by
          show (W.alloc (.cells Z 3)).heap[k]? = _
          rw [Below.heap_alloc W _ k (by omega), hW, Below.heap_alloc w _ k hk]⟩
        have hz0 := h0.size
        have hz1 := c3.size
        exact ⟨d3.os.trans (c3.os.trans h0.os), d3.tape.trans (c3.tape.trans h0.tape), d3.output.trans (c3.output.trans h0.output), by have := d3.size; simp only [World.drew] at *; omega, fun k hk hne => by
          rw [d3.block k (by show k < ((W.alloc (.cells Z 3)).drew.setCells W.heap.size 0 [.int .i64 x]).heap.size; omega) (by simp <;> omega)]
          show ((W.alloc (.cells Z 3)).drew.setCells W.heap.size 0 [.int .i64 x]).heap[k]? = _
          rw [c3.block k (by omega) (by simp <;> omega)]
          exact h0.block k hk hne⟩
      rw [← hW]
      subst hZ
      subst hC
      refine ⟨_, rfl, ⟨hlen, hfit, ?_⟩, hgr, ?_⟩
      · rw [hmap, show (x :: l).length = l.length + 1 by simp]
        exact hrow
      · intro k hk
        simp only [Value.ownBlock, Option.some.injEq] at hk
        exact .inr (by omega)

/-- the first or the last integer taken out, by slices.Delete -/
theorem delete_any (v : Value) (l : List Int) (i base : Nat) (w : World) (ho : Own w base 3 v l) (hi : i < l.length) :
    Calls Try.prog 28 #[v, .int .i64 i, .int .i64 ((i : Int) + 1)] w fun e w' =>
      ∃ v', e = .returned v' ∧ Own w' base 3 v' (l.take i ++ l.drop (i + 1)) ∧ w.grownBy w' v.ownBlock ∧ v'.ownBlock = v.ownBlock := by
  rcases ho.2.2.2 with ⟨rfl, hn⟩ | ⟨g, cap, cur, rfl, hbg, hg, hnc, hcm, hcs, htake⟩
  · omega
  · rw [Nat.mul_one] at hcs htake
    have hcell : ∀ j, j < l.length → w.cell? ⟨g, 0 + j, none⟩ = some (.int .i64 (l.getD j 0)) := fun j hj => by
      rw [Nat.zero_add, ho.2.2.cellAt j (by omega)]
      simp [List.getD_eq_getElem?_getD, hj]
    have hfz : ∀ j, j < l.length → w.frozen? ⟨g, 0 + j, none⟩ = false := fun j hj => ho.2.2.frozenAt _
    have hd := Any.slices_Delete_int_cells Try.laysNm223 g 0 l.length cap i (i + 1) l w (Nat.le_refl _) hnc (by simp only [maxLen] at hcm; omega) (by omega) (by omega) hcell hfz
    refine hd.mono ?_
    rintro e w' ⟨rfl, q, rfl⟩
    rw [List.take_length]
    obtain ⟨ys, hys⟩ : ∃ ys, ys = (l.take i ++ l.drop (i + 1) ++ List.replicate (i + 1 - i) 0).map (Value.int .i64) := ⟨_, rfl⟩
    have hyl : ys.length = l.length := by rw [hys]; simp; omega
    rw [← hys]
    obtain ⟨cur', c1, c2, c3⟩ := setCells_row g 3 ys 0 (w.drewN q) cur hg (by omega)
    have hs : cur'.size = cap := by
      have : cur'.toList.length = cur.size := by rw [c2]; simp; omega
      simpa [hcs] using this
    have hnl : (l.take i ++ l.drop (i + 1)).length = l.length - (i + 1 - i) := by simp; omega
    refine ⟨_, rfl, ⟨by rw [hnl]; have := ho.1; omega, fun x hx => ?_, ?_⟩, ⟨c3.os, c3.tape, c3.output, c3.size, c3.block⟩, rfl⟩
    · rcases List.mem_append.1 hx with hx | hx
      · exact ho.2.1 x (List.mem_of_mem_take hx)
      · exact ho.2.1 x (List.mem_of_mem_drop hx)
    · rw [hnl]
      refine row_of hbg c1 (by omega) hcm hs (by simp; omega) ?_
      rw [c2, hys]
      simp only [List.take_zero, List.nil_append, List.map_append, List.append_assoc]
      rw [← List.append_assoc]
      exact List.take_left' (by simp; omega)
end Go.Proofs.Ytpeiajmgkhajoab
