/- Slices of the call's own that may begin inside their block: appended to at the end, taken from at the front. -/
import Derived.Test.YtpeiajmgkhajoabLib
namespace Go.Proofs.Ytpeiajmgkhajoab
set_option linter.unusedVariables false
open Go.RowKit

/-- a slice of the call's own, of elements of one cell; it may begin inside its block -/
def RowS (w : World) (base e : Nat) (v : Value) (xs : List Value) : Prop :=
  (v = .slice none 0 0 ∧ xs = []) ∨ ∃ g off cap cur, v = .slice (some ⟨g, off, none⟩) xs.length cap ∧ base ≤ g ∧ w.heap[g]? = some (.cells cur e (0, 0)) ∧ xs.length ≤ cap ∧ off + cap ≤ cur.size ∧
    ∀ j u, xs[j]? = some u → cur[off + j]? = some u

theorem RowS.nil (w : World) (base e : Nat) : RowS w base e (.slice none 0 0) [] := .inl ⟨rfl, rfl⟩

theorem RowS.of_row {w : World} {base e : Nat} {v : Value} {xs : List Value} (h : w.ownsRow base e 1 v xs.length xs) : RowS w base e v xs := by
  obtain ⟨_, ⟨rfl, hn⟩ | ⟨g, cap, cur, rfl, hg, hh, hn, hm, hs, ht⟩⟩ := h
  · exact .inl ⟨rfl, List.eq_nil_of_length_eq_zero hn⟩
  · refine .inr ⟨g, 0, cap, cur, rfl, hg, hh, hn, by omega, fun j u hj => ?_⟩
    rw [Nat.mul_one] at ht
    rw [← ht] at hj
    rw [Nat.zero_add, ← Array.getElem?_toList]
    rw [List.getElem?_take] at hj
    split at hj
    · exact hj
    · simp at hj

theorem RowS.lt {w : World} {base e : Nat} {v : Value} {xs : List Value} (h : RowS w base e v xs) : ∀ k, v.ownBlock = some k → base ≤ k ∧ k < w.heap.size := by
  rcases h with ⟨rfl, _⟩ | ⟨g, off, cap, cur, rfl, hg, hh, _⟩
  · intro k hk; simp [Value.ownBlock] at hk
  · intro k hk
    simp only [Value.ownBlock, Option.some.injEq] at hk
    subst hk
    rw [Array.getElem?_eq_some_iff] at hh
    exact ⟨hg, hh.1⟩
theorem RowS.lies {w : World} {base e : Nat} {v : Value} {xs : List Value} (h : RowS w base e v xs) : Lies w v := fun k hk => (h.lt k hk).2

/-- a world in which the row's own block is as it was -/
theorem RowS.same {w w' : World} {base e : Nat} {v : Value} {xs : List Value} (h : RowS w base e v xs) (hs : ∀ k, v.ownBlock = some k → w'.heap[k]? = w.heap[k]?) : RowS w' base e v xs := by
  rcases h with h | ⟨g, off, cap, cur, rfl, hg, hh, hr⟩
  · exact .inl h
  · exact .inr ⟨g, off, cap, cur, rfl, hg, by rw [hs g rfl]; exact hh, hr⟩
theorem RowS.below {w w' : World} {base e : Nat} {v : Value} {xs : List Value} (h : RowS w base e v xs) (hb : Below w.heap.size w w') : RowS w' base e v xs := h.same fun k hk => hb.block k (h.lies k hk)
theorem RowS.grown {w w' : World} {base e : Nat} {u v : Value} {xs : List Value} (h : RowS w base e u xs) (hg : w.grownBy w' v.ownBlock) (hs : Sep u v) : RowS w' base e u xs :=
  h.same fun k hk => hg.block k (h.lies k hk) (fun e => hs k hk e.symm)

/-- where it lies, and its cells -/
theorem RowS.at {w : World} {base e : Nat} {v : Value} {xs : List Value} (h : RowS w base e v xs) (hn : 0 < xs.length) :
    ∃ g off cap, v = .slice (some ⟨g, off, none⟩) xs.length cap ∧ g < w.heap.size ∧ xs.length ≤ cap ∧ (∀ j, w.frozen? ⟨g, j, none⟩ = false) ∧ ∀ j, j < xs.length → w.cell? ⟨g, off + j, none⟩ = some (vat xs j) := by
  have h' := h
  rcases h with ⟨_, rfl⟩ | ⟨g, off, cap, cur, rfl, hg, hh, hn, hs, ht⟩
  · simp at hn
  · refine ⟨g, off, cap, rfl, h'.lies g rfl, hn, fun j => ?_, fun j hj => ?_⟩
    · simp [World.frozen?, hh]
    · have := ht j (vat xs j) (by rw [vat, List.getD_eq_getElem?_getD, List.getElem?_eq_getElem hj]; rfl)
      simp [World.cell?, hh, this]

/-- 'q = q[1:]' -/
theorem RowS.tail {P : Program} {t e : TypeId} {z : Value} {bytes : Nat} (R : RowT P t e z 1 bytes) {w : World} {base : Nat} {v x : Value} {xs : List Value} (h : RowS w base e v (x :: xs)) :
    ∃ v2, (∀ w', (Instr.slice t v (some (.int .i64 1)) none none).run P w' = .ok v2 w') ∧ v2.ownBlock = v.ownBlock ∧ RowS w base e v2 xs := by
  rcases h with ⟨_, h⟩ | ⟨g, off, cap, cur, rfl, hg, hh, hn, hs, ht⟩
  · simp at h
  · obtain ⟨i, hi, _, hsize, _⟩ := info_parts R.inf
    simp only [List.length_cons] at hn
    refine ⟨.slice (if cap = 1 then some ⟨g, off, none⟩ else (some ⟨g, off, none⟩ : Option Addr).map (·.add (1 * 1))) xs.length (cap - 1), fun w' => ?_, ?_, ?_⟩
    · have hel : P.elem t = e := by simp [Program.elem, R.und]
      have hund : P.underlying t = some (.slice (P.elem t)) := by rw [hel]; exact R.und
      rw [run_slice_l w' t _ _ _ hund .i64 1 (by decide) (by simp; omega)]
      simp [sizeOf, typeInfo, hi, hsize, sliced, hel, Result.andThen]
    · split <;> simp [Value.ownBlock, Addr.add]
    · by_cases hc : cap = 1
      · obtain rfl : xs = [] := List.eq_nil_of_length_eq_zero (by omega)
        rw [if_pos hc]
        exact .inr ⟨g, off, cap - 1, cur, rfl, hg, hh, by simp, by omega, fun j u hj => by simp at hj⟩
      · rw [if_neg hc]
        refine .inr ⟨g, off + 1, cap - 1, cur, rfl, hg, hh, by omega, by omega, fun j u hj => ?_⟩
        have := ht (j + 1) u (by simpa using hj)
        rw [show off + 1 + j = off + (j + 1) by omega]; exact this

/-- 'q = append(q, x)' -/
theorem wpl_push {P : Program} {t e : TypeId} {z : Value} {bytes : Nat} (R : RowT P t e z 1 bytes) (hz : z.cells.size = 1) {wr : World} {ops : Array Oper} {rest : List Oper} {o : Oper} {a : Act} {Q : Exit → Act → World → Prop} (hgd : o.guard = none) (s x : Operand)
    (ho : o.op = .call { callee := .builtin .append, args := #[s, x], argTypes := #[t, t] })
    {base : Nat} {v u : Value} {xs : List Value} (hs : a.eval s = v) (hx : a.eval x = .slice (some ⟨wr.heap.size, 0, none⟩) 1 1)
    (hown : RowS wr base e v xs) (hu : u.oneCell' = true) (hl : (xs.length + 1) * bytes ≤ 140737488355328) (hl2 : xs.length + 1 ≤ maxLen) (hbase : base ≤ wr.heap.size)
    (h : ∀ v' w1, RowS w1 base e v' (xs ++ [u]) → wr.grownBy w1 v.ownBlock → NewOr wr v v' → wpList P ops Q rest (a.put o.dst v') w1) :
    wpList P ops Q (o :: rest) a (wr.alloc (.cells #[u] e)) := by
  rcases hown with ⟨rfl, rfl⟩ | ⟨g, off, cap, cur, rfl, hg, hh, hn, hsz, ht⟩
  · refine wpl_append1v R hz hgd s x ho hs hx (World.ownsRow_nil _ _ _ _) hu hl hl2 hbase fun v' w1 h1 h2 h3 => h v' w1 ?_ h2 h3
    exact RowS.of_row (by simpa using h1)
  · obtain ⟨i, hi, hz0, hsize, hby⟩ := info_parts R.inf
    have hgl : g < wr.heap.size := by rw [Array.getElem?_eq_some_iff] at hh; exact hh.1
    have hh1 : (wr.alloc (.cells #[u] e)).heap[g]? = some (.cells cur e (0, 0)) := (Below.heap_alloc _ _ _ hgl).trans hh
    have hnew : ∀ j u', [u][j]? = some u' → (wr.alloc (.cells #[u] e)).cell? ((⟨wr.heap.size, 0, none⟩ : Addr).add j) = some u' := by
      intro j u' hj
      match j, hj with
      | 0, hj => simp at hj; subst hj; simp [Addr.add]
    refine wpList_append_arg _ hgd s x t ho e i z 1 bytes R.und hi hz0 hsize hby hz (by decide) g off xs.length cap xs hs (by simp) ?_ ⟨wr.heap.size, 0, none⟩ 1 1 [u] hx rfl hnew ?_ ?_ hl2 hl ?_ ?_
    · intro j u' hj
      have := ht j u' hj
      simp [World.cell?, hh1, this]
    · intro u' hu'; simp at hu'; subst hu'; exact hu
    · intro hr j hj
      simp only [List.length_singleton] at hj
      obtain rfl : j = 0 := by omega
      have : off + xs.length < cur.size := by omega
      simp [World.cell?, World.frozen?, hh1, this]
    · intro hr
      simp only [World.setCells, Nat.mul_one]
      have hset := heap_setCell_same (wr.alloc (.cells #[u] e)) g (off + xs.length) cur e u hh1
      refine h _ _ (.inr ⟨g, off, cap, cur.setIfInBounds (off + xs.length) u, by simp, hg, hset, by simpa using hr, by simpa using hsz, fun j u' hj => ?_⟩) ?_ (fun k hk => .inl hk)
      · rw [Array.getElem?_setIfInBounds]
        by_cases hjl : j < xs.length
        · rw [if_neg (by omega)]
          rw [List.getElem?_append_left hjl] at hj
          exact ht j u' hj
        · have hj2 : j = xs.length := by
            have := (List.getElem?_eq_some_iff.1 hj).1
            simp at this; omega
          subst hj2
          rw [if_pos rfl, if_pos (by omega)]
          simpa using hj
      · exact grown_alloc ⟨rfl, rfl, rfl, by simp [World.setCell], fun k _ hk => heap_setCell_other _ ⟨g, off + xs.length, none⟩ k u (fun e => hk (by simp [Value.ownBlock, e]))⟩
    · intro hfull v' w1 h1 h2
      have h1' : RowS w1 base e v' (xs ++ [u]) := by
        have := RowS.of_row (xs := xs ++ [u]) (by simpa using h1)
        rcases this with h | ⟨g', off', cap', cur', h, hb', hr⟩
        · exact .inl h
        · have hb2 : wr.heap.size + 1 ≤ g' := by simpa using hb'
          exact .inr ⟨g', off', cap', cur', h, by omega, hr⟩
      refine h v' w1 h1' ?_ ?_
      · have := grown_alloc h2
        exact ⟨this.os, this.tape, this.output, this.size, fun k hk _ => this.block k hk (by simp)⟩
      · intro k hk
        have := (h1.lt k hk).1
        simp at this
        exact .inr (by omega)

/-- 'make([]int, n)' -/
theorem wpl_makeInts {P : Program} {t e : TypeId} (R : RowT P t e (.int .i64 0) 1 8) {w : World} {ops : Array Oper} {rest : List Oper} {o : Oper} {a : Act} {Q : Exit → Act → World → Prop} (hgd : o.guard = none) (l c : Operand)
    (ho : o.op = Op.makeSlice t l c) {base : Nat} {L C : Int} (n : Nat) (hl : a.eval l = .int .i64 L) (hc : a.eval c = .int .i64 C) (hL : L = (n : Int)) (hC : C = (n : Int)) (hn : n * 8 ≤ 140737488351232) (hbase : base ≤ w.heap.size)
    (h : ∀ w1, Own w1 base e (.slice (some ⟨w.heap.size, 0, none⟩) n n) (List.replicate n 0) → w.grownBy w1 none → wpList P ops Q rest (a.put o.dst (.slice (some ⟨w.heap.size, 0, none⟩) n n)) w1) :
    wpList P ops Q (o :: rest) a w := by
  obtain ⟨i, hi, hz0, hz1, hz2⟩ := info_parts R.inf
  refine wpList_make_full _ hgd l c t ho base e i (.int .i64 0) 1 R.und hi hz0 hz1 .i64 .i64 L C n hl hc hL hC (by rw [hz2]; omega) (by unfold maxLen; omega) hbase fun w1 h1 h2 => h w1 ⟨by simpa using hn, fun x hx => by simp at hx; omega, ?_⟩ h2
  have e1 : (List.replicate n 0).map (Value.int .i64) = (madeCells (Value.int .i64 0).cells (n * 1)).toList := by
    rw [Nat.mul_one]
    show _ = (madeCells #[.int .i64 0] n).toList
    rw [toList_madeCells_one]; simp
  rw [e1, List.length_replicate]; exact h1

/-- 'l[j] = x' on a slice of ints of the call's own -/
theorem own_set {w : World} {base e g n cap : Nat} {l : List Int} (h : Own w base e (.slice (some ⟨g, 0, none⟩) n cap) l) (j : Nat) (x : Int) (hx : -9223372036854775808 ≤ x ∧ x ≤ 9223372036854775807) :
    Own (w.setCell ⟨g, j, none⟩ (.int .i64 x)) base e (.slice (some ⟨g, 0, none⟩) n cap) (l.set j x) ∧ w.grownBy (w.setCell ⟨g, j, none⟩ (.int .i64 x)) (some g) := by
  obtain ⟨h1, h2, h3⟩ := h
  have hn : n = l.length := by
    rcases h3.2 with ⟨h, _⟩ | ⟨_, _, _, h, _⟩
    · simp at h
    · simp at h; exact h.2.1
  subst hn
  have := h3.stored j (.int .i64 x)
  refine ⟨⟨by simpa using h1, fun y hy => ?_, ?_⟩, this.2⟩
  · rcases List.mem_or_eq_of_mem_set hy with h' | rfl
    · exact h2 y h'
    · exact hx
  · rw [List.map_set, List.length_set]; exact this.1

/-- the cells of a slice of ints of the call's own -/
theorem Own.at {w : World} {base e : Nat} {v : Value} {l : List Int} (h : Own w base e v l) (hn : 0 < l.length) :
    ∃ g cap, v = .slice (some ⟨g, 0, none⟩) l.length cap ∧ g < w.heap.size ∧ (∀ j, w.frozen? ⟨g, j, none⟩ = false) ∧ ∀ j, j < l.length → w.cell? ⟨g, j, none⟩ = some (.int .i64 (nth l j)) := by
  obtain ⟨g, cap, h1, h2, h3, h4⟩ := row_at h.2.2 hn
  exact ⟨g, cap, h1, h2, h3, fun j hj => by rw [h4 j hj]; simp [vat, nth, List.getD_eq_getElem?_getD, hj]⟩

/-- a slice of ints of the call's own; it may begin inside its block -/
def IntsS (w : World) (base e : Nat) (v : Value) (l : List Int) : Prop := Fits l ∧ RowS w base e v (l.map (Value.int .i64))

theorem vat_ints {l : List Int} {j : Nat} (h : j < l.length) : vat (l.map (Value.int .i64)) j = .int .i64 (nth l j) := by
  simp [vat, nth, List.getD_eq_getElem?_getD, h]

theorem IntsS.at {w : World} {base e : Nat} {v : Value} {l : List Int} (h : IntsS w base e v l) (hn : 0 < l.length) :
    ∃ g off cap, v = .slice (some ⟨g, off, none⟩) l.length cap ∧ g < w.heap.size ∧ l.length ≤ cap ∧ (∀ j, w.frozen? ⟨g, j, none⟩ = false) ∧ ∀ j, j < l.length → w.cell? ⟨g, off + j, none⟩ = some (.int .i64 (nth l j)) := by
  obtain ⟨g, off, cap, h1, h2, h3, h4, h5⟩ := h.2.at (by simpa using hn)
  simp only [List.length_map] at h1 h3 h5
  exact ⟨g, off, cap, h1, h2, h3, h4, fun j hj => by rw [h5 j hj, vat_ints hj]⟩

end Go.Proofs.Ytpeiajmgkhajoab
