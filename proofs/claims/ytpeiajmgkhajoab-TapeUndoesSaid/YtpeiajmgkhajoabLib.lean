/- Slices of integers as lists, and what keeps them: no function of the program is walked here. -/
import Derived.WalkKit
import Derived.Lib.Hide
import Derived.Laws.AppendOwnNone
import Derived.BigQuiet
import Derived.Deep.QuietTactic
namespace Go.Proofs.Ytpeiajmgkhajoab
set_option linter.unusedVariables false
open Go.RowKit

/-- every number fits an int -/
def Fits (l : List Int) : Prop := ∀ x ∈ l, -9223372036854775808 ≤ x ∧ x ≤ 9223372036854775807
/-- every number is small -/
def Small (l : List Int) : Prop := ∀ x ∈ l, -2147483648 ≤ x ∧ x ≤ 2147483648
theorem Small.fits {l : List Int} (h : Small l) : Fits l := fun x hx => by have := h x hx; omega

/-- the element at a place -/
def nth (l : List Int) (j : Nat) : Int := l[j]?.getD 0

/-- a slice value that reads as a list of ints -/
def IntsAt (w : World) (v : Value) (l : List Int) : Prop :=
  l.length * 8 ≤ 140737488351232 ∧ Fits l ∧ ∃ a cap, v = .slice a l.length cap ∧ (a = none → cap = 0) ∧
    (0 < l.length → ∃ b off, a = some ⟨b, off, none⟩ ∧ b < w.heap.size ∧ ∀ j, j < l.length → w.cell? ⟨b, off + j, none⟩ = some (.int .i64 (nth l j)))

theorem IntsAt.below {w w' : World} {v : Value} {l : List Int} (h : IntsAt w v l) (hb : Below w.heap.size w w') : IntsAt w' v l := by
  obtain ⟨h1, h2, a, cap, rfl, hn, h3⟩ := h
  refine ⟨h1, h2, a, cap, rfl, hn, fun hl => ?_⟩
  obtain ⟨b, off, rfl, hlt, hc⟩ := h3 hl
  exact ⟨b, off, rfl, Nat.lt_of_lt_of_le hlt hb.size, fun j hj => (hb.cell (p := ⟨b, off + j, none⟩) hlt).trans (hc j hj)⟩

theorem IntsAt.form {w : World} {v : Value} {l : List Int} (h : IntsAt w v l) : ∃ a c, v = .slice a l.length c := by
  obtain ⟨_, _, a, c, h, _⟩ := h
  exact ⟨a, c, h⟩

theorem nth_mem {l : List Int} {j : Nat} (h : j < l.length) : nth l j ∈ l := by
  rw [nth, List.getElem?_eq_getElem h]; simp

/-- a slice of the call's own, that reads as a list of ints; int's type has the number e -/
def Own (w : World) (base e : Nat) (v : Value) (l : List Int) : Prop :=
  l.length * 8 ≤ 140737488351232 ∧ Fits l ∧ w.ownsRow base e 1 v l.length (l.map (Value.int .i64))

theorem Own.ints {w : World} {base e : Nat} {v : Value} {l : List Int} (h : Own w base e v l) : IntsAt w v l := by
  obtain ⟨h1, h2, h3⟩ := h
  refine ⟨h1, h2, ?_⟩
  have h3' := h3
  obtain ⟨_, ⟨rfl, hn⟩ | ⟨g, cap, cur, rfl, hg, hh, hn, hm, hs, ht⟩⟩ := h3
  · exact ⟨none, 0, by rw [hn], fun _ => rfl, fun h => absurd h (by omega)⟩
  · refine ⟨_, cap, rfl, nofun, fun _ => ⟨g, 0, rfl, ?_, fun j hj => ?_⟩⟩
    · exact (h3'.lt g rfl).2
    · rw [Nat.zero_add, h3'.cellAt j (by omega)]
      simp [nth, List.getElem?_eq_getElem hj]

/-- a new slice of given numbers -/
theorem own_lit (w : World) (base e : Nat) (l : List Int) (h : l.length * 8 ≤ 140737488351232) (hf : Fits l) (hb : base ≤ w.heap.size) :
    Own (w.alloc (.cells (l.map (Value.int .i64)).toArray e)) base e (.slice (some ⟨w.heap.size, 0, none⟩) l.length l.length) l := by
  refine ⟨h, hf, by simp, .inr ⟨w.heap.size, l.length, (l.map (Value.int .i64)).toArray, rfl, hb, ?_, Nat.le_refl _, by unfold maxLen; omega, by simp, ?_⟩⟩
  · show (w.heap.push _)[w.heap.size]? = _
    simp
  · rw [List.take_of_length_le (by simp)]

theorem Own.form {w : World} {base e : Nat} {v : Value} {l : List Int} (h : Own w base e v l) : ∃ a c, v = .slice a l.length c := by
  obtain ⟨_, _, a, c, h, _⟩ := h.ints
  exact ⟨a, c, h⟩

theorem Own.below {w w' : World} {base e : Nat} {v : Value} {l : List Int} (h : Own w base e v l) (hb : Below w.heap.size w w') : Own w' base e v l := by
  obtain ⟨h1, h2, h3⟩ := h
  refine ⟨h1, h2, ?_⟩
  obtain ⟨h0, ⟨rfl, hn⟩ | ⟨g, cap, cur, rfl, hg, hh, hn, hm, hs, ht⟩⟩ := h3
  · exact ⟨h0, .inl ⟨rfl, hn⟩⟩
  · refine ⟨h0, .inr ⟨g, cap, cur, rfl, hg, ?_, hn, hm, hs, ht⟩⟩
    rw [hb.block g ?_]; exact hh
    rw [Array.getElem?_eq_some_iff] at hh; exact hh.1

theorem Own.mono {w : World} {base base' e : Nat} {v : Value} {l : List Int} (h : Own w base e v l) (hb : base' ≤ base) : Own w base' e v l := by
  obtain ⟨h1, h2, h0, ⟨rfl, hn⟩ | ⟨g, cap, cur, rfl, hg, hh⟩⟩ := h
  · exact ⟨h1, h2, h0, .inl ⟨rfl, hn⟩⟩
  · exact ⟨h1, h2, h0, .inr ⟨g, cap, cur, rfl, Nat.le_trans hb hg, hh⟩⟩

theorem Own.nil (w : World) (base e : Nat) : Own w base e (.slice none 0 0) [] := ⟨by simp, fun _ h => by simp at h, World.ownsRow_nil _ _ _ _⟩

theorem Fits.append {l m : List Int} (h : Fits l) (h' : Fits m) : Fits (l ++ m) := fun x hx => by
  rcases List.mem_append.1 hx with hx | hx
  · exact h x hx
  · exact h' x hx
theorem Small.append {l m : List Int} (h : Small l) (h' : Small m) : Small (l ++ m) := fun x hx => by
  rcases List.mem_append.1 hx with hx | hx
  · exact h x hx
  · exact h' x hx

/-- the end of one round: a number was appended -/
theorem own_snoc {w w1 : World} {base e : Nat} {v v' : Value} {l : List Int} {x : Int} (h : Own w base e v l) (hx : -9223372036854775808 ≤ x ∧ x ≤ 9223372036854775807)
    (hl : (l.length + 1) * 8 ≤ 140737488351232)
    (h1 : w1.ownsRow base e 1 v' (l.length + 1) (l.map (Value.int .i64) ++ [.int .i64 x])) : Own w1 base e v' (l ++ [x]) := by
  refine ⟨by simpa using hl, h.2.1.append (fun y hy => by simp at hy; subst hy; exact hx), ?_⟩
  simpa using h1


/-- what a law on a slice asks of the program's tables: t is the slice's type, e its element's -/
structure RowT (P : Program) (t e : TypeId) (z : Value) (size bytes : Nat) : Prop where
  und : P.underlying t = some (.slice e)
  inf : (P.info? e).map (fun i => (i.zero, i.size, i.bytes)) = some (some z, size, bytes)

/-- draws turn no block -/
theorem below_drewN {B : Nat} {a w : World} (h : Below B a w) (n : Nat) : Below B a (w.drewN n) := ⟨h.os, h.tape, h.output, h.size, h.block⟩

theorem grown_alloc {w w1 : World} {o : Obj} {row : Option Nat} (h : (w.alloc o).grownBy w1 row) : w.grownBy w1 row :=
  ⟨h.os, h.tape, h.output, by have := h.size; simp at this; omega, fun k hk hne => by
    have hk' : (w.alloc o).heap[k]? = w.heap[k]? := Below.heap_alloc _ _ _ hk
    rw [← hk']; exact h.block k (by simp; omega) hne⟩

/-- the block of the second value is the first one's, or a new one -/
def NewOr (w : World) (v v' : Value) : Prop := ∀ k, v'.ownBlock = some k → v.ownBlock = some k ∨ w.heap.size ≤ k

/-- an append to a slice of the call's own, and where the result lies -/
theorem run_append_new {P : Program} (w : World) {t ty e : TypeId} {z : Value} {size bytes : Nat} (R : RowT P t e z size bytes) (hzs : z.cells.size = size) (hsz : 0 < size) (base : Nat)
    (v : Value) (n : Nat) (xs : List Value) (hown : w.ownsRow base e size v n xs)
    (a : Addr) (m c : Nat) (news : List Value) (hl : news.length = m * size) (hnews : ∀ j u, news[j]? = some u → w.cell? (a.add j) = some u) (h1 : ∀ u ∈ news, u.oneCell' = true)
    (h63 : n + m ≤ maxLen) (hbytes : (n + m) * bytes ≤ 140737488355328) (hbase : base ≤ w.heap.size) :
    ∃ v' w', (Builtin.append_ #[t, t] ty #[v, .slice (some a) m c]).run P w = .ok v' w' ∧ w'.ownsRow base e size v' (n + m) (xs ++ news) ∧ w.grownBy w' v.ownBlock ∧ NewOr w v v' := by
  obtain ⟨i, hi, hz, hsize, hby⟩ := info_parts R.inf
  obtain ⟨v', w', hr, h2, h3, _⟩ := run_append_own (P := P) w base t ty e i z size bytes R.und hi hz hsize hby hzs hsz v n xs hown a m c news hl hnews h1 h63 hbytes hbase
  refine ⟨v', w', hr, h2, h3, ?_⟩
  rcases hown.2 with ⟨rfl, rfl⟩ | ⟨g, cap, cur, rfl, hbg, hg, hnc, hcm, hcs, htake⟩
  · obtain rfl : xs = [] := List.eq_nil_of_length_eq_zero (by simpa using hown.1)
    obtain ⟨v2, w2, hr2, ho2, _, _⟩ := run_append_own (P := P) w w.heap.size t ty e i z size bytes R.und hi hz hsize hby hzs hsz (.slice none 0 0) 0 [] (World.ownsRow_nil _ _ _ _) a m c news hl hnews h1 h63 hbytes (Nat.le_refl _)
    rw [hr] at hr2
    obtain ⟨rfl, rfl⟩ : v' = v2 ∧ w' = w2 := by simpa using hr2
    exact fun k hk => .inr (ho2.lt k hk).1
  · by_cases hroom : n + m ≤ cap
    · obtain ⟨w2, hr2, _, _⟩ := run_append_fits (P := P) w base t ty e i size R.und hi hsize g n cap xs hown a m c news hl hnews h1 hroom
      rw [hr] at hr2
      obtain ⟨rfl, rfl⟩ : v' = .slice (some ⟨g, 0, none⟩) (n + m) cap ∧ w' = w2 := by simpa using hr2
      exact fun k hk => .inl hk
    · subst hsize hby
      have hr2 := run_append_grow (P := P) w t ty e i z R.und hi hz ⟨g, 0, none⟩ n cap xs hown.1 (hown.cells (g := g) rfl) a m c news hl hnews (by omega) (by simp only [maxLen] at h63; omega) (growslice_fits (by omega) hbytes)
      rw [hr] at hr2
      simp only [Result.ok.injEq] at hr2
      rw [hr2.1]
      intro k hk
      simp only [Value.ownBlock, Option.some.injEq] at hk
      exact .inr (by omega)

/-- 'l = append(l, x..)' on a slice of the call's own, of whatever elements -/
theorem wpl_append {P : Program} {t e : TypeId} {z : Value} {size bytes : Nat} (R : RowT P t e z size bytes) (hzs : z.cells.size = size) (hsz : 0 < size) {w : World} {ops : Array Oper} {rest : List Oper} {o : Oper} {a : Act} {Q : Exit → Act → World → Prop} (hgd : o.guard = none) (s x : Operand)
    (ho : o.op = .call { callee := .builtin .append, args := #[s, x], argTypes := #[t, t] })
    {base : Nat} {v u : Value} {n m : Nat} {xs news : List Value} (hs : a.eval s = v) (hx : a.eval x = u) (hown : w.ownsRow base e size v n xs)
    (hu : u = .slice none 0 0 ∧ m = 0 ∧ news = [] ∨ ∃ ad c, u = .slice (some ad) m c ∧ ∀ j u, news[j]? = some u → w.cell? (ad.add j) = some u) (hl : news.length = m * size) (h1 : ∀ u ∈ news, u.oneCell' = true)
    (h63 : n + m ≤ maxLen) (hbytes : (n + m) * bytes ≤ 140737488355328) (hbase : base ≤ w.heap.size)
    (h : ∀ v' w1, w1.ownsRow base e size v' (n + m) (xs ++ news) → w.grownBy w1 v.ownBlock → NewOr w v v' → wpList P ops Q rest (a.put o.dst v') w1) :
    wpList P ops Q (o :: rest) a w := by
  rcases hu with ⟨rfl, rfl, rfl⟩ | ⟨ad, c, rfl, hnews⟩
  · obtain ⟨i, hi, hz, hsize, hby⟩ := info_parts R.inf
    refine wpList_append_own_none hgd s x t ho base e i size R.und hi v n xs hs hown hx (h v w ?_ (World.grownBy.refl _ _) (fun k hk => .inl hk))
    simpa using hown
  · refine wpList_plain hgd fun K hK => ?_
    obtain ⟨v', w', hr, h2, h3, h4⟩ := run_append_new (P := P) w (ty := o.type) R hzs hsz base v n xs hown ad m c news hl hnews h1 h63 hbytes hbase
    unfold Oper.wp execOp
    simp only [ho, resolve, invoke, builtin, Sem.run_bind, Sem.run_pure, Result.andThen_ok, List.map_toArray, List.map_cons, List.map_nil, hs, hx, hr]
    exact hK _ _ (h v' w' h2 h3 h4)

/-- 'l = append(l, x)' on a slice of ints of the call's own -/
theorem wpl_append1 {P : Program} {t e : TypeId} (R : RowT P t e (.int .i64 0) 1 8) {wr : World} {ops : Array Oper} {rest : List Oper} {o : Oper} {a : Act} {Q : Exit → Act → World → Prop} (hgd : o.guard = none) (s x : Operand)
    (ho : o.op = .call { callee := .builtin .append, args := #[s, x], argTypes := #[t, t] })
    {base : Nat} {v : Value} {l : List Int} {n : Int} (hs : a.eval s = v) (hx : a.eval x = .slice (some ⟨wr.heap.size, 0, none⟩) 1 1)
    (hown : Own wr base e v l) (hn : -9223372036854775808 ≤ n ∧ n ≤ 9223372036854775807) (hl : (l.length + 1) * 8 ≤ 140737488351232) (hbase : base ≤ wr.heap.size)
    (h : ∀ v' w1, Own w1 base e v' (l ++ [n]) → wr.grownBy w1 v.ownBlock → NewOr wr v v' → wpList P ops Q rest (a.put o.dst v') w1) :
    wpList P ops Q (o :: rest) a (wr.alloc (.cells #[.int .i64 n] e)) := by
  refine wpl_append R rfl (by decide) hgd s x ho (base := base) (v := v) (m := 1) (news := [.int .i64 n]) hs rfl (hown.2.2.alloc _) ?_ rfl ?_ ?_ ?_ ?_ ?_
  · refine .inr ⟨_, _, hx, ?_⟩
    intro j u hj
    match j, hj with
    | 0, hj => simp at hj; subst hj; simp [Addr.add]
  · intro u hu; simp at hu; subst hu; rfl
  · unfold maxLen; omega
  · omega
  · simp; omega
  · intro v' w1 h1 h2 h3
    exact h v' w1 (own_snoc hown hn hl h1) (grown_alloc h2) (fun k hk => (h3 k hk).imp id (fun h => by simp at h; omega))

theorem IntsAt.src {w : World} {u : Value} {l : List Int} (h : IntsAt w u l) :
    u = .slice none 0 0 ∧ l.length = 0 ∧ l.map (Value.int .i64) = [] ∨ ∃ ad c, u = .slice (some ad) l.length c ∧ ∀ j u, (l.map (Value.int .i64))[j]? = some u → w.cell? (ad.add j) = some u := by
  obtain ⟨_, _, a, cap, rfl, hn, hc⟩ := h
  by_cases h0 : 0 < l.length
  · obtain ⟨b, off, rfl, _, hc⟩ := hc h0
    refine .inr ⟨_, _, rfl, fun j u hj => ?_⟩
    have hj' : j < l.length := by
      rw [List.getElem?_eq_some_iff] at hj; simpa using hj.1
    have := hc j hj'
    simp only [List.getElem?_map, List.getElem?_eq_getElem hj', Option.map_some, Option.some.injEq] at hj
    rw [← hj, Addr.add]
    simp only [nth, List.getElem?_eq_getElem hj', Option.getD_some] at this
    split
    · next h => subst h; exact this
    · exact this
  · obtain rfl : l = [] := List.eq_nil_of_length_eq_zero (by omega)
    cases a with
    | none => exact .inl ⟨by rw [hn rfl]; rfl, rfl, rfl⟩
    | some ad => exact .inr ⟨ad, cap, rfl, fun j u hj => by simp at hj⟩

/-- 'l = append(l, m...)' on a slice of ints of the call's own -/
theorem wpl_appends {P : Program} {t e : TypeId} (R : RowT P t e (.int .i64 0) 1 8) {w : World} {ops : Array Oper} {rest : List Oper} {o : Oper} {a : Act} {Q : Exit → Act → World → Prop} (hgd : o.guard = none) (s x : Operand)
    (ho : o.op = .call { callee := .builtin .append, args := #[s, x], argTypes := #[t, t] })
    {base : Nat} {v u : Value} {l m : List Int} (hs : a.eval s = v) (hx : a.eval x = u)
    (hown : Own w base e v l) (hu : IntsAt w u m) (hl : (l.length + m.length) * 8 ≤ 140737488351232) (hbase : base ≤ w.heap.size)
    (h : ∀ v' w1, Own w1 base e v' (l ++ m) → w.grownBy w1 v.ownBlock → NewOr w v v' → wpList P ops Q rest (a.put o.dst v') w1) :
    wpList P ops Q (o :: rest) a w := by
  refine wpl_append R rfl (by decide) hgd s x ho hs hx hown.2.2 hu.src (by simp) ?_ (by unfold maxLen; omega) (by omega) hbase ?_
  · intro u hu; simp at hu; obtain ⟨_, _, rfl⟩ := hu; rfl
  · intro v' w1 h1 h2 h3
    exact h v' w1 ⟨by simpa using hl, hown.2.1.append hu.2.1, by simpa using h1⟩ h2 h3

theorem Own.base_le {w : World} {base e : Nat} {v : Value} {l : List Int} (h : Own w base e v l) : ∀ k, v.ownBlock = some k → base ≤ k := fun k hk => (h.2.2.lt k hk).1

/-- what was there before the call is there behind an append -/
theorem below_grown {w wr w1 : World} {e B : Nat} {v : Value} {l : List Int} (hb : Below B w wr) (hown : Own wr B e v l) (hg : wr.grownBy w1 v.ownBlock) (hB : B ≤ wr.heap.size) : Below B w w1 :=
  hb.grown hg hB hown.base_le

/-- the block of a value is there -/
def Lies (w : World) (v : Value) : Prop := ∀ k, v.ownBlock = some k → k < w.heap.size
/-- two values share no block -/
def Sep (u v : Value) : Prop := ∀ k, u.ownBlock = some k → v.ownBlock = some k → False

theorem Sep.symm {u v : Value} (h : Sep u v) : Sep v u := fun k h1 h2 => h k h2 h1
theorem lies_row {w : World} {base e size : Nat} {v : Value} {n : Nat} {xs : List Value} (h : w.ownsRow base e size v n xs) : Lies w v := fun k hk => (h.lt k hk).2
theorem Own.lies {w : World} {base e : Nat} {v : Value} {l : List Int} (h : Own w base e v l) : Lies w v := lies_row h.2.2
theorem Lies.mono {w w' : World} {v : Value} (h : Lies w v) (hs : w.heap.size ≤ w'.heap.size) : Lies w' v := fun k hk => Nat.lt_of_lt_of_le (h k hk) hs
theorem Sep.new {w : World} {u v v' : Value} (hs : Sep u v) (hl : Lies w u) (hn : NewOr w v v') : Sep u v' := fun k h1 h2 => by
  rcases hn k h2 with h | h
  · exact hs k h1 h
  · have := hl k h1; omega
/-- what is younger shares no block with what is older -/
theorem sep_young {w w1 : World} {e : Nat} {u v : Value} {l : List Int} (h : Own w1 w.heap.size e u l) (hl : Lies w v) : Sep u v := fun k h1 h2 => by
  have := h.base_le k h1; have := hl k h2; omega

theorem IntsAt.grown {w w' : World} {u v : Value} {l : List Int} (h : IntsAt w u l) (hg : w.grownBy w' v.ownBlock) (hs : Sep u v) : IntsAt w' u l := by
  obtain ⟨h1, h2, a, cap, rfl, hn, h3⟩ := h
  refine ⟨h1, h2, a, cap, rfl, hn, fun hl => ?_⟩
  obtain ⟨b, off, rfl, hlt, hc⟩ := h3 hl
  refine ⟨b, off, rfl, Nat.lt_of_lt_of_le hlt hg.size, fun j hj => hg.cell (hc j hj) (fun e => hs b rfl e.symm)⟩
theorem row_grown {w w' : World} {base e size : Nat} {u v : Value} {n : Nat} {xs : List Value} (h : w.ownsRow base e size u n xs) (hg : w.grownBy w' v.ownBlock) (hs : Sep u v) : w'.ownsRow base e size u n xs :=
  h.kept hg (by
    cases hu : u.ownBlock with
    | none => exact .inl rfl
    | some k => exact .inr fun e => hs k hu e.symm)
theorem Own.grown {w w' : World} {base e : Nat} {u v : Value} {l : List Int} (h : Own w base e u l) (hg : w.grownBy w' v.ownBlock) (hs : Sep u v) : Own w' base e u l := ⟨h.1, h.2.1, row_grown h.2.2 hg hs⟩
theorem row_below {w w' : World} {base e size : Nat} {v : Value} {n : Nat} {xs : List Value} (h : w.ownsRow base e size v n xs) (hb : Below w.heap.size w w') : w'.ownsRow base e size v n xs := by
  obtain ⟨h0, ⟨rfl, hn⟩ | ⟨g, cap, cur, rfl, hg, hh, hn, hm, hs, ht⟩⟩ := h
  · exact ⟨h0, .inl ⟨rfl, hn⟩⟩
  · refine ⟨h0, .inr ⟨g, cap, cur, rfl, hg, ?_, hn, hm, hs, ht⟩⟩
    rw [hb.block g ?_]; exact hh
    rw [Array.getElem?_eq_some_iff] at hh; exact hh.1
/-- the value at a place -/
def vat (vs : List Value) (j : Nat) : Value := vs.getD j undef

/-- a row of one cell an element: where it lies, and its cells -/
theorem row_at {w : World} {base e : Nat} {v : Value} {n : Nat} {xs : List Value} (h : w.ownsRow base e 1 v n xs) (hn : 0 < n) :
    ∃ g cap, v = .slice (some ⟨g, 0, none⟩) n cap ∧ g < w.heap.size ∧ (∀ j, w.frozen? ⟨g, j, none⟩ = false) ∧ ∀ j, j < n → w.cell? ⟨g, j, none⟩ = some (vat xs j) := by
  have h' := h
  obtain ⟨h0, ⟨rfl, hn⟩ | ⟨g, cap, cur, rfl, hg, hh, hn, hm, hs, ht⟩⟩ := h
  · omega
  · refine ⟨g, cap, rfl, (h'.lt g rfl).2, fun j => h'.frozenAt j, fun j hj => ?_⟩
    rw [h'.cellAt j (by omega), vat, List.getD_eq_getElem?_getD, List.getElem?_eq_getElem (by omega)]; rfl

/-- a slice of slices of ints, each apart from the slice 'mv' of the call's own -/
def Parts (w : World) (base e2 : Nat) (pv : Value) (vs : List Value) (g : Nat → List Int) (mv : Value) : Prop :=
  w.ownsRow base e2 1 pv vs.length vs ∧ Sep pv mv ∧ ∀ j, j < vs.length → IntsAt w (vat vs j) (g j) ∧ Lies w (vat vs j) ∧ Sep (vat vs j) mv ∧ Sep (vat vs j) pv

theorem Parts.below {w w' : World} {base e2 : Nat} {pv mv : Value} {vs : List Value} {g : Nat → List Int} (h : Parts w base e2 pv vs g mv) (hb : Below w.heap.size w w') : Parts w' base e2 pv vs g mv :=
  ⟨row_below h.1 hb, h.2.1, fun j hj => ⟨(h.2.2 j hj).1.below hb, (h.2.2 j hj).2.1.mono hb.size, (h.2.2 j hj).2.2⟩⟩
theorem Parts.grown {w w' : World} {base e2 : Nat} {pv mv mv' : Value} {vs : List Value} {g : Nat → List Int} (h : Parts w base e2 pv vs g mv) (hg : w.grownBy w' mv.ownBlock) (hn : NewOr w mv mv') : Parts w' base e2 pv vs g mv' :=
  ⟨row_grown h.1 hg h.2.1, h.2.1.new (lies_row h.1) hn, fun j hj => ⟨(h.2.2 j hj).1.grown hg (h.2.2 j hj).2.2.1, (h.2.2 j hj).2.1.mono hg.size, (h.2.2 j hj).2.2.1.new (h.2.2 j hj).2.1 hn, (h.2.2 j hj).2.2.2⟩⟩

/-- one more part was kept -/
theorem Parts.snoc {w w' : World} {B e2 : Nat} {pv pv' mv v1 : Value} {vs : List Value} {g : Nat → List Int} (h : Parts w B e2 pv vs g mv) (hl : Lies w mv)
    (i1 : IntsAt w v1 (g vs.length)) (l1 : Lies w v1) (s1 : Sep v1 mv) (s2 : Sep v1 pv)
    (h3 : w'.ownsRow B e2 1 pv' (vs.length + 1) (vs ++ [v1])) (hg3 : w.grownBy w' pv.ownBlock) (hn3 : NewOr w pv pv') : Parts w' B e2 pv' (vs ++ [v1]) g mv := by
  refine ⟨by simpa using h3, (h.2.1.symm.new hl hn3).symm, fun j hj => ?_⟩
  by_cases e : j < vs.length
  · have := h.2.2 j e
    have e1 : vat (vs ++ [v1]) j = vat vs j := by rw [vat, vat, List.getD_eq_getElem?_getD, List.getElem?_append_left e, List.getD_eq_getElem?_getD]
    rw [e1]
    exact ⟨this.1.grown hg3 this.2.2.2, this.2.1.mono hg3.size, this.2.2.1, this.2.2.2.new this.2.1 hn3⟩
  · obtain rfl : j = vs.length := by simp at hj; omega
    have e : vat (vs ++ [v1]) vs.length = v1 := by simp [vat, List.getD_eq_getElem?_getD]
    rw [e]
    exact ⟨i1.grown hg3 s2, l1.mono hg3.size, s1, s2.new l1 hn3⟩

/-- a round of the first loop: a part was made, appended, and kept -/
theorem parts_step {B e e2 : Nat} {wr w1 w2 w3 : World} {pv pv' mv mv' v1 : Value} {vs : List Value} {g : Nat → List Int} {l l' : List Int} (h : Parts wr B e2 pv vs g mv) (hown : Own wr B e mv l)
    (hb : Below wr.heap.size wr w1) (h1 : Own w1 wr.heap.size e v1 (g vs.length))
    (h2 : Own w2 B e mv' l') (hg2 : w1.grownBy w2 mv.ownBlock) (hn2 : NewOr w1 mv mv')
    (h3 : w3.ownsRow B e2 1 pv' (vs.length + 1) (vs ++ [v1])) (hg3 : w2.grownBy w3 pv.ownBlock) (hn3 : NewOr w2 pv pv') :
    Parts w3 B e2 pv' (vs ++ [v1]) g mv' ∧ Own w3 B e mv' l' := by
  have hP : Parts w2 B e2 pv vs g mv' := (h.below hb).grown hg2 hn2
  have s1 : Sep v1 mv := sep_young h1 hown.lies
  have s2 : Sep v1 pv := sep_young h1 (lies_row h.1)
  have s3 : Sep v1 mv' := s1.new h1.lies hn2
  have i1 : IntsAt w2 v1 (g vs.length) := h1.ints.grown hg2 s1
  have l1 : Lies w2 v1 := h1.lies.mono hg2.size
  refine ⟨⟨by simpa using h3, ?_, fun j hj => ?_⟩, h2.grown hg3 hP.2.1.symm⟩
  · exact (hP.2.1.symm.new h2.lies hn3).symm
  · by_cases e : j < vs.length
    · have := hP.2.2 j e
      have e1 : vat (vs ++ [v1]) j = vat vs j := by rw [vat, vat, List.getD_eq_getElem?_getD, List.getElem?_append_left e, List.getD_eq_getElem?_getD]
      rw [e1]
      exact ⟨this.1.grown hg3 this.2.2.2, this.2.1.mono hg3.size, this.2.2.1, this.2.2.2.new this.2.1 hn3⟩
    · obtain rfl : j = vs.length := by simp at hj; omega
      have e : vat (vs ++ [v1]) vs.length = v1 := by simp [vat, List.getD_eq_getElem?_getD]
      rw [e]
      exact ⟨i1.grown hg3 s2, l1.mono hg3.size, s3, s2.new l1 hn3⟩

/-- 'l = append(l, x)' on a slice of the call's own, its elements values of one cell -/
theorem wpl_append1v {P : Program} {t e : TypeId} {z : Value} {bytes : Nat} (R : RowT P t e z 1 bytes) (hz : z.cells.size = 1) {wr : World} {ops : Array Oper} {rest : List Oper} {o : Oper} {a : Act} {Q : Exit → Act → World → Prop} (hgd : o.guard = none) (s x : Operand)
    (ho : o.op = .call { callee := .builtin .append, args := #[s, x], argTypes := #[t, t] })
    {base : Nat} {v u : Value} {xs : List Value} (hs : a.eval s = v) (hx : a.eval x = .slice (some ⟨wr.heap.size, 0, none⟩) 1 1)
    (hown : wr.ownsRow base e 1 v xs.length xs) (hu : u.oneCell' = true) (hl : (xs.length + 1) * bytes ≤ 140737488355328) (hl2 : xs.length + 1 ≤ maxLen) (hbase : base ≤ wr.heap.size)
    (h : ∀ v' w1, w1.ownsRow base e 1 v' (xs.length + 1) (xs ++ [u]) → wr.grownBy w1 v.ownBlock → NewOr wr v v' → wpList P ops Q rest (a.put o.dst v') w1) :
    wpList P ops Q (o :: rest) a (wr.alloc (.cells #[u] e)) := by
  refine wpl_append R hz (by decide) hgd s x ho (base := base) (v := v) (m := 1) (news := [u]) hs rfl (hown.alloc _) ?_ rfl ?_ hl2 hl ?_ ?_
  · refine .inr ⟨_, _, hx, ?_⟩
    intro j u hj
    match j, hj with
    | 0, hj => simp at hj; subst hj; simp [Addr.add]
  · intro u' hu'; simp at hu'; subst hu'; exact hu
  · simp; omega
  · intro v' w1 h1 h2 h3
    exact h v' w1 h1 (grown_alloc h2) (fun k hk => (h3 k hk).imp id (fun h => by simp at h; omega))

end Go.Proofs.Ytpeiajmgkhajoab
