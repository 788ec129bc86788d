/- The reference's tape. -/
import Derived.Test.YtpeiajmgkhajoabTapeE
import Derived.Deep.RegionLaw
namespace Go.Proofs.Ytpeiajmgkhajoab
set_option linter.unusedVariables false
open Go.RowKit

/-- a slice is not longer than its array -/
def Roomy (v : Value) : Prop := ∀ a n c, v = .slice a n c → n ≤ c
theorem Own.roomy {w : World} {base e : Nat} {v : Value} {l : List Int} (h : Own w base e v l) : Roomy v := by
  obtain ⟨_, _, _, ⟨rfl, hn⟩ | ⟨g, cap, cur, rfl, hg, hh, hn, hr⟩⟩ := h
  · intro a n c h; simp at h; omega
  · intro a n c h; simp at h; omega

/-- where a slice's numbers lie -/
def Foot (v : Value) (l : List Int) (k : Nat) : Prop := 0 < l.length ∧ v.ownBlock = some k

/-- the reference's tape: a block of two slices -/
def RefAt (w : World) (b : Nat) (i o : List Int) (S : Nat → Prop) : Prop :=
  ∃ iv ov, w.heap[b]? = some (.cells #[iv, ov] 35 (0, 0)) ∧ IntsAt w iv i ∧ IntsAt w ov o ∧ Roomy iv ∧ Roomy ov ∧ ∀ k, S k ↔ (k = b ∨ Foot iv i k ∨ Foot ov o k)

theorem IntsAt.keeps {w w' : World} {v : Value} {l : List Int} {S : Nat → Prop} (h : IntsAt w v l) (hk : Keeps w w' S) (hd : ∀ k, Foot v l k → ¬ S k) : IntsAt w' v l := by
  obtain ⟨h1, h2, a, cap, rfl, hn, h3⟩ := h
  refine ⟨h1, h2, a, cap, rfl, hn, fun hl => ?_⟩
  obtain ⟨b, off, rfl, hlt, hc⟩ := h3 hl
  refine ⟨b, off, rfl, Nat.lt_of_lt_of_le hlt hk.size, fun j hj => ?_⟩
  rw [← hc j hj]
  simp only [World.cell?, hk.block b hlt (hd b ⟨hl, rfl⟩)]

theorem foot_lt {w : World} {v : Value} {l : List Int} {k : Nat} (h : IntsAt w v l) (hf : Foot v l k) : k < w.heap.size := by
  obtain ⟨h1, h2, a, cap, rfl, hn, h3⟩ := h
  obtain ⟨b, off, rfl, hlt, hc⟩ := h3 hf.1
  have := hf.2
  simp only [Value.ownBlock, Option.some.injEq] at this
  omega

theorem RefAt.keeps {w w' : World} {b : Nat} {i o : List Int} {S T : Nat → Prop} (h : RefAt w b i o S) (hk : Keeps w w' T) (hd : ∀ k, S k → ¬ T k) : RefAt w' b i o S := by
  obtain ⟨iv, ov, hh, hi, ho, hri, hro, hS⟩ := h
  have hbl : b < w.heap.size := by rw [Array.getElem?_eq_some_iff] at hh; exact hh.1
  exact ⟨iv, ov, (hk.block b hbl (hd b ((hS b).2 (.inl rfl)))).trans hh, hi.keeps hk fun k hf => hd k ((hS k).2 (.inr (.inl hf))), ho.keeps hk fun k hf => hd k ((hS k).2 (.inr (.inr hf))), hri, hro, hS⟩
theorem RefAt.below {w w' : World} {b : Nat} {i o : List Int} {S : Nat → Prop} (h : RefAt w b i o S) (hb : Below w.heap.size w w') : RefAt w' b i o S := h.keeps (Keeps.of_below (fun _ => False) hb) (fun _ _ e => e)
theorem RefAt.lt {w : World} {b : Nat} {i o : List Int} {S : Nat → Prop} (h : RefAt w b i o S) : ∀ k, S k → k < w.heap.size := by
  obtain ⟨iv, ov, hh, hi, ho, hri, hro, hS⟩ := h
  intro k hk
  rcases (hS k).1 hk with rfl | h | h
  · rw [Array.getElem?_eq_some_iff] at hh; exact hh.1
  · exact foot_lt hi h
  · exact foot_lt ho h

/-- what Do leaves: only its own block was written -/
def RLeft (w w' : World) (b : Nat) (i o : List Int) (S : Nat → Prop) : Prop := ∃ S', RefAt w' b i o S' ∧ Keeps w w' (fun k => k = b) ∧ Grew w S S'

/-- an append as one step of a region that draws -/
theorem step_append {P : Program} {t e : TypeId} {z : Value} {size bytes : Nat} (R : RowT P t e z size bytes) (hzs : z.cells.size = size) (hsz : 0 < size) {w : World} {ops : Array Oper} {o : Oper} {a : Act} {K : Act → World → Prop} {Q : Exit → Act → World → Prop} {E : Prop} (hgd : o.guard = none) (s x : Operand)
    (ho : o.op = .call { callee := .builtin .append, args := #[s, x], argTypes := #[t, t] })
    {base : Nat} {v u : Value} {n m : Nat} {xs news : List Value} (hs : a.eval s = v) (hx : a.eval x = u) (hown : w.ownsRow base e size v n xs)
    (hu : u = .slice none 0 0 ∧ m = 0 ∧ news = [] ∨ ∃ ad c, u = .slice (some ad) m c ∧ ∀ j u, news[j]? = some u → w.cell? (ad.add j) = some u) (hl : news.length = m * size) (h1 : ∀ u ∈ news, u.oneCell' = true)
    (h63 : n + m ≤ maxLen) (hbytes : (n + m) * bytes ≤ 140737488355328) (hbase : base ≤ w.heap.size)
    (h : ∀ v' w1, w1.ownsRow base e size v' (n + m) (xs ++ news) → w.grownBy w1 v.ownBlock → NewOr w v v' → K (a.put o.dst v') w1) :
    if Region.wanted o (yielded ops a.tmps) = true then Oper.wp P o a w K Q else E := by
  have hw : Region.wanted o (yielded ops a.tmps) = true := by simp [Region.wanted, hgd]
  rw [if_pos hw]
  rcases hu with ⟨rfl, rfl, rfl⟩ | ⟨ad, c, rfl, hnews⟩
  · obtain ⟨i, hi, hz, hsize, hby⟩ := info_parts R.inf
    have hrun := run_append_owned_none (P := P) (w := w) base t o.type e i size R.und hi v n xs hown
    unfold Oper.wp
    simp [execOp, ho, resolve, invoke, builtin, hs, hx, hrun, Result.andThen]
    exact h v w (by simpa using hown) (World.grownBy.refl _ _) (fun k hk => .inl hk)
  · obtain ⟨v', w', hr, h2, h3, h4⟩ := run_append_new (P := P) w (ty := o.type) R hzs hsz base v n xs hown ad m c news hl hnews h1 h63 hbytes hbase
    unfold Oper.wp execOp
    simp only [ho, resolve, invoke, builtin, Sem.run_bind, Sem.run_pure, Result.andThen_ok, List.map_toArray, List.map_cons, List.map_nil, hs, hx, hr]
    exact h v' w' h2 h3 h4

theorem step_appends {P : Program} {t e : TypeId} (R : RowT P t e (.int .i64 0) 1 8) {w : World} {ops : Array Oper} {o : Oper} {a : Act} {K : Act → World → Prop} {Q : Exit → Act → World → Prop} {E : Prop} (hgd : o.guard = none) (s x : Operand)
    (ho : o.op = .call { callee := .builtin .append, args := #[s, x], argTypes := #[t, t] })
    {base : Nat} {v u : Value} {l m : List Int} (hs : a.eval s = v) (hx : a.eval x = u)
    (hown : Own w base e v l) (hu : IntsAt w u m) (hl : (l.length + m.length) * 8 ≤ 140737488351232) (hbase : base ≤ w.heap.size)
    (h : ∀ v' w1, Own w1 base e v' (l ++ m) → w.grownBy w1 v.ownBlock → NewOr w v v' → K (a.put o.dst v') w1) :
    if Region.wanted o (yielded ops a.tmps) = true then Oper.wp P o a w K Q else E := by
  refine step_append R rfl (by decide) hgd s x ho hs hx hown.2.2 hu.src (by simp) ?_ (by unfold maxLen; omega) (by omega) hbase ?_
  · intro u hu; simp at hu; obtain ⟨y, _, rfl⟩ := hu; rfl
  · intro v' w1 h1 h2 h3
    refine h v' w1 ⟨by simpa using hl, hown.2.1.append hu.2.1, by simpa using h1⟩ h2 h3

/-- 'x[1:]' -/
theorem IntsAt.tail {P : Program} {t e : TypeId} {z : Value} {bytes : Nat} (R : RowT P t e z 1 bytes) {w : World} {v : Value} {l : List Int} (h : IntsAt w v l) (hl : 0 < l.length) (hc : Roomy v) :
    ∃ v2, (∀ w', (Instr.slice t v (some (.int .i64 1)) none none).run P w' = .ok v2 w') ∧ IntsAt w v2 l.tail := by
  obtain ⟨h1, h2, a, cap, rfl, hn, h3⟩ := h
  obtain ⟨b, off, rfl, hlt, hcell⟩ := h3 hl
  have hcap := hc _ _ _ rfl
  obtain ⟨i, hi, _, hsize, _⟩ := info_parts R.inf
  refine ⟨.slice (if cap = 1 then some ⟨b, off, none⟩ else (some ⟨b, off, none⟩ : Option Addr).map (·.add (1 * 1))) (l.length - 1) (cap - 1), fun w' => ?_, ?_⟩
  · have hel : P.elem t = e := by simp [Program.elem, R.und]
    have hund : P.underlying t = some (.slice (P.elem t)) := by rw [hel]; exact R.und
    rw [run_slice_l w' t _ _ _ hund .i64 1 (by decide) (by omega)]
    simp [sizeOf, typeInfo, hi, hsize, sliced, hel, Result.andThen]
  · refine ⟨by simp; omega, fun x hx => h2 x (List.mem_of_mem_tail hx), _, _, by rw [List.length_tail], ?_, fun hp => ?_⟩
    · intro h; split at h <;> simp at h
    · simp only [List.length_tail] at hp
      have hcap1 : cap ≠ 1 := by omega
      refine ⟨b, off + 1, by rw [if_neg hcap1]; rfl, hlt, fun j hj => ?_⟩
      simp only [List.length_tail] at hj
      rw [show off + 1 + j = off + (j + 1) by omega, hcell (j + 1) (by omega)]
      simp [nth]

/-- 'x[:len(x)-1]' -/
theorem IntsAt.init {P : Program} {t e : TypeId} {z : Value} {bytes : Nat} (R : RowT P t e z 1 bytes) {w : World} {v : Value} {l : List Int} (h : IntsAt w v l) (hl : 0 < l.length) (hc : Roomy v) :
    ∃ v2, (∀ w', (Instr.slice t v none (some (.int .i64 ((l.length : Int) - 1))) none).run P w' = .ok v2 w') ∧ IntsAt w v2 l.dropLast := by
  obtain ⟨h1, h2, a, cap, rfl, hn, h3⟩ := h
  obtain ⟨b, off, rfl, hlt, hcell⟩ := h3 hl
  have hcap := hc _ _ _ rfl
  obtain ⟨i, hi, _, hsize, _⟩ := info_parts R.inf
  refine ⟨.slice (some ⟨b, off, none⟩) (l.length - 1) cap, fun w' => ?_, ?_⟩
  · have hel : P.elem t = e := by simp [Program.elem, R.und]
    have hund : P.underlying t = some (.slice (P.elem t)) := by rw [hel]; exact R.und
    rw [run_slice_h w' t _ _ _ hund .i64 _ (by omega) (by omega)]
    have e1 : ((l.length : Int) - 1).toNat = l.length - 1 := by omega
    simp [sizeOf, typeInfo, hi, hsize, sliced, hel, Result.andThen, e1, Addr.add]
  · refine ⟨by simp; omega, fun x hx => h2 x ((List.dropLast_sublist _).subset hx), some ⟨b, off, none⟩, cap, by rw [List.length_dropLast], nofun, fun hp => ⟨b, off, rfl, hlt, fun j hj => ?_⟩⟩
    simp only [List.length_dropLast] at hj
    rw [hcell j (by omega)]
    have hj' : j < l.length := by omega
    simp [nth, hj, hj']

/-- the reference's tape behind a store into one of its two places -/
theorem ref_set {w w1 : World} {b : Nat} {i o i' o' : List Int} {S : Nat → Prop} {iv ov v' : Value} {l : List Int} (c : Nat) (hb : b < w.heap.size) (hh : w.heap[b]? = some (.cells #[iv, ov] 35 (0, 0)))
    (hi : IntsAt w iv i) (ho : IntsAt w ov o) (hri : Roomy iv) (hro : Roomy ov) (hS : ∀ k, S k ↔ (k = b ∨ Foot iv i k ∨ Foot ov o k))
    (hbl : Below w.heap.size w w1) (ho1 : Own w1 w.heap.size 3 v' l) (hc : c = 0 ∧ i' = l ∧ o' = o ∨ c = 1 ∧ i' = i ∧ o' = l) :
    RLeft w (w1.setCell ⟨b, c, none⟩ v') b i' o' S := by
  have hb1 : w1.heap[b]? = some (.cells #[iv, ov] 35 (0, 0)) := (hbl.block b hb).trans hh
  have hset := heap_setCell_same w1 b c #[iv, ov] 35 v' hb1
  have hk1 : Keeps w1 (w1.setCell ⟨b, c, none⟩ v') (fun k => k = b) := ⟨rfl, rfl, rfl, by simp [World.setCell], fun k hk hs => heap_setCell_other w1 ⟨b, c, none⟩ k v' (fun e => hs e)⟩
  have hk : Keeps w (w1.setCell ⟨b, c, none⟩ v') (fun k => k = b) := (Keeps.of_below _ hbl).trans hk1 (fun k e => .inl e)
  have hne : ∀ {v : Value} {l : List Int}, IntsAt w v l → ∀ k, Foot v l k → ¬ k = b := by
    rintro v l ⟨_, _, a, cap, rfl, _, h3⟩ k hf rfl
    obtain ⟨b', off, rfl, hlt, hcell⟩ := h3 hf.1
    have e := hf.2
    simp only [Value.ownBlock, Option.some.injEq] at e
    subst e
    have := hcell 0 hf.1
    obtain ⟨a1, c1, e1⟩ := hi.form
    obtain ⟨a2, c2, e2⟩ := ho.form
    subst e1 e2
    simp only [World.cell?, hh] at this
    match off, this with
    | 0, this => simp at this
    | 1, this => simp at this
    | off + 2, this => simp at this
  have hnew : ∀ k, v'.ownBlock = some k → w.heap.size ≤ k := fun k e => ho1.base_le k e
  have hov : Own (w1.setCell ⟨b, c, none⟩ v') w.heap.size 3 v' l := own_keeps ho1 hk1 (fun k e e2 => by have := hnew k e; omega)
  rcases hc with ⟨rfl, rfl, rfl⟩ | ⟨rfl, rfl, rfl⟩
  · refine ⟨fun k => k = b ∨ Foot v' i' k ∨ Foot ov o' k, ⟨v', ov, hset, hov.ints, ho.keeps hk (hne ho), ho1.roomy, hro, fun k => Iff.rfl⟩, hk, ?_⟩
    rintro k (h | h | h)
    · exact .inl ((hS k).2 (.inl h))
    · exact .inr (hnew k h.2)
    · exact .inl ((hS k).2 (.inr (.inr h)))
  · refine ⟨fun k => k = b ∨ Foot iv i' k ∨ Foot v' o' k, ⟨iv, v', hset, hi.keeps hk (hne hi), hov.ints, hri, ho1.roomy, fun k => Iff.rfl⟩, hk, ?_⟩
    rintro k (h | h | h)
    · exact .inl ((hS k).2 (.inl h))
    · exact .inl ((hS k).2 (.inr (.inl h)))
    · exact .inr (hnew k h.2)

theorem RLeft.of_below {w w' : World} {b : Nat} {i o : List Int} {S : Nat → Prop} (h : RefAt w b i o S) (hb : Below w.heap.size w w') : RLeft w w' b i o S := ⟨S, h.below hb, Keeps.of_below _ hb, fun _ h => .inl h⟩

theorem at_new (w : World) (x y : Obj) : ((w.alloc x).alloc y).heap[w.heap.size + 1]? = some y := by
  have := heap_alloc_new (w.alloc x) y
  simpa using this

/-- the empty slice that the call made -/
theorem own_none {W : World} {g base : Nat} (h : W.heap[g]? = some (.cells #[] 3 (0, 0))) (hb : base ≤ g) : Own W base 3 (.slice (some ⟨g, 0, none⟩) 0 0) [] :=
  ⟨by simp, fun _ h => by simp at h, row_of (cur := #[]) hb h (Nat.le_refl _) (by decide) rfl rfl rfl⟩

set_option maxHeartbeats 1600000 in
theorem refdo_read (w : World) (b : Nat) (i o : List Int) (n : Int) (S : Nat → Prop) (h : RefAt w b i o S) :
    Calls Try.prog 17 #[.pointer (some ⟨b, 0, none⟩), .agg #[.int .i64 1, .int .i64 n]] w fun e w' => e = .returned (.tuple #[.int .i64 (opV 1 i o), .int .i64 (opE 1 i o)]) ∧ RLeft w w' b (opI 1 n i) (opO 1 n o) S := by
  have h' := h
  obtain ⟨iv, ov, hh, hi, ho, hri, hro, hS⟩ := h'
  have hi' := hi
  obtain ⟨h1, h2, a, cap, rfl, hn, h3⟩ := hi'
  have hbl : b < w.heap.size := by rw [Array.getElem?_eq_some_iff] at hh; exact hh.1
  have hc : w.cell? ⟨b, 0, none⟩ = some (.slice a i.length cap) := by simp [World.cell?, hh]
  have hf : w.frozen? ⟨b, 0, none⟩ = false := by simp [World.frozen?, hh]
  have hA : Below w.heap.size w (w.alloc (.cells #[.int .i64 1, .int .i64 n] 37)) := (Below.refl _ _).alloc (Nat.le_refl _) _
  by_cases h0 : i.length = 0
  · obtain rfl : i = [] := List.eq_nil_of_length_eq_zero h0
    simp only [List.length_nil] at hc
    go_enter Try.func17, Try.ntmps17
    go_wp2
    go_ret2
    exact ⟨rfl, RLeft.of_below h hA⟩
  · have hlt : ((i.length : Int) == 0) = false := beq_eq_false_iff_ne.2 (by omega)
    obtain ⟨vt, hsl, hit⟩ := hi.tail TI (by omega) hri
    obtain ⟨g, off, rfl, hgl, hcell⟩ := h3 (by omega)
    have hc0 : w.cell? ⟨g, off, none⟩ = some (.int .i64 (nth i 0)) := hcell 0 (by omega)
    have hp : (0 : Int) < (i.length : Int) := by omega
    have hp' : 0 < i.length := by omega
    have hlen : i.length * 8 ≤ 140737488351232 := h1
    have HC := Lib.hid hcell
    clear hcell h3
    have hB : Below w.heap.size w ((w.alloc (.cells #[.int .i64 1, .int .i64 n] 37)).alloc (.cells #[] 3)) := hA.alloc (by simp) _
    have hE : Own ((w.alloc (.cells #[.int .i64 1, .int .i64 n] 37)).alloc (.cells #[] 3)) w.heap.size 3 (.slice (some ⟨w.heap.size + 1, 0, none⟩) 0 0) [] := own_none (at_new _ _ _) (by omega)
    go_enter Try.func17, Try.ntmps17
    go_wp2_with (at_builtin; refine wpl_appends TI rfl (.tmp 60) (.tmp 65) rfl rfl rfl hE (hit.below hB) (by simp; omega) (by simp; omega) ?_)
    intro v' w1 hown hg hnew
    have hbl1 : Below w.heap.size w w1 := below_grown hB hE hg (by simp; omega)
    have hc1 : w1.cell? ⟨b, 0, none⟩ = some (.slice (some ⟨g, off, none⟩) i.length cap) := (hbl1.cell (p := ⟨b, 0, none⟩) hbl).trans hc
    have hf1 : w1.frozen? ⟨b, 0, none⟩ = false := (hbl1.frozen (p := ⟨b, 0, none⟩) hbl).trans hf
    have hfin := ref_set (i' := i.tail) (o' := o) 0 hbl hh hi ho hri hro hS hbl1 hown (.inl ⟨rfl, rfl, rfl⟩)
    obtain ⟨a1, cap1, rfl⟩ := hown.form
    clear hE hB hg hnew hown hc hf
    go_wp2
    go_ret2
    simp only [List.length_tail] at hfin
    refine ⟨?_, hfin⟩
    simp only [opV, opE, if_true, readV, readE, if_neg h0]
    rfl

theorem own_one {W : World} {g base : Nat} {x : Int} (h : W.heap[g]? = some (.cells #[.int .i64 x] 3 (0, 0))) (hb : base ≤ g) (hx : In64 x) : Own W base 3 (.slice (some ⟨g, 0, none⟩) 1 1) [x] :=
  ⟨by simp, fun y hy => by simp at hy; subst hy; exact hx, row_of (cur := #[.int .i64 x]) hb h (Nat.le_refl _) (by decide) rfl rfl rfl⟩

/-- behind an append to a slice of the call's own: what the store needs, and what it leaves -/
theorem ref_room {w W : World} {b : Nat} {i o : List Int} {S : Nat → Prop} {iv ov v : Value} {l : List Int} (hh : w.heap[b]? = some (.cells #[iv, ov] 35 (0, 0)))
    (hi : IntsAt w iv i) (ho : IntsAt w ov o) (hri : Roomy iv) (hro : Roomy ov) (hS : ∀ k, S k ↔ (k = b ∨ Foot iv i k ∨ Foot ov o k))
    (hB : Below w.heap.size w W) (hE : Own W w.heap.size 3 v l) :
    ∀ v' w1 l', Own w1 w.heap.size 3 v' l' → W.grownBy w1 v.ownBlock → 
      (w1.cell? ⟨b, 0, none⟩ = some iv ∧ w1.cell? ⟨b, 1, none⟩ = some ov) ∧ (w1.frozen? ⟨b, 0, none⟩ = false ∧ w1.frozen? ⟨b, 1, none⟩ = false) ∧
      (RLeft w (w1.setCell ⟨b, 0, none⟩ v') b l' o S ∧ RLeft w (w1.setCell ⟨b, 1, none⟩ v') b i l' S) := by
  intro v' w1 l' hown hg
  have hbl : b < w.heap.size := by rw [Array.getElem?_eq_some_iff] at hh; exact hh.1
  have hbl1 : Below w.heap.size w w1 := below_grown hB hE hg hB.size
  have hb1 : w1.heap[b]? = some (.cells #[iv, ov] 35 (0, 0)) := (hbl1.block b hbl).trans hh
  refine ⟨⟨by simp [World.cell?, hb1], by simp [World.cell?, hb1]⟩, ⟨by simp [World.frozen?, hb1], by simp [World.frozen?, hb1]⟩, ?_⟩
  exact ⟨ref_set 0 hbl hh hi ho hri hro hS hbl1 hown (.inl ⟨rfl, rfl, rfl⟩), ref_set 1 hbl hh hi ho hri hro hS hbl1 hown (.inr ⟨rfl, rfl, rfl⟩)⟩

set_option maxHeartbeats 1600000 in
theorem refdo_unread (w : World) (b : Nat) (i o : List Int) (n : Int) (S : Nat → Prop) (h : RefAt w b i o S) (hn64 : In64 n) :
    Calls Try.prog 17 #[.pointer (some ⟨b, 0, none⟩), .agg #[.int .i64 2, .int .i64 n]] w fun e w' => e = .returned (.tuple #[.int .i64 (opV 2 i o), .int .i64 (opE 2 i o)]) ∧ RLeft w w' b (opI 2 n i) (opO 2 n o) S := by
  have h' := h
  obtain ⟨iv, ov, hh, hi, ho, hri, hro, hS⟩ := h'
  obtain ⟨a, cap, rfl⟩ := hi.form
  have h1 := hi.1
  have hbl : b < w.heap.size := by rw [Array.getElem?_eq_some_iff] at hh; exact hh.1
  have hc : w.cell? ⟨b, 0, none⟩ = some (.slice a i.length cap) := by simp [World.cell?, hh]
  have hf : w.frozen? ⟨b, 0, none⟩ = false := by simp [World.frozen?, hh]
  have hA : Below w.heap.size w (w.alloc (.cells #[.int .i64 2, .int .i64 n] 37)) := (Below.refl _ _).alloc (Nat.le_refl _) _
  by_cases h0 : 4096 ≤ i.length
  · have hlt : decide (4096 ≤ (i.length : Int)) = true := by simp; omega
    go_enter Try.func17, Try.ntmps17
    go_wp2
    go_ret2
    simp only [opV, opE, opI, opO, unreadE, unreadL, if_pos h0]
    exact ⟨rfl, RLeft.of_below h hA⟩
  · have hlt : decide (4096 ≤ (i.length : Int)) = false := by simp; omega
    have hB : Below w.heap.size w ((w.alloc (.cells #[.int .i64 2, .int .i64 n] 37)).alloc (.cells #[.int .i64 n] 3)).drew := below_drewN (hA.alloc (by simp) _) 1
    have hE : Own ((w.alloc (.cells #[.int .i64 2, .int .i64 n] 37)).alloc (.cells #[.int .i64 n] 3)).drew w.heap.size 3 (.slice (some ⟨w.heap.size + 1, 0, none⟩) 1 1) [n] := own_one (at_new _ _ _) (by omega) hn64
    have hK := Lib.hid (ref_room hh hi ho hri hro hS hB hE)
    go_enter Try.func17, Try.ntmps17
    go_wp2_with fail
    go_region_law ((refine step_appends TI (by rfl) (.tmp 81) (.tmp 85) (by rfl) (by rfl) (by rfl) hE (hi.below hB) (by simp; omega) (by simp; omega) ?_; intro v' w1 hown hg hnew; obtain ⟨⟨hc1, hc2⟩, ⟨hf1, hf2⟩, hfin⟩ := hK.out v' w1 _ hown hg; obtain ⟨a1, cap1, rfl⟩ := hown.form))
    all_goals
      go_wp2
      go_ret2
      simp only [opV, opE, opI, opO, unreadE, unreadL, if_neg h0]
      exact ⟨rfl, hfin.1⟩

set_option maxHeartbeats 3200000 in
theorem refdo_unwrite (w : World) (b : Nat) (i o : List Int) (k n : Int) (S : Nat → Prop) (h : RefAt w b i o S) (k1 : k ≠ 1) (k2 : k ≠ 2) (k3 : k ≠ 3) :
    Calls Try.prog 17 #[.pointer (some ⟨b, 0, none⟩), .agg #[.int .i64 k, .int .i64 n]] w fun e w' => e = .returned (.tuple #[.int .i64 (opV k i o), .int .i64 (opE k i o)]) ∧ RLeft w w' b (opI k n i) (opO k n o) S := by
  have d1 : (k == 1) = false := by simpa using k1
  have d2 : (k == 2) = false := by simpa using k2
  have d3 : (k == 3) = false := by simpa using k3
  have h' := h
  obtain ⟨iv, ov, hh, hi, ho, hri, hro, hS⟩ := h'
  have ho' := ho
  obtain ⟨h1, h2, a, cap, rfl, hn, h3⟩ := ho'
  have hbl : b < w.heap.size := by rw [Array.getElem?_eq_some_iff] at hh; exact hh.1
  have hc : w.cell? ⟨b, 1, none⟩ = some (.slice a o.length cap) := by simp [World.cell?, hh]
  have hf : w.frozen? ⟨b, 1, none⟩ = false := by simp [World.frozen?, hh]
  have hA : Below w.heap.size w (w.alloc (.cells #[.int .i64 k, .int .i64 n] 37)) := (Below.refl _ _).alloc (Nat.le_refl _) _
  by_cases h0 : o.length = 0
  · obtain rfl : o = [] := List.eq_nil_of_length_eq_zero h0
    simp only [List.length_nil] at hc
    go_enter Try.func17, Try.ntmps17
    go_wp2
    go_ret2
    simp only [opV, opE, opI, opO, if_neg k1, if_neg k2, if_neg k3]
    exact ⟨rfl, RLeft.of_below h hA⟩
  · have hlt : ((o.length : Int) == 0) = false := beq_eq_false_iff_ne.2 (by omega)
    obtain ⟨vt, hsl, hit⟩ := ho.init TI (by omega) hro
    obtain ⟨g, off, rfl, hgl, hcell⟩ := h3 (by omega)
    have hc0 : w.cell? ⟨g, off + (o.length - 1), none⟩ = some (.int .i64 (nth o (o.length - 1))) := hcell _ (by omega)
    have HC := Lib.hid hcell
    clear hcell h3
    have e1 : o.length - 1 + 1 = o.length := by omega
    have hlen : o.dropLast.length * 8 ≤ 140737488351232 := by simp; omega
    have HE := Lib.hid e1
    clear e1
    have b1 : (0 : Int) ≤ (o.length : Int) - 1 := by omega
    have b2 : (o.length : Int) - 1 < (o.length : Int) := by omega
    have hw : IntKind.i64.wrap ((o.length : Int) - 1) = (o.length : Int) - 1 := IntWalk.i64_in _ (by omega)
    have b3 : ((o.length : Int) - 1).toNat = o.length - 1 := by omega
    go_enter Try.func17, Try.ntmps17
    go_wp2_with fail
    go_quiet (fail)
    go_wp2_with fail
    have hB : Below w.heap.size w (((w.alloc (.cells #[.int .i64 k, .int .i64 n] 37)).drewN (nq + 1)).alloc (.cells #[] 3)) := (below_drewN hA _).alloc (by simp) _
    have hE : Own (((w.alloc (.cells #[.int .i64 k, .int .i64 n] 37)).drewN (nq + 1)).alloc (.cells #[] 3)) w.heap.size 3 (.slice (some ⟨w.heap.size + 1, 0, none⟩) 0 0) [] := own_none (at_new _ _ _) (by omega)
    have hK := Lib.hid (ref_room hh hi ho hri hro hS hB hE)
    go_region_law ((refine step_appends TI (by rfl) (.tmp 29) (.tmp 40) (by rfl) (by rfl) (by rfl) hE (hit.below hB) (by simpa using hlen) (by simp; omega) ?_; intro v' w1 hown hg hnew; obtain ⟨⟨hc1, hc2⟩, ⟨hf1, hf2⟩, hfin⟩ := hK.out v' w1 _ hown hg; obtain ⟨a1, cap1, rfl⟩ := hown.form))
    all_goals
      go_wp2
      go_ret2
      simp only [opV, opE, opI, opO, if_neg k1, if_neg k2, if_neg k3, unwriteV, readE, if_neg h0]
      refine ⟨rfl, ?_⟩
      have := hfin.2
      simpa using this
end Go.Proofs.Ytpeiajmgkhajoab
