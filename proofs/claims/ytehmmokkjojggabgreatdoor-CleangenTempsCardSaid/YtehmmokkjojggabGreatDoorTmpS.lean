/- The state of ast.Walk's inner function between two rounds. -/
import Derived.Test.YtehmmokkjojggabGreatDoorTmpR
import Derived.Maps.OwnIn
import Derived.Lib.Hide
import Derived.Lib.SliceRun
namespace Go.Proofs.YtehmmokkjojggabGreatDoor
set_option linter.unusedVariables false
set_option linter.unusedSimpArgs false
open Go.RowKit

/-- the blocks of the rounds, and those of the path -/
def Oth (P : Nat) (M : World → Nat → Prop) (W : World) (b : Nat) : Prop := M W b ∨ b = P ∨ ∃ pv t fz, W.heap[P]? = some (.cells #[pv] t fz) ∧ pv.ownBlock = some b

theorem TIntP : RowT Tryz.prog 65 3 (.int .i64 0) 1 8 := ⟨Tryz.underlying65, by kernel_rfl⟩

/-- what stands between two rounds: the boxes of yield, path and visit, the path, what the loop's body keeps -/
structure VS (l Y P V n0 : Nat) (A : Nat → Prop) (J : List Nd → World → Prop) (M : World → Nat → Prop) (pre : List Nd) (d : Nat) (W : World) : Prop where
  jm : JM n0 J M
  nP : n0 ≤ P
  y : W.heap[Y]? = some (.cells #[.func (.yield l) #[] #[]] 97 (0, 0))
  v : W.heap[V]? = some (.cells #[.func (.func 55) #[] #[.pointer (some ⟨Y, 0, none⟩), .pointer (some ⟨P, 0, none⟩), .pointer (some ⟨V, 0, none⟩)]] 68 (0, 0))
  p : ∃ pv xs, W.heap[P]? = some (.cells #[pv] 65 (0, 0)) ∧ Own W n0 3 pv xs ∧ xs.length = d
  j : J pre W
  oY : ¬ Oth P M W Y
  oV : ¬ Oth P M W V
  oP : ¬ M W P
  oO : ∀ pv t fz b, W.heap[P]? = some (.cells #[pv] t fz) → pv.ownBlock = some b → ¬ M W b ∧ b ≠ P
  oA : ∀ b, A b → b < W.heap.size ∧ ¬ Oth P M W b

theorem Oth.lt {l Y P V n0 : Nat} {A : Nat → Prop} {J : List Nd → World → Prop} {M : World → Nat → Prop} {pre : List Nd} {d : Nat} {W : World} (h : VS l Y P V n0 A J M pre d W) {b : Nat} (hb : Oth P M W b) : b < W.heap.size := by
  rcases hb with hb | rfl | ⟨pv, t, fz, h1, h2⟩
  · exact h.jm.lt _ _ _ h.j hb
  · obtain ⟨pv, xs, h1, _⟩ := h.p
    exact (Array.getElem?_eq_some_iff.1 h1).1
  · obtain ⟨pv', xs, g1, g2, _⟩ := h.p
    rw [g1] at h1
    simp only [Option.some.injEq, Obj.cells.injEq, Array.mk.injEq, List.cons.injEq, and_true] at h1
    obtain ⟨rfl, -, -⟩ := h1
    exact g2.lies _ h2

/-- the path's cell turns, and what it owns -/
theorem VS.path {l Y P V n0 : Nat} {A : Nat → Prop} {J : List Nd → World → Prop} {M : World → Nat → Prop} {pre : List Nd} {d : Nat} {W W2 : World} (h : VS l Y P V n0 A J M pre d W)
    {pv pv' : Value} {xs' : List Int} (hp : W.heap[P]? = some (.cells #[pv] 65 (0, 0))) (hb : Below n0 W W2) (hk : ∀ b, b < W.heap.size → b ≠ P → pv.ownBlock ≠ some b → W2.heap[b]? = W.heap[b]?)
    (hp' : W2.heap[P]? = some (.cells #[pv'] 65 (0, 0))) (ho : Own W2 n0 3 pv' xs') (hn : NewOr W pv pv') : VS l Y P V n0 A J M pre xs'.length W2 ∧ KM n0 (Oth P M) W W2 := by
  have hne : ∀ b, ¬ Oth P M W b → b < W.heap.size → W2.heap[b]? = W.heap[b]? := fun b hb hlt => hk b hlt (fun e => hb (.inr (.inl e))) (fun e => hb (.inr (.inr ⟨_, _, _, hp, e⟩)))
  have hm : ∀ b, M W b → b ≠ P ∧ pv.ownBlock ≠ some b := fun b hb => ⟨fun e => h.oP (e ▸ hb), fun e => (h.oO _ _ _ b hp e).1 hb⟩
  obtain ⟨j2, m2⟩ := h.jm.stay pre W W2 h.j ⟨hb, fun b hb => hk b (h.jm.lt _ _ _ h.j hb) (hm b hb).1 (hm b hb).2⟩
  have pe : ∀ {q t fz}, W2.heap[P]? = some (.cells #[q] t fz) → q = pv' := fun {q t fz} e => by
    rw [hp'] at e
    simp only [Option.some.injEq, Obj.cells.injEq, Array.mk.injEq, List.cons.injEq, and_true] at e
    exact e.1.symm
  have PL : P < W.heap.size := (Array.getElem?_eq_some_iff.1 hp).1
  have o2 : ∀ b, b < W.heap.size → ¬ Oth P M W b → ¬ Oth P M W2 b := fun b hlt hb hc => by
    rcases hc with hc | rfl | ⟨q, t, fz, e1, e2⟩
    · exact hb (.inl (m2 b hc))
    · exact hb (.inr (.inl rfl))
    · obtain rfl := pe e1
      rcases hn b e2 with e | e
      · exact hb (.inr (.inr ⟨_, _, _, hp, e⟩))
      · omega
  have yl := (Array.getElem?_eq_some_iff.1 h.y).1
  have vl := (Array.getElem?_eq_some_iff.1 h.v).1
  refine ⟨⟨h.jm, h.nP, (hne _ h.oY yl).trans h.y, (hne _ h.oV vl).trans h.v, ⟨pv', xs', hp', ho, rfl⟩, j2, o2 _ yl h.oY, o2 _ vl h.oV, fun e => h.oP (m2 _ e), ?_, ?_⟩, hb, fun b hlt hb => ⟨hne b hb hlt, o2 b hlt hb⟩⟩
  · intro q t fz b e1 e2
    obtain rfl := pe e1
    rcases hn b e2 with e | e
    · exact ⟨fun hc => (h.oO _ _ _ b hp e).1 (m2 b hc), (h.oO _ _ _ b hp e).2⟩
    · exact ⟨fun hc => by have := h.jm.lt _ _ _ h.j (m2 b hc); omega, by omega⟩
  · intro b ha
    exact ⟨Nat.lt_of_lt_of_le (h.oA b ha).1 hb.size, o2 b (h.oA b ha).1 (h.oA b ha).2⟩

/-- what is laid anew leaves it -/
theorem VS.new {l Y P V n0 : Nat} {A : Nat → Prop} {J : List Nd → World → Prop} {M : World → Nat → Prop} {pre : List Nd} {d : Nat} {W W2 : World} (h : VS l Y P V n0 A J M pre d W) (hb : Below W.heap.size W W2) :
    VS l Y P V n0 A J M pre d W2 ∧ KM n0 (Oth P M) W W2 ∧ ∀ b, Oth P M W2 b → Oth P M W b := by
  obtain ⟨pv, xs, hp, ho, rfl⟩ := h.p
  have PL : P < W.heap.size := (Array.getElem?_eq_some_iff.1 hp).1
  have hbn : Below n0 W W2 := hb.mono (by have := h.nP; omega)
  obtain ⟨j2, m2⟩ := h.jm.stay pre W W2 h.j ⟨hbn, fun b hm => hb.block b (h.jm.lt _ _ _ h.j hm)⟩
  have hp2 : W2.heap[P]? = some (.cells #[pv] 65 (0, 0)) := (hb.block P PL).trans hp
  have o2 : ∀ b, Oth P M W2 b → Oth P M W b := fun b hc => by
    rcases hc with hc | rfl | ⟨q, t, fz, e1, e2⟩
    · exact .inl (m2 b hc)
    · exact .inr (.inl rfl)
    · exact .inr (.inr ⟨q, t, fz, (hb.block P PL).symm.trans e1, e2⟩)
  refine ⟨⟨h.jm, h.nP, (hb.block _ (Array.getElem?_eq_some_iff.1 h.y).1).trans h.y, (hb.block _ (Array.getElem?_eq_some_iff.1 h.v).1).trans h.v, ⟨pv, xs, hp2, ho.below hb, rfl⟩, j2, fun e => h.oY (o2 _ e), fun e => h.oV (o2 _ e), fun e => h.oP (m2 _ e), ?_, fun b ha => ⟨Nat.lt_of_lt_of_le (h.oA b ha).1 hb.size, fun e => (h.oA b ha).2 (o2 b e)⟩⟩, ⟨hbn, fun b hlt hm => ⟨hb.block b hlt, fun e => hm (o2 b e)⟩⟩, o2⟩
  intro q t fz b e1 e2
  have := h.oO q t fz b ((hb.block P PL).symm.trans e1) e2
  exact ⟨fun e => this.1 (m2 b e), this.2⟩

/-- a round is over -/
theorem VS.round {l Y P V n0 : Nat} {A : Nat → Prop} {J : List Nd → World → Prop} {M : World → Nat → Prop} {pre pre' : List Nd} {d : Nat} {W W2 : World} (h : VS l Y P V n0 A J M pre d W) (hj : J pre' W2) (hk : KM n0 M W W2) :
    VS l Y P V n0 A J M pre' d W2 ∧ KM n0 (Oth P M) W W2 := by
  obtain ⟨pv, xs, hp, ho, rfl⟩ := h.p
  have PL : P < W.heap.size := (Array.getElem?_eq_some_iff.1 hp).1
  have hP := hk.2 P PL h.oP
  have hp2 : W2.heap[P]? = some (.cells #[pv] 65 (0, 0)) := hP.1.trans hp
  have o2 : ∀ b, b < W.heap.size → ¬ Oth P M W b → ¬ Oth P M W2 b := fun b hlt hb hc => by
    rcases hc with hc | rfl | ⟨q, t, fz, e1, e2⟩
    · exact (hk.2 b hlt (fun e => hb (.inl e))).2 hc
    · exact hb (.inr (.inl rfl))
    · exact hb (.inr (.inr ⟨q, t, fz, hP.1.symm.trans e1, e2⟩))
  have same : ∀ b, b < W.heap.size → ¬ Oth P M W b → W2.heap[b]? = W.heap[b]? := fun b hlt hb => (hk.2 b hlt (fun e => hb (.inl e))).1
  have yl := (Array.getElem?_eq_some_iff.1 h.y).1
  have vl := (Array.getElem?_eq_some_iff.1 h.v).1
  have ho2 : Own W2 n0 3 pv xs := ⟨ho.1, ho.2.1, by
    refine ⟨ho.2.2.1, ?_⟩
    rcases ho.2.2.2 with ⟨e, hn⟩ | ⟨g, cap, cur, e, hbg, hg, hrest⟩
    · exact .inl ⟨e, hn⟩
    · have hob : pv.ownBlock = some g := by rw [e]; rfl
      exact .inr ⟨g, cap, cur, e, hbg, (hk.2 g (ho.lies _ hob) (h.oO _ _ _ g hp hob).1).1.trans hg, hrest⟩⟩
  refine ⟨⟨h.jm, h.nP, (same _ yl h.oY).trans h.y, (same _ vl h.oV).trans h.v, ⟨pv, xs, hp2, ho2, rfl⟩, hj, o2 _ yl h.oY, o2 _ vl h.oV, hP.2, ?_, fun b ha => ⟨Nat.lt_of_lt_of_le (h.oA b ha).1 hk.1.size, o2 b (h.oA b ha).1 (h.oA b ha).2⟩⟩, hk.1, fun b hlt hb => ⟨same b hlt hb, o2 b hlt hb⟩⟩
  intro q t fz b e1 e2
  have e1' := hP.1.symm.trans e1
  rw [hp] at e1'
  simp only [Option.some.injEq, Obj.cells.injEq, Array.mk.injEq, List.cons.injEq, and_true] at e1'
  obtain ⟨rfl, -, -⟩ := e1'
  have := h.oO _ _ _ b hp e2
  exact ⟨(hk.2 b (ho.lies _ e2) this.1).2, this.2⟩

/-- 'l = append(l, x)' on a slice of ints of the call's own, inside a fence -/
theorem wpi_append1 {F : Fence} {nF : Nat} {P : Program} {t e : TypeId} (R : RowT P t e (.int .i64 0) 1 8) {wr : World} {ops : Array Oper} {rest : List Oper} {o : Oper} {a : Act} {Q : Exit → Act → World → Prop} (hgd : o.guard = none) (s x : Operand)
    (ho : o.op = .call { callee := .builtin .append, args := #[s, x], argTypes := #[t, t] })
    {base : Nat} {v : Value} {l : List Int} {n : Int} (hs : a.eval s = v) (hx : a.eval x = .slice (some ⟨wr.heap.size, 0, none⟩) 1 1)
    (hown : Own wr base e v l) (hn : -9223372036854775808 ≤ n ∧ n ≤ 9223372036854775807) (hl : (l.length + 1) * 8 ≤ 140737488351232) (hbase : base ≤ wr.heap.size)
    (h : ∀ v' w1, Own w1 base e v' (l ++ [n]) → wr.grownBy w1 v.ownBlock → NewOr wr v v' → wpListIn F nF P ops Q rest (a.put o.dst v') w1) :
    wpListIn F nF P ops Q (o :: rest) a (wr.alloc (.cells #[.int .i64 n] e)) := by
  refine wpListIn_plain hgd fun K hK => ?_
  obtain ⟨v', w', hr, h2, h3, h4⟩ := run_append_new (P := P) (wr.alloc (.cells #[.int .i64 n] e)) (ty := o.type) R rfl (by decide) base v l.length (l.map (Value.int .i64)) (hown.2.2.alloc _) ⟨wr.heap.size, 0, none⟩ 1 1 [.int .i64 n] rfl (by
      intro j u hj
      match j, hj with
      | 0, hj => simp at hj; subst hj; simp [Addr.add]) (by intro u hu; simp at hu; subst hu; rfl) (by unfold maxLen; omega) (by omega) (by simp; omega)
  unfold Oper.wpIn
  refine ⟨by simp [Oper.about, ho, resolve, Target.leads, Sem.run_pure], ?_⟩
  rw [Oper.semAt_plain F _ _ (by rw [ho]; intro c hc'; cases hc')]
  simp [execOp, ho, resolve, invoke, builtin, hs, hx, hr, Result.andThen]
  exact hK _ _ (h v' w' (own_snoc hown hn hl h2) (grown_alloc h3) (fun k hk => (h4 k hk).imp id (fun h => by simp at h; omega)))

theorem Own.pop {w : World} {base e g n cap : Nat} {l : List Int} (h : Own w base e (.slice (some ⟨g, 0, none⟩) (n + 1) cap) l) : Own w base e (.slice (some ⟨g, 0, none⟩) n cap) (l.take n) := by
  obtain ⟨h1, h2, h3, h4⟩ := h
  rcases h4 with ⟨e1, hn⟩ | ⟨g', cap', cur, e1, hbg, hg, hle, hmx, hsz, ht⟩
  · cases e1
  · simp only [Value.slice.injEq, Option.some.injEq, Addr.mk.injEq, and_true, true_and] at e1
    obtain ⟨rfl, hl, rfl⟩ := e1
    have hl' : l.length = n + 1 := by omega
    have ht2 : (l.take n).length = n := by rw [List.length_take]; omega
    refine ⟨by omega, fun x hx => h2 x (List.mem_of_mem_take hx), by rw [List.length_map]; omega, .inr ⟨g, cap, cur, by rw [ht2], hbg, hg, by omega, hmx, hsz, ?_⟩⟩
    rw [ht2, List.map_take, ← ht, List.take_take]
    congr 1
    omega

set_option maxRecDepth 100000 in
set_option maxHeartbeats 1600000 in
theorem clonePath (v : Value) (l : List Int) (w : World) (hv : IntsAt w v l) (hl : l.length ≤ 10000000) :
    Calls Tryz.prog 56 #[v] w fun e w' => ∃ v', e = .returned v' ∧ Below w.heap.size w w' := by
  obtain ⟨a, c, rfl⟩ := hv.form
  cases a with
  | none =>
    obtain ⟨_, _, a, c', e, hn, hc⟩ := hv
    simp only [Value.slice.injEq] at e
    obtain ⟨rfl, -, rfl⟩ := e
    have hl0 := hn rfl
    have hnil : l = [] := by
      refine List.eq_nil_of_length_eq_zero ?_
      by_cases h0 : 0 < l.length
      · obtain ⟨b, off, e, _⟩ := hc h0; cases e
      · omega
    subst hnil
    obtain rfl : c = 0 := hl0
    have heq := fun (w : World) => Lib.run_eql_slice_nil (P := Tryz.prog) w 65 3 none 0 0 0 0 Tryz.underlying65
    clear hc
    go_enter Tryz.func56, Tryz.ntmps56
    go_wp2
    go_ret
    exact ⟨⟨_, rfl⟩, Below.refl _ _⟩
  | some ad =>
    have hB : Below w.heap.size w (w.alloc (.cells #[] 3)) := (Below.refl _ _).alloc (Nat.le_refl _) _
    have HV : Hid (IntsAt (w.alloc (.cells #[] 3)) (.slice (some ad) l.length c) l) := Lib.hid (hv.below hB)
    have HRW : Hid (Own (w.alloc (.cells #[] 3)) w.heap.size 3 (.slice (some ⟨w.heap.size, 0, none⟩) 0 0) []) := Lib.hid (own_lit w w.heap.size 3 [] (by simp) (by intro x hx; simp at hx) (Nat.le_refl _))
    have heq := fun (w : World) => Lib.run_eql_slice_nil (P := Tryz.prog) w 65 3 (some ad) l.length c 0 0 Tryz.underlying65
    clear hv
    go_enter Tryz.func56, Tryz.ntmps56
    go_wp2_with (at_builtin; refine wpl_appends TIntP rfl (.tmp 5) (.tmp 6) rfl rfl rfl HRW.out HV.out (by simp; omega) (by simp) ?_; intro v' w2 hown hg hn; have HO := Lib.hid hown; have HG : Hid ((w.alloc (.cells #[] 3)).grownBy w2 (some w.heap.size)) := Lib.hid hg; clear hown hg hn)
    go_ret
    exact ⟨_, rfl, hB.grown HG.out (by simp) (fun k e => by
      have e2 : w.heap.size = k := by simpa using e
      omega)⟩
end Go.Proofs.YtehmmokkjojggabGreatDoor
