/- The names that the loop of CleangenTemps collects. -/
import Derived.Test.YtehmmokkjojggabGreatDoorTmpW
import Derived.Test.YtehmmokkjojggabGreatDoorPTmp
namespace Go.Proofs.YtehmmokkjojggabGreatDoor
set_option linter.unusedVariables false
set_option linter.unusedSimpArgs false
open Go.RowKit

/-- 'l = append(l, x)' on a row of the call's own, inside a fence -/
theorem wpi_appendV {F : Fence} {nF : Nat} {P : Program} {t e bytes : Nat} {z : Value} (R : RowT P t e z 1 bytes) (hz1 : z.cells.size = 1) {wr : World} {ops : Array Oper} {rest : List Oper} {o : Oper} {a : Act} {Q : Exit → Act → World → Prop} (hgd : o.guard = none) (s x : Operand)
    (ho : o.op = .call { callee := .builtin .append, args := #[s, x], argTypes := #[t, t] })
    {base : Nat} {v : Value} {n : Nat} {xs : List Value} {u : Value} (hs : a.eval s = v) (hx : a.eval x = .slice (some ⟨wr.heap.size, 0, none⟩) 1 1)
    (hown : wr.ownsRow base e 1 v n xs) (hu : u.oneCell' = true) (hl : n + 1 ≤ maxLen) (hby : (n + 1) * bytes ≤ 140737488355328) (hbase : base ≤ wr.heap.size)
    (h : ∀ v' w1, w1.ownsRow base e 1 v' (n + 1) (xs ++ [u]) → wr.grownBy w1 v.ownBlock → NewOr wr v v' → wpListIn F nF P ops Q rest (a.put o.dst v') w1) :
    wpListIn F nF P ops Q (o :: rest) a (wr.alloc (.cells #[u] e)) := by
  refine wpListIn_plain hgd fun K hK => ?_
  obtain ⟨v', w', hr, h2, h3, h4⟩ := run_append_new (P := P) (wr.alloc (.cells #[u] e)) (ty := o.type) R hz1 (by decide) base v n xs (hown.alloc _) ⟨wr.heap.size, 0, none⟩ 1 1 [u] rfl (by
      intro j u' hj
      match j, hj with
      | 0, hj => simp at hj; subst hj; simp [Addr.add]) (by intro u' hu'; simp at hu'; subst hu'; exact hu) hl hby (by simp; omega)
  unfold Oper.wpIn
  refine ⟨by simp [Oper.about, ho, resolve, Target.leads, Sem.run_pure], ?_⟩
  rw [Oper.semAt_plain F _ _ (by rw [ho]; intro c hc'; cases hc')]
  simp [execOp, ho, resolve, invoke, builtin, hs, hx, hr, Result.andThen]
  exact hK _ _ (h v' w' h2 (grown_alloc h3) (fun k hk => (h4 k hk).imp id (fun h => by simp at h; omega)))

theorem row_same {W W' : World} {base e size n : Nat} {v : Value} {xs : List Value} (h : W.ownsRow base e size v n xs) (hs : ∀ g, v.ownBlock = some g → W'.heap[g]? = W.heap[g]?) : W'.ownsRow base e size v n xs := by
  refine ⟨h.1, ?_⟩
  rcases h.2 with h2 | ⟨g, cap, cur, e1, hbg, hg, hrest⟩
  · exact .inl h2
  · exact .inr ⟨g, cap, cur, e1, hbg, (hs g (by rw [e1]; rfl)).trans hg, hrest⟩

/-- no blocks of rounds -/
def NoM (_ : World) (_ : Nat) : Prop := False
/-- the box of the names -/
def LI (n0 B : Nat) (w0 : World) (pre : List Nd) (W : World) : Prop := n0 ≤ B ∧ n0 ≤ w0.heap.size ∧ Below n0 w0 W ∧
  ∃ v, W.heap[B]? = some (.cells #[v] 23 (0, 0)) ∧ W.ownsRow n0 9 1 v (locsOf pre).length ((locsOf pre).map Value.string) ∧ v.ownBlock ≠ some B

theorem oth_own {B : Nat} {W : World} {v : Value} {t : TypeId} {b : Nat} (hb : W.heap[B]? = some (.cells #[v] t (0, 0))) (h : Oth B NoM W b) : b = B ∨ v.ownBlock = some b := by
  rcases h with h | h | ⟨pv, t', fz, e1, e2⟩
  · exact h.elim
  · exact .inl h
  · rw [hb] at e1
    simp only [Option.some.injEq, Obj.cells.injEq, Array.mk.injEq, List.cons.injEq, and_true] at e1
    obtain ⟨rfl, -, -⟩ := e1
    exact .inr e2
theorem own_oth {B : Nat} {W : World} {v : Value} {t : TypeId} {b : Nat} (hb : W.heap[B]? = some (.cells #[v] t (0, 0))) (h : b = B ∨ v.ownBlock = some b) : Oth B NoM W b :=
  h.elim (fun e => .inr (.inl e)) (fun e => .inr (.inr ⟨_, _, _, hb, e⟩))

theorem LI.jm (n0 B : Nat) (w0 : World) : JM n0 (LI n0 B w0) (Oth B NoM) where
  lt := by
    rintro pre W b ⟨h1, h2, h3, v, hb, hr, hn⟩ h
    rcases oth_own hb h with rfl | e
    · exact (Array.getElem?_eq_some_iff.1 hb).1
    · exact (hr.lt b e).2
  stay := by
    rintro pre W W' ⟨h1, h2, h3, v, hb, hr, hn⟩ ⟨hbl, hsm⟩
    have hb' : W'.heap[B]? = some (.cells #[v] 23 (0, 0)) := (hsm B (own_oth hb (.inl rfl))).trans hb
    exact ⟨⟨h1, h2, h3.trans hbl, v, hb', row_same hr (fun g e => hsm g (own_oth hb (.inr e))), hn⟩, fun b h => own_oth hb (oth_own hb' h)⟩

theorem LI.isCl {n0 B : Nat} {w0 : World} (pre : List Nd) (W : World) (b : Nat) (h : LI n0 B w0 pre W) (hm : Oth B NoM W b) : ∃ o : Obj, W.heap[b]? = some o ∧ o.isCl = true := by
  obtain ⟨h1, h2, h3, v, hb, hr, hn⟩ := h
  rcases oth_own hb hm with rfl | e
  · exact ⟨_, hb, rfl⟩
  · rcases hr.2 with ⟨rfl, _⟩ | ⟨g, cap, cur, rfl, _, hg, _⟩
    · cases e
    · have : g = b := Option.some.inj e
      subst this
      exact ⟨_, hg, rfl⟩

theorem LI.skip {n0 B : Nat} {w0 : World} {pre : List Nd} {W : World} (h : LI n0 B w0 pre W) {n : Nd} (hn : isLoc n = false) : LI n0 B w0 (pre ++ [n]) W := by
  unfold LI
  rw [locs_snoc, hn]
  simpa [LI] using h

theorem LI.push {n0 B : Nat} {w0 : World} {pre : List Nd} {W w1 : World} (h : LI n0 B w0 pre W) {n : Nd} (hn : isLoc n = true) {v v' : Value} (hb : W.heap[B]? = some (.cells #[v] 23 (0, 0))) (hr0 : W.ownsRow n0 9 1 v (locsOf pre).length ((locsOf pre).map Value.string)) (hne : v.ownBlock ≠ some B)
    (hr : w1.ownsRow n0 9 1 v' ((locsOf pre).length + 1) ((locsOf pre).map Value.string ++ [.string n.name])) (hg : W.grownBy w1 v.ownBlock) (ho : NewOr W v v') :
    LI n0 B w0 (pre ++ [n]) (w1.setCell ⟨B, 0, none⟩ v') ∧ KM n0 (Oth B NoM) W (w1.setCell ⟨B, 0, none⟩ v') := by
  obtain ⟨h1, h2, h3, -⟩ := h
  have hB : B < W.heap.size := (Array.getElem?_eq_some_iff.1 hb).1
  have hb1 : w1.heap[B]? = some (.cells #[v] 23 (0, 0)) := (hg.block B hB (fun e => hne e.symm)).trans hb
  have hb2 : (w1.setCell ⟨B, 0, none⟩ v').heap[B]? = some (.cells #[v'] 23 (0, 0)) := one_setCell hb1
  have hne2 : v'.ownBlock ≠ some B := fun e => by
    rcases ho B e with e2 | e2
    · exact hne e2
    · omega
  have hbw : Below n0 W (w1.setCell ⟨B, 0, none⟩ v') := ((Below.refl n0 W).grown hg (by omega) (fun k e => (hr0.lt k e).1)).setCell h1 _
  refine ⟨⟨h1, h2, h3.trans hbw, v', hb2, ?_, hne2⟩, hbw, fun b hlt hm => ?_⟩
  · rw [locs_snoc, hn]
    simp only [if_true, List.length_append, List.length_cons, List.length_nil, List.map_append, List.map_cons, List.map_nil]
    exact ownsRow_setCell_other (a := ⟨B, 0, none⟩) hr hne2 _
  · have hbB : b ≠ B := fun e => hm (own_oth hb (.inl e))
    have hbo : v.ownBlock ≠ some b := fun e => hm (own_oth hb (.inr e))
    refine ⟨(Below.heap_setCell w1 ⟨B, 0, none⟩ _ b hbB).trans (hg.block b hlt (fun e => hbo e.symm)), fun hm2 => ?_⟩
    rcases oth_own hb2 hm2 with e | e
    · exact hbB e
    · rcases ho b e with e2 | e2
      · exact hbo e2
      · omega

/-- the locals are nodes of the tree -/
theorem locs_le (l : List Nd) : (locsOf l).length ≤ l.length := by
  unfold locsOf
  rw [List.length_map]
  exact List.length_filter_le _ _
mutual
theorem pre_len : ∀ n : Nd, (preN n).length = sizeN n
  | .mk k num name kids => by rw [preN, List.length_cons, preL_len kids, sizeN_eq]; rfl
theorem preL_len : ∀ l : List Nd, (preL l).length = sizeL l
  | [] => by rw [preL]; rfl
  | n :: r => by rw [preL, List.length_append, pre_len n, preL_len r, sizeL]
end

/-- the frame of a round whose node lies in a box -/
def boxed (a : Act) (p q s : Nat) (x : Hand) (B : Nat) : Act := { tmps := ((a.tmps.setIfInBounds p x.1).setIfInBounds q (.agg #[.int .u8 x.2.1.kind, .int .i64 x.2.1.num, .string x.2.1.name, .slice x.2.2.1 x.2.1.kids.length x.2.2.2])).setIfInBounds s (.pointer (some ⟨B, 0, none⟩)), defers := [] }
/-- a range over ast.Walk whose node is boxed -/
theorem wp_range_boxed {P : Program} {g : Operand} {p q : Tmp} {assign body : Code} {Q : Exit → Act → World → Prop} {a : Act} {w : World} {n0 : Nat} (hn0 : n0 ≤ w.heap.size) (s : Nat) (t : TypeId)
    {gf : Nat} {lb : Array Value} (hg : a.eval g = .func (.func gf) #[] lb) (eg : ∀ args w, (callFunc gf args).run P w = .ok (.enter gf args) w)
    {A : Nat → Prop} {xs : List Nd} (hgives : Gives P n0 gf lb A w xs)
    (I : List Nd → World → Prop) (MB : World → Nat → Prop) (hI : JM n0 I MB) (hcells : ∀ pre W b, I pre W → MB W b → ∃ o : Obj, W.heap[b]? = some o ∧ o.isCl = true)
    (h0 : I [] w) (hA : ∀ b, A b → b < w.heap.size ∧ ¬ MB w b)
    (hassign : ∀ (l : Nat) (x : Hand) (W : World) (K : Act → World → Prop),
      (∀ W1 B, W1.heap[B]? = some (.cells #[.int .u8 x.2.1.kind, .int .i64 x.2.1.num, .string x.2.1.name, .slice x.2.2.1 x.2.1.kids.length x.2.2.2] t (0, 0)) → Below W.heap.size W W1 → K (boxed a p q s x B) W1) →
      assign.wpIn (Fence.wide.inRound l) 9 P (Exit.then K (fun _ _ _ => False)) { tmps := (a.tmps.setIfInBounds p x.1).setIfInBounds q (.agg #[.int .u8 x.2.1.kind, .int .i64 x.2.1.num, .string x.2.1.name, .slice x.2.2.1 x.2.1.kids.length x.2.2.2]), defers := [] } W)
    (hbody : ∀ (l : Nat) (pre : List Nd) (x : Hand) (W : World) (B : Nat), I pre W → pre ++ [x.2.1] <+: xs → W.heap[B]? = some (.cells #[.int .u8 x.2.1.kind, .int .i64 x.2.1.num, .string x.2.1.name, .slice x.2.2.1 x.2.1.kids.length x.2.2.2] t (0, 0)) →
      body.wpIn (Fence.wide.inRound l) 9 P (fun e _ W' => e = .normal ∧ I (pre ++ [x.2.1]) W' ∧ KM n0 MB W W') (boxed a p q s x B) W)
    (hdone : ∀ (D : Nat) (W : World), n0 ≤ D → I xs W → W.heap[D]? = some (.deferred (some [])) → Q .normal { a with defers := { target := .collected D, args := #[] } :: a.defers } W) :
    (Code.rangeFunc g #[p, q] assign body).wp P Q a w := by
  refine wp_range_gives hn0 hg eg hgives rfl I MB hI hcells h0 hA
    (fun x a1 W => ∃ B, W.heap[B]? = some (.cells #[.int .u8 x.2.1.kind, .int .i64 x.2.1.num, .string x.2.1.name, .slice x.2.2.1 x.2.1.kids.length x.2.2.2] t (0, 0)) ∧ a1 = boxed a p q s x B) ?_ ?_ ?_ hdone
  · rintro x a1 W l o o' ⟨B, hB, he⟩ hl ho
    refine ⟨B, (World.putObj_heap_other (fun e => ?_)).trans hB, he⟩
    subst e
    rw [hB] at hl
    cases hl
    cases ho
  · intro l x W K hK
    have e : (#[p, q].zip (hands x)) = #[(p, x.1), (q, .agg #[.int .u8 x.2.1.kind, .int .i64 x.2.1.num, .string x.2.1.name, .slice x.2.2.1 x.2.1.kids.length x.2.2.2])] := by simp [hands]
    rw [e]
    simp only [List.foldl_toArray', List.size_toArray, List.length_cons, List.length_nil, List.foldl_cons, List.foldl_nil]
    exact hassign l x W K (fun W1 B h1 h2 => hK _ _ ⟨B, h1, rfl⟩ h2)
  · rintro l pre x a1 W hi hp ⟨B, hB, rfl⟩
    exact hbody l pre x W B hi hp hB
end Go.Proofs.YtehmmokkjojggabGreatDoor
