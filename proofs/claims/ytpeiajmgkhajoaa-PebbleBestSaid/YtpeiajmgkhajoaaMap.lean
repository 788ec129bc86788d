/- Maps of the call's own from ints to bools, as sets. -/
import Derived.Test.YtpeiajmgkhajoaaLib
import Derived.Maps.Own
import Derived.Maps.OwnSet
import Derived.Maps.OwnOps
namespace Go.Proofs.Ytpeiajmgkhajoaa
set_option linter.unusedVariables false
open Go.RowKit Go.Maps

theorem wf64 {x : Int} (h : -9223372036854775808 ≤ x ∧ x ≤ 9223372036854775807) : (Lit.int .i64 x).wf = true := WalkArith.wf_i64 (by omega)

/-- what a law on such a map asks of the program's tables -/
structure MapT (P : Program) (t kt et : TypeId) : Prop where
  und : P.underlying t = some (.map kt et)
  key : P.underlying kt = some (.int .i64)
  elem : P.underlying et = some .bool
  zero : ∀ w, (zeroValue et).run P w = .ok (.bool false) w

/-- the block b is a map of at most n entries; it holds true just at the numbers of S, and nothing else -/
def SetMap (P : Program) (kt et : TypeId) (w : World) (b n : Nat) (S : Int → Bool) (size : Nat) : Prop :=
  ∃ D : DataW Unit, w.ownsMap P kt (plainElem P et) b n D ∧ Maps.size D = size ∧
    ∀ x, -9223372036854775808 ≤ x ∧ x ≤ 9223372036854775807 → has D (.int .i64 x) = S x ∧ D.atKey (.int .i64 x) (.lit (.bool false)) = .lit (.bool (S x))

theorem SetMap.made (P : Program) (kt et : TypeId) (w : World) : SetMap P kt et (w.alloc (.map #[] 0)) w.heap.size 0 (fun _ => false) 0 :=
  ⟨.map [], World.ownsMap_made _ _ _ _, rfl, fun x _ => ⟨rfl, rfl⟩⟩

theorem SetMap.lt {P : Program} {kt et : TypeId} {w : World} {b n size : Nat} {S : Int → Bool} (h : SetMap P kt et w b n S size) : b < w.heap.size := by
  obtain ⟨D, h, _⟩ := h; exact h.lt
theorem SetMap.kept {P : Program} {kt et : TypeId} {w w' : World} {b n size : Nat} {S : Int → Bool} {row : Option Nat} (h : SetMap P kt et w b n S size) (hg : w.grownBy w' row) (hne : some b ≠ row) : SetMap P kt et w' b n S size := by
  obtain ⟨D, h1, h2⟩ := h; exact ⟨D, h1.kept hg hne, h2⟩

theorem SetMap.look {P : Program} {t kt et : TypeId} (M : MapT P t kt et) {w : World} {b n size : Nat} {S : Int → Bool} (h : SetMap P kt et w b n S size) {x : Int} (hx : -9223372036854775808 ≤ x ∧ x ≤ 9223372036854775807) :
    (Instr.lookup t (.map (some b)) (.int .i64 x) false).run P w = .ok (.bool (S x)) w := by
  obtain ⟨D, h1, _, h3⟩ := h
  obtain ⟨v, ps, hrun, hv⟩ := h1.lookup (int_keyed M.key) M.und (M.zero w) (plainElem_bool M.elem false) (keyOf_int_mk M.key (wf64 hx))
  rw [(h3 x hx).2] at hv
  have : v = .bool (S x) := by
    cases v <;> simp [plainElem, M.elem] at hv
    rw [hv.1]
  rw [hrun, this]

theorem SetMap.len {P : Program} {t kt et : TypeId} (M : MapT P t kt et) {w : World} {b n size : Nat} {S : Int → Bool} (h : SetMap P kt et w b n S size) (ty : TypeId) :
    (Builtin.len_ #[t] ty #[.map (some b)]).run P w = .ok (.int .i64 size) w := by
  obtain ⟨D, h1, h2, _⟩ := h
  rw [h1.len M.und ty, h2]

theorem SetMap.add {P : Program} {t kt et : TypeId} (M : MapT P t kt et) {w : World} {b n size : Nat} {S : Int → Bool} (h : SetMap P kt et w b n S size) {x : Int} (hx : -9223372036854775808 ≤ x ∧ x ≤ 9223372036854775807) (hS : S x = false) (hn : n < maxLen) :
    ∃ w', (Instr.mapUpdate t (.map (some b)) (.int .i64 x) (.bool true)).run P w = .ok () w' ∧ SetMap P kt et w' b (n + 1) (fun y => if y = x then true else S y) (size + 1) ∧ w.grownBy w' (some b) := by
  obtain ⟨D, h1, h2, h3⟩ := h
  obtain ⟨w', hrun, h4, h5⟩ := h1.update (int_keyed M.key) M.und hn (keyOf_int_mk M.key (wf64 hx)) (plainElem_bool M.elem true)
  refine ⟨w', hrun, ⟨_, h4, ?_, fun y hy => ?_⟩, h5⟩
  · rw [size_put (h1.tidy (int_keyed M.key)), (h3 x hx).1, hS, h2]; simp
  · by_cases e : y = x
    · subst e
      have hk : WideAt.IsKeyLit (.int .i64 y) := by simp [WideAt.IsKeyLit]
      exact ⟨by rw [has_put_same h1.isMap hk]; simp, by rw [atKey_put_same h1.isMap hk]; simp⟩
    · have hne : (Lit.int .i64 y) ≠ .int .i64 x := by simpa using e
      exact ⟨by rw [has_put_other hne, (h3 y hy).1]; simp [e], by rw [atKey_put_other hne, (h3 y hy).2]; simp [e]⟩

theorem SetMap.drop {P : Program} {t kt et : TypeId} (M : MapT P t kt et) {w : World} {b n size : Nat} {S : Int → Bool} (h : SetMap P kt et w b n S size) {x : Int} (hx : -9223372036854775808 ≤ x ∧ x ≤ 9223372036854775807) (hS : S x = true) (ty : TypeId) :
    ∃ w', (Builtin.delete_ #[t, kt] ty #[.map (some b), .int .i64 x]).run P w = .ok (.tuple #[]) w' ∧ SetMap P kt et w' b n (fun y => if y = x then false else S y) (size - 1) ∧ w.grownBy w' (some b) := by
  obtain ⟨D, h1, h2, h3⟩ := h
  obtain ⟨w', hrun, h4, h5⟩ := h1.drop (int_keyed M.key) M.und (keyOf_int_mk M.key (wf64 hx)) ty
  refine ⟨w', hrun, ⟨_, h4, ?_, fun y hy => ?_⟩, h5.grown⟩
  · have := size_del (k := .int .i64 x) (h1.tidy (int_keyed M.key))
    rw [(h3 x hx).1, hS, h2] at this; simp at this; omega
  · by_cases e : y = x
    · subst e
      exact ⟨by rw [has_del_same]; simp, by rw [atKey_del_same]; simp⟩
    · have hne : (Lit.int .i64 y) ≠ .int .i64 x := by simpa using e
      exact ⟨by rw [has_del_other hne, (h3 y hy).1]; simp [e], by rw [atKey_del_other hne, (h3 y hy).2]; simp [e]⟩
end Go.Proofs.Ytpeiajmgkhajoaa
