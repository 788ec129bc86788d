/- Steps of the state of ast.Walk's inner function: an element pushed onto the path, and popped. -/
import Derived.Test.YtehmmokkjojggabGreatDoorTmpS
import Derived.OneCell
namespace Go.Proofs.YtehmmokkjojggabGreatDoor
set_option linter.unusedVariables false
set_option linter.unusedSimpArgs false
open Go.RowKit

theorem VS.push {l Y P V n0 : Nat} {A : Nat → Prop} {J : List Nd → World → Prop} {M : World → Nat → Prop} {pre : List Nd} {d : Nat} {W w1 : World} (h : VS l Y P V n0 A J M pre d W)
    {pv pv' : Value} {xs xs' : List Int} (hp : W.heap[P]? = some (.cells #[pv] 65 (0, 0))) (hown : Own W n0 3 pv xs) (hg : W.grownBy w1 pv.ownBlock) (ho : Own w1 n0 3 pv' xs') (hn : NewOr W pv pv') :
    VS l Y P V n0 A J M pre xs'.length (w1.setCell ⟨P, 0, none⟩ pv') ∧ KM n0 (Oth P M) W (w1.setCell ⟨P, 0, none⟩ pv') := by
  have PL : P < W.heap.size := (Array.getElem?_eq_some_iff.1 hp).1
  have hne : pv.ownBlock ≠ some P := fun e => (h.oO _ _ _ _ hp e).2 rfl
  have hp1 : w1.heap[P]? = some (.cells #[pv] 65 (0, 0)) := (hg.block P PL (fun e => hne e.symm)).trans hp
  have hnP : pv'.ownBlock ≠ some P := fun e => by
    rcases hn P e with e2 | e2
    · exact hne e2
    · omega
  refine h.path hp ?_ ?_ (one_setCell hp1) ⟨ho.1, ho.2.1, ownsRow_setCell_other ho.2.2 hnP _⟩ hn
  · exact ((Below.refl n0 W).grown hg (by have := h.nP; omega) (fun k e => hown.base_le k e)).setCell h.nP _
  · intro b hb hbP hbo
    exact (Below.heap_setCell w1 ⟨P, 0, none⟩ _ b hbP).trans (hg.block b hb (fun e => hbo e.symm))

/-- the path's form where it is not empty -/
theorem VS.form {l Y P V n0 : Nat} {A : Nat → Prop} {J : List Nd → World → Prop} {M : World → Nat → Prop} {pre : List Nd} {d : Nat} {W : World} (h : VS l Y P V n0 A J M pre (d + 1) W) :
    ∃ (g cap : Nat) (xs : List Int), W.heap[P]? = some (.cells #[.slice (some ⟨g, 0, none⟩) (d + 1) cap] 65 (0, 0)) ∧ Own W n0 3 (.slice (some ⟨g, 0, none⟩) (d + 1) cap) xs ∧ d + 1 ≤ cap ∧ xs.length = d + 1 := by
  obtain ⟨pv, xs, hp, ho, hd⟩ := h.p
  have ho' := ho
  obtain ⟨h1, h2, h3, h4⟩ := ho
  rcases h4 with ⟨e1, hn⟩ | ⟨g, cap, cur, e1, hbg, hg, hle, hrest⟩
  · omega
  · rw [e1] at hp ho'
    rw [hd] at hp ho' hle
    exact ⟨g, cap, xs, hp, ho', hle, hd⟩

theorem VS.pop {l Y P V n0 : Nat} {A : Nat → Prop} {J : List Nd → World → Prop} {M : World → Nat → Prop} {pre : List Nd} {d : Nat} {W : World} (h : VS l Y P V n0 A J M pre (d + 1) W)
    {g cap : Nat} {xs : List Int} (hp : W.heap[P]? = some (.cells #[.slice (some ⟨g, 0, none⟩) (d + 1) cap] 65 (0, 0))) (hown : Own W n0 3 (.slice (some ⟨g, 0, none⟩) (d + 1) cap) xs) (hl : xs.length = d + 1) :
    VS l Y P V n0 A J M pre d (W.setCell ⟨P, 0, none⟩ (.slice (some ⟨g, 0, none⟩) d cap)) ∧ KM n0 (Oth P M) W (W.setCell ⟨P, 0, none⟩ (.slice (some ⟨g, 0, none⟩) d cap)) := by
  have hne : (Value.slice (some ⟨g, 0, none⟩) (d + 1) cap).ownBlock ≠ some P := fun e => (h.oO _ _ _ _ hp e).2 rfl
  have hp2 : Own W n0 3 (.slice (some ⟨g, 0, none⟩) d cap) (xs.take d) := hown.pop
  have ht : (xs.take d).length = d := by rw [List.length_take]; omega
  have := h.path hp (W2 := W.setCell ⟨P, 0, none⟩ (.slice (some ⟨g, 0, none⟩) d cap)) ((Below.refl n0 W).setCell h.nP _) (fun b hb hbP _ => Below.heap_setCell W ⟨P, 0, none⟩ _ b hbP) (one_setCell hp) (xs' := xs.take d)
    ⟨hp2.1, hp2.2.1, ownsRow_setCell_other (a := ⟨P, 0, none⟩) hp2.2.2 (fun e => hne e) _⟩ (fun k e => .inl e)
  rw [ht] at this
  exact this

/-- one block more that is read -/
theorem VS.more {l Y P V n0 : Nat} {A : Nat → Prop} {J : List Nd → World → Prop} {M : World → Nat → Prop} {pre : List Nd} {d : Nat} {W : World} (h : VS l Y P V n0 A J M pre d W) {B : Nat} (hb : B < W.heap.size) (ho : ¬ Oth P M W B) :
    VS l Y P V n0 (fun b => A b ∨ b = B) J M pre d W := ⟨h.jm, h.nP, h.y, h.v, h.p, h.j, h.oY, h.oV, h.oP, h.oO, fun b hb => by
  rcases hb with hb | rfl
  · exact h.oA b hb
  · exact ⟨by assumption, ho⟩⟩
theorem VS.less {l Y P V n0 : Nat} {A A' : Nat → Prop} {J : List Nd → World → Prop} {M : World → Nat → Prop} {pre : List Nd} {d : Nat} {W : World} (h : VS l Y P V n0 A J M pre d W) (ha : ∀ b, A' b → A b) :
    VS l Y P V n0 A' J M pre d W := ⟨h.jm, h.nP, h.y, h.v, h.p, h.j, h.oY, h.oV, h.oP, h.oO, fun b hb => h.oA b (ha b hb)⟩
/-- what is read lies as it lay -/
theorem VS.stays {l Y P V n0 : Nat} {A : Nat → Prop} {J : List Nd → World → Prop} {M : World → Nat → Prop} {pre : List Nd} {d : Nat} {W W2 : World} (h : VS l Y P V n0 A J M pre d W) (hk : KM n0 (Oth P M) W W2) : Stays A A W W2 :=
  ⟨hk.1.size, fun b hb ha => ⟨(hk.2 b hb (h.oA b ha).2).1, ha⟩⟩
end Go.Proofs.YtehmmokkjojggabGreatDoor
