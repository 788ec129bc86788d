/- Literal rows of trees. -/
import Derived.Test.YtehmmokkjojggaaDoorZk09
namespace Go.Proofs.YtehmmokkjojggaaDoor
set_option linter.unusedVariables false
set_option linter.unusedSimpArgs false
open Go.RowKit

theorem nd_cells {A : Nat → Prop} {w : World} {a b c d : Value} {n : Nd} (h : NdAt A w (.agg #[a, b, c, d]) n) : a = .int .u8 n.kind ∧ b = .int .i64 n.num ∧ c = .string n.name ∧ KidsAt A w d n.kids ∧ n.Ok1 := by
  obtain ⟨h1, kv, he, h2⟩ := h
  simp only [Value.agg.injEq, Array.mk.injEq, List.cons.injEq, and_true] at he
  obtain ⟨rfl, rfl, rfl, rfl⟩ := he
  exact ⟨rfl, rfl, rfl, h2, h1⟩

/-- a literal row of trees -/
theorem kids_lit {A : Nat → Prop} {w : World} {g : Nat} {cs : Array Value} {l : List Nd} (h : w.heap[g]? = some (.cells cs 66 (0, 0))) (hA : A g) (hl : l.length ≤ 1000)
    (hc : ∀ j, j < l.length → ∃ d, cs[j * 4]? = some (.int .u8 (at' l j).kind) ∧ cs[j * 4 + 1]? = some (.int .i64 (at' l j).num) ∧ cs[j * 4 + 2]? = some (.string (at' l j).name) ∧ cs[j * 4 + 3]? = some d ∧ KidsAt A w d (at' l j).kids ∧ (at' l j).Ok1) :
    KidsAt A w (.slice (some ⟨g, 0, none⟩) l.length l.length) l := by
  refine .mk _ l (fun j i => cs.getD (j * 4 + i) undef) ⟨by unfold maxLen; omega, _, _, rfl, Nat.le_refl _, nofun, fun _ => ⟨g, 0, rfl, by rw [Array.getElem?_eq_some_iff] at h; exact h.1, hA, fun j hj i hi => ?_⟩⟩ (fun j hj => ?_) (fun j hj => ?_)
  · obtain ⟨d, h0, h1, h2, h3, _⟩ := hc j hj
    have e : (0 : Nat) + j * 4 + i = j * 4 + i := by omega
    rw [e]
    simp only [World.cell?, h]
    match i, hi with
    | 0, _ => simp only [Nat.add_zero, h0]; simp [Array.getD_eq_getD_getElem?, h0]
    | 1, _ => simp only [h1]; simp [Array.getD_eq_getD_getElem?, h1]
    | 2, _ => simp only [h2]; simp [Array.getD_eq_getD_getElem?, h2]
    | 3, _ => simp only [h3]; simp [Array.getD_eq_getD_getElem?, h3]
  · obtain ⟨d, h0, h1, h2, h3, _, h5⟩ := hc j hj
    exact ⟨by simp [Array.getD_eq_getD_getElem?, h0], by simp [Array.getD_eq_getD_getElem?, h1], by simp [Array.getD_eq_getD_getElem?, h2], h5⟩
  · obtain ⟨d, h0, h1, h2, h3, h4, _⟩ := hc j hj
    have : cs.getD (j * 4 + 3) undef = d := by simp [Array.getD_eq_getD_getElem?, h3]
    rw [this]; exact h4

theorem kids_1 {A : Nat → Prop} {w : World} {g : Nat} {a b c d : Value} {n : Nd} (h : w.heap[g]? = some (.cells #[a, b, c, d] 66 (0, 0))) (hA : A g) (h1 : NdAt A w (.agg #[a, b, c, d]) n) : KidsAt A w (.slice (some ⟨g, 0, none⟩) 1 1) [n] := by
  obtain ⟨rfl, rfl, rfl, k1, o1⟩ := nd_cells h1
  refine kids_lit (l := [n]) h hA (by simp) (fun j hj => ?_)
  match j, hj with
  | 0, _ => exact ⟨d, rfl, rfl, rfl, rfl, k1, o1⟩
theorem kids_2 {A : Nat → Prop} {w : World} {g : Nat} {a b c d a' b' c' d' : Value} {n n' : Nd} (h : w.heap[g]? = some (.cells #[a, b, c, d, a', b', c', d'] 66 (0, 0))) (hA : A g) (h1 : NdAt A w (.agg #[a, b, c, d]) n) (h2 : NdAt A w (.agg #[a', b', c', d']) n') : KidsAt A w (.slice (some ⟨g, 0, none⟩) 2 2) [n, n'] := by
  obtain ⟨rfl, rfl, rfl, k1, o1⟩ := nd_cells h1
  obtain ⟨rfl, rfl, rfl, k2, o2⟩ := nd_cells h2
  refine kids_lit (l := [n, n']) h hA (by simp) (fun j hj => ?_)
  match j, hj with
  | 0, _ => exact ⟨d, rfl, rfl, rfl, rfl, k1, o1⟩
  | 1, _ => exact ⟨d', rfl, rfl, rfl, rfl, k2, o2⟩
theorem kids_3 {A : Nat → Prop} {w : World} {g : Nat} {a b c d a' b' c' d' a2 b2 c2 d2 : Value} {n n' n2 : Nd} (h : w.heap[g]? = some (.cells #[a, b, c, d, a', b', c', d', a2, b2, c2, d2] 66 (0, 0))) (hA : A g) (h1 : NdAt A w (.agg #[a, b, c, d]) n) (h2 : NdAt A w (.agg #[a', b', c', d']) n') (h3 : NdAt A w (.agg #[a2, b2, c2, d2]) n2) : KidsAt A w (.slice (some ⟨g, 0, none⟩) 3 3) [n, n', n2] := by
  obtain ⟨rfl, rfl, rfl, k1, o1⟩ := nd_cells h1
  obtain ⟨rfl, rfl, rfl, k2, o2⟩ := nd_cells h2
  obtain ⟨rfl, rfl, rfl, k3, o3⟩ := nd_cells h3
  refine kids_lit (l := [n, n', n2]) h hA (by simp) (fun j hj => ?_)
  match j, hj with
  | 0, _ => exact ⟨d, rfl, rfl, rfl, rfl, k1, o1⟩
  | 1, _ => exact ⟨d', rfl, rfl, rfl, rfl, k2, o2⟩
  | 2, _ => exact ⟨d2, rfl, rfl, rfl, rfl, k3, o3⟩
end Go.Proofs.YtehmmokkjojggaaDoor
