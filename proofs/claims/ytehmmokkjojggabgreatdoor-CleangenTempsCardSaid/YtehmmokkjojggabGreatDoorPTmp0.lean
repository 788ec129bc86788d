/- The nodes of a tree in pre-order. -/
import Derived.Test.YtehmmokkjojggabGreatDoorZq01
namespace Go.Proofs.YtehmmokkjojggabGreatDoor
set_option linter.unusedVariables false
set_option linter.unusedSimpArgs false

mutual
/-- the nodes of a tree in pre-order -/
def preN : Nd → List Nd
  | .mk k num name kids => .mk k num name kids :: preL kids
def preL : List Nd → List Nd
  | [] => []
  | n :: r => preN n ++ preL r
end
theorem preN_eq (n : Nd) : preN n = n :: preL n.kids := by cases n; rw [preN]; rfl
theorem preL_append : ∀ l m : List Nd, preL (l ++ m) = preL l ++ preL m
  | [], m => by rw [List.nil_append, preL, List.nil_append]
  | n :: l, m => by rw [List.cons_append, preL, preL, preL_append l m, List.append_assoc]
theorem preL_take {l : List Nd} {k : Nat} (h : k < l.length) : preL (l.take (k + 1)) = preL (l.take k) ++ preN (at' l k) := by
  rw [List.take_add_one, List.getElem?_eq_getElem h, Option.toList_some, preL_append, at_eq h, preL, preL, List.append_nil]
theorem preL_pre (l : List Nd) (k : Nat) : preL (l.take k) <+: preL l := by
  conv => rhs; rw [← List.take_append_drop k l, preL_append]
  exact List.prefix_append _ _
/-- the length of the walk -/
theorem pre_cut {pre xs : List Nd} {n : Nd} (k : Nat) (h : pre ++ preN n <+: xs) : pre ++ n :: preL (n.kids.take k) <+: xs := by
  refine List.IsPrefix.trans ?_ h
  rw [preN_eq]
  obtain ⟨t, ht⟩ := preL_pre n.kids k
  exact ⟨t, by rw [← ht]; simp⟩
end Go.Proofs.YtehmmokkjojggabGreatDoor
