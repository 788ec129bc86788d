/- Rows of names that a law makes; what a library within the limits gives. -/
import Derived.Test.YtehmmokkjojggaaDoorCmE
namespace Go.Proofs.YtehmmokkjojggaaDoor
set_option linter.unusedVariables false
set_option linter.unusedSimpArgs false
open Go.RowKit

theorem modest_of {lib : List Fn} {args : List Vl} (h : GreatOk lib args) : Modest lib := fun j hj => Nat.le_trans (h.bod j hj) (by omega)
theorem vlen_of {lib : List Fn} {args : List Vl} (h : GreatOk lib args) : ∀ a ∈ args, VLen a := fun a ha => by
  obtain ⟨j, hj, rfl⟩ := List.getElem_of_mem ha
  have := h.vl j hj
  rw [at_eq hj] at this
  unfold VLen; omega
/-- a literal without elements -/
theorem names_empty {B g : Nat} {w : World} (h : w.heap[g]? = some (.cells #[] 9 (0, 0))) (hb : B ≤ g) : RowsOwn StrE 9 Any B w (.slice (some ⟨g, 0, none⟩) 0 0) [] :=
  ⟨[], ⟨by simp, .inr ⟨g, 0, #[], rfl, hb, h, Nat.le_refl _, Nat.zero_le _, rfl, rfl⟩⟩, fun j hj => by simp at hj⟩
/-- what an append of names that were there asks -/
theorem names_src {B : Nat} {w W : World} {v u : Value} {l m : List ByteArray} (h : RowsOwn StrE 9 Any B W v l) (hu : StrsAt Any w u m) (hb : Below w.heap.size w W) (hB : w.heap.size ≤ B) :
    RowsOwn StrE 9 Any B W v l ∧ RowsAt StrE (fun b => b < w.heap.size) W u m ∧ ∀ b, b < W.heap.size → b < w.heap.size → Any b ∧ v.ownBlock ≠ some b :=
  ⟨h, RowsAt.stays (E := StrE) ⟨hb.size, fun b hb' _ => ⟨hb.block b hb', hb'⟩⟩ hu, fun b _ hl => ⟨trivial, fun e => by have := (h.lt e).1; omega⟩⟩
/-- what an append of one name asks -/
theorem names_add {B : Nat} {w : World} {a : Option Addr} {n c : Nat} {l : List ByteArray} {x : ByteArray} (h : RowsOwn StrE 9 Any B w (.slice a n c) l) (hx : x.size ≤ maxLen) :
    RowsOwn StrE 9 Any B (w.alloc (.cells #[.string x] 9)) (.slice a n c) l ∧ RowsAt StrE (fun b => b = w.heap.size) (w.alloc (.cells #[.string x] 9)) (.slice (some ⟨w.heap.size, 0, none⟩) 1 1) [x] ∧ ∀ b, b < (w.alloc (.cells #[.string x] 9)).heap.size → b = w.heap.size → Any b ∧ (Value.slice a n c).ownBlock ≠ some b :=
  ⟨h.below (bel_alloc (Below.refl _ _)), rows_1 (E := StrE) (at_new0 _ _) rfl rfl ⟨rfl, hx⟩, fun b _ e => ⟨trivial, fun e2 => by have := (h.lt e2).2; omega⟩⟩
theorem names_shut {B : Nat} {w : World} {v : Value} {l : List ByteArray} (h : RowsOwn StrE 9 Any B w v l) (hl : l.length ≤ 1000000) : StrsAt Any w v l := h.shut (A := Any) (fun _ _ => trivial) (fun _ _ => trivial) (by unfold maxLen; omega)
/-- behind the append -/
theorem names_grown {B : Nat} {w0 w w' : World} {v : Value} {l : List ByteArray} (h : RowsOwn StrE 9 Any B w v l) (hb : Below w0.heap.size w0 w) (hg : w.grownBy w' v.ownBlock) (hB : w0.heap.size ≤ B) : Below w0.heap.size w0 w' :=
  hb.grown hg hb.size (fun j e => by have := (h.lt e).1; omega)
theorem blk_grown {B g : Nat} {w w' : World} {v : Value} {l : List ByteArray} {o : Obj} (h : RowsOwn StrE 9 Any B w v l) (hg : w.grownBy w' v.ownBlock) (ho : w.heap[g]? = some o) (hB : g < B) : w'.heap[g]? = some o :=
  (hg.block g (by rw [Array.getElem?_eq_some_iff] at ho; exact ho.1) (fun e => by have := (h.lt e.symm).1; omega)).trans ho
theorem pred_nn {lib : List Fn} {name : ByteArray} {kept : List ByteArray} {args : List Vl} {fuel : Int} (ha : ∀ a ∈ args, VLen a) (hf : fuel ≤ 1000) (h : (predN lib name kept args fuel).err = 0) :
    (∀ i, 0 ≤ at' (predN lib name kept args fuel).cnt.calls i) ∧ (∀ i, 0 ≤ at' (predN lib name kept args fuel).cnt.kept i) ∧ sumI (predN lib name kept args fuel).cnt.calls + sumI (predN lib name kept args fuel).cnt.kept ≤ 1152921504606846976 := by
  have hs := (pred_small ha hf h).2
  have ht : (predN lib name kept args fuel).cnt.total = sumI (predN lib name kept args fuel).cnt.calls + sumI (predN lib name kept args fuel).cnt.kept := rfl
  obtain ⟨h1, h2, h3, h4, h5, h6⟩ := pred_ok h
  obtain ⟨t1, t2, _⟩ := start_tree h1 ha h5
  obtain ⟨r0, r1, r2, _⟩ := root_counts (puN lib) (inK lib kept) _ t1
  have r1' : ∀ i, 0 ≤ at' (predN lib name kept args fuel).cnt.calls i := fun i => by rw [h6]; exact r1 i
  have r2' : ∀ i, 0 ≤ at' (predN lib name kept args fuel).cnt.kept i := fun i => by rw [h6]; exact r2 i
  exact ⟨r1', r2', by omega⟩
end Go.Proofs.YtehmmokkjojggaaDoor
