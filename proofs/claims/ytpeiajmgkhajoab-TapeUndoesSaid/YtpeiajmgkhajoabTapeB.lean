/- tape.insert and tape.remove, at a slice that lies in a cell. -/
import Derived.Test.YtpeiajmgkhajoabTapeA
namespace Go.Proofs.Ytpeiajmgkhajoab
set_option linter.unusedVariables false
open Go.RowKit

/-- all that lay in the world stays, but for the blocks of a set -/
structure Keeps (w w' : World) (S : Nat → Prop) : Prop where
  os : w'.os = w.os
  tape : w'.tape = w.tape
  output : w'.output = w.output
  size : w.heap.size ≤ w'.heap.size
  block : ∀ k, k < w.heap.size → ¬ S k → w'.heap[k]? = w.heap[k]?

/-- the cell written anew, behind a call that kept the cell's block -/
theorem keeps_store {w w1 : World} {b c t : Nat} {arr : Array Value} {base : Nat} {v v' : Value} {l' : List Int} (hb : w.heap[b]? = some (.cells arr t (0, 0))) (hne : v.ownBlock ≠ some b)
    (hg : w.grownBy w1 v.ownBlock) (hn : NewOr w v v') (ho : Own w1 base 3 v' l') :
    Own (w1.setCell ⟨b, c, none⟩ v') base 3 v' l' ∧ (w1.setCell ⟨b, c, none⟩ v').heap[b]? = some (.cells (arr.setIfInBounds c v') t (0, 0)) ∧ Keeps w (w1.setCell ⟨b, c, none⟩ v') (fun k => k = b ∨ v.ownBlock = some k) := by
  have hbl : b < w.heap.size := by rw [Array.getElem?_eq_some_iff] at hb; exact hb.1
  have hb1 : w1.heap[b]? = some (.cells arr t (0, 0)) := (hg.block b hbl (Ne.symm hne)).trans hb
  refine ⟨⟨ho.1, ho.2.1, ?_⟩, heap_setCell_same w1 b c arr t v' hb1, ⟨hg.os, hg.tape, hg.output, by simpa [World.setCell] using hg.size, fun k hk hs => ?_⟩⟩
  · have hg2 : w1.grownBy (w1.setCell ⟨b, c, none⟩ v') (some b) := ⟨rfl, rfl, rfl, by simp [World.setCell], fun k hk hs => heap_setCell_other w1 ⟨b, c, none⟩ k v' (fun e => hs (by simp [e]))⟩
    refine ho.2.2.kept hg2 (.inr fun e => ?_)
    rcases hn _ e with h | h
    · exact hne h
    · omega
  · rw [heap_setCell_other w1 ⟨b, c, none⟩ k v' (fun e => hs (.inl e))]
    exact hg.block k hk (fun e => hs (.inr e.symm))

theorem insert_front_at (b c : Nat) (arr : Array Value) (t : TypeId) (v : Value) (l : List Int) (x : Int) (base : Nat) (w : World) (hb : w.heap[b]? = some (.cells arr t (0, 0))) (hv : arr[c]? = some v)
    (ho : Own w base 3 v l) (hne : v.ownBlock ≠ some b) (hx : -9223372036854775808 ≤ x ∧ x ≤ 9223372036854775807) (hl : l.length < 4096) (hbs : base ≤ w.heap.size) :
    Calls Try.prog 27 #[.pointer (some ⟨b, c, none⟩), .int .i64 0, .int .i64 x] w fun e w' =>
      ∃ v', e = .returned (.int .i64 0) ∧ Own w' base 3 v' (x :: l) ∧ w'.heap[b]? = some (.cells (arr.setIfInBounds c v') t (0, 0)) ∧ Keeps w w' (fun k => k = b ∨ v.ownBlock = some k) ∧ NewOr w v v' := by
  obtain ⟨a, cap, rfl⟩ := ho.form
  have hcell : w.cell? ⟨b, c, none⟩ = some (.slice a l.length cap) := by simp [World.cell?, hb, hv]
  have hfz : w.frozen? ⟨b, c, none⟩ = false := by simp [World.frozen?, hb]
  have hlt : (4096 ≤ (l.length : Int)) = False := by simp; omega
  go_enter Try.func27, Try.ntmps27
  go_wp2_with (simp only [hlt])
  refine (insert_front _ l x base w ho hx (by omega) hbs).mono ?_
  rintro e w1 ⟨v', rfl, ho1, hg, hn⟩
  obtain ⟨k1, k2, k3⟩ := keeps_store (c := c) hb hne hg hn ho1
  have hbl : b < w.heap.size := by rw [Array.getElem?_eq_some_iff] at hb; exact hb.1
  have hb1 : w1.heap[b]? = some (.cells arr t (0, 0)) := (hg.block b hbl (Ne.symm hne)).trans hb
  have hc1 : w1.cell? ⟨b, c, none⟩ = some (.slice a l.length cap) := by simp [World.cell?, hb1, hv]
  have hf1 : w1.frozen? ⟨b, c, none⟩ = false := by simp [World.frozen?, hb1]
  obtain ⟨n', a', cap', rfl⟩ : ∃ n a c, v' = Value.slice a n c := by obtain ⟨a', cap', h⟩ := ho1.form; exact ⟨_, _, _, h⟩
  clear hcell hfz hb hb1 hv ho
  go_wp2
  go_ret
  exact ⟨_, rfl, k1, k2, k3, hn⟩
theorem insert_end_at (b c : Nat) (arr : Array Value) (t : TypeId) (v : Value) (l : List Int) (x : Int) (base : Nat) (w : World) (hb : w.heap[b]? = some (.cells arr t (0, 0))) (hv : arr[c]? = some v)
    (ho : Own w base 3 v l) (hne : v.ownBlock ≠ some b) (hx : -9223372036854775808 ≤ x ∧ x ≤ 9223372036854775807) (hl : l.length < 4096) (hbs : base ≤ w.heap.size) :
    Calls Try.prog 27 #[.pointer (some ⟨b, c, none⟩), .int .i64 l.length, .int .i64 x] w fun e w' =>
      ∃ v', e = .returned (.int .i64 0) ∧ Own w' base 3 v' (l ++ [x]) ∧ w'.heap[b]? = some (.cells (arr.setIfInBounds c v') t (0, 0)) ∧ Keeps w w' (fun k => k = b ∨ v.ownBlock = some k) ∧ NewOr w v v' := by
  obtain ⟨a, cap, rfl⟩ := ho.form
  have hcell : w.cell? ⟨b, c, none⟩ = some (.slice a l.length cap) := by simp [World.cell?, hb, hv]
  have hfz : w.frozen? ⟨b, c, none⟩ = false := by simp [World.frozen?, hb]
  have hlt : (4096 ≤ (l.length : Int)) = False := by simp; omega
  go_enter Try.func27, Try.ntmps27
  go_wp2_with (simp only [hlt])
  refine (insert_end _ l x base w ho hx (by omega) hbs).mono ?_
  rintro e w1 ⟨v', rfl, ho1, hg, hn⟩
  obtain ⟨k1, k2, k3⟩ := keeps_store (c := c) hb hne hg hn ho1
  have hbl : b < w.heap.size := by rw [Array.getElem?_eq_some_iff] at hb; exact hb.1
  have hb1 : w1.heap[b]? = some (.cells arr t (0, 0)) := (hg.block b hbl (Ne.symm hne)).trans hb
  have hc1 : w1.cell? ⟨b, c, none⟩ = some (.slice a l.length cap) := by simp [World.cell?, hb1, hv]
  have hf1 : w1.frozen? ⟨b, c, none⟩ = false := by simp [World.frozen?, hb1]
  obtain ⟨n', a', cap', rfl⟩ : ∃ n a c, v' = Value.slice a n c := by obtain ⟨a', cap', h⟩ := ho1.form; exact ⟨_, _, _, h⟩
  clear hcell hfz hb hb1 hv ho
  go_wp2
  go_ret
  exact ⟨_, rfl, k1, k2, k3, hn⟩
theorem insert_full_at (b c : Nat) (v : Value) (l : List Int) (i x : Int) (base : Nat) (w : World) (hcell : w.cell? ⟨b, c, none⟩ = some v) (ho : Own w base 3 v l) (hl : 4096 ≤ l.length) :
    Calls Try.prog 27 #[.pointer (some ⟨b, c, none⟩), .int .i64 i, .int .i64 x] w fun e w' => e = .returned (.int .i64 5) ∧ w' = w := by
  obtain ⟨a, cap, rfl⟩ := ho.form
  have hlt : (4096 ≤ (l.length : Int)) = True := by simp; omega
  go_enter Try.func27, Try.ntmps27
  go_wp2_with (simp only [hlt])
  go_ret
  exact ⟨rfl, rfl⟩

theorem remove_none_at (b c : Nat) (v : Value) (i : Int) (base : Nat) (w : World) (hcell : w.cell? ⟨b, c, none⟩ = some v) (ho : Own w base 3 v []) :
    Calls Try.prog 26 #[.pointer (some ⟨b, c, none⟩), .int .i64 i] w fun e w' => e = .returned (.tuple #[.int .i64 0, .int .i64 17]) ∧ w' = w := by
  obtain ⟨a, cap, rfl⟩ := ho.form
  simp only [List.length_nil] at hcell
  go_enter Try.func26, Try.ntmps26
  go_wp2
  go_ret2
  exact ⟨rfl, rfl⟩

theorem remove_at (b c : Nat) (arr : Array Value) (t : TypeId) (v : Value) (l : List Int) (i : Nat) (base : Nat) (w : World) (hb : w.heap[b]? = some (.cells arr t (0, 0))) (hv : arr[c]? = some v)
    (ho : Own w base 3 v l) (hne : v.ownBlock ≠ some b) (hi : i < l.length) :
    Calls Try.prog 26 #[.pointer (some ⟨b, c, none⟩), .int .i64 i] w fun e w' =>
      ∃ v', e = .returned (.tuple #[.int .i64 (nth l i), .int .i64 0]) ∧ Own w' base 3 v' (l.take i ++ l.drop (i + 1)) ∧ w'.heap[b]? = some (.cells (arr.setIfInBounds c v') t (0, 0)) ∧ Keeps w w' (fun k => k = b ∨ v.ownBlock = some k) ∧ NewOr w v v' := by
  obtain ⟨g, cap, rfl, hgl, hfz', hcl⟩ := ho.at (by omega)
  have hcell : w.cell? ⟨b, c, none⟩ = some (.slice (some ⟨g, 0, none⟩) l.length cap) := by simp [World.cell?, hb, hv]
  have hci := hcl i hi
  have hlt : ((l.length : Int) = 0) = False := by simp only [eq_iff_iff, iff_false]; omega
  have hb0 : (0 : Int) ≤ i ∧ (i : Int) < l.length := by omega
  have hlen := ho.1
  have hbi : -9223372036854775808 ≤ (i : Int) + 1 ∧ (i : Int) + 1 ≤ 9223372036854775807 := by omega
  go_enter Try.func26, Try.ntmps26
  go_wp2_with (simp only [hlt])
  refine (delete_any _ l i base w ho hi).mono ?_
  rintro e w1 ⟨v', rfl, ho1, hg, hn⟩
  have hn' : NewOr w (.slice (some ⟨g, 0, none⟩) l.length cap) v' := fun k hk => .inl (hn ▸ hk)
  obtain ⟨k1, k2, k3⟩ := keeps_store (c := c) hb hne hg hn' ho1
  have hbl : b < w.heap.size := by rw [Array.getElem?_eq_some_iff] at hb; exact hb.1
  have hb1 : w1.heap[b]? = some (.cells arr t (0, 0)) := (hg.block b hbl (Ne.symm hne)).trans hb
  have hc1 : w1.cell? ⟨b, c, none⟩ = some (.slice (some ⟨g, 0, none⟩) l.length cap) := by simp [World.cell?, hb1, hv]
  have hf1 : w1.frozen? ⟨b, c, none⟩ = false := by simp [World.frozen?, hb1]
  obtain ⟨n', a', cap', rfl⟩ : ∃ n a c, v' = Value.slice a n c := by obtain ⟨a', cap', h⟩ := ho1.form; exact ⟨_, _, _, h⟩
  clear hcell hb hb1 hv ho hn
  go_wp2
  go_ret2
  exact ⟨_, rfl, k1, k2, k3, hn'⟩

end Go.Proofs.Ytpeiajmgkhajoab
