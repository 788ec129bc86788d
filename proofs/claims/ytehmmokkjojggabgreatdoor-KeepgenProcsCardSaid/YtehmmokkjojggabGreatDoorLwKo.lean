/- An opener of names that tells their sizes. -/
import Derived.Test.YtehmmokkjojggabGreatDoorLwK
import Derived.SizedLaws
import Derived.ChangeArms
import Derived.ProofKit
namespace Go.Proofs.YtehmmokkjojggabGreatDoor
open Go.ChangeShapes Go.WideShapes Go.ChangeAt Go.RowKit
set_option linter.unusedVariables false
set_option linter.unusedSimpArgs false

theorem weightsAll_mem {H : Type} {P : Program} {e : TypeId} {d : DataW H} {n : Nat} (hn : n ∈ d.weights P e) : ∀ l : List (DataW H), d ∈ l → n ∈ DataW.weightsAll P e l
  | [], h => by simp at h
  | x :: r, h => by
    simp only [DataW.weightsAll, List.mem_append]
    rcases List.mem_cons.1 h with rfl | h
    · exact .inl hn
    · exact .inr (weightsAll_mem hn r h)
section
variable {H : Type} {enc : TypeId × Value → H} {W : World} {spare : Nat → Bool} {held : Bool}
theorem openStrsW {fuel : Nat} {cs : List Value} {x : DataW H × List MemPlace} (h : DataW.trod enc Tryz.prog W 0 spare held fuel 23 cs = some x) (hw : ∀ n ∈ x.1.weights Tryz.prog 23, n ≤ reachBytes) : ∃ v l, cs = [v] ∧ StrsAt Any W v l ∧ ∀ s ∈ l, s.size ≤ 140737488355328 := by
  obtain ⟨v, l, rfl, hs⟩ := openStrs h
  refine ⟨v, l, rfl, hs, fun s hm => ?_⟩
  obtain ⟨j, hj, rfl⟩ := List.getElem_of_mem hm
  obtain ⟨csF, hrow, hf⟩ := hs
  obtain ⟨b, off, cap, rfl, hb, hcap, _, hcell⟩ := hrow.at hj
  have h0 := hcell 0 (by omega)
  rw [(hf j hj).1] at h0
  rcases DataW.trod_slice Tryz.underlying23 h with ⟨e1, _⟩ | ⟨a, len, cap, elems, rest, n, rfl, e1, rfl, _, hlc, hl, hlen, hel, _, _⟩
  · simp at e1
  · simp only [List.cons.injEq, Value.slice.injEq, Option.some.injEq, and_true] at e1
    obtain ⟨rfl, rfl, rfl⟩ := e1
    have key := hel j hj
    rw [show Tryz.prog.cellsOf 9 = 1 by kernel_rfl, List.getElem?_eq_getElem (by omega)] at key
    obtain ⟨cs', h1, h2⟩ := Option.bind_eq_some_iff.1 key
    obtain ⟨s', rfl, he, _⟩ := DataW.trod_string Tryz.underlying9 h2
    obtain ⟨_, hlen', hc⟩ := World.cells?_some h1
    have hc0 := hc 0 (by omega)
    have e3 : s' = at' l j := by
      have e4 : W.cell? ⟨b, off + j * 1 + 0, none⟩ = some (.string s') := by
        have := hc0
        simp only [Go.WideShapes.add_plain] at this
        exact this
      rw [e4] at h0
      simpa using h0
    have hmem : s'.data.toList.length ∈ (DataW.slice (elems.map (·.1)) (rest.map (·.1))).weights Tryz.prog 23 := by
      unfold DataW.weights
      rw [show Tryz.prog.underlying 23 = some (.slice 9) from Tryz.underlying23]
      simp only [List.mem_cons, List.mem_append]
      refine .inr (.inl (weightsAll_mem (d := .lit (.string s'.data.toList)) (by simp [DataW.weights]) _ ?_))
      refine List.mem_map.2 ⟨elems[j]'(by omega), List.getElem_mem _, by rw [he]⟩
    have := hw _ hmem
    have e5 : l[j] = s' := by rw [e3, at_eq hj]
    rw [e5]
    have e6 : s'.size = s'.data.toList.length := by rw [Array.length_toList]; rfl
    rw [e6]
    unfold reachBytes at this
    omega
end
end Go.Proofs.YtehmmokkjojggabGreatDoor
