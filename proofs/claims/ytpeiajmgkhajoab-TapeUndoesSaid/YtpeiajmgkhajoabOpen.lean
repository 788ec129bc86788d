/- What an argument reads as, in this text's own words. -/
import Derived.Test.YtpeiajmgkhajoabRows
import Derived.Test.YtpeiajmgkhajoabLib
import Derived.ProofKit
import Derived.OpenShut
import Derived.ShutString
import Derived.ChangeOld
import Derived.SizedLaws
namespace Go.Proofs.Ytpeiajmgkhajoab
open Go.ChangeShapes Go.WideShapes Go.ChangeAt Go.RowKit
open Go.ChangeMaps (open_string shut_string)
set_option linter.unusedVariables false

theorem own : ownKnob Try.prog.godebug = none := by kernel_rfl
theorem laidOut : laidOutB Try.prog = true := by kernel_rfl
theorem bytesInt : Try.prog.bytesOf 3 = 8 := by kernel_rfl

theorem rangeI64 {x : Int} (h : (Lit.int .i64 x).wf = true) : -9223372036854775808 ≤ x ∧ x ≤ 9223372036854775807 := by
  simpa [Lit.wf, IntKind.min, IntKind.max, IntKind.signed, IntKind.bits] using h
theorem rangeU8 {x : Int} (h : (Lit.int .u8 x).wf = true) : 0 ≤ x ∧ x ≤ 255 := by
  simpa [Lit.wf, IntKind.min, IntKind.max, IntKind.signed, IntKind.bits] using h
theorem rangeU16 {x : Int} (h : (Lit.int .u16 x).wf = true) : 0 ≤ x ∧ x ≤ 65535 := by
  simpa [Lit.wf, IntKind.min, IntKind.max, IntKind.signed, IntKind.bits] using h

/-- a slice of ints that came in -/
theorem openInts {H : Type} {enc : TypeId × Value → H} {W : World} {v : Value} {d : DataW H} {p : List MemPlace} {base : Nat} (hv : Value.okWide Try.prog W .any base 22 v)
    (h : DataW.Trod enc Try.prog W 0 (fun _ => true) true 22 v d p) (hsz : ∀ elems spare, d = .slice elems spare → (elems.length + spare.length) * Try.prog.bytesOf 3 ≤ reachBytes) : ∃ l, IntsAt W v l := by
  obtain ⟨a, len, cap, rfl⟩ := okWide_slice Try.underlying22 hv
  obtain ⟨fuel, hf⟩ := h
  rcases open_ints Try.underlying22 Try.underlying3 (by kernel_rfl) hf with ⟨hcs, _⟩ | ⟨x, l, c, zs, hcs, _, hl, hm, hz, hx, hcell, hwz⟩
  · simp [Value.cells] at hcs
    obtain ⟨rfl, rfl, rfl⟩ := hcs
    exact ⟨[], by simp, fun _ h => by simp at h, none, 0, rfl, fun _ => rfl, fun h => by simp at h⟩
  · simp [Value.cells] at hcs
    obtain ⟨rfl, rfl, rfl⟩ := hcs
    simp only [Prod.mk.injEq] at hx
    have hw := hsz _ _ hx.1
    rw [bytesInt] at hw
    have hzl : zs.length = cap := by simpa using hz
    have hlen : (zs.take len).length = len := by simp; omega
    refine ⟨zs.take len, ?_, ?_, some x, cap, by rw [hlen], nofun, fun hpos => ?_⟩
    · have e : reachBytes = 140737488351232 := by decide
      rw [e] at hw
      simp only [lits, List.length_map] at hw
      rw [hlen]; omega
    · intro y hy
      exact rangeI64 (hwz y (List.mem_of_mem_take hy))
    · rw [hlen] at hpos
      obtain ⟨b, off, rfl, hc⟩ := ints_at hcell (by omega)
      refine ⟨b, off, rfl, ?_, fun j hj => ?_⟩
      · have h0 := hc 0 (by omega)
        apply Classical.byContradiction
        intro hn
        have e : W.heap[b]? = none := by rw [Array.getElem?_eq_none_iff]; omega
        simp [World.cell?, e] at h0
      · rw [hlen] at hj
        rw [hc j (by omega), nth, List.getElem?_take, if_pos hj, List.getD_eq_getElem?_getD]
end Go.Proofs.Ytpeiajmgkhajoab
