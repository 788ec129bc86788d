/-
  No cell of these rows narrows 'for every input' (looked for: loops, veiled, ifaces, maps, wideKeys, modest, calm, conditions, laid).
  DERIVED. THE GIVEN ROWS OF THIS SEAT. 8 by the template 'for every input the law returns true; each argument reads behind the call as it read before'; 0 by the template 'total and deterministic' (their statements: YtpeiajmgkhajoabTotals.lean).
  GIVEN WITH THE SEED: the statements are not yours to turn. If you find one false, say at which input.
  Laid BY PROGRAM, IN A SANDBOX (cutbox-rows.mjs): the forced cells as the released guide's own fill.sh prints them over the translation 1698e577546b8ce8… (all of the seat's roots in one cut). By AI agents, Wed Nov 11 2026. No macro, syntax, notation, axiom, sorry.
-/
import Derived.Test.YtpeiajmgkhajoabChecked
import GoSem.Claim
import GoSem.ClaimJoined
import GoSem.ClaimMapViews
import Derived.JoinedTies
import Derived.KernelRfl
namespace Go.Proofs.Ytpeiajmgkhajoab
/- THE CELL 'sum', in the pinned program and in every row, IS THE sha256 OF THE DUMP (.gsa) THAT YtpeiajmgkhajoabProg.lean LOADS. Nothing in Lean hashes anything: it is a label: what it is worth is what the hold of that sum in a sandbox is worth. -/
noncomputable def Try.pinned : Pinned := { name := "ytpeiajmgkhajoab", sum := "1698e577546b8ce84f268f1de797adcea16d365047c8d89e511f19544bc72d8b", checked := Try.checked }
namespace Rows
def none {H : Type} : Left H := { results := [], args := [] }

/-- 'backsteplaw11.TapeNew': WHATEVER THE INPUT: true; the input reads as it did. -/
def tapeNewSpec : ChangeSpec := { name := "tapeNew", fn := fun _ => fun
  | [d1, d2] => { results := [.lit (.bool true)], args := [d1, d2] }
  | _ => none }
def tapeNewRow : OpenClaim := { program := "ytpeiajmgkhajoab", sum := "1698e577546b8ce84f268f1de797adcea16d365047c8d89e511f19544bc72d8b", func := "backstep/backsteplaw11.TapeNew", spec := "tapeNew", inPlace := ["slices.overlaps[int]"], apart := false }
def TapeNewSaid : Prop := tapeNewRow.holds Try.pinned (OpenSpec.ofChange tapeNewSpec)

/-- ITS FALSE NEIGHBOUR: 'it returns false'. Refute it at one input. -/
def tapeNewWrong : ChangeSpec := { name := "tapeNew", fn := fun _ => fun
  | [d1, d2] => { results := [.lit (.bool false)], args := [d1, d2] }
  | _ => none }
def TapeNewWrongFalsely : Prop := tapeNewRow.holds Try.pinned (OpenSpec.ofChange tapeNewWrong)

/-- 'backsteplaw11.TapeDoes': WHATEVER THE INPUT: true; the input reads as it did. -/
def tapeDoesSpec : ChangeSpec := { name := "tapeDoes", fn := fun _ => fun
  | [d1, d2, d3] => { results := [.lit (.bool true)], args := [d1, d2, d3] }
  | _ => none }
def tapeDoesRow : OpenClaim := { program := "ytpeiajmgkhajoab", sum := "1698e577546b8ce84f268f1de797adcea16d365047c8d89e511f19544bc72d8b", func := "backstep/backsteplaw11.TapeDoes", spec := "tapeDoes", inPlace := ["slices.overlaps[int]"], apart := false }
def TapeDoesSaid : Prop := tapeDoesRow.holds Try.pinned (OpenSpec.ofChange tapeDoesSpec)

/-- ITS FALSE NEIGHBOUR: 'it returns false'. Refute it at one input. -/
def tapeDoesWrong : ChangeSpec := { name := "tapeDoes", fn := fun _ => fun
  | [d1, d2, d3] => { results := [.lit (.bool false)], args := [d1, d2, d3] }
  | _ => none }
def TapeDoesWrongFalsely : Prop := tapeDoesRow.holds Try.pinned (OpenSpec.ofChange tapeDoesWrong)

/-- 'backsteplaw11.TapeUndoes': WHATEVER THE INPUT: true; the input reads as it did. -/
def tapeUndoesSpec : ChangeSpec := { name := "tapeUndoes", fn := fun _ => fun
  | [d1, d2, d3] => { results := [.lit (.bool true)], args := [d1, d2, d3] }
  | _ => none }
def tapeUndoesRow : OpenClaim := { program := "ytpeiajmgkhajoab", sum := "1698e577546b8ce84f268f1de797adcea16d365047c8d89e511f19544bc72d8b", func := "backstep/backsteplaw11.TapeUndoes", spec := "tapeUndoes", inPlace := ["slices.overlaps[int]"], apart := false }
def TapeUndoesSaid : Prop := tapeUndoesRow.holds Try.pinned (OpenSpec.ofChange tapeUndoesSpec)

/-- ITS FALSE NEIGHBOUR: 'it returns false'. Refute it at one input. -/
def tapeUndoesWrong : ChangeSpec := { name := "tapeUndoes", fn := fun _ => fun
  | [d1, d2, d3] => { results := [.lit (.bool false)], args := [d1, d2, d3] }
  | _ => none }
def TapeUndoesWrongFalsely : Prop := tapeUndoesRow.holds Try.pinned (OpenSpec.ofChange tapeUndoesWrong)

/-- 'backsteplaw11.TapePairs': WHATEVER THE INPUT: true; the input reads as it did. -/
def tapePairsSpec : ChangeSpec := { name := "tapePairs", fn := fun _ => fun
  | [d1, d2, d3] => { results := [.lit (.bool true)], args := [d1, d2, d3] }
  | _ => none }
def tapePairsRow : OpenClaim := { program := "ytpeiajmgkhajoab", sum := "1698e577546b8ce84f268f1de797adcea16d365047c8d89e511f19544bc72d8b", func := "backstep/backsteplaw11.TapePairs", spec := "tapePairs", inPlace := ["slices.overlaps[int]"], apart := false }
def TapePairsSaid : Prop := tapePairsRow.holds Try.pinned (OpenSpec.ofChange tapePairsSpec)

/-- ITS FALSE NEIGHBOUR: 'it returns false'. Refute it at one input. -/
def tapePairsWrong : ChangeSpec := { name := "tapePairs", fn := fun _ => fun
  | [d1, d2, d3] => { results := [.lit (.bool false)], args := [d1, d2, d3] }
  | _ => none }
def TapePairsWrongFalsely : Prop := tapePairsRow.holds Try.pinned (OpenSpec.ofChange tapePairsWrong)

/-- 'backsteplaw11.TapeApart': WHATEVER THE INPUT: true; the input reads as it did. -/
def tapeApartSpec : ChangeSpec := { name := "tapeApart", fn := fun _ => fun
  | [d1, d2, d3] => { results := [.lit (.bool true)], args := [d1, d2, d3] }
  | _ => none }
def tapeApartRow : OpenClaim := { program := "ytpeiajmgkhajoab", sum := "1698e577546b8ce84f268f1de797adcea16d365047c8d89e511f19544bc72d8b", func := "backstep/backsteplaw11.TapeApart", spec := "tapeApart", inPlace := ["slices.overlaps[int]"], apart := false }
def TapeApartSaid : Prop := tapeApartRow.holds Try.pinned (OpenSpec.ofChange tapeApartSpec)

/-- ITS FALSE NEIGHBOUR: 'it returns false'. Refute it at one input. -/
def tapeApartWrong : ChangeSpec := { name := "tapeApart", fn := fun _ => fun
  | [d1, d2, d3] => { results := [.lit (.bool false)], args := [d1, d2, d3] }
  | _ => none }
def TapeApartWrongFalsely : Prop := tapeApartRow.holds Try.pinned (OpenSpec.ofChange tapeApartWrong)

/-- 'backsteplaw11.TapeCopies': WHATEVER THE INPUT: true; the input reads as it did. -/
def tapeCopiesSpec : ChangeSpec := { name := "tapeCopies", fn := fun _ => fun
  | [d1, d2] => { results := [.lit (.bool true)], args := [d1, d2] }
  | _ => none }
def tapeCopiesRow : OpenClaim := { program := "ytpeiajmgkhajoab", sum := "1698e577546b8ce84f268f1de797adcea16d365047c8d89e511f19544bc72d8b", func := "backstep/backsteplaw11.TapeCopies", spec := "tapeCopies", inPlace := ["slices.overlaps[int]"], apart := false }
def TapeCopiesSaid : Prop := tapeCopiesRow.holds Try.pinned (OpenSpec.ofChange tapeCopiesSpec)

/-- ITS FALSE NEIGHBOUR: 'it returns false'. Refute it at one input. -/
def tapeCopiesWrong : ChangeSpec := { name := "tapeCopies", fn := fun _ => fun
  | [d1, d2] => { results := [.lit (.bool false)], args := [d1, d2] }
  | _ => none }
def TapeCopiesWrongFalsely : Prop := tapeCopiesRow.holds Try.pinned (OpenSpec.ofChange tapeCopiesWrong)

/-- 'backsteplaw11.TapeFull': WHATEVER THE INPUT: true; the input reads as it did. -/
def tapeFullSpec : ChangeSpec := { name := "tapeFull", fn := fun _ => fun
  | [d1, d2] => { results := [.lit (.bool true)], args := [d1, d2] }
  | _ => none }
def tapeFullRow : OpenClaim := { program := "ytpeiajmgkhajoab", sum := "1698e577546b8ce84f268f1de797adcea16d365047c8d89e511f19544bc72d8b", func := "backstep/backsteplaw11.TapeFull", spec := "tapeFull", inPlace := ["slices.overlaps[int]"], apart := false }
def TapeFullSaid : Prop := tapeFullRow.holds Try.pinned (OpenSpec.ofChange tapeFullSpec)

/-- ITS FALSE NEIGHBOUR: 'it returns false'. Refute it at one input. -/
def tapeFullWrong : ChangeSpec := { name := "tapeFull", fn := fun _ => fun
  | [d1, d2] => { results := [.lit (.bool false)], args := [d1, d2] }
  | _ => none }
def TapeFullWrongFalsely : Prop := tapeFullRow.holds Try.pinned (OpenSpec.ofChange tapeFullWrong)

/-- 'backsteplaw11.TapeNil': WHATEVER THE INPUT: true; the input reads as it did. -/
def tapeNilSpec : ChangeSpec := { name := "tapeNil", fn := fun _ => fun
  | [d] => { results := [.lit (.bool true)], args := [d] }
  | _ => none }
def tapeNilRow : OpenClaim := { program := "ytpeiajmgkhajoab", sum := "1698e577546b8ce84f268f1de797adcea16d365047c8d89e511f19544bc72d8b", func := "backstep/backsteplaw11.TapeNil", spec := "tapeNil", inPlace := ["slices.overlaps[int]"], apart := false }
def TapeNilSaid : Prop := tapeNilRow.holds Try.pinned (OpenSpec.ofChange tapeNilSpec)

/-- ITS FALSE NEIGHBOUR: 'it returns false'. Refute it at one input. -/
def tapeNilWrong : ChangeSpec := { name := "tapeNil", fn := fun _ => fun
  | [d] => { results := [.lit (.bool false)], args := [d] }
  | _ => none }
def TapeNilWrongFalsely : Prop := tapeNilRow.holds Try.pinned (OpenSpec.ofChange tapeNilWrong)

/- THE SECOND FORM. 'bulk': how many values and letters a reading holds, each counted each time it is reached (what is shared counts as often as it is met; a slice's spare places count too). A statement '..UptoSaid' is the law's where the arguments, and the package variables that the reading takes, are together of bulk at most 1048576: NARROWER than '..Said'. Prove '..Said' where nothing that the law and all that it calls make is longer than what came in: it says more and counts as full. Else prove '..UptoSaid'. A law counts once. -/
mutual
def uptoBulk {H : Type} : DataW H → Nat
  | .lit (.string bytes) => bytes.length + 1
  | .lit _ => 1
  | .nil => 1
  | .ptr d => uptoBulk d + 1
  | .slice elems spare => uptoBulkAll elems + uptoBulkAll spare + 1
  | .agg parts => uptoBulkAll parts + 1
  | .iface _ d => uptoBulk d + 1
  | .map entries => uptoBulkEntries entries + 1
  | .held _ => 1
def uptoBulkAll {H : Type} : List (DataW H) → Nat
  | [] => 0
  | d :: r => uptoBulk d + uptoBulkAll r
def uptoBulkEntries {H : Type} : List (Lit × DataW H) → Nat
  | [] => 0
  | x :: r => uptoBulkEntry x + uptoBulkEntries r
def uptoBulkEntry {H : Type} : Lit × DataW H → Nat
  | (.string bytes, d) => bytes.length + uptoBulk d + 1
  | (_, d) => uptoBulk d + 1
 end
def uptoSmall : (H : Type) → List (DataW H) → Bool := fun _ ds => decide (uptoBulkAll ds ≤ 1048576)
def OpenSpec.upto (s : _root_.Go.ChangeSpec) : _root_.Go.OpenSpec := { _root_.Go.OpenSpec.ofChange s with cond := some uptoSmall }

/-- 'backsteplaw11.TapeNew', WHERE WHAT IT READS IS OF BULK AT MOST 1048576: true; the input reads as it did. -/
def tapeNewUptoRow : OpenClaim := { program := "ytpeiajmgkhajoab", sum := "1698e577546b8ce84f268f1de797adcea16d365047c8d89e511f19544bc72d8b", func := "backstep/backsteplaw11.TapeNew", spec := "tapeNew", inPlace := ["slices.overlaps[int]"], apart := false, narrowed := true }
def TapeNewUptoSaid : Prop := tapeNewUptoRow.holds Try.pinned (OpenSpec.upto tapeNewSpec)

/-- 'backsteplaw11.TapeDoes', WHERE WHAT IT READS IS OF BULK AT MOST 1048576: true; the input reads as it did. -/
def tapeDoesUptoRow : OpenClaim := { program := "ytpeiajmgkhajoab", sum := "1698e577546b8ce84f268f1de797adcea16d365047c8d89e511f19544bc72d8b", func := "backstep/backsteplaw11.TapeDoes", spec := "tapeDoes", inPlace := ["slices.overlaps[int]"], apart := false, narrowed := true }
def TapeDoesUptoSaid : Prop := tapeDoesUptoRow.holds Try.pinned (OpenSpec.upto tapeDoesSpec)

/-- 'backsteplaw11.TapeUndoes', WHERE WHAT IT READS IS OF BULK AT MOST 1048576: true; the input reads as it did. -/
def tapeUndoesUptoRow : OpenClaim := { program := "ytpeiajmgkhajoab", sum := "1698e577546b8ce84f268f1de797adcea16d365047c8d89e511f19544bc72d8b", func := "backstep/backsteplaw11.TapeUndoes", spec := "tapeUndoes", inPlace := ["slices.overlaps[int]"], apart := false, narrowed := true }
def TapeUndoesUptoSaid : Prop := tapeUndoesUptoRow.holds Try.pinned (OpenSpec.upto tapeUndoesSpec)

/-- 'backsteplaw11.TapePairs', WHERE WHAT IT READS IS OF BULK AT MOST 1048576: true; the input reads as it did. -/
def tapePairsUptoRow : OpenClaim := { program := "ytpeiajmgkhajoab", sum := "1698e577546b8ce84f268f1de797adcea16d365047c8d89e511f19544bc72d8b", func := "backstep/backsteplaw11.TapePairs", spec := "tapePairs", inPlace := ["slices.overlaps[int]"], apart := false, narrowed := true }
def TapePairsUptoSaid : Prop := tapePairsUptoRow.holds Try.pinned (OpenSpec.upto tapePairsSpec)

/-- 'backsteplaw11.TapeApart', WHERE WHAT IT READS IS OF BULK AT MOST 1048576: true; the input reads as it did. -/
def tapeApartUptoRow : OpenClaim := { program := "ytpeiajmgkhajoab", sum := "1698e577546b8ce84f268f1de797adcea16d365047c8d89e511f19544bc72d8b", func := "backstep/backsteplaw11.TapeApart", spec := "tapeApart", inPlace := ["slices.overlaps[int]"], apart := false, narrowed := true }
def TapeApartUptoSaid : Prop := tapeApartUptoRow.holds Try.pinned (OpenSpec.upto tapeApartSpec)

/-- 'backsteplaw11.TapeCopies', WHERE WHAT IT READS IS OF BULK AT MOST 1048576: true; the input reads as it did. -/
def tapeCopiesUptoRow : OpenClaim := { program := "ytpeiajmgkhajoab", sum := "1698e577546b8ce84f268f1de797adcea16d365047c8d89e511f19544bc72d8b", func := "backstep/backsteplaw11.TapeCopies", spec := "tapeCopies", inPlace := ["slices.overlaps[int]"], apart := false, narrowed := true }
def TapeCopiesUptoSaid : Prop := tapeCopiesUptoRow.holds Try.pinned (OpenSpec.upto tapeCopiesSpec)

/-- 'backsteplaw11.TapeFull', WHERE WHAT IT READS IS OF BULK AT MOST 1048576: true; the input reads as it did. -/
def tapeFullUptoRow : OpenClaim := { program := "ytpeiajmgkhajoab", sum := "1698e577546b8ce84f268f1de797adcea16d365047c8d89e511f19544bc72d8b", func := "backstep/backsteplaw11.TapeFull", spec := "tapeFull", inPlace := ["slices.overlaps[int]"], apart := false, narrowed := true }
def TapeFullUptoSaid : Prop := tapeFullUptoRow.holds Try.pinned (OpenSpec.upto tapeFullSpec)

/-- 'backsteplaw11.TapeNil', WHERE WHAT IT READS IS OF BULK AT MOST 1048576: true; the input reads as it did. -/
def tapeNilUptoRow : OpenClaim := { program := "ytpeiajmgkhajoab", sum := "1698e577546b8ce84f268f1de797adcea16d365047c8d89e511f19544bc72d8b", func := "backstep/backsteplaw11.TapeNil", spec := "tapeNil", inPlace := ["slices.overlaps[int]"], apart := false, narrowed := true }
def TapeNilUptoSaid : Prop := tapeNilUptoRow.holds Try.pinned (OpenSpec.upto tapeNilSpec)

end Rows
end Go.Proofs.Ytpeiajmgkhajoab
