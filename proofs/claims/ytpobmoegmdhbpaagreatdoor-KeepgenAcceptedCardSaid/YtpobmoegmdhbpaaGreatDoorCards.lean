/-
  DERIVED. GIVEN WITH THE SEED: THE CARDS: each row of YtpobmoegmdhbpaaGreatDoorRows.lean that lists a variable, with what it lists TIED to the program's text (the seventh form; the later family's looks); each row that meets fmt, with fmt's text TOLD by the authors' own Lean function (tested against real Go, not proved from fmt's source: count such statements apart). THE CARD IS WHAT COUNTS. Prove the row's statement (the work); the ties are given (YtpobmoegmdhbpaaGreatDoorTie.lean); close each card by the builder's one call (the guide's Derived/Test/ToyasCard.lean, 'card_holds'). Laid BY PROGRAM, IN A SANDBOX (cutbox-door.mjs). By AI agents, Wed Nov 11 2026. No macro, syntax, notation, axiom, sorry.
-/
import Derived.Test.YtpobmoegmdhbpaaGreatDoorRows
import GoSem.ClaimSeven
namespace Go.Proofs.YtpobmoegmdhbpaaGreatDoor
namespace Rows

/-- THE TIED CARD OF 'backsteplaw41.KeepgenAccepted'. -/
def keepgenAcceptedCard : Claim7 := { stood := { row := keepgenAcceptedRow, standIns := [], harness := (true, "7e80fb54bf079483655d9bfd9c175c802aa763e48fa461ed9be462dc648b6763"), looks := true }, kinds := [], alts := [], laidByText := true, laidKinds := [.data, .data, .data], laidTests := true, laidLooks := .later }
def KeepgenAcceptedCardSaid : Prop := Claim7.holds Tryz.pinned (.plain (OpenSpec.ofChange keepgenAcceptedSpec)) keepgenAcceptedCard

/-- THE TIED CARD OF 'backsteplaw40.CleangenFails'. -/
def cleangenFailsCard : Claim7 := { stood := { row := cleangenFailsRow, standIns := [], harness := (true, "7e80fb54bf079483655d9bfd9c175c802aa763e48fa461ed9be462dc648b6763"), looks := true }, kinds := [], alts := [], laidByText := true, laidKinds := [.data, .data, .data], laidTests := true, laidLooks := .later }
def CleangenFailsCardSaid : Prop := Claim7.holds Tryz.pinned (.plain (OpenSpec.ofChange cleangenFailsSpec)) cleangenFailsCard

/-- THE TIED CARD OF 'backsteplaw40.CleangenRuns'. -/
def cleangenRunsCard : Claim7 := { stood := { row := cleangenRunsRow, standIns := [], harness := (true, "7e80fb54bf079483655d9bfd9c175c802aa763e48fa461ed9be462dc648b6763"), looks := true }, kinds := [], alts := [], laidByText := true, laidKinds := [.data, .data, .data], laidTests := true, laidLooks := .later }
def CleangenRunsCardSaid : Prop := Claim7.holds Tryz.pinned (.plain (OpenSpec.ofChange cleangenRunsSpec)) cleangenRunsCard

/-- THE TIED CARD OF 'backsteplaw40.CleangenUndoes'. -/
def cleangenUndoesCard : Claim7 := { stood := { row := cleangenUndoesRow, standIns := [], harness := (true, "7e80fb54bf079483655d9bfd9c175c802aa763e48fa461ed9be462dc648b6763"), looks := true }, kinds := [], alts := [], laidByText := true, laidKinds := [.data, .data, .data], laidTests := true, laidLooks := .later }
def CleangenUndoesCardSaid : Prop := Claim7.holds Tryz.pinned (.plain (OpenSpec.ofChange cleangenUndoesSpec)) cleangenUndoesCard

/-- THE TIED CARD OF 'backsteplaw41.KeepgenGarbage'. -/
def keepgenGarbageCard : Claim7 := { stood := { row := keepgenGarbageRow, standIns := [], harness := (true, "7e80fb54bf079483655d9bfd9c175c802aa763e48fa461ed9be462dc648b6763"), looks := true }, kinds := [], alts := [], laidByText := true, laidKinds := [.data, .data, .data], laidTests := true, laidLooks := .later }
def KeepgenGarbageCardSaid : Prop := Claim7.holds Tryz.pinned (.plain (OpenSpec.ofChange keepgenGarbageSpec)) keepgenGarbageCard

/-- THE TIED CARD OF 'backsteplaw41.KeepgenKeeps'. -/
def keepgenKeepsCard : Claim7 := { stood := { row := keepgenKeepsRow, standIns := [], harness := (true, "7e80fb54bf079483655d9bfd9c175c802aa763e48fa461ed9be462dc648b6763"), looks := true }, kinds := [], alts := [], laidByText := true, laidKinds := [.data, .data, .data], laidTests := true, laidLooks := .later }
def KeepgenKeepsCardSaid : Prop := Claim7.holds Tryz.pinned (.plain (OpenSpec.ofChange keepgenKeepsSpec)) keepgenKeepsCard

/-- THE TIED CARD OF 'backsteplaw41.KeepgenClears'. -/
def keepgenClearsCard : Claim7 := { stood := { row := keepgenClearsRow, standIns := [], harness := (true, "7e80fb54bf079483655d9bfd9c175c802aa763e48fa461ed9be462dc648b6763"), looks := true }, kinds := [], alts := [], laidByText := true, laidKinds := [.data, .data, .data], laidTests := true, laidLooks := .later }
def KeepgenClearsCardSaid : Prop := Claim7.holds Tryz.pinned (.plain (OpenSpec.ofChange keepgenClearsSpec)) keepgenClearsCard

/-- THE SECOND FORM's CARD OF 'backsteplaw41.KeepgenAccepted'. -/
def keepgenAcceptedUptoCard : Claim7 := { stood := { row := keepgenAcceptedUptoRow, standIns := [], harness := (true, "7e80fb54bf079483655d9bfd9c175c802aa763e48fa461ed9be462dc648b6763"), looks := true }, kinds := [], alts := [], laidByText := true, laidKinds := [.data, .data, .data], laidTests := true, laidLooks := .later }
def KeepgenAcceptedUptoCardSaid : Prop := Claim7.holds Tryz.pinned (.plain (OpenSpec.upto keepgenAcceptedSpec)) keepgenAcceptedUptoCard

/-- THE SECOND FORM's CARD OF 'backsteplaw40.CleangenFails'. -/
def cleangenFailsUptoCard : Claim7 := { stood := { row := cleangenFailsUptoRow, standIns := [], harness := (true, "7e80fb54bf079483655d9bfd9c175c802aa763e48fa461ed9be462dc648b6763"), looks := true }, kinds := [], alts := [], laidByText := true, laidKinds := [.data, .data, .data], laidTests := true, laidLooks := .later }
def CleangenFailsUptoCardSaid : Prop := Claim7.holds Tryz.pinned (.plain (OpenSpec.upto cleangenFailsSpec)) cleangenFailsUptoCard

/-- THE SECOND FORM's CARD OF 'backsteplaw40.CleangenRuns'. -/
def cleangenRunsUptoCard : Claim7 := { stood := { row := cleangenRunsUptoRow, standIns := [], harness := (true, "7e80fb54bf079483655d9bfd9c175c802aa763e48fa461ed9be462dc648b6763"), looks := true }, kinds := [], alts := [], laidByText := true, laidKinds := [.data, .data, .data], laidTests := true, laidLooks := .later }
def CleangenRunsUptoCardSaid : Prop := Claim7.holds Tryz.pinned (.plain (OpenSpec.upto cleangenRunsSpec)) cleangenRunsUptoCard

/-- THE SECOND FORM's CARD OF 'backsteplaw40.CleangenUndoes'. -/
def cleangenUndoesUptoCard : Claim7 := { stood := { row := cleangenUndoesUptoRow, standIns := [], harness := (true, "7e80fb54bf079483655d9bfd9c175c802aa763e48fa461ed9be462dc648b6763"), looks := true }, kinds := [], alts := [], laidByText := true, laidKinds := [.data, .data, .data], laidTests := true, laidLooks := .later }
def CleangenUndoesUptoCardSaid : Prop := Claim7.holds Tryz.pinned (.plain (OpenSpec.upto cleangenUndoesSpec)) cleangenUndoesUptoCard

/-- THE SECOND FORM's CARD OF 'backsteplaw41.KeepgenGarbage'. -/
def keepgenGarbageUptoCard : Claim7 := { stood := { row := keepgenGarbageUptoRow, standIns := [], harness := (true, "7e80fb54bf079483655d9bfd9c175c802aa763e48fa461ed9be462dc648b6763"), looks := true }, kinds := [], alts := [], laidByText := true, laidKinds := [.data, .data, .data], laidTests := true, laidLooks := .later }
def KeepgenGarbageUptoCardSaid : Prop := Claim7.holds Tryz.pinned (.plain (OpenSpec.upto keepgenGarbageSpec)) keepgenGarbageUptoCard

/-- THE SECOND FORM's CARD OF 'backsteplaw41.KeepgenKeeps'. -/
def keepgenKeepsUptoCard : Claim7 := { stood := { row := keepgenKeepsUptoRow, standIns := [], harness := (true, "7e80fb54bf079483655d9bfd9c175c802aa763e48fa461ed9be462dc648b6763"), looks := true }, kinds := [], alts := [], laidByText := true, laidKinds := [.data, .data, .data], laidTests := true, laidLooks := .later }
def KeepgenKeepsUptoCardSaid : Prop := Claim7.holds Tryz.pinned (.plain (OpenSpec.upto keepgenKeepsSpec)) keepgenKeepsUptoCard

/-- THE SECOND FORM's CARD OF 'backsteplaw41.KeepgenClears'. -/
def keepgenClearsUptoCard : Claim7 := { stood := { row := keepgenClearsUptoRow, standIns := [], harness := (true, "7e80fb54bf079483655d9bfd9c175c802aa763e48fa461ed9be462dc648b6763"), looks := true }, kinds := [], alts := [], laidByText := true, laidKinds := [.data, .data, .data], laidTests := true, laidLooks := .later }
def KeepgenClearsUptoCardSaid : Prop := Claim7.holds Tryz.pinned (.plain (OpenSpec.upto keepgenClearsSpec)) keepgenClearsUptoCard
end Rows
end Go.Proofs.YtpobmoegmdhbpaaGreatDoor
