/-
  DERIVED. GIVEN WITH THE SEED: THE CARDS: each row of YtkemieppamdniaaGreatDoorRows.lean that lists a variable, with what it lists TIED to the program's text (the seventh form; the later family's looks); each row that meets fmt, with fmt's text TOLD by the authors' own Lean function (tested against real Go, not proved from fmt's source: count such statements apart). THE CARD IS WHAT COUNTS. Prove the row's statement (the work); the ties are given (YtkemieppamdniaaGreatDoorTie.lean); close each card by the builder's one call (the guide's Derived/Test/ToyasCard.lean, 'card_holds'). Laid BY PROGRAM, IN A SANDBOX (cutbox-door.mjs). By AI agents, Wed Nov 11 2026. No macro, syntax, notation, axiom, sorry.
-/
import Derived.Test.YtkemieppamdniaaGreatDoorRows
import GoSem.ClaimSeven
namespace Go.Proofs.YtkemieppamdniaaGreatDoor
namespace Rows

/-- THE TIED CARD OF 'backsteplaw40.CleangenCompute'. -/
def cleangenComputeCard : Claim7 := { stood := { row := cleangenComputeRow, standIns := [], harness := (true, "4b95f76b8ada3a69089326ff890198b698a87bd03c0a352b75148690e5f1bd7b"), looks := false }, kinds := [], alts := [], laidByText := true, laidKinds := [.data, .data, .data], laidTests := true, laidLooks := .later }
def CleangenComputeCardSaid : Prop := Claim7.holds Tryz.pinned (.plain (OpenSpec.ofChange cleangenComputeSpec)) cleangenComputeCard

/-- THE TIED CARD OF 'backsteplaw40.CleangenProc'. -/
def cleangenProcCard : Claim7 := { stood := { row := cleangenProcRow, standIns := [], harness := (true, "4b95f76b8ada3a69089326ff890198b698a87bd03c0a352b75148690e5f1bd7b"), looks := false }, kinds := [], alts := [], laidByText := true, laidKinds := [.data, .data, .data], laidTests := true, laidLooks := .later }
def CleangenProcCardSaid : Prop := Claim7.holds Tryz.pinned (.plain (OpenSpec.ofChange cleangenProcSpec)) cleangenProcCard

/-- THE TIED CARD OF 'backsteplaw40.CleangenTemps'. -/
def cleangenTempsCard : Claim7 := { stood := { row := cleangenTempsRow, standIns := [], harness := (true, "4b95f76b8ada3a69089326ff890198b698a87bd03c0a352b75148690e5f1bd7b"), looks := false }, kinds := [], alts := [], laidByText := true, laidKinds := [.data, .data, .data], laidTests := true, laidLooks := .later }
def CleangenTempsCardSaid : Prop := Claim7.holds Tryz.pinned (.plain (OpenSpec.ofChange cleangenTempsSpec)) cleangenTempsCard

/-- THE TIED CARD OF 'backsteplaw41.KeepgenProcs'. -/
def keepgenProcsCard : Claim7 := { stood := { row := keepgenProcsRow, standIns := [], harness := (true, "4b95f76b8ada3a69089326ff890198b698a87bd03c0a352b75148690e5f1bd7b"), looks := false }, kinds := [], alts := [], laidByText := true, laidKinds := [.data, .data, .data], laidTests := true, laidLooks := .later }
def KeepgenProcsCardSaid : Prop := Claim7.holds Tryz.pinned (.plain (OpenSpec.ofChange keepgenProcsSpec)) keepgenProcsCard

/-- THE TIED CARD OF 'backsteplaw40.CleangenAccepted'. -/
def cleangenAcceptedCard : Claim7 := { stood := { row := cleangenAcceptedRow, standIns := [], harness := (true, "4b95f76b8ada3a69089326ff890198b698a87bd03c0a352b75148690e5f1bd7b"), looks := false }, kinds := [], alts := [], laidByText := true, laidKinds := [.data, .data, .data], laidTests := true, laidLooks := .later }
def CleangenAcceptedCardSaid : Prop := Claim7.holds Tryz.pinned (.plain (OpenSpec.ofChange cleangenAcceptedSpec)) cleangenAcceptedCard

/-- THE TIED CARD OF 'backsteplaw41.KeepgenAccepted'. -/
def keepgenAcceptedCard : Claim7 := { stood := { row := keepgenAcceptedRow, standIns := [], harness := (true, "4b95f76b8ada3a69089326ff890198b698a87bd03c0a352b75148690e5f1bd7b"), looks := false }, kinds := [], alts := [], laidByText := true, laidKinds := [.data, .data, .data], laidTests := true, laidLooks := .later }
def KeepgenAcceptedCardSaid : Prop := Claim7.holds Tryz.pinned (.plain (OpenSpec.ofChange keepgenAcceptedSpec)) keepgenAcceptedCard

/-- THE SECOND FORM's CARD OF 'backsteplaw40.CleangenCompute'. -/
def cleangenComputeUptoCard : Claim7 := { stood := { row := cleangenComputeUptoRow, standIns := [], harness := (true, "4b95f76b8ada3a69089326ff890198b698a87bd03c0a352b75148690e5f1bd7b"), looks := false }, kinds := [], alts := [], laidByText := true, laidKinds := [.data, .data, .data], laidTests := true, laidLooks := .later }
def CleangenComputeUptoCardSaid : Prop := Claim7.holds Tryz.pinned (.plain (OpenSpec.upto cleangenComputeSpec)) cleangenComputeUptoCard

/-- THE SECOND FORM's CARD OF 'backsteplaw40.CleangenProc'. -/
def cleangenProcUptoCard : Claim7 := { stood := { row := cleangenProcUptoRow, standIns := [], harness := (true, "4b95f76b8ada3a69089326ff890198b698a87bd03c0a352b75148690e5f1bd7b"), looks := false }, kinds := [], alts := [], laidByText := true, laidKinds := [.data, .data, .data], laidTests := true, laidLooks := .later }
def CleangenProcUptoCardSaid : Prop := Claim7.holds Tryz.pinned (.plain (OpenSpec.upto cleangenProcSpec)) cleangenProcUptoCard

/-- THE SECOND FORM's CARD OF 'backsteplaw40.CleangenTemps'. -/
def cleangenTempsUptoCard : Claim7 := { stood := { row := cleangenTempsUptoRow, standIns := [], harness := (true, "4b95f76b8ada3a69089326ff890198b698a87bd03c0a352b75148690e5f1bd7b"), looks := false }, kinds := [], alts := [], laidByText := true, laidKinds := [.data, .data, .data], laidTests := true, laidLooks := .later }
def CleangenTempsUptoCardSaid : Prop := Claim7.holds Tryz.pinned (.plain (OpenSpec.upto cleangenTempsSpec)) cleangenTempsUptoCard

/-- THE SECOND FORM's CARD OF 'backsteplaw41.KeepgenProcs'. -/
def keepgenProcsUptoCard : Claim7 := { stood := { row := keepgenProcsUptoRow, standIns := [], harness := (true, "4b95f76b8ada3a69089326ff890198b698a87bd03c0a352b75148690e5f1bd7b"), looks := false }, kinds := [], alts := [], laidByText := true, laidKinds := [.data, .data, .data], laidTests := true, laidLooks := .later }
def KeepgenProcsUptoCardSaid : Prop := Claim7.holds Tryz.pinned (.plain (OpenSpec.upto keepgenProcsSpec)) keepgenProcsUptoCard

/-- THE SECOND FORM's CARD OF 'backsteplaw40.CleangenAccepted'. -/
def cleangenAcceptedUptoCard : Claim7 := { stood := { row := cleangenAcceptedUptoRow, standIns := [], harness := (true, "4b95f76b8ada3a69089326ff890198b698a87bd03c0a352b75148690e5f1bd7b"), looks := false }, kinds := [], alts := [], laidByText := true, laidKinds := [.data, .data, .data], laidTests := true, laidLooks := .later }
def CleangenAcceptedUptoCardSaid : Prop := Claim7.holds Tryz.pinned (.plain (OpenSpec.upto cleangenAcceptedSpec)) cleangenAcceptedUptoCard

/-- THE SECOND FORM's CARD OF 'backsteplaw41.KeepgenAccepted'. -/
def keepgenAcceptedUptoCard : Claim7 := { stood := { row := keepgenAcceptedUptoRow, standIns := [], harness := (true, "4b95f76b8ada3a69089326ff890198b698a87bd03c0a352b75148690e5f1bd7b"), looks := false }, kinds := [], alts := [], laidByText := true, laidKinds := [.data, .data, .data], laidTests := true, laidLooks := .later }
def KeepgenAcceptedUptoCardSaid : Prop := Claim7.holds Tryz.pinned (.plain (OpenSpec.upto keepgenAcceptedSpec)) keepgenAcceptedUptoCard
end Rows
end Go.Proofs.YtkemieppamdniaaGreatDoor
