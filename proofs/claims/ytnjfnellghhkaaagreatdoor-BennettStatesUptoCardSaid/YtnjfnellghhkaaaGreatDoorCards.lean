/-
  DERIVED. GIVEN WITH THE SEED: THE CARDS: each row of YtnjfnellghhkaaaGreatDoorRows.lean that lists a variable, with what it lists TIED to the program's text (the seventh form; the later family's looks); each row that meets fmt, with fmt's text TOLD by the authors' own Lean function (tested against real Go, not proved from fmt's source: count such statements apart). THE CARD IS WHAT COUNTS. Prove the row's statement (the work); the ties are given (YtnjfnellghhkaaaGreatDoorTie.lean); close each card by the builder's one call (the guide's Derived/Test/ToyasCard.lean, 'card_holds'). Laid BY PROGRAM, IN A SANDBOX (cutbox-door.mjs). By AI agents, Wed Nov 11 2026. No macro, syntax, notation, axiom, sorry.
-/
import Derived.Test.YtnjfnellghhkaaaGreatDoorRows
import GoSem.ClaimSeven
namespace Go.Proofs.YtnjfnellghhkaaaGreatDoor
namespace Rows

/-- THE TIED CARD OF 'backsteplaw42.BennettBuilds'. -/
def bennettBuildsCard : Claim7 := { stood := { row := bennettBuildsRow, standIns := [], harness := (true, "1b380cb0ce202047ebcceee1d9b8fb89cb5a76b3b82170f3ddf4786e1a857977"), looks := true }, kinds := [], alts := [], laidByText := true, laidKinds := [.data, .data, .data], laidTests := true, laidLooks := .later }
def BennettBuildsCardSaid : Prop := Claim7.holds Tryz.pinned (.plain (OpenSpec.ofChange bennettBuildsSpec)) bennettBuildsCard

/-- THE TIED CARD OF 'backsteplaw42.BennettReads'. -/
def bennettReadsCard : Claim7 := { stood := { row := bennettReadsRow, standIns := [], harness := (true, "1b380cb0ce202047ebcceee1d9b8fb89cb5a76b3b82170f3ddf4786e1a857977"), looks := true }, kinds := [], alts := [], laidByText := true, laidKinds := [.data, .data, .data], laidTests := true, laidLooks := .later }
def BennettReadsCardSaid : Prop := Claim7.holds Tryz.pinned (.plain (OpenSpec.ofChange bennettReadsSpec)) bennettReadsCard

/-- THE TIED CARD OF 'backsteplaw42.BennettStates'. -/
def bennettStatesCard : Claim7 := { stood := { row := bennettStatesRow, standIns := [], harness := (true, "1b380cb0ce202047ebcceee1d9b8fb89cb5a76b3b82170f3ddf4786e1a857977"), looks := true }, kinds := [], alts := [], laidByText := true, laidKinds := [.data, .data, .data], laidTests := true, laidLooks := .later }
def BennettStatesCardSaid : Prop := Claim7.holds Tryz.pinned (.plain (OpenSpec.ofChange bennettStatesSpec)) bennettStatesCard

/-- THE SECOND FORM's CARD OF 'backsteplaw42.BennettBuilds'. -/
def bennettBuildsUptoCard : Claim7 := { stood := { row := bennettBuildsUptoRow, standIns := [], harness := (true, "1b380cb0ce202047ebcceee1d9b8fb89cb5a76b3b82170f3ddf4786e1a857977"), looks := true }, kinds := [], alts := [], laidByText := true, laidKinds := [.data, .data, .data], laidTests := true, laidLooks := .later }
def BennettBuildsUptoCardSaid : Prop := Claim7.holds Tryz.pinned (.plain (OpenSpec.upto bennettBuildsSpec)) bennettBuildsUptoCard

/-- THE SECOND FORM's CARD OF 'backsteplaw42.BennettReads'. -/
def bennettReadsUptoCard : Claim7 := { stood := { row := bennettReadsUptoRow, standIns := [], harness := (true, "1b380cb0ce202047ebcceee1d9b8fb89cb5a76b3b82170f3ddf4786e1a857977"), looks := true }, kinds := [], alts := [], laidByText := true, laidKinds := [.data, .data, .data], laidTests := true, laidLooks := .later }
def BennettReadsUptoCardSaid : Prop := Claim7.holds Tryz.pinned (.plain (OpenSpec.upto bennettReadsSpec)) bennettReadsUptoCard

/-- THE SECOND FORM's CARD OF 'backsteplaw42.BennettStates'. -/
def bennettStatesUptoCard : Claim7 := { stood := { row := bennettStatesUptoRow, standIns := [], harness := (true, "1b380cb0ce202047ebcceee1d9b8fb89cb5a76b3b82170f3ddf4786e1a857977"), looks := true }, kinds := [], alts := [], laidByText := true, laidKinds := [.data, .data, .data], laidTests := true, laidLooks := .later }
def BennettStatesUptoCardSaid : Prop := Claim7.holds Tryz.pinned (.plain (OpenSpec.upto bennettStatesSpec)) bennettStatesUptoCard
end Rows
end Go.Proofs.YtnjfnellghhkaaaGreatDoor
