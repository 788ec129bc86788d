/-
  DERIVED. GIVEN WITH THE SEED: THE CARDS: each row of YtjhimhlebbamoaaDoorRows.lean that lists a variable, with what it lists TIED to the program's text (the seventh form; the later family's looks); each row that meets fmt, with fmt's text TOLD by the authors' own Lean function (tested against real Go, not proved from fmt's source: count such statements apart). THE CARD IS WHAT COUNTS. Prove the row's statement (the work); the ties are given (YtjhimhlebbamoaaDoorTie.lean); close each card by the builder's one call (the guide's Derived/Test/ToyasCard.lean, 'card_holds'). Laid BY PROGRAM, IN A SANDBOX (cutbox-door.mjs). By AI agents, Wed Nov 11 2026. No macro, syntax, notation, axiom, sorry.
-/
import Derived.Test.YtjhimhlebbamoaaDoorRows
import GoSem.ClaimSeven
namespace Go.Proofs.YtjhimhlebbamoaaDoor
namespace Rows

/-- THE TIED CARD OF 'backsteplaw43.CostmodelPredicts'. -/
def costmodelPredictsCard : Claim7 := { stood := { row := costmodelPredictsRow, standIns := [], harness := (true, "8e413b751beb55171af7a3467bbabc02f08a0f89940d5bb37db2ea0f36bef90e"), looks := true }, kinds := [], alts := [], laidByText := true, laidKinds := [.data, .data, .data], laidTests := true, laidLooks := .later }
def CostmodelPredictsCardSaid : Prop := Claim7.holds Tryd.pinned (.plain (OpenSpec.ofChange costmodelPredictsSpec)) costmodelPredictsCard

/-- THE TIED CARD OF 'backsteplaw43.CostmodelMonotone'. -/
def costmodelMonotoneCard : Claim7 := { stood := { row := costmodelMonotoneRow, standIns := [], harness := (true, "8e413b751beb55171af7a3467bbabc02f08a0f89940d5bb37db2ea0f36bef90e"), looks := true }, kinds := [], alts := [], laidByText := true, laidKinds := [.data, .data, .data], laidTests := true, laidLooks := .later }
def CostmodelMonotoneCardSaid : Prop := Claim7.holds Tryd.pinned (.plain (OpenSpec.ofChange costmodelMonotoneSpec)) costmodelMonotoneCard

/-- THE TIED CARD OF 'backsteplaw43.CostmodelOrders'. -/
def costmodelOrdersCard : Claim7 := { stood := { row := costmodelOrdersRow, standIns := [], harness := (true, "8e413b751beb55171af7a3467bbabc02f08a0f89940d5bb37db2ea0f36bef90e"), looks := true }, kinds := [], alts := [], laidByText := true, laidKinds := [.data, .data, .data], laidTests := true, laidLooks := .later }
def CostmodelOrdersCardSaid : Prop := Claim7.holds Tryd.pinned (.plain (OpenSpec.ofChange costmodelOrdersSpec)) costmodelOrdersCard

/-- THE TIED CARD OF 'backsteplaw43.CostmodelFuel'. -/
def costmodelFuelCard : Claim7 := { stood := { row := costmodelFuelRow, standIns := [], harness := (true, "8e413b751beb55171af7a3467bbabc02f08a0f89940d5bb37db2ea0f36bef90e"), looks := true }, kinds := [], alts := [], laidByText := true, laidKinds := [.data, .data, .data], laidTests := true, laidLooks := .later }
def CostmodelFuelCardSaid : Prop := Claim7.holds Tryd.pinned (.plain (OpenSpec.ofChange costmodelFuelSpec)) costmodelFuelCard

/-- THE TIED CARD OF 'backsteplaw43.CostmodelRoot'. -/
def costmodelRootCard : Claim7 := { stood := { row := costmodelRootRow, standIns := [], harness := (true, "8e413b751beb55171af7a3467bbabc02f08a0f89940d5bb37db2ea0f36bef90e"), looks := true }, kinds := [], alts := [], laidByText := true, laidKinds := [.data, .data, .data], laidTests := true, laidLooks := .later }
def CostmodelRootCardSaid : Prop := Claim7.holds Tryd.pinned (.plain (OpenSpec.ofChange costmodelRootSpec)) costmodelRootCard

/-- THE TIED CARD OF 'backsteplaw43.CostmodelExtremes'. -/
def costmodelExtremesCard : Claim7 := { stood := { row := costmodelExtremesRow, standIns := [], harness := (true, "8e413b751beb55171af7a3467bbabc02f08a0f89940d5bb37db2ea0f36bef90e"), looks := true }, kinds := [], alts := [], laidByText := true, laidKinds := [.data, .data, .data], laidTests := true, laidLooks := .later }
def CostmodelExtremesCardSaid : Prop := Claim7.holds Tryd.pinned (.plain (OpenSpec.ofChange costmodelExtremesSpec)) costmodelExtremesCard

/-- THE SECOND FORM's CARD OF 'backsteplaw43.CostmodelPredicts'. -/
def costmodelPredictsUptoCard : Claim7 := { stood := { row := costmodelPredictsUptoRow, standIns := [], harness := (true, "8e413b751beb55171af7a3467bbabc02f08a0f89940d5bb37db2ea0f36bef90e"), looks := true }, kinds := [], alts := [], laidByText := true, laidKinds := [.data, .data, .data], laidTests := true, laidLooks := .later }
def CostmodelPredictsUptoCardSaid : Prop := Claim7.holds Tryd.pinned (.plain (OpenSpec.upto costmodelPredictsSpec)) costmodelPredictsUptoCard

/-- THE SECOND FORM's CARD OF 'backsteplaw43.CostmodelMonotone'. -/
def costmodelMonotoneUptoCard : Claim7 := { stood := { row := costmodelMonotoneUptoRow, standIns := [], harness := (true, "8e413b751beb55171af7a3467bbabc02f08a0f89940d5bb37db2ea0f36bef90e"), looks := true }, kinds := [], alts := [], laidByText := true, laidKinds := [.data, .data, .data], laidTests := true, laidLooks := .later }
def CostmodelMonotoneUptoCardSaid : Prop := Claim7.holds Tryd.pinned (.plain (OpenSpec.upto costmodelMonotoneSpec)) costmodelMonotoneUptoCard

/-- THE SECOND FORM's CARD OF 'backsteplaw43.CostmodelOrders'. -/
def costmodelOrdersUptoCard : Claim7 := { stood := { row := costmodelOrdersUptoRow, standIns := [], harness := (true, "8e413b751beb55171af7a3467bbabc02f08a0f89940d5bb37db2ea0f36bef90e"), looks := true }, kinds := [], alts := [], laidByText := true, laidKinds := [.data, .data, .data], laidTests := true, laidLooks := .later }
def CostmodelOrdersUptoCardSaid : Prop := Claim7.holds Tryd.pinned (.plain (OpenSpec.upto costmodelOrdersSpec)) costmodelOrdersUptoCard

/-- THE SECOND FORM's CARD OF 'backsteplaw43.CostmodelFuel'. -/
def costmodelFuelUptoCard : Claim7 := { stood := { row := costmodelFuelUptoRow, standIns := [], harness := (true, "8e413b751beb55171af7a3467bbabc02f08a0f89940d5bb37db2ea0f36bef90e"), looks := true }, kinds := [], alts := [], laidByText := true, laidKinds := [.data, .data, .data], laidTests := true, laidLooks := .later }
def CostmodelFuelUptoCardSaid : Prop := Claim7.holds Tryd.pinned (.plain (OpenSpec.upto costmodelFuelSpec)) costmodelFuelUptoCard

/-- THE SECOND FORM's CARD OF 'backsteplaw43.CostmodelRoot'. -/
def costmodelRootUptoCard : Claim7 := { stood := { row := costmodelRootUptoRow, standIns := [], harness := (true, "8e413b751beb55171af7a3467bbabc02f08a0f89940d5bb37db2ea0f36bef90e"), looks := true }, kinds := [], alts := [], laidByText := true, laidKinds := [.data, .data, .data], laidTests := true, laidLooks := .later }
def CostmodelRootUptoCardSaid : Prop := Claim7.holds Tryd.pinned (.plain (OpenSpec.upto costmodelRootSpec)) costmodelRootUptoCard

/-- THE SECOND FORM's CARD OF 'backsteplaw43.CostmodelExtremes'. -/
def costmodelExtremesUptoCard : Claim7 := { stood := { row := costmodelExtremesUptoRow, standIns := [], harness := (true, "8e413b751beb55171af7a3467bbabc02f08a0f89940d5bb37db2ea0f36bef90e"), looks := true }, kinds := [], alts := [], laidByText := true, laidKinds := [.data, .data, .data], laidTests := true, laidLooks := .later }
def CostmodelExtremesUptoCardSaid : Prop := Claim7.holds Tryd.pinned (.plain (OpenSpec.upto costmodelExtremesSpec)) costmodelExtremesUptoCard
end Rows
end Go.Proofs.YtjhimhlebbamoaaDoor
