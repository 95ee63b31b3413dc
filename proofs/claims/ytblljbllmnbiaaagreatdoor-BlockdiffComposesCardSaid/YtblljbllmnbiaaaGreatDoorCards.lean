/-
  DERIVED. GIVEN WITH THE SEED: THE CARDS: each row of YtblljbllmnbiaaaGreatDoorRows.lean that lists a variable, with what it lists TIED to the program's text (the seventh form; the later family's looks); each row that meets fmt, with fmt's text TOLD by the authors' own Lean function (tested against real Go, not proved from fmt's source: count such statements apart). THE CARD IS WHAT COUNTS. Prove the row's statement (the work); the ties are given (YtblljbllmnbiaaaGreatDoorTie.lean); close each card by the builder's one call (the guide's Derived/Test/ToyasCard.lean, 'card_holds'). Laid BY PROGRAM, IN A SANDBOX (cutbox-door.mjs). By AI agents, Wed Nov 11 2026. No macro, syntax, notation, axiom, sorry.
-/
import Derived.Test.YtblljbllmnbiaaaGreatDoorRows
import GoSem.ClaimSeven
namespace Go.Proofs.YtblljbllmnbiaaaGreatDoor
namespace Rows

/-- THE TIED CARD OF 'evergreenlaw42.BlockdiffPieces'. -/
def blockdiffPiecesCard : Claim7 := { stood := { row := blockdiffPiecesRow, standIns := [], harness := (true, "e32db54c7c9887906c9732668f48e67a6486480502fef6d0f6aee2d1ac9da316"), looks := true }, kinds := [], alts := [], laidByText := true, laidKinds := [.data], laidTests := true, laidLooks := .later }
def BlockdiffPiecesCardSaid : Prop := Claim7.holds Tryz.pinned (.plain (OpenSpec.ofChange blockdiffPiecesSpec)) blockdiffPiecesCard

/-- THE TIED CARD OF 'evergreenlaw42.BlockdiffShared'. -/
def blockdiffSharedCard : Claim7 := { stood := { row := blockdiffSharedRow, standIns := [], harness := (true, "e32db54c7c9887906c9732668f48e67a6486480502fef6d0f6aee2d1ac9da316"), looks := true }, kinds := [], alts := [], laidByText := true, laidKinds := [.data], laidTests := true, laidLooks := .later }
def BlockdiffSharedCardSaid : Prop := Claim7.holds Tryz.pinned (.plain (OpenSpec.ofChange blockdiffSharedSpec)) blockdiffSharedCard

/-- THE TIED CARD OF 'evergreenlaw42.BlockdiffErrors'. -/
def blockdiffErrorsCard : Claim7 := { stood := { row := blockdiffErrorsRow, standIns := [], harness := (true, "e32db54c7c9887906c9732668f48e67a6486480502fef6d0f6aee2d1ac9da316"), looks := true }, kinds := [], alts := [], laidByText := true, laidKinds := [.data], laidTests := true, laidLooks := .later }
def BlockdiffErrorsCardSaid : Prop := Claim7.holds Tryz.pinned (.plain (OpenSpec.ofChange blockdiffErrorsSpec)) blockdiffErrorsCard

/-- THE TIED CARD OF 'evergreenlaw42.BlockdiffApplies'. -/
def blockdiffAppliesCard : Claim7 := { stood := { row := blockdiffAppliesRow, standIns := [], harness := (true, "e32db54c7c9887906c9732668f48e67a6486480502fef6d0f6aee2d1ac9da316"), looks := true }, kinds := [], alts := [], laidByText := true, laidKinds := [.data], laidTests := true, laidLooks := .later }
def BlockdiffAppliesCardSaid : Prop := Claim7.holds Tryz.pinned (.plain (OpenSpec.ofChange blockdiffAppliesSpec)) blockdiffAppliesCard

/-- THE TIED CARD OF 'evergreenlaw42.BlockdiffComposes'. -/
def blockdiffComposesCard : Claim7 := { stood := { row := blockdiffComposesRow, standIns := [], harness := (true, "e32db54c7c9887906c9732668f48e67a6486480502fef6d0f6aee2d1ac9da316"), looks := true }, kinds := [], alts := [], laidByText := true, laidKinds := [.data], laidTests := true, laidLooks := .later }
def BlockdiffComposesCardSaid : Prop := Claim7.holds Tryz.pinned (.plain (OpenSpec.ofChange blockdiffComposesSpec)) blockdiffComposesCard

/-- THE SECOND FORM's CARD OF 'evergreenlaw42.BlockdiffPieces'. -/
def blockdiffPiecesUptoCard : Claim7 := { stood := { row := blockdiffPiecesUptoRow, standIns := [], harness := (true, "e32db54c7c9887906c9732668f48e67a6486480502fef6d0f6aee2d1ac9da316"), looks := true }, kinds := [], alts := [], laidByText := true, laidKinds := [.data], laidTests := true, laidLooks := .later }
def BlockdiffPiecesUptoCardSaid : Prop := Claim7.holds Tryz.pinned (.plain (OpenSpec.upto blockdiffPiecesSpec)) blockdiffPiecesUptoCard

/-- THE SECOND FORM's CARD OF 'evergreenlaw42.BlockdiffShared'. -/
def blockdiffSharedUptoCard : Claim7 := { stood := { row := blockdiffSharedUptoRow, standIns := [], harness := (true, "e32db54c7c9887906c9732668f48e67a6486480502fef6d0f6aee2d1ac9da316"), looks := true }, kinds := [], alts := [], laidByText := true, laidKinds := [.data], laidTests := true, laidLooks := .later }
def BlockdiffSharedUptoCardSaid : Prop := Claim7.holds Tryz.pinned (.plain (OpenSpec.upto blockdiffSharedSpec)) blockdiffSharedUptoCard

/-- THE SECOND FORM's CARD OF 'evergreenlaw42.BlockdiffErrors'. -/
def blockdiffErrorsUptoCard : Claim7 := { stood := { row := blockdiffErrorsUptoRow, standIns := [], harness := (true, "e32db54c7c9887906c9732668f48e67a6486480502fef6d0f6aee2d1ac9da316"), looks := true }, kinds := [], alts := [], laidByText := true, laidKinds := [.data], laidTests := true, laidLooks := .later }
def BlockdiffErrorsUptoCardSaid : Prop := Claim7.holds Tryz.pinned (.plain (OpenSpec.upto blockdiffErrorsSpec)) blockdiffErrorsUptoCard

/-- THE SECOND FORM's CARD OF 'evergreenlaw42.BlockdiffApplies'. -/
def blockdiffAppliesUptoCard : Claim7 := { stood := { row := blockdiffAppliesUptoRow, standIns := [], harness := (true, "e32db54c7c9887906c9732668f48e67a6486480502fef6d0f6aee2d1ac9da316"), looks := true }, kinds := [], alts := [], laidByText := true, laidKinds := [.data], laidTests := true, laidLooks := .later }
def BlockdiffAppliesUptoCardSaid : Prop := Claim7.holds Tryz.pinned (.plain (OpenSpec.upto blockdiffAppliesSpec)) blockdiffAppliesUptoCard

/-- THE SECOND FORM's CARD OF 'evergreenlaw42.BlockdiffComposes'. -/
def blockdiffComposesUptoCard : Claim7 := { stood := { row := blockdiffComposesUptoRow, standIns := [], harness := (true, "e32db54c7c9887906c9732668f48e67a6486480502fef6d0f6aee2d1ac9da316"), looks := true }, kinds := [], alts := [], laidByText := true, laidKinds := [.data], laidTests := true, laidLooks := .later }
def BlockdiffComposesUptoCardSaid : Prop := Claim7.holds Tryz.pinned (.plain (OpenSpec.upto blockdiffComposesSpec)) blockdiffComposesUptoCard
end Rows
end Go.Proofs.YtblljbllmnbiaaaGreatDoor
