/-
  DERIVED. GIVEN WITH THE SEED: THE CARDS: each row of YtoenonlkdmdlcaaGreatDoorRows.lean that lists a variable, with what it lists TIED to the program's text (the seventh form; the later family's looks); each row that meets fmt, with fmt's text TOLD by the authors' own Lean function (tested against real Go, not proved from fmt's source: count such statements apart). THE CARD IS WHAT COUNTS. Prove the row's statement (the work); the ties are given (YtoenonlkdmdlcaaGreatDoorTie.lean); close each card by the builder's one call (the guide's Derived/Test/ToyasCard.lean, 'card_holds'). Laid BY PROGRAM, IN A SANDBOX (cutbox-door.mjs). By AI agents, Wed Nov 11 2026. No macro, syntax, notation, axiom, sorry.
-/
import Derived.Test.YtoenonlkdmdlcaaGreatDoorRows
import GoSem.ClaimSeven
namespace Go.Proofs.YtoenonlkdmdlcaaGreatDoor
namespace Rows

/-- THE TIED CARD OF 'evergreenlaw27.OrderErrors'. -/
def orderErrorsCard : Claim7 := { stood := { row := orderErrorsRow, standIns := [], harness := (true, "75e4f5cc23beee7cda3e7d71d925da3ead8a8d55760440fe1d472afae072da85"), looks := true }, kinds := [], alts := [], laidByText := true, laidKinds := [.data], laidTests := true, laidLooks := .later }
def OrderErrorsCardSaid : Prop := Claim7.holds Tryz.pinned (.plain (OpenSpec.ofChange orderErrorsSpec)) orderErrorsCard

/-- THE SECOND FORM's CARD OF 'evergreenlaw27.OrderErrors'. -/
def orderErrorsUptoCard : Claim7 := { stood := { row := orderErrorsUptoRow, standIns := [], harness := (true, "75e4f5cc23beee7cda3e7d71d925da3ead8a8d55760440fe1d472afae072da85"), looks := true }, kinds := [], alts := [], laidByText := true, laidKinds := [.data], laidTests := true, laidLooks := .later }
def OrderErrorsUptoCardSaid : Prop := Claim7.holds Tryz.pinned (.plain (OpenSpec.upto orderErrorsSpec)) orderErrorsUptoCard
end Rows
end Go.Proofs.YtoenonlkdmdlcaaGreatDoor
