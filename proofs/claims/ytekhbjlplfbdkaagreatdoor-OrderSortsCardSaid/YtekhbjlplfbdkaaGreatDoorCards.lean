/-
  DERIVED. GIVEN WITH THE SEED: THE CARDS: each row of YtekhbjlplfbdkaaGreatDoorRows.lean that lists a variable, with what it lists TIED to the program's text (the seventh form; the later family's looks); each row that meets fmt, with fmt's text TOLD by the authors' own Lean function (tested against real Go, not proved from fmt's source: count such statements apart). THE CARD IS WHAT COUNTS. Prove the row's statement (the work); the ties are given (YtekhbjlplfbdkaaGreatDoorTie.lean); close each card by the builder's one call (the guide's Derived/Test/ToyasCard.lean, 'card_holds'). Laid BY PROGRAM, IN A SANDBOX (cutbox-door.mjs). By AI agents, Wed Nov 11 2026. No macro, syntax, notation, axiom, sorry.
-/
import Derived.Test.YtekhbjlplfbdkaaGreatDoorRows
import GoSem.ClaimSeven
namespace Go.Proofs.YtekhbjlplfbdkaaGreatDoor
namespace Rows

/-- THE TIED CARD OF 'evergreenlaw23.SeamCosts'. -/
def seamCostsCard : Claim7 := { stood := { row := seamCostsRow, standIns := [], harness := (true, "f89addf672b0b9d2af8b41c07c9148bcca85d4b8aa9ab44686e1b276e5f806b9"), looks := false }, kinds := [], alts := [], laidByText := true, laidKinds := [.data], laidTests := true, laidLooks := .later }
def SeamCostsCardSaid : Prop := Claim7.holds Tryz.pinned (.plain (OpenSpec.ofChange seamCostsSpec)) seamCostsCard

/-- THE TIED CARD OF 'evergreenlaw27.OrderSorts'. -/
def orderSortsCard : Claim7 := { stood := { row := orderSortsRow, standIns := [], harness := (true, "f89addf672b0b9d2af8b41c07c9148bcca85d4b8aa9ab44686e1b276e5f806b9"), looks := false }, kinds := [], alts := [], laidByText := true, laidKinds := [.data], laidTests := true, laidLooks := .later }
def OrderSortsCardSaid : Prop := Claim7.holds Tryz.pinned (.plain (OpenSpec.ofChange orderSortsSpec)) orderSortsCard

/-- THE SECOND FORM's CARD OF 'evergreenlaw23.SeamCosts'. -/
def seamCostsUptoCard : Claim7 := { stood := { row := seamCostsUptoRow, standIns := [], harness := (true, "f89addf672b0b9d2af8b41c07c9148bcca85d4b8aa9ab44686e1b276e5f806b9"), looks := false }, kinds := [], alts := [], laidByText := true, laidKinds := [.data], laidTests := true, laidLooks := .later }
def SeamCostsUptoCardSaid : Prop := Claim7.holds Tryz.pinned (.plain (OpenSpec.upto seamCostsSpec)) seamCostsUptoCard

/-- THE SECOND FORM's CARD OF 'evergreenlaw27.OrderSorts'. -/
def orderSortsUptoCard : Claim7 := { stood := { row := orderSortsUptoRow, standIns := [], harness := (true, "f89addf672b0b9d2af8b41c07c9148bcca85d4b8aa9ab44686e1b276e5f806b9"), looks := false }, kinds := [], alts := [], laidByText := true, laidKinds := [.data], laidTests := true, laidLooks := .later }
def OrderSortsUptoCardSaid : Prop := Claim7.holds Tryz.pinned (.plain (OpenSpec.upto orderSortsSpec)) orderSortsUptoCard
end Rows
end Go.Proofs.YtekhbjlplfbdkaaGreatDoor
