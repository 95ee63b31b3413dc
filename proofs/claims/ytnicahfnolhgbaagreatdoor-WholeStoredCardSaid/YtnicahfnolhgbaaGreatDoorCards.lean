/-
  DERIVED. GIVEN WITH THE SEED: THE CARDS: each row of YtnicahfnolhgbaaGreatDoorRows.lean that lists a variable, with what it lists TIED to the program's text (the seventh form; the later family's looks); each row that meets fmt, with fmt's text TOLD by the authors' own Lean function (tested against real Go, not proved from fmt's source: count such statements apart). THE CARD IS WHAT COUNTS. Prove the row's statement (the work); the ties are given (YtnicahfnolhgbaaGreatDoorTie.lean); close each card by the builder's one call (the guide's Derived/Test/ToyasCard.lean, 'card_holds'). Laid BY PROGRAM, IN A SANDBOX (cutbox-door.mjs). By AI agents, Wed Nov 11 2026. No macro, syntax, notation, axiom, sorry.
-/
import Derived.Test.YtnicahfnolhgbaaGreatDoorRows
import GoSem.ClaimSeven
namespace Go.Proofs.YtnicahfnolhgbaaGreatDoor
namespace Rows

/-- THE TIED CARD OF 'evergreentop.WholeStored'. -/
def wholeStoredCard : Claim7 := { stood := { row := wholeStoredRow, standIns := [], harness := (true, "a792178eaa59ab1e04094f209dc5d19bd9e4f668c56c8f055b45612613e58eca"), looks := true }, kinds := [], alts := [], laidByText := true, laidKinds := [.data], laidTests := true, laidLooks := .later }
def WholeStoredCardSaid : Prop := Claim7.holds Tryz.pinned (.plain (OpenSpec.ofChange wholeStoredSpec)) wholeStoredCard

/-- THE SECOND FORM's CARD OF 'evergreentop.WholeStored'. -/
def wholeStoredUptoCard : Claim7 := { stood := { row := wholeStoredUptoRow, standIns := [], harness := (true, "a792178eaa59ab1e04094f209dc5d19bd9e4f668c56c8f055b45612613e58eca"), looks := true }, kinds := [], alts := [], laidByText := true, laidKinds := [.data], laidTests := true, laidLooks := .later }
def WholeStoredUptoCardSaid : Prop := Claim7.holds Tryz.pinned (.plain (OpenSpec.upto wholeStoredSpec)) wholeStoredUptoCard
end Rows
end Go.Proofs.YtnicahfnolhgbaaGreatDoor
