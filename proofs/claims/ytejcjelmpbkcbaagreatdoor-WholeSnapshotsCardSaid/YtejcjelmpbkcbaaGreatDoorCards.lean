/-
  DERIVED. GIVEN WITH THE SEED: THE CARDS: each row of YtejcjelmpbkcbaaGreatDoorRows.lean that lists a variable, with what it lists TIED to the program's text (the seventh form; the later family's looks); each row that meets fmt, with fmt's text TOLD by the authors' own Lean function (tested against real Go, not proved from fmt's source: count such statements apart). THE CARD IS WHAT COUNTS. Prove the row's statement (the work); the ties are given (YtejcjelmpbkcbaaGreatDoorTie.lean); close each card by the builder's one call (the guide's Derived/Test/ToyasCard.lean, 'card_holds'). Laid BY PROGRAM, IN A SANDBOX (cutbox-door.mjs). By AI agents, Wed Nov 11 2026. No macro, syntax, notation, axiom, sorry.
-/
import Derived.Test.YtejcjelmpbkcbaaGreatDoorRows
import GoSem.ClaimSeven
namespace Go.Proofs.YtejcjelmpbkcbaaGreatDoor
namespace Rows

/-- THE TIED CARD OF 'evergreentop.WholeSnapshots'. -/
def wholeSnapshotsCard : Claim7 := { stood := { row := wholeSnapshotsRow, standIns := [], harness := (true, "bd8d405b6170639b49df584ac37378bebb49d897ef3380eb92fb60f50d9f52ff"), looks := true }, kinds := [], alts := [], laidByText := true, laidKinds := [.data], laidTests := true, laidLooks := .later }
def WholeSnapshotsCardSaid : Prop := Claim7.holds Tryz.pinned (.plain (OpenSpec.ofChange wholeSnapshotsSpec)) wholeSnapshotsCard

/-- THE TIED CARD OF 'evergreentop.WholeCompact'. -/
def wholeCompactCard : Claim7 := { stood := { row := wholeCompactRow, standIns := [], harness := (true, "bd8d405b6170639b49df584ac37378bebb49d897ef3380eb92fb60f50d9f52ff"), looks := true }, kinds := [], alts := [], laidByText := true, laidKinds := [.data], laidTests := true, laidLooks := .later }
def WholeCompactCardSaid : Prop := Claim7.holds Tryz.pinned (.plain (OpenSpec.ofChange wholeCompactSpec)) wholeCompactCard

/-- THE SECOND FORM's CARD OF 'evergreentop.WholeSnapshots'. -/
def wholeSnapshotsUptoCard : Claim7 := { stood := { row := wholeSnapshotsUptoRow, standIns := [], harness := (true, "bd8d405b6170639b49df584ac37378bebb49d897ef3380eb92fb60f50d9f52ff"), looks := true }, kinds := [], alts := [], laidByText := true, laidKinds := [.data], laidTests := true, laidLooks := .later }
def WholeSnapshotsUptoCardSaid : Prop := Claim7.holds Tryz.pinned (.plain (OpenSpec.upto wholeSnapshotsSpec)) wholeSnapshotsUptoCard

/-- THE SECOND FORM's CARD OF 'evergreentop.WholeCompact'. -/
def wholeCompactUptoCard : Claim7 := { stood := { row := wholeCompactUptoRow, standIns := [], harness := (true, "bd8d405b6170639b49df584ac37378bebb49d897ef3380eb92fb60f50d9f52ff"), looks := true }, kinds := [], alts := [], laidByText := true, laidKinds := [.data], laidTests := true, laidLooks := .later }
def WholeCompactUptoCardSaid : Prop := Claim7.holds Tryz.pinned (.plain (OpenSpec.upto wholeCompactSpec)) wholeCompactUptoCard
end Rows
end Go.Proofs.YtejcjelmpbkcbaaGreatDoor
