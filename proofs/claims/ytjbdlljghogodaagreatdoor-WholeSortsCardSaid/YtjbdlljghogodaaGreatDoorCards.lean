/-
  DERIVED. GIVEN WITH THE SEED: THE CARDS: each row of YtjbdlljghogodaaGreatDoorRows.lean that lists a variable, with what it lists TIED to the program's text (the seventh form; the later family's looks); each row that meets fmt, with fmt's text TOLD by the authors' own Lean function (tested against real Go, not proved from fmt's source: count such statements apart). THE CARD IS WHAT COUNTS. Prove the row's statement (the work); the ties are given (YtjbdlljghogodaaGreatDoorTie.lean); close each card by the builder's one call (the guide's Derived/Test/ToyasCard.lean, 'card_holds'). Laid BY PROGRAM, IN A SANDBOX (cutbox-door.mjs). By AI agents, Wed Nov 11 2026. No macro, syntax, notation, axiom, sorry.
-/
import Derived.Test.YtjbdlljghogodaaGreatDoorRows
import GoSem.ClaimSeven
namespace Go.Proofs.YtjbdlljghogodaaGreatDoor
namespace Rows

/-- THE TIED CARD OF 'evergreentop.WholeSnapshots'. -/
def wholeSnapshotsCard : Claim7 := { stood := { row := wholeSnapshotsRow, standIns := [], harness := (true, "c1f3bf925338bce7426d7eb766269bee6b6b5ae78118c1c4c9168abc9d734471"), looks := true }, kinds := [], alts := [], laidByText := true, laidKinds := [.data], laidTests := true, laidLooks := .later }
def WholeSnapshotsCardSaid : Prop := Claim7.holds Tryz.pinned (.plain (OpenSpec.ofChange wholeSnapshotsSpec)) wholeSnapshotsCard

/-- THE TIED CARD OF 'evergreentop.WholeCodec'. -/
def wholeCodecCard : Claim7 := { stood := { row := wholeCodecRow, standIns := [], harness := (true, "c1f3bf925338bce7426d7eb766269bee6b6b5ae78118c1c4c9168abc9d734471"), looks := true }, kinds := [], alts := [], laidByText := true, laidKinds := [.data], laidTests := true, laidLooks := .later }
def WholeCodecCardSaid : Prop := Claim7.holds Tryz.pinned (.plain (OpenSpec.ofChange wholeCodecSpec)) wholeCodecCard

/-- THE TIED CARD OF 'evergreentop.WholeSorts'. -/
def wholeSortsCard : Claim7 := { stood := { row := wholeSortsRow, standIns := [], harness := (true, "c1f3bf925338bce7426d7eb766269bee6b6b5ae78118c1c4c9168abc9d734471"), looks := true }, kinds := [], alts := [], laidByText := true, laidKinds := [.data], laidTests := true, laidLooks := .later }
def WholeSortsCardSaid : Prop := Claim7.holds Tryz.pinned (.plain (OpenSpec.ofChange wholeSortsSpec)) wholeSortsCard

/-- THE SECOND FORM's CARD OF 'evergreentop.WholeSnapshots'. -/
def wholeSnapshotsUptoCard : Claim7 := { stood := { row := wholeSnapshotsUptoRow, standIns := [], harness := (true, "c1f3bf925338bce7426d7eb766269bee6b6b5ae78118c1c4c9168abc9d734471"), looks := true }, kinds := [], alts := [], laidByText := true, laidKinds := [.data], laidTests := true, laidLooks := .later }
def WholeSnapshotsUptoCardSaid : Prop := Claim7.holds Tryz.pinned (.plain (OpenSpec.upto wholeSnapshotsSpec)) wholeSnapshotsUptoCard

/-- THE SECOND FORM's CARD OF 'evergreentop.WholeCodec'. -/
def wholeCodecUptoCard : Claim7 := { stood := { row := wholeCodecUptoRow, standIns := [], harness := (true, "c1f3bf925338bce7426d7eb766269bee6b6b5ae78118c1c4c9168abc9d734471"), looks := true }, kinds := [], alts := [], laidByText := true, laidKinds := [.data], laidTests := true, laidLooks := .later }
def WholeCodecUptoCardSaid : Prop := Claim7.holds Tryz.pinned (.plain (OpenSpec.upto wholeCodecSpec)) wholeCodecUptoCard

/-- THE SECOND FORM's CARD OF 'evergreentop.WholeSorts'. -/
def wholeSortsUptoCard : Claim7 := { stood := { row := wholeSortsUptoRow, standIns := [], harness := (true, "c1f3bf925338bce7426d7eb766269bee6b6b5ae78118c1c4c9168abc9d734471"), looks := true }, kinds := [], alts := [], laidByText := true, laidKinds := [.data], laidTests := true, laidLooks := .later }
def WholeSortsUptoCardSaid : Prop := Claim7.holds Tryz.pinned (.plain (OpenSpec.upto wholeSortsSpec)) wholeSortsUptoCard
end Rows
end Go.Proofs.YtjbdlljghogodaaGreatDoor
