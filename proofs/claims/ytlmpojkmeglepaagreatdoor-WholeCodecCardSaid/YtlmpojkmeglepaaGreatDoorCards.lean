/-
  DERIVED. GIVEN WITH THE SEED: THE CARDS: each row of YtlmpojkmeglepaaGreatDoorRows.lean that lists a variable, with what it lists TIED to the program's text (the seventh form; the later family's looks); each row that meets fmt, with fmt's text TOLD by the authors' own Lean function (tested against real Go, not proved from fmt's source: count such statements apart). THE CARD IS WHAT COUNTS. Prove the row's statement (the work); the ties are given (YtlmpojkmeglepaaGreatDoorTie.lean); close each card by the builder's one call (the guide's Derived/Test/ToyasCard.lean, 'card_holds'). Laid BY PROGRAM, IN A SANDBOX (cutbox-door.mjs). By AI agents, Wed Nov 11 2026. No macro, syntax, notation, axiom, sorry.
-/
import Derived.Test.YtlmpojkmeglepaaGreatDoorRows
import GoSem.ClaimSeven
namespace Go.Proofs.YtlmpojkmeglepaaGreatDoor
namespace Rows

/-- THE TIED CARD OF 'evergreentop.WholeCodec'. -/
def wholeCodecCard : Claim7 := { stood := { row := wholeCodecRow, standIns := [], harness := (true, "97d8fa4e7da631e164aeac1eb76014f2be167ad6a6ad7fd1b7b0c8eac4f02351"), looks := true }, kinds := [], alts := [], laidByText := true, laidKinds := [.data], laidTests := true, laidLooks := .later }
def WholeCodecCardSaid : Prop := Claim7.holds Tryz.pinned (.plain (OpenSpec.ofChange wholeCodecSpec)) wholeCodecCard

/-- THE TIED CARD OF 'evergreenlaw50.CodecUnique'. -/
def codecUniqueCard : Claim7 := { stood := { row := codecUniqueRow, standIns := [], harness := (true, "97d8fa4e7da631e164aeac1eb76014f2be167ad6a6ad7fd1b7b0c8eac4f02351"), looks := true }, kinds := [], alts := [], laidByText := true, laidKinds := [.data], laidTests := true, laidLooks := .later }
def CodecUniqueCardSaid : Prop := Claim7.holds Tryz.pinned (.plain (OpenSpec.ofChange codecUniqueSpec)) codecUniqueCard

/-- THE TIED CARD OF 'evergreenlaw50.CodecSpoilt'. -/
def codecSpoiltCard : Claim7 := { stood := { row := codecSpoiltRow, standIns := [], harness := (true, "97d8fa4e7da631e164aeac1eb76014f2be167ad6a6ad7fd1b7b0c8eac4f02351"), looks := true }, kinds := [], alts := [], laidByText := true, laidKinds := [.data], laidTests := true, laidLooks := .later }
def CodecSpoiltCardSaid : Prop := Claim7.holds Tryz.pinned (.plain (OpenSpec.ofChange codecSpoiltSpec)) codecSpoiltCard

/-- THE SECOND FORM's CARD OF 'evergreentop.WholeCodec'. -/
def wholeCodecUptoCard : Claim7 := { stood := { row := wholeCodecUptoRow, standIns := [], harness := (true, "97d8fa4e7da631e164aeac1eb76014f2be167ad6a6ad7fd1b7b0c8eac4f02351"), looks := true }, kinds := [], alts := [], laidByText := true, laidKinds := [.data], laidTests := true, laidLooks := .later }
def WholeCodecUptoCardSaid : Prop := Claim7.holds Tryz.pinned (.plain (OpenSpec.upto wholeCodecSpec)) wholeCodecUptoCard

/-- THE SECOND FORM's CARD OF 'evergreenlaw50.CodecUnique'. -/
def codecUniqueUptoCard : Claim7 := { stood := { row := codecUniqueUptoRow, standIns := [], harness := (true, "97d8fa4e7da631e164aeac1eb76014f2be167ad6a6ad7fd1b7b0c8eac4f02351"), looks := true }, kinds := [], alts := [], laidByText := true, laidKinds := [.data], laidTests := true, laidLooks := .later }
def CodecUniqueUptoCardSaid : Prop := Claim7.holds Tryz.pinned (.plain (OpenSpec.upto codecUniqueSpec)) codecUniqueUptoCard

/-- THE SECOND FORM's CARD OF 'evergreenlaw50.CodecSpoilt'. -/
def codecSpoiltUptoCard : Claim7 := { stood := { row := codecSpoiltUptoRow, standIns := [], harness := (true, "97d8fa4e7da631e164aeac1eb76014f2be167ad6a6ad7fd1b7b0c8eac4f02351"), looks := true }, kinds := [], alts := [], laidByText := true, laidKinds := [.data], laidTests := true, laidLooks := .later }
def CodecSpoiltUptoCardSaid : Prop := Claim7.holds Tryz.pinned (.plain (OpenSpec.upto codecSpoiltSpec)) codecSpoiltUptoCard
end Rows
end Go.Proofs.YtlmpojkmeglepaaGreatDoor
