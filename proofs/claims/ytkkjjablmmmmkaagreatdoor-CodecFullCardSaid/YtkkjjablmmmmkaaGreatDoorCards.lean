/-
  DERIVED. GIVEN WITH THE SEED: THE CARDS: each row of YtkkjjablmmmmkaaGreatDoorRows.lean that lists a variable, with what it lists TIED to the program's text (the seventh form; the later family's looks); each row that meets fmt, with fmt's text TOLD by the authors' own Lean function (tested against real Go, not proved from fmt's source: count such statements apart). THE CARD IS WHAT COUNTS. Prove the row's statement (the work); the ties are given (YtkkjjablmmmmkaaGreatDoorTie.lean); close each card by the builder's one call (the guide's Derived/Test/ToyasCard.lean, 'card_holds'). Laid BY PROGRAM, IN A SANDBOX (cutbox-door.mjs). By AI agents, Wed Nov 11 2026. No macro, syntax, notation, axiom, sorry.
-/
import Derived.Test.YtkkjjablmmmmkaaGreatDoorRows
import GoSem.ClaimSeven
namespace Go.Proofs.YtkkjjablmmmmkaaGreatDoor
namespace Rows

/-- THE TIED CARD OF 'evergreenlaw50.CodecErrors'. -/
def codecErrorsCard : Claim7 := { stood := { row := codecErrorsRow, standIns := [], harness := (true, "a2d3e7cd88ccad8d7a5e8db26ca76be353a49f083f821895c60b79d3bcc730ac"), looks := true }, kinds := [], alts := [], laidByText := true, laidKinds := [.data], laidTests := true, laidLooks := .later }
def CodecErrorsCardSaid : Prop := Claim7.holds Tryz.pinned (.plain (OpenSpec.ofChange codecErrorsSpec)) codecErrorsCard

/-- THE TIED CARD OF 'evergreenlaw50.CodecEncodes'. -/
def codecEncodesCard : Claim7 := { stood := { row := codecEncodesRow, standIns := [], harness := (true, "a2d3e7cd88ccad8d7a5e8db26ca76be353a49f083f821895c60b79d3bcc730ac"), looks := true }, kinds := [], alts := [], laidByText := true, laidKinds := [.data], laidTests := true, laidLooks := .later }
def CodecEncodesCardSaid : Prop := Claim7.holds Tryz.pinned (.plain (OpenSpec.ofChange codecEncodesSpec)) codecEncodesCard

/-- THE TIED CARD OF 'evergreenlaw50.CodecShares'. -/
def codecSharesCard : Claim7 := { stood := { row := codecSharesRow, standIns := [], harness := (true, "a2d3e7cd88ccad8d7a5e8db26ca76be353a49f083f821895c60b79d3bcc730ac"), looks := true }, kinds := [], alts := [], laidByText := true, laidKinds := [.data], laidTests := true, laidLooks := .later }
def CodecSharesCardSaid : Prop := Claim7.holds Tryz.pinned (.plain (OpenSpec.ofChange codecSharesSpec)) codecSharesCard

/-- THE TIED CARD OF 'evergreenlaw50.CodecEqual'. -/
def codecEqualCard : Claim7 := { stood := { row := codecEqualRow, standIns := [], harness := (true, "a2d3e7cd88ccad8d7a5e8db26ca76be353a49f083f821895c60b79d3bcc730ac"), looks := true }, kinds := [], alts := [], laidByText := true, laidKinds := [.data], laidTests := true, laidLooks := .later }
def CodecEqualCardSaid : Prop := Claim7.holds Tryz.pinned (.plain (OpenSpec.ofChange codecEqualSpec)) codecEqualCard

/-- THE TIED CARD OF 'evergreenlaw50.CodecReads'. -/
def codecReadsCard : Claim7 := { stood := { row := codecReadsRow, standIns := [], harness := (true, "a2d3e7cd88ccad8d7a5e8db26ca76be353a49f083f821895c60b79d3bcc730ac"), looks := true }, kinds := [], alts := [], laidByText := true, laidKinds := [.data], laidTests := true, laidLooks := .later }
def CodecReadsCardSaid : Prop := Claim7.holds Tryz.pinned (.plain (OpenSpec.ofChange codecReadsSpec)) codecReadsCard

/-- THE TIED CARD OF 'evergreenlaw50.CodecUnique'. -/
def codecUniqueCard : Claim7 := { stood := { row := codecUniqueRow, standIns := [], harness := (true, "a2d3e7cd88ccad8d7a5e8db26ca76be353a49f083f821895c60b79d3bcc730ac"), looks := true }, kinds := [], alts := [], laidByText := true, laidKinds := [.data], laidTests := true, laidLooks := .later }
def CodecUniqueCardSaid : Prop := Claim7.holds Tryz.pinned (.plain (OpenSpec.ofChange codecUniqueSpec)) codecUniqueCard

/-- THE TIED CARD OF 'evergreenlaw50.CodecReturns'. -/
def codecReturnsCard : Claim7 := { stood := { row := codecReturnsRow, standIns := [], harness := (true, "a2d3e7cd88ccad8d7a5e8db26ca76be353a49f083f821895c60b79d3bcc730ac"), looks := true }, kinds := [], alts := [], laidByText := true, laidKinds := [.data], laidTests := true, laidLooks := .later }
def CodecReturnsCardSaid : Prop := Claim7.holds Tryz.pinned (.plain (OpenSpec.ofChange codecReturnsSpec)) codecReturnsCard

/-- THE TIED CARD OF 'evergreenlaw50.CodecSpoilt'. -/
def codecSpoiltCard : Claim7 := { stood := { row := codecSpoiltRow, standIns := [], harness := (true, "a2d3e7cd88ccad8d7a5e8db26ca76be353a49f083f821895c60b79d3bcc730ac"), looks := true }, kinds := [], alts := [], laidByText := true, laidKinds := [.data], laidTests := true, laidLooks := .later }
def CodecSpoiltCardSaid : Prop := Claim7.holds Tryz.pinned (.plain (OpenSpec.ofChange codecSpoiltSpec)) codecSpoiltCard

/-- THE TIED CARD OF 'evergreenlaw50.CodecFull'. -/
def codecFullCard : Claim7 := { stood := { row := codecFullRow, standIns := [], harness := (true, "a2d3e7cd88ccad8d7a5e8db26ca76be353a49f083f821895c60b79d3bcc730ac"), looks := true }, kinds := [], alts := [], laidByText := true, laidKinds := [.data], laidTests := true, laidLooks := .later }
def CodecFullCardSaid : Prop := Claim7.holds Tryz.pinned (.plain (OpenSpec.ofChange codecFullSpec)) codecFullCard

/-- THE SECOND FORM's CARD OF 'evergreenlaw50.CodecErrors'. -/
def codecErrorsUptoCard : Claim7 := { stood := { row := codecErrorsUptoRow, standIns := [], harness := (true, "a2d3e7cd88ccad8d7a5e8db26ca76be353a49f083f821895c60b79d3bcc730ac"), looks := true }, kinds := [], alts := [], laidByText := true, laidKinds := [.data], laidTests := true, laidLooks := .later }
def CodecErrorsUptoCardSaid : Prop := Claim7.holds Tryz.pinned (.plain (OpenSpec.upto codecErrorsSpec)) codecErrorsUptoCard

/-- THE SECOND FORM's CARD OF 'evergreenlaw50.CodecEncodes'. -/
def codecEncodesUptoCard : Claim7 := { stood := { row := codecEncodesUptoRow, standIns := [], harness := (true, "a2d3e7cd88ccad8d7a5e8db26ca76be353a49f083f821895c60b79d3bcc730ac"), looks := true }, kinds := [], alts := [], laidByText := true, laidKinds := [.data], laidTests := true, laidLooks := .later }
def CodecEncodesUptoCardSaid : Prop := Claim7.holds Tryz.pinned (.plain (OpenSpec.upto codecEncodesSpec)) codecEncodesUptoCard

/-- THE SECOND FORM's CARD OF 'evergreenlaw50.CodecShares'. -/
def codecSharesUptoCard : Claim7 := { stood := { row := codecSharesUptoRow, standIns := [], harness := (true, "a2d3e7cd88ccad8d7a5e8db26ca76be353a49f083f821895c60b79d3bcc730ac"), looks := true }, kinds := [], alts := [], laidByText := true, laidKinds := [.data], laidTests := true, laidLooks := .later }
def CodecSharesUptoCardSaid : Prop := Claim7.holds Tryz.pinned (.plain (OpenSpec.upto codecSharesSpec)) codecSharesUptoCard

/-- THE SECOND FORM's CARD OF 'evergreenlaw50.CodecEqual'. -/
def codecEqualUptoCard : Claim7 := { stood := { row := codecEqualUptoRow, standIns := [], harness := (true, "a2d3e7cd88ccad8d7a5e8db26ca76be353a49f083f821895c60b79d3bcc730ac"), looks := true }, kinds := [], alts := [], laidByText := true, laidKinds := [.data], laidTests := true, laidLooks := .later }
def CodecEqualUptoCardSaid : Prop := Claim7.holds Tryz.pinned (.plain (OpenSpec.upto codecEqualSpec)) codecEqualUptoCard

/-- THE SECOND FORM's CARD OF 'evergreenlaw50.CodecReads'. -/
def codecReadsUptoCard : Claim7 := { stood := { row := codecReadsUptoRow, standIns := [], harness := (true, "a2d3e7cd88ccad8d7a5e8db26ca76be353a49f083f821895c60b79d3bcc730ac"), looks := true }, kinds := [], alts := [], laidByText := true, laidKinds := [.data], laidTests := true, laidLooks := .later }
def CodecReadsUptoCardSaid : Prop := Claim7.holds Tryz.pinned (.plain (OpenSpec.upto codecReadsSpec)) codecReadsUptoCard

/-- THE SECOND FORM's CARD OF 'evergreenlaw50.CodecUnique'. -/
def codecUniqueUptoCard : Claim7 := { stood := { row := codecUniqueUptoRow, standIns := [], harness := (true, "a2d3e7cd88ccad8d7a5e8db26ca76be353a49f083f821895c60b79d3bcc730ac"), looks := true }, kinds := [], alts := [], laidByText := true, laidKinds := [.data], laidTests := true, laidLooks := .later }
def CodecUniqueUptoCardSaid : Prop := Claim7.holds Tryz.pinned (.plain (OpenSpec.upto codecUniqueSpec)) codecUniqueUptoCard

/-- THE SECOND FORM's CARD OF 'evergreenlaw50.CodecReturns'. -/
def codecReturnsUptoCard : Claim7 := { stood := { row := codecReturnsUptoRow, standIns := [], harness := (true, "a2d3e7cd88ccad8d7a5e8db26ca76be353a49f083f821895c60b79d3bcc730ac"), looks := true }, kinds := [], alts := [], laidByText := true, laidKinds := [.data], laidTests := true, laidLooks := .later }
def CodecReturnsUptoCardSaid : Prop := Claim7.holds Tryz.pinned (.plain (OpenSpec.upto codecReturnsSpec)) codecReturnsUptoCard

/-- THE SECOND FORM's CARD OF 'evergreenlaw50.CodecSpoilt'. -/
def codecSpoiltUptoCard : Claim7 := { stood := { row := codecSpoiltUptoRow, standIns := [], harness := (true, "a2d3e7cd88ccad8d7a5e8db26ca76be353a49f083f821895c60b79d3bcc730ac"), looks := true }, kinds := [], alts := [], laidByText := true, laidKinds := [.data], laidTests := true, laidLooks := .later }
def CodecSpoiltUptoCardSaid : Prop := Claim7.holds Tryz.pinned (.plain (OpenSpec.upto codecSpoiltSpec)) codecSpoiltUptoCard

/-- THE SECOND FORM's CARD OF 'evergreenlaw50.CodecFull'. -/
def codecFullUptoCard : Claim7 := { stood := { row := codecFullUptoRow, standIns := [], harness := (true, "a2d3e7cd88ccad8d7a5e8db26ca76be353a49f083f821895c60b79d3bcc730ac"), looks := true }, kinds := [], alts := [], laidByText := true, laidKinds := [.data], laidTests := true, laidLooks := .later }
def CodecFullUptoCardSaid : Prop := Claim7.holds Tryz.pinned (.plain (OpenSpec.upto codecFullSpec)) codecFullUptoCard
end Rows
end Go.Proofs.YtkkjjablmmmmkaaGreatDoor
