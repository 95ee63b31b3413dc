/-
  DERIVED. GIVEN WITH THE SEED: THE CARDS: each row of YtlleicanafioaaaDoorRows.lean that lists a variable, with what it lists TIED to the program's text (the seventh form; the later family's looks); each row that meets fmt, with fmt's text TOLD by the authors' own Lean function (tested against real Go, not proved from fmt's source: count such statements apart). THE CARD IS WHAT COUNTS. Prove the row's statement (the work); the ties are given (YtlleicanafioaaaDoorTie.lean); close each card by the builder's one call (the guide's Derived/Test/ToyasCard.lean, 'card_holds'). Laid BY PROGRAM, IN A SANDBOX (cutbox-door.mjs). By AI agents, Wed Nov 11 2026. No macro, syntax, notation, axiom, sorry.
-/
import Derived.Test.YtlleicanafioaaaDoorRows
import GoSem.ClaimSeven
namespace Go.Proofs.YtlleicanafioaaaDoor
namespace Rows

/-- THE TIED CARD OF 'evergreenlaw23.SeamRepeats'. -/
def seamRepeatsCard : Claim7 := { stood := { row := seamRepeatsRow, standIns := [], harness := (true, "c635d23df6bb57e51ff65c22dc29263c706e44d075f3fc0e0f0cc396b41a0caa"), looks := true }, kinds := [], alts := [], laidByText := true, laidKinds := [.data], laidTests := true, laidLooks := .later }
def SeamRepeatsCardSaid : Prop := Claim7.holds Tryd.pinned (.plain (OpenSpec.ofChange seamRepeatsSpec)) seamRepeatsCard

/-- THE TIED CARD OF 'evergreenlaw23.SeamGroups'. -/
def seamGroupsCard : Claim7 := { stood := { row := seamGroupsRow, standIns := [], harness := (true, "c635d23df6bb57e51ff65c22dc29263c706e44d075f3fc0e0f0cc396b41a0caa"), looks := true }, kinds := [], alts := [], laidByText := true, laidKinds := [.data], laidTests := true, laidLooks := .later }
def SeamGroupsCardSaid : Prop := Claim7.holds Tryd.pinned (.plain (OpenSpec.ofChange seamGroupsSpec)) seamGroupsCard

/-- THE SECOND FORM's CARD OF 'evergreenlaw23.SeamRepeats'. -/
def seamRepeatsUptoCard : Claim7 := { stood := { row := seamRepeatsUptoRow, standIns := [], harness := (true, "c635d23df6bb57e51ff65c22dc29263c706e44d075f3fc0e0f0cc396b41a0caa"), looks := true }, kinds := [], alts := [], laidByText := true, laidKinds := [.data], laidTests := true, laidLooks := .later }
def SeamRepeatsUptoCardSaid : Prop := Claim7.holds Tryd.pinned (.plain (OpenSpec.upto seamRepeatsSpec)) seamRepeatsUptoCard

/-- THE SECOND FORM's CARD OF 'evergreenlaw23.SeamGroups'. -/
def seamGroupsUptoCard : Claim7 := { stood := { row := seamGroupsUptoRow, standIns := [], harness := (true, "c635d23df6bb57e51ff65c22dc29263c706e44d075f3fc0e0f0cc396b41a0caa"), looks := true }, kinds := [], alts := [], laidByText := true, laidKinds := [.data], laidTests := true, laidLooks := .later }
def SeamGroupsUptoCardSaid : Prop := Claim7.holds Tryd.pinned (.plain (OpenSpec.upto seamGroupsSpec)) seamGroupsUptoCard
end Rows
end Go.Proofs.YtlleicanafioaaaDoor
