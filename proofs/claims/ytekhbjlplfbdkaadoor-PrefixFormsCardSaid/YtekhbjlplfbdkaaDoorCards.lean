/-
  DERIVED. GIVEN WITH THE SEED: THE CARDS: each row of YtekhbjlplfbdkaaDoorRows.lean that lists a variable, with what it lists TIED to the program's text (the seventh form; the later family's looks); each row that meets fmt, with fmt's text TOLD by the authors' own Lean function (tested against real Go, not proved from fmt's source: count such statements apart). THE CARD IS WHAT COUNTS. Prove the row's statement (the work); the ties are given (YtekhbjlplfbdkaaDoorTie.lean); close each card by the builder's one call (the guide's Derived/Test/ToyasCard.lean, 'card_holds'). Laid BY PROGRAM, IN A SANDBOX (cutbox-door.mjs). By AI agents, Wed Nov 11 2026. No macro, syntax, notation, axiom, sorry.
-/
import Derived.Test.YtekhbjlplfbdkaaDoorRows
import GoSem.ClaimSeven
namespace Go.Proofs.YtekhbjlplfbdkaaDoor
namespace Rows

/-- THE TIED CARD OF 'evergreenlaw26.PrefixForms'. -/
def prefixFormsCard : Claim7 := { stood := { row := prefixFormsRow, standIns := [], harness := (true, "96dc69b25fa874c8c3efc3d730a3a825d7b41be6b55ea3e2836dbdf868df4e7d"), looks := true }, kinds := [], alts := [], laidByText := true, laidKinds := [.data], laidTests := true, laidLooks := .later }
def PrefixFormsCardSaid : Prop := Claim7.holds Tryd.pinned (.plain (OpenSpec.ofChange prefixFormsSpec)) prefixFormsCard

/-- THE TIED CARD OF 'evergreenlaw23.SeamJoins'. -/
def seamJoinsCard : Claim7 := { stood := { row := seamJoinsRow, standIns := [], harness := (true, "96dc69b25fa874c8c3efc3d730a3a825d7b41be6b55ea3e2836dbdf868df4e7d"), looks := true }, kinds := [], alts := [], laidByText := true, laidKinds := [.data], laidTests := true, laidLooks := .later }
def SeamJoinsCardSaid : Prop := Claim7.holds Tryd.pinned (.plain (OpenSpec.ofChange seamJoinsSpec)) seamJoinsCard

/-- THE TIED CARD OF 'evergreenlaw23.SeamParts'. -/
def seamPartsCard : Claim7 := { stood := { row := seamPartsRow, standIns := [], harness := (true, "96dc69b25fa874c8c3efc3d730a3a825d7b41be6b55ea3e2836dbdf868df4e7d"), looks := true }, kinds := [], alts := [], laidByText := true, laidKinds := [.data], laidTests := true, laidLooks := .later }
def SeamPartsCardSaid : Prop := Claim7.holds Tryd.pinned (.plain (OpenSpec.ofChange seamPartsSpec)) seamPartsCard

/-- THE TIED CARD OF 'evergreenlaw23.SeamNone'. -/
def seamNoneCard : Claim7 := { stood := { row := seamNoneRow, standIns := [], harness := (true, "96dc69b25fa874c8c3efc3d730a3a825d7b41be6b55ea3e2836dbdf868df4e7d"), looks := true }, kinds := [], alts := [], laidByText := true, laidKinds := [.data], laidTests := true, laidLooks := .later }
def SeamNoneCardSaid : Prop := Claim7.holds Tryd.pinned (.plain (OpenSpec.ofChange seamNoneSpec)) seamNoneCard

/-- THE SECOND FORM's CARD OF 'evergreenlaw26.PrefixForms'. -/
def prefixFormsUptoCard : Claim7 := { stood := { row := prefixFormsUptoRow, standIns := [], harness := (true, "96dc69b25fa874c8c3efc3d730a3a825d7b41be6b55ea3e2836dbdf868df4e7d"), looks := true }, kinds := [], alts := [], laidByText := true, laidKinds := [.data], laidTests := true, laidLooks := .later }
def PrefixFormsUptoCardSaid : Prop := Claim7.holds Tryd.pinned (.plain (OpenSpec.upto prefixFormsSpec)) prefixFormsUptoCard

/-- THE SECOND FORM's CARD OF 'evergreenlaw23.SeamJoins'. -/
def seamJoinsUptoCard : Claim7 := { stood := { row := seamJoinsUptoRow, standIns := [], harness := (true, "96dc69b25fa874c8c3efc3d730a3a825d7b41be6b55ea3e2836dbdf868df4e7d"), looks := true }, kinds := [], alts := [], laidByText := true, laidKinds := [.data], laidTests := true, laidLooks := .later }
def SeamJoinsUptoCardSaid : Prop := Claim7.holds Tryd.pinned (.plain (OpenSpec.upto seamJoinsSpec)) seamJoinsUptoCard

/-- THE SECOND FORM's CARD OF 'evergreenlaw23.SeamParts'. -/
def seamPartsUptoCard : Claim7 := { stood := { row := seamPartsUptoRow, standIns := [], harness := (true, "96dc69b25fa874c8c3efc3d730a3a825d7b41be6b55ea3e2836dbdf868df4e7d"), looks := true }, kinds := [], alts := [], laidByText := true, laidKinds := [.data], laidTests := true, laidLooks := .later }
def SeamPartsUptoCardSaid : Prop := Claim7.holds Tryd.pinned (.plain (OpenSpec.upto seamPartsSpec)) seamPartsUptoCard

/-- THE SECOND FORM's CARD OF 'evergreenlaw23.SeamNone'. -/
def seamNoneUptoCard : Claim7 := { stood := { row := seamNoneUptoRow, standIns := [], harness := (true, "96dc69b25fa874c8c3efc3d730a3a825d7b41be6b55ea3e2836dbdf868df4e7d"), looks := true }, kinds := [], alts := [], laidByText := true, laidKinds := [.data], laidTests := true, laidLooks := .later }
def SeamNoneUptoCardSaid : Prop := Claim7.holds Tryd.pinned (.plain (OpenSpec.upto seamNoneSpec)) seamNoneUptoCard
end Rows
end Go.Proofs.YtekhbjlplfbdkaaDoor
