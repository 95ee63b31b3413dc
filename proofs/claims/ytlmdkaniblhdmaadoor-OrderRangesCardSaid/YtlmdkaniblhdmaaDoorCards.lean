/-
  DERIVED. GIVEN WITH THE SEED: THE CARDS: each row of YtlmdkaniblhdmaaDoorRows.lean that lists a variable, with what it lists TIED to the program's text (the seventh form; the later family's looks); each row that meets fmt, with fmt's text TOLD by the authors' own Lean function (tested against real Go, not proved from fmt's source: count such statements apart). THE CARD IS WHAT COUNTS. Prove the row's statement (the work); the ties are given (YtlmdkaniblhdmaaDoorTie.lean); close each card by the builder's one call (the guide's Derived/Test/ToyasCard.lean, 'card_holds'). Laid BY PROGRAM, IN A SANDBOX (cutbox-door.mjs). By AI agents, Wed Nov 11 2026. No macro, syntax, notation, axiom, sorry.
-/
import Derived.Test.YtlmdkaniblhdmaaDoorRows
import GoSem.ClaimSeven
namespace Go.Proofs.YtlmdkaniblhdmaaDoor
namespace Rows

/-- THE TIED CARD OF 'evergreenlaw26.PrefixInside'. -/
def prefixInsideCard : Claim7 := { stood := { row := prefixInsideRow, standIns := [], harness := (true, "acb0a4543f2826f3889ca018e8bb05e5dd798f4616e645b36718a02a9ea6f13d"), looks := true }, kinds := [], alts := [], laidByText := true, laidKinds := [.data], laidTests := true, laidLooks := .later }
def PrefixInsideCardSaid : Prop := Claim7.holds Tryd.pinned (.plain (OpenSpec.ofChange prefixInsideSpec)) prefixInsideCard

/-- THE TIED CARD OF 'evergreenlaw26.PrefixTexts'. -/
def prefixTextsCard : Claim7 := { stood := { row := prefixTextsRow, standIns := [], harness := (true, "acb0a4543f2826f3889ca018e8bb05e5dd798f4616e645b36718a02a9ea6f13d"), looks := true }, kinds := [], alts := [], laidByText := true, laidKinds := [.data], laidTests := true, laidLooks := .later }
def PrefixTextsCardSaid : Prop := Claim7.holds Tryd.pinned (.plain (OpenSpec.ofChange prefixTextsSpec)) prefixTextsCard

/-- THE TIED CARD OF 'evergreenlaw26.PrefixForms'. -/
def prefixFormsCard : Claim7 := { stood := { row := prefixFormsRow, standIns := [], harness := (true, "acb0a4543f2826f3889ca018e8bb05e5dd798f4616e645b36718a02a9ea6f13d"), looks := true }, kinds := [], alts := [], laidByText := true, laidKinds := [.data], laidTests := true, laidLooks := .later }
def PrefixFormsCardSaid : Prop := Claim7.holds Tryd.pinned (.plain (OpenSpec.ofChange prefixFormsSpec)) prefixFormsCard

/-- THE TIED CARD OF 'evergreenlaw28.PeriodHas'. -/
def periodHasCard : Claim7 := { stood := { row := periodHasRow, standIns := [], harness := (true, "acb0a4543f2826f3889ca018e8bb05e5dd798f4616e645b36718a02a9ea6f13d"), looks := true }, kinds := [], alts := [], laidByText := true, laidKinds := [.data], laidTests := true, laidLooks := .later }
def PeriodHasCardSaid : Prop := Claim7.holds Tryd.pinned (.plain (OpenSpec.ofChange periodHasSpec)) periodHasCard

/-- THE TIED CARD OF 'evergreenlaw28.PeriodExtends'. -/
def periodExtendsCard : Claim7 := { stood := { row := periodExtendsRow, standIns := [], harness := (true, "acb0a4543f2826f3889ca018e8bb05e5dd798f4616e645b36718a02a9ea6f13d"), looks := true }, kinds := [], alts := [], laidByText := true, laidKinds := [.data], laidTests := true, laidLooks := .later }
def PeriodExtendsCardSaid : Prop := Claim7.holds Tryd.pinned (.plain (OpenSpec.ofChange periodExtendsSpec)) periodExtendsCard

/-- THE TIED CARD OF 'evergreenlaw28.PeriodParts'. -/
def periodPartsCard : Claim7 := { stood := { row := periodPartsRow, standIns := [], harness := (true, "acb0a4543f2826f3889ca018e8bb05e5dd798f4616e645b36718a02a9ea6f13d"), looks := true }, kinds := [], alts := [], laidByText := true, laidKinds := [.data], laidTests := true, laidLooks := .later }
def PeriodPartsCardSaid : Prop := Claim7.holds Tryd.pinned (.plain (OpenSpec.ofChange periodPartsSpec)) periodPartsCard

/-- THE TIED CARD OF 'evergreenlaw27.OrderCompares'. -/
def orderComparesCard : Claim7 := { stood := { row := orderComparesRow, standIns := [], harness := (true, "acb0a4543f2826f3889ca018e8bb05e5dd798f4616e645b36718a02a9ea6f13d"), looks := true }, kinds := [], alts := [], laidByText := true, laidKinds := [.data], laidTests := true, laidLooks := .later }
def OrderComparesCardSaid : Prop := Claim7.holds Tryd.pinned (.plain (OpenSpec.ofChange orderComparesSpec)) orderComparesCard

/-- THE TIED CARD OF 'evergreenlaw27.OrderPrefixes'. -/
def orderPrefixesCard : Claim7 := { stood := { row := orderPrefixesRow, standIns := [], harness := (true, "acb0a4543f2826f3889ca018e8bb05e5dd798f4616e645b36718a02a9ea6f13d"), looks := true }, kinds := [], alts := [], laidByText := true, laidKinds := [.data], laidTests := true, laidLooks := .later }
def OrderPrefixesCardSaid : Prop := Claim7.holds Tryd.pinned (.plain (OpenSpec.ofChange orderPrefixesSpec)) orderPrefixesCard

/-- THE TIED CARD OF 'evergreenlaw28.PeriodErrors'. -/
def periodErrorsCard : Claim7 := { stood := { row := periodErrorsRow, standIns := [], harness := (true, "acb0a4543f2826f3889ca018e8bb05e5dd798f4616e645b36718a02a9ea6f13d"), looks := true }, kinds := [], alts := [], laidByText := true, laidKinds := [.data], laidTests := true, laidLooks := .later }
def PeriodErrorsCardSaid : Prop := Claim7.holds Tryd.pinned (.plain (OpenSpec.ofChange periodErrorsSpec)) periodErrorsCard

/-- THE TIED CARD OF 'evergreenlaw27.OrderSearches'. -/
def orderSearchesCard : Claim7 := { stood := { row := orderSearchesRow, standIns := [], harness := (true, "acb0a4543f2826f3889ca018e8bb05e5dd798f4616e645b36718a02a9ea6f13d"), looks := true }, kinds := [], alts := [], laidByText := true, laidKinds := [.data], laidTests := true, laidLooks := .later }
def OrderSearchesCardSaid : Prop := Claim7.holds Tryd.pinned (.plain (OpenSpec.ofChange orderSearchesSpec)) orderSearchesCard

/-- THE TIED CARD OF 'evergreenlaw27.OrderRanges'. -/
def orderRangesCard : Claim7 := { stood := { row := orderRangesRow, standIns := [], harness := (true, "acb0a4543f2826f3889ca018e8bb05e5dd798f4616e645b36718a02a9ea6f13d"), looks := true }, kinds := [], alts := [], laidByText := true, laidKinds := [.data], laidTests := true, laidLooks := .later }
def OrderRangesCardSaid : Prop := Claim7.holds Tryd.pinned (.plain (OpenSpec.ofChange orderRangesSpec)) orderRangesCard

/-- THE TIED CARD OF 'evergreenlaw23.SeamJoins'. -/
def seamJoinsCard : Claim7 := { stood := { row := seamJoinsRow, standIns := [], harness := (true, "acb0a4543f2826f3889ca018e8bb05e5dd798f4616e645b36718a02a9ea6f13d"), looks := true }, kinds := [], alts := [], laidByText := true, laidKinds := [.data], laidTests := true, laidLooks := .later }
def SeamJoinsCardSaid : Prop := Claim7.holds Tryd.pinned (.plain (OpenSpec.ofChange seamJoinsSpec)) seamJoinsCard

/-- THE SECOND FORM's CARD OF 'evergreenlaw26.PrefixInside'. -/
def prefixInsideUptoCard : Claim7 := { stood := { row := prefixInsideUptoRow, standIns := [], harness := (true, "acb0a4543f2826f3889ca018e8bb05e5dd798f4616e645b36718a02a9ea6f13d"), looks := true }, kinds := [], alts := [], laidByText := true, laidKinds := [.data], laidTests := true, laidLooks := .later }
def PrefixInsideUptoCardSaid : Prop := Claim7.holds Tryd.pinned (.plain (OpenSpec.upto prefixInsideSpec)) prefixInsideUptoCard

/-- THE SECOND FORM's CARD OF 'evergreenlaw26.PrefixTexts'. -/
def prefixTextsUptoCard : Claim7 := { stood := { row := prefixTextsUptoRow, standIns := [], harness := (true, "acb0a4543f2826f3889ca018e8bb05e5dd798f4616e645b36718a02a9ea6f13d"), looks := true }, kinds := [], alts := [], laidByText := true, laidKinds := [.data], laidTests := true, laidLooks := .later }
def PrefixTextsUptoCardSaid : Prop := Claim7.holds Tryd.pinned (.plain (OpenSpec.upto prefixTextsSpec)) prefixTextsUptoCard

/-- THE SECOND FORM's CARD OF 'evergreenlaw26.PrefixForms'. -/
def prefixFormsUptoCard : Claim7 := { stood := { row := prefixFormsUptoRow, standIns := [], harness := (true, "acb0a4543f2826f3889ca018e8bb05e5dd798f4616e645b36718a02a9ea6f13d"), looks := true }, kinds := [], alts := [], laidByText := true, laidKinds := [.data], laidTests := true, laidLooks := .later }
def PrefixFormsUptoCardSaid : Prop := Claim7.holds Tryd.pinned (.plain (OpenSpec.upto prefixFormsSpec)) prefixFormsUptoCard

/-- THE SECOND FORM's CARD OF 'evergreenlaw28.PeriodHas'. -/
def periodHasUptoCard : Claim7 := { stood := { row := periodHasUptoRow, standIns := [], harness := (true, "acb0a4543f2826f3889ca018e8bb05e5dd798f4616e645b36718a02a9ea6f13d"), looks := true }, kinds := [], alts := [], laidByText := true, laidKinds := [.data], laidTests := true, laidLooks := .later }
def PeriodHasUptoCardSaid : Prop := Claim7.holds Tryd.pinned (.plain (OpenSpec.upto periodHasSpec)) periodHasUptoCard

/-- THE SECOND FORM's CARD OF 'evergreenlaw28.PeriodExtends'. -/
def periodExtendsUptoCard : Claim7 := { stood := { row := periodExtendsUptoRow, standIns := [], harness := (true, "acb0a4543f2826f3889ca018e8bb05e5dd798f4616e645b36718a02a9ea6f13d"), looks := true }, kinds := [], alts := [], laidByText := true, laidKinds := [.data], laidTests := true, laidLooks := .later }
def PeriodExtendsUptoCardSaid : Prop := Claim7.holds Tryd.pinned (.plain (OpenSpec.upto periodExtendsSpec)) periodExtendsUptoCard

/-- THE SECOND FORM's CARD OF 'evergreenlaw28.PeriodParts'. -/
def periodPartsUptoCard : Claim7 := { stood := { row := periodPartsUptoRow, standIns := [], harness := (true, "acb0a4543f2826f3889ca018e8bb05e5dd798f4616e645b36718a02a9ea6f13d"), looks := true }, kinds := [], alts := [], laidByText := true, laidKinds := [.data], laidTests := true, laidLooks := .later }
def PeriodPartsUptoCardSaid : Prop := Claim7.holds Tryd.pinned (.plain (OpenSpec.upto periodPartsSpec)) periodPartsUptoCard

/-- THE SECOND FORM's CARD OF 'evergreenlaw27.OrderCompares'. -/
def orderComparesUptoCard : Claim7 := { stood := { row := orderComparesUptoRow, standIns := [], harness := (true, "acb0a4543f2826f3889ca018e8bb05e5dd798f4616e645b36718a02a9ea6f13d"), looks := true }, kinds := [], alts := [], laidByText := true, laidKinds := [.data], laidTests := true, laidLooks := .later }
def OrderComparesUptoCardSaid : Prop := Claim7.holds Tryd.pinned (.plain (OpenSpec.upto orderComparesSpec)) orderComparesUptoCard

/-- THE SECOND FORM's CARD OF 'evergreenlaw27.OrderPrefixes'. -/
def orderPrefixesUptoCard : Claim7 := { stood := { row := orderPrefixesUptoRow, standIns := [], harness := (true, "acb0a4543f2826f3889ca018e8bb05e5dd798f4616e645b36718a02a9ea6f13d"), looks := true }, kinds := [], alts := [], laidByText := true, laidKinds := [.data], laidTests := true, laidLooks := .later }
def OrderPrefixesUptoCardSaid : Prop := Claim7.holds Tryd.pinned (.plain (OpenSpec.upto orderPrefixesSpec)) orderPrefixesUptoCard

/-- THE SECOND FORM's CARD OF 'evergreenlaw28.PeriodErrors'. -/
def periodErrorsUptoCard : Claim7 := { stood := { row := periodErrorsUptoRow, standIns := [], harness := (true, "acb0a4543f2826f3889ca018e8bb05e5dd798f4616e645b36718a02a9ea6f13d"), looks := true }, kinds := [], alts := [], laidByText := true, laidKinds := [.data], laidTests := true, laidLooks := .later }
def PeriodErrorsUptoCardSaid : Prop := Claim7.holds Tryd.pinned (.plain (OpenSpec.upto periodErrorsSpec)) periodErrorsUptoCard

/-- THE SECOND FORM's CARD OF 'evergreenlaw27.OrderSearches'. -/
def orderSearchesUptoCard : Claim7 := { stood := { row := orderSearchesUptoRow, standIns := [], harness := (true, "acb0a4543f2826f3889ca018e8bb05e5dd798f4616e645b36718a02a9ea6f13d"), looks := true }, kinds := [], alts := [], laidByText := true, laidKinds := [.data], laidTests := true, laidLooks := .later }
def OrderSearchesUptoCardSaid : Prop := Claim7.holds Tryd.pinned (.plain (OpenSpec.upto orderSearchesSpec)) orderSearchesUptoCard

/-- THE SECOND FORM's CARD OF 'evergreenlaw27.OrderRanges'. -/
def orderRangesUptoCard : Claim7 := { stood := { row := orderRangesUptoRow, standIns := [], harness := (true, "acb0a4543f2826f3889ca018e8bb05e5dd798f4616e645b36718a02a9ea6f13d"), looks := true }, kinds := [], alts := [], laidByText := true, laidKinds := [.data], laidTests := true, laidLooks := .later }
def OrderRangesUptoCardSaid : Prop := Claim7.holds Tryd.pinned (.plain (OpenSpec.upto orderRangesSpec)) orderRangesUptoCard

/-- THE SECOND FORM's CARD OF 'evergreenlaw23.SeamJoins'. -/
def seamJoinsUptoCard : Claim7 := { stood := { row := seamJoinsUptoRow, standIns := [], harness := (true, "acb0a4543f2826f3889ca018e8bb05e5dd798f4616e645b36718a02a9ea6f13d"), looks := true }, kinds := [], alts := [], laidByText := true, laidKinds := [.data], laidTests := true, laidLooks := .later }
def SeamJoinsUptoCardSaid : Prop := Claim7.holds Tryd.pinned (.plain (OpenSpec.upto seamJoinsSpec)) seamJoinsUptoCard
end Rows
end Go.Proofs.YtlmdkaniblhdmaaDoor
