/-
  NARROWER THAN 'FOR EVERY INPUT', by the rows' own cells (each row's printed sentence says how): PrefixInside: laid · PrefixTexts: laid · PrefixForms: laid · PeriodHas: laid · PeriodExtends: laid · PeriodParts: laid · OrderCompares: laid · OrderPrefixes: laid · PeriodErrors: laid · OrderSearches: laid · OrderRanges: laid · SeamJoins: laid.
  DERIVED. THE GIVEN ROWS OF THIS SEAT. 12 by the template 'for every input the law returns true; each argument reads behind the call as it read before'; 0 by the template 'total and deterministic' (their statements: YtlmdkaniblhdmaaDoorTotals.lean).
  GIVEN WITH THE SEED: the statements are not yours to turn. If you find one false, say at which input.
  Laid BY PROGRAM, IN A SANDBOX (cutbox-rows.mjs): the forced cells as the released guide's own fill.sh prints them over the translation ed89cdc752519be9… (all of the seat's roots in one cut). By AI agents, Wed Nov 11 2026. No macro, syntax, notation, axiom, sorry.
-/
import Derived.Test.YtlmdkaniblhdmaaDoorChecked
import GoSem.Claim
import GoSem.ClaimJoined
import GoSem.ClaimMapViews
import Derived.JoinedTies
import Derived.KernelRfl
namespace Go.Proofs.YtlmdkaniblhdmaaDoor
/- THE CELL 'sum', in the pinned program and in every row, IS THE sha256 OF THE DUMP (.gsa) THAT YtlmdkaniblhdmaaDoorProg.lean LOADS. Nothing in Lean hashes anything: it is a label: what it is worth is what the hold of that sum in a sandbox is worth. -/
noncomputable def Tryd.pinned : Pinned := { name := "ytlmdkaniblhdmaadoor", sum := "ed89cdc752519be9e1f8797c6323bffad9902b891b8b47c95055f444808cf624", checked := Tryd.checked }
namespace Rows
def none {H : Type} : Left H := { results := [], args := [] }

/- WHAT THE LISTED PACKAGE-LEVEL VARIABLES READ AS WHEN THE CALL BEGINS. Each datum BY PROGRAM (the guide's laid-datum.mjs) off the statement by which the dump's own 'gosem.cut.vars' lays the variable. In a bare row this is a premise. The card (YtlmdkaniblhdmaaDoorCards.lean) ties it to the program's text. -/
def laid_math_bits_deBruijn64tab {H : Type} : DataW H := .agg [.lit (.int .u8 0), .lit (.int .u8 1), .lit (.int .u8 56), .lit (.int .u8 2), .lit (.int .u8 57), .lit (.int .u8 49), .lit (.int .u8 28), .lit (.int .u8 3), .lit (.int .u8 61), .lit (.int .u8 58), .lit (.int .u8 42), .lit (.int .u8 50), .lit (.int .u8 38), .lit (.int .u8 29), .lit (.int .u8 17), .lit (.int .u8 4), .lit (.int .u8 62), .lit (.int .u8 47), .lit (.int .u8 59), .lit (.int .u8 36), .lit (.int .u8 45), .lit (.int .u8 43), .lit (.int .u8 51), .lit (.int .u8 22), .lit (.int .u8 53), .lit (.int .u8 39), .lit (.int .u8 33), .lit (.int .u8 30), .lit (.int .u8 24), .lit (.int .u8 18), .lit (.int .u8 12), .lit (.int .u8 5), .lit (.int .u8 63), .lit (.int .u8 55), .lit (.int .u8 48), .lit (.int .u8 27), .lit (.int .u8 60), .lit (.int .u8 41), .lit (.int .u8 37), .lit (.int .u8 16), .lit (.int .u8 46), .lit (.int .u8 35), .lit (.int .u8 44), .lit (.int .u8 21), .lit (.int .u8 52), .lit (.int .u8 32), .lit (.int .u8 23), .lit (.int .u8 11), .lit (.int .u8 54), .lit (.int .u8 26), .lit (.int .u8 40), .lit (.int .u8 15), .lit (.int .u8 34), .lit (.int .u8 20), .lit (.int .u8 31), .lit (.int .u8 10), .lit (.int .u8 25), .lit (.int .u8 14), .lit (.int .u8 19), .lit (.int .u8 9), .lit (.int .u8 13), .lit (.int .u8 8), .lit (.int .u8 7), .lit (.int .u8 6)]

/-- 'evergreenlaw26.PrefixInside': WHATEVER THE INPUT: true; the input reads as it did. -/
def prefixInsideSpec : ChangeSpec := { name := "prefixInside", fn := fun _ => fun
  | [d1, d2, d3, d4] => { results := [.lit (.bool true)], args := [d1, d2, d3, d4] }
  | _ => none }
def prefixInsideRow : OpenClaim := { program := "ytlmdkaniblhdmaadoor", sum := "ed89cdc752519be9e1f8797c6323bffad9902b891b8b47c95055f444808cf624", func := "evergreen/evergreenlaw26.PrefixInside", spec := "prefixInside", named := ["math/bits.deBruijn64tab"], plainKeys := false, apart := false, laid := [("math/bits.deBruijn64tab", laid_math_bits_deBruijn64tab)] }
def PrefixInsideSaid : Prop := prefixInsideRow.holds Tryd.pinned (OpenSpec.ofChange prefixInsideSpec)

/-- ITS FALSE NEIGHBOUR: 'it returns false'. Refute it at one input. -/
def prefixInsideWrong : ChangeSpec := { name := "prefixInside", fn := fun _ => fun
  | [d1, d2, d3, d4] => { results := [.lit (.bool false)], args := [d1, d2, d3, d4] }
  | _ => none }
def PrefixInsideWrongFalsely : Prop := prefixInsideRow.holds Tryd.pinned (OpenSpec.ofChange prefixInsideWrong)

/-- 'evergreenlaw26.PrefixTexts': WHATEVER THE INPUT: true; the input reads as it did. -/
def prefixTextsSpec : ChangeSpec := { name := "prefixTexts", fn := fun _ => fun
  | [d1, d2] => { results := [.lit (.bool true)], args := [d1, d2] }
  | _ => none }
def prefixTextsRow : OpenClaim := { program := "ytlmdkaniblhdmaadoor", sum := "ed89cdc752519be9e1f8797c6323bffad9902b891b8b47c95055f444808cf624", func := "evergreen/evergreenlaw26.PrefixTexts", spec := "prefixTexts", named := ["math/bits.deBruijn64tab"], plainKeys := false, apart := false, laid := [("math/bits.deBruijn64tab", laid_math_bits_deBruijn64tab)] }
def PrefixTextsSaid : Prop := prefixTextsRow.holds Tryd.pinned (OpenSpec.ofChange prefixTextsSpec)

/-- ITS FALSE NEIGHBOUR: 'it returns false'. Refute it at one input. -/
def prefixTextsWrong : ChangeSpec := { name := "prefixTexts", fn := fun _ => fun
  | [d1, d2] => { results := [.lit (.bool false)], args := [d1, d2] }
  | _ => none }
def PrefixTextsWrongFalsely : Prop := prefixTextsRow.holds Tryd.pinned (OpenSpec.ofChange prefixTextsWrong)

/-- 'evergreenlaw26.PrefixForms': WHATEVER THE INPUT: true; the input reads as it did. -/
def prefixFormsSpec : ChangeSpec := { name := "prefixForms", fn := fun _ => fun
  | [d1, d2, d3] => { results := [.lit (.bool true)], args := [d1, d2, d3] }
  | _ => none }
def prefixFormsRow : OpenClaim := { program := "ytlmdkaniblhdmaadoor", sum := "ed89cdc752519be9e1f8797c6323bffad9902b891b8b47c95055f444808cf624", func := "evergreen/evergreenlaw26.PrefixForms", spec := "prefixForms", named := ["math/bits.deBruijn64tab"], plainKeys := false, apart := false, laid := [("math/bits.deBruijn64tab", laid_math_bits_deBruijn64tab)] }
def PrefixFormsSaid : Prop := prefixFormsRow.holds Tryd.pinned (OpenSpec.ofChange prefixFormsSpec)

/-- ITS FALSE NEIGHBOUR: 'it returns false'. Refute it at one input. -/
def prefixFormsWrong : ChangeSpec := { name := "prefixForms", fn := fun _ => fun
  | [d1, d2, d3] => { results := [.lit (.bool false)], args := [d1, d2, d3] }
  | _ => none }
def PrefixFormsWrongFalsely : Prop := prefixFormsRow.holds Tryd.pinned (OpenSpec.ofChange prefixFormsWrong)

/-- 'evergreenlaw28.PeriodHas': WHATEVER THE INPUT: true; the input reads as it did. -/
def periodHasSpec : ChangeSpec := { name := "periodHas", fn := fun _ => fun
  | [d1, d2] => { results := [.lit (.bool true)], args := [d1, d2] }
  | _ => none }
def periodHasRow : OpenClaim := { program := "ytlmdkaniblhdmaadoor", sum := "ed89cdc752519be9e1f8797c6323bffad9902b891b8b47c95055f444808cf624", func := "evergreen/evergreenlaw28.PeriodHas", spec := "periodHas", named := ["math/bits.deBruijn64tab"], plainKeys := false, apart := false, laid := [("math/bits.deBruijn64tab", laid_math_bits_deBruijn64tab)] }
def PeriodHasSaid : Prop := periodHasRow.holds Tryd.pinned (OpenSpec.ofChange periodHasSpec)

/-- ITS FALSE NEIGHBOUR: 'it returns false'. Refute it at one input. -/
def periodHasWrong : ChangeSpec := { name := "periodHas", fn := fun _ => fun
  | [d1, d2] => { results := [.lit (.bool false)], args := [d1, d2] }
  | _ => none }
def PeriodHasWrongFalsely : Prop := periodHasRow.holds Tryd.pinned (OpenSpec.ofChange periodHasWrong)

/-- 'evergreenlaw28.PeriodExtends': WHATEVER THE INPUT: true; the input reads as it did. -/
def periodExtendsSpec : ChangeSpec := { name := "periodExtends", fn := fun _ => fun
  | [d1, d2, d3] => { results := [.lit (.bool true)], args := [d1, d2, d3] }
  | _ => none }
def periodExtendsRow : OpenClaim := { program := "ytlmdkaniblhdmaadoor", sum := "ed89cdc752519be9e1f8797c6323bffad9902b891b8b47c95055f444808cf624", func := "evergreen/evergreenlaw28.PeriodExtends", spec := "periodExtends", named := ["math/bits.deBruijn64tab"], plainKeys := false, apart := false, laid := [("math/bits.deBruijn64tab", laid_math_bits_deBruijn64tab)] }
def PeriodExtendsSaid : Prop := periodExtendsRow.holds Tryd.pinned (OpenSpec.ofChange periodExtendsSpec)

/-- ITS FALSE NEIGHBOUR: 'it returns false'. Refute it at one input. -/
def periodExtendsWrong : ChangeSpec := { name := "periodExtends", fn := fun _ => fun
  | [d1, d2, d3] => { results := [.lit (.bool false)], args := [d1, d2, d3] }
  | _ => none }
def PeriodExtendsWrongFalsely : Prop := periodExtendsRow.holds Tryd.pinned (OpenSpec.ofChange periodExtendsWrong)

/-- 'evergreenlaw28.PeriodParts': WHATEVER THE INPUT: true; the input reads as it did. -/
def periodPartsSpec : ChangeSpec := { name := "periodParts", fn := fun _ => fun
  | [d1, d2] => { results := [.lit (.bool true)], args := [d1, d2] }
  | _ => none }
def periodPartsRow : OpenClaim := { program := "ytlmdkaniblhdmaadoor", sum := "ed89cdc752519be9e1f8797c6323bffad9902b891b8b47c95055f444808cf624", func := "evergreen/evergreenlaw28.PeriodParts", spec := "periodParts", named := ["math/bits.deBruijn64tab"], plainKeys := false, apart := false, laid := [("math/bits.deBruijn64tab", laid_math_bits_deBruijn64tab)] }
def PeriodPartsSaid : Prop := periodPartsRow.holds Tryd.pinned (OpenSpec.ofChange periodPartsSpec)

/-- ITS FALSE NEIGHBOUR: 'it returns false'. Refute it at one input. -/
def periodPartsWrong : ChangeSpec := { name := "periodParts", fn := fun _ => fun
  | [d1, d2] => { results := [.lit (.bool false)], args := [d1, d2] }
  | _ => none }
def PeriodPartsWrongFalsely : Prop := periodPartsRow.holds Tryd.pinned (OpenSpec.ofChange periodPartsWrong)

/-- 'evergreenlaw27.OrderCompares': WHATEVER THE INPUT: true; the input reads as it did. -/
def orderComparesSpec : ChangeSpec := { name := "orderCompares", fn := fun _ => fun
  | [d1, d2] => { results := [.lit (.bool true)], args := [d1, d2] }
  | _ => none }
def orderComparesRow : OpenClaim := { program := "ytlmdkaniblhdmaadoor", sum := "ed89cdc752519be9e1f8797c6323bffad9902b891b8b47c95055f444808cf624", func := "evergreen/evergreenlaw27.OrderCompares", spec := "orderCompares", named := ["math/bits.deBruijn64tab"], plainKeys := false, apart := false, laid := [("math/bits.deBruijn64tab", laid_math_bits_deBruijn64tab)] }
def OrderComparesSaid : Prop := orderComparesRow.holds Tryd.pinned (OpenSpec.ofChange orderComparesSpec)

/-- ITS FALSE NEIGHBOUR: 'it returns false'. Refute it at one input. -/
def orderComparesWrong : ChangeSpec := { name := "orderCompares", fn := fun _ => fun
  | [d1, d2] => { results := [.lit (.bool false)], args := [d1, d2] }
  | _ => none }
def OrderComparesWrongFalsely : Prop := orderComparesRow.holds Tryd.pinned (OpenSpec.ofChange orderComparesWrong)

/-- 'evergreenlaw27.OrderPrefixes': WHATEVER THE INPUT: true; the input reads as it did. -/
def orderPrefixesSpec : ChangeSpec := { name := "orderPrefixes", fn := fun _ => fun
  | [d1, d2] => { results := [.lit (.bool true)], args := [d1, d2] }
  | _ => none }
def orderPrefixesRow : OpenClaim := { program := "ytlmdkaniblhdmaadoor", sum := "ed89cdc752519be9e1f8797c6323bffad9902b891b8b47c95055f444808cf624", func := "evergreen/evergreenlaw27.OrderPrefixes", spec := "orderPrefixes", named := ["math/bits.deBruijn64tab"], plainKeys := false, apart := false, laid := [("math/bits.deBruijn64tab", laid_math_bits_deBruijn64tab)] }
def OrderPrefixesSaid : Prop := orderPrefixesRow.holds Tryd.pinned (OpenSpec.ofChange orderPrefixesSpec)

/-- ITS FALSE NEIGHBOUR: 'it returns false'. Refute it at one input. -/
def orderPrefixesWrong : ChangeSpec := { name := "orderPrefixes", fn := fun _ => fun
  | [d1, d2] => { results := [.lit (.bool false)], args := [d1, d2] }
  | _ => none }
def OrderPrefixesWrongFalsely : Prop := orderPrefixesRow.holds Tryd.pinned (OpenSpec.ofChange orderPrefixesWrong)

/-- 'evergreenlaw28.PeriodErrors': WHATEVER THE INPUT: true; the input reads as it did. -/
def periodErrorsSpec : ChangeSpec := { name := "periodErrors", fn := fun _ => fun
  | [d1, d2] => { results := [.lit (.bool true)], args := [d1, d2] }
  | _ => none }
def periodErrorsRow : OpenClaim := { program := "ytlmdkaniblhdmaadoor", sum := "ed89cdc752519be9e1f8797c6323bffad9902b891b8b47c95055f444808cf624", func := "evergreen/evergreenlaw28.PeriodErrors", spec := "periodErrors", unfollowed := true, recurses := true, named := ["math/bits.deBruijn64tab"], plainKeys := false, apart := false, laid := [("math/bits.deBruijn64tab", laid_math_bits_deBruijn64tab)] }
def PeriodErrorsSaid : Prop := periodErrorsRow.holds Tryd.pinned (OpenSpec.ofChange periodErrorsSpec)

/-- ITS FALSE NEIGHBOUR: 'it returns false'. Refute it at one input. -/
def periodErrorsWrong : ChangeSpec := { name := "periodErrors", fn := fun _ => fun
  | [d1, d2] => { results := [.lit (.bool false)], args := [d1, d2] }
  | _ => none }
def PeriodErrorsWrongFalsely : Prop := periodErrorsRow.holds Tryd.pinned (OpenSpec.ofChange periodErrorsWrong)

/-- 'evergreenlaw27.OrderSearches': WHATEVER THE INPUT: true; the input reads as it did. -/
def orderSearchesSpec : ChangeSpec := { name := "orderSearches", fn := fun _ => fun
  | [d1, d2] => { results := [.lit (.bool true)], args := [d1, d2] }
  | _ => none }
def orderSearchesRow : OpenClaim := { program := "ytlmdkaniblhdmaadoor", sum := "ed89cdc752519be9e1f8797c6323bffad9902b891b8b47c95055f444808cf624", func := "evergreen/evergreenlaw27.OrderSearches", spec := "orderSearches", unfollowed := true, recurses := true, named := ["math/bits.deBruijn64tab"], plainKeys := false, apart := false, laid := [("math/bits.deBruijn64tab", laid_math_bits_deBruijn64tab)] }
def OrderSearchesSaid : Prop := orderSearchesRow.holds Tryd.pinned (OpenSpec.ofChange orderSearchesSpec)

/-- ITS FALSE NEIGHBOUR: 'it returns false'. Refute it at one input. -/
def orderSearchesWrong : ChangeSpec := { name := "orderSearches", fn := fun _ => fun
  | [d1, d2] => { results := [.lit (.bool false)], args := [d1, d2] }
  | _ => none }
def OrderSearchesWrongFalsely : Prop := orderSearchesRow.holds Tryd.pinned (OpenSpec.ofChange orderSearchesWrong)

/-- 'evergreenlaw27.OrderRanges': WHATEVER THE INPUT: true; the input reads as it did. -/
def orderRangesSpec : ChangeSpec := { name := "orderRanges", fn := fun _ => fun
  | [d1, d2] => { results := [.lit (.bool true)], args := [d1, d2] }
  | _ => none }
def orderRangesRow : OpenClaim := { program := "ytlmdkaniblhdmaadoor", sum := "ed89cdc752519be9e1f8797c6323bffad9902b891b8b47c95055f444808cf624", func := "evergreen/evergreenlaw27.OrderRanges", spec := "orderRanges", unfollowed := true, recurses := true, named := ["math/bits.deBruijn64tab"], plainKeys := false, apart := false, laid := [("math/bits.deBruijn64tab", laid_math_bits_deBruijn64tab)] }
def OrderRangesSaid : Prop := orderRangesRow.holds Tryd.pinned (OpenSpec.ofChange orderRangesSpec)

/-- ITS FALSE NEIGHBOUR: 'it returns false'. Refute it at one input. -/
def orderRangesWrong : ChangeSpec := { name := "orderRanges", fn := fun _ => fun
  | [d1, d2] => { results := [.lit (.bool false)], args := [d1, d2] }
  | _ => none }
def OrderRangesWrongFalsely : Prop := orderRangesRow.holds Tryd.pinned (OpenSpec.ofChange orderRangesWrong)

/-- 'evergreenlaw23.SeamJoins': WHATEVER THE INPUT: true; the input reads as it did. -/
def seamJoinsSpec : ChangeSpec := { name := "seamJoins", fn := fun _ => fun
  | [d1, d2] => { results := [.lit (.bool true)], args := [d1, d2] }
  | _ => none }
def seamJoinsRow : OpenClaim := { program := "ytlmdkaniblhdmaadoor", sum := "ed89cdc752519be9e1f8797c6323bffad9902b891b8b47c95055f444808cf624", func := "evergreen/evergreenlaw23.SeamJoins", spec := "seamJoins", inPlace := ["slices.overlaps[evergreen/seam.item]"], named := ["math/bits.deBruijn64tab"], plainKeys := false, apart := false, laid := [("math/bits.deBruijn64tab", laid_math_bits_deBruijn64tab)] }
def SeamJoinsSaid : Prop := seamJoinsRow.holds Tryd.pinned (OpenSpec.ofChange seamJoinsSpec)

/-- ITS FALSE NEIGHBOUR: 'it returns false'. Refute it at one input. -/
def seamJoinsWrong : ChangeSpec := { name := "seamJoins", fn := fun _ => fun
  | [d1, d2] => { results := [.lit (.bool false)], args := [d1, d2] }
  | _ => none }
def SeamJoinsWrongFalsely : Prop := seamJoinsRow.holds Tryd.pinned (OpenSpec.ofChange seamJoinsWrong)

/- THE SECOND FORM. 'bulk': how many values and letters a reading holds, each counted each time it is reached (what is shared counts as often as it is met; a slice's spare places count too). A statement '..UptoSaid' is the law's where the arguments, and the package variables that the reading takes, are together of bulk at most 1048576: NARROWER than '..Said'. Prove '..Said' where nothing that the law and all that it calls make is longer than what came in: it says more and counts as full. Else prove '..UptoSaid'. A law counts once. -/
mutual
def uptoBulk {H : Type} : DataW H → Nat
  | .lit (.string bytes) => bytes.length + 1
  | .lit _ => 1
  | .nil => 1
  | .ptr d => uptoBulk d + 1
  | .slice elems spare => uptoBulkAll elems + uptoBulkAll spare + 1
  | .agg parts => uptoBulkAll parts + 1
  | .iface _ d => uptoBulk d + 1
  | .map entries => uptoBulkEntries entries + 1
  | .held _ => 1
def uptoBulkAll {H : Type} : List (DataW H) → Nat
  | [] => 0
  | d :: r => uptoBulk d + uptoBulkAll r
def uptoBulkEntries {H : Type} : List (Lit × DataW H) → Nat
  | [] => 0
  | x :: r => uptoBulkEntry x + uptoBulkEntries r
def uptoBulkEntry {H : Type} : Lit × DataW H → Nat
  | (.string bytes, d) => bytes.length + uptoBulk d + 1
  | (_, d) => uptoBulk d + 1
 end
def uptoSmall : (H : Type) → List (DataW H) → Bool := fun _ ds => decide (uptoBulkAll ds ≤ 1048576)
def OpenSpec.upto (s : _root_.Go.ChangeSpec) : _root_.Go.OpenSpec := { _root_.Go.OpenSpec.ofChange s with cond := some uptoSmall }

/-- 'evergreenlaw26.PrefixInside', WHERE WHAT IT READS IS OF BULK AT MOST 1048576: true; the input reads as it did. -/
def prefixInsideUptoRow : OpenClaim := { program := "ytlmdkaniblhdmaadoor", sum := "ed89cdc752519be9e1f8797c6323bffad9902b891b8b47c95055f444808cf624", func := "evergreen/evergreenlaw26.PrefixInside", spec := "prefixInside", named := ["math/bits.deBruijn64tab"], plainKeys := false, apart := false, laid := [("math/bits.deBruijn64tab", laid_math_bits_deBruijn64tab)], narrowed := true }
def PrefixInsideUptoSaid : Prop := prefixInsideUptoRow.holds Tryd.pinned (OpenSpec.upto prefixInsideSpec)

/-- 'evergreenlaw26.PrefixTexts', WHERE WHAT IT READS IS OF BULK AT MOST 1048576: true; the input reads as it did. -/
def prefixTextsUptoRow : OpenClaim := { program := "ytlmdkaniblhdmaadoor", sum := "ed89cdc752519be9e1f8797c6323bffad9902b891b8b47c95055f444808cf624", func := "evergreen/evergreenlaw26.PrefixTexts", spec := "prefixTexts", named := ["math/bits.deBruijn64tab"], plainKeys := false, apart := false, laid := [("math/bits.deBruijn64tab", laid_math_bits_deBruijn64tab)], narrowed := true }
def PrefixTextsUptoSaid : Prop := prefixTextsUptoRow.holds Tryd.pinned (OpenSpec.upto prefixTextsSpec)

/-- 'evergreenlaw26.PrefixForms', WHERE WHAT IT READS IS OF BULK AT MOST 1048576: true; the input reads as it did. -/
def prefixFormsUptoRow : OpenClaim := { program := "ytlmdkaniblhdmaadoor", sum := "ed89cdc752519be9e1f8797c6323bffad9902b891b8b47c95055f444808cf624", func := "evergreen/evergreenlaw26.PrefixForms", spec := "prefixForms", named := ["math/bits.deBruijn64tab"], plainKeys := false, apart := false, laid := [("math/bits.deBruijn64tab", laid_math_bits_deBruijn64tab)], narrowed := true }
def PrefixFormsUptoSaid : Prop := prefixFormsUptoRow.holds Tryd.pinned (OpenSpec.upto prefixFormsSpec)

/-- 'evergreenlaw28.PeriodHas', WHERE WHAT IT READS IS OF BULK AT MOST 1048576: true; the input reads as it did. -/
def periodHasUptoRow : OpenClaim := { program := "ytlmdkaniblhdmaadoor", sum := "ed89cdc752519be9e1f8797c6323bffad9902b891b8b47c95055f444808cf624", func := "evergreen/evergreenlaw28.PeriodHas", spec := "periodHas", named := ["math/bits.deBruijn64tab"], plainKeys := false, apart := false, laid := [("math/bits.deBruijn64tab", laid_math_bits_deBruijn64tab)], narrowed := true }
def PeriodHasUptoSaid : Prop := periodHasUptoRow.holds Tryd.pinned (OpenSpec.upto periodHasSpec)

/-- 'evergreenlaw28.PeriodExtends', WHERE WHAT IT READS IS OF BULK AT MOST 1048576: true; the input reads as it did. -/
def periodExtendsUptoRow : OpenClaim := { program := "ytlmdkaniblhdmaadoor", sum := "ed89cdc752519be9e1f8797c6323bffad9902b891b8b47c95055f444808cf624", func := "evergreen/evergreenlaw28.PeriodExtends", spec := "periodExtends", named := ["math/bits.deBruijn64tab"], plainKeys := false, apart := false, laid := [("math/bits.deBruijn64tab", laid_math_bits_deBruijn64tab)], narrowed := true }
def PeriodExtendsUptoSaid : Prop := periodExtendsUptoRow.holds Tryd.pinned (OpenSpec.upto periodExtendsSpec)

/-- 'evergreenlaw28.PeriodParts', WHERE WHAT IT READS IS OF BULK AT MOST 1048576: true; the input reads as it did. -/
def periodPartsUptoRow : OpenClaim := { program := "ytlmdkaniblhdmaadoor", sum := "ed89cdc752519be9e1f8797c6323bffad9902b891b8b47c95055f444808cf624", func := "evergreen/evergreenlaw28.PeriodParts", spec := "periodParts", named := ["math/bits.deBruijn64tab"], plainKeys := false, apart := false, laid := [("math/bits.deBruijn64tab", laid_math_bits_deBruijn64tab)], narrowed := true }
def PeriodPartsUptoSaid : Prop := periodPartsUptoRow.holds Tryd.pinned (OpenSpec.upto periodPartsSpec)

/-- 'evergreenlaw27.OrderCompares', WHERE WHAT IT READS IS OF BULK AT MOST 1048576: true; the input reads as it did. -/
def orderComparesUptoRow : OpenClaim := { program := "ytlmdkaniblhdmaadoor", sum := "ed89cdc752519be9e1f8797c6323bffad9902b891b8b47c95055f444808cf624", func := "evergreen/evergreenlaw27.OrderCompares", spec := "orderCompares", named := ["math/bits.deBruijn64tab"], plainKeys := false, apart := false, laid := [("math/bits.deBruijn64tab", laid_math_bits_deBruijn64tab)], narrowed := true }
def OrderComparesUptoSaid : Prop := orderComparesUptoRow.holds Tryd.pinned (OpenSpec.upto orderComparesSpec)

/-- 'evergreenlaw27.OrderPrefixes', WHERE WHAT IT READS IS OF BULK AT MOST 1048576: true; the input reads as it did. -/
def orderPrefixesUptoRow : OpenClaim := { program := "ytlmdkaniblhdmaadoor", sum := "ed89cdc752519be9e1f8797c6323bffad9902b891b8b47c95055f444808cf624", func := "evergreen/evergreenlaw27.OrderPrefixes", spec := "orderPrefixes", named := ["math/bits.deBruijn64tab"], plainKeys := false, apart := false, laid := [("math/bits.deBruijn64tab", laid_math_bits_deBruijn64tab)], narrowed := true }
def OrderPrefixesUptoSaid : Prop := orderPrefixesUptoRow.holds Tryd.pinned (OpenSpec.upto orderPrefixesSpec)

/-- 'evergreenlaw28.PeriodErrors', WHERE WHAT IT READS IS OF BULK AT MOST 1048576: true; the input reads as it did. -/
def periodErrorsUptoRow : OpenClaim := { program := "ytlmdkaniblhdmaadoor", sum := "ed89cdc752519be9e1f8797c6323bffad9902b891b8b47c95055f444808cf624", func := "evergreen/evergreenlaw28.PeriodErrors", spec := "periodErrors", unfollowed := true, recurses := true, named := ["math/bits.deBruijn64tab"], plainKeys := false, apart := false, laid := [("math/bits.deBruijn64tab", laid_math_bits_deBruijn64tab)], narrowed := true }
def PeriodErrorsUptoSaid : Prop := periodErrorsUptoRow.holds Tryd.pinned (OpenSpec.upto periodErrorsSpec)

/-- 'evergreenlaw27.OrderSearches', WHERE WHAT IT READS IS OF BULK AT MOST 1048576: true; the input reads as it did. -/
def orderSearchesUptoRow : OpenClaim := { program := "ytlmdkaniblhdmaadoor", sum := "ed89cdc752519be9e1f8797c6323bffad9902b891b8b47c95055f444808cf624", func := "evergreen/evergreenlaw27.OrderSearches", spec := "orderSearches", unfollowed := true, recurses := true, named := ["math/bits.deBruijn64tab"], plainKeys := false, apart := false, laid := [("math/bits.deBruijn64tab", laid_math_bits_deBruijn64tab)], narrowed := true }
def OrderSearchesUptoSaid : Prop := orderSearchesUptoRow.holds Tryd.pinned (OpenSpec.upto orderSearchesSpec)

/-- 'evergreenlaw27.OrderRanges', WHERE WHAT IT READS IS OF BULK AT MOST 1048576: true; the input reads as it did. -/
def orderRangesUptoRow : OpenClaim := { program := "ytlmdkaniblhdmaadoor", sum := "ed89cdc752519be9e1f8797c6323bffad9902b891b8b47c95055f444808cf624", func := "evergreen/evergreenlaw27.OrderRanges", spec := "orderRanges", unfollowed := true, recurses := true, named := ["math/bits.deBruijn64tab"], plainKeys := false, apart := false, laid := [("math/bits.deBruijn64tab", laid_math_bits_deBruijn64tab)], narrowed := true }
def OrderRangesUptoSaid : Prop := orderRangesUptoRow.holds Tryd.pinned (OpenSpec.upto orderRangesSpec)

/-- 'evergreenlaw23.SeamJoins', WHERE WHAT IT READS IS OF BULK AT MOST 1048576: true; the input reads as it did. -/
def seamJoinsUptoRow : OpenClaim := { program := "ytlmdkaniblhdmaadoor", sum := "ed89cdc752519be9e1f8797c6323bffad9902b891b8b47c95055f444808cf624", func := "evergreen/evergreenlaw23.SeamJoins", spec := "seamJoins", inPlace := ["slices.overlaps[evergreen/seam.item]"], named := ["math/bits.deBruijn64tab"], plainKeys := false, apart := false, laid := [("math/bits.deBruijn64tab", laid_math_bits_deBruijn64tab)], narrowed := true }
def SeamJoinsUptoSaid : Prop := seamJoinsUptoRow.holds Tryd.pinned (OpenSpec.upto seamJoinsSpec)

end Rows
end Go.Proofs.YtlmdkaniblhdmaaDoor
