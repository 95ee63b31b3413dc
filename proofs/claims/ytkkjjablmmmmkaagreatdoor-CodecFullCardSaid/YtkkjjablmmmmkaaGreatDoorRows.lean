/-
  NARROWER THAN 'FOR EVERY INPUT', by the rows' own cells (each row's printed sentence says how): CodecErrors: laid · CodecEncodes: laid · CodecShares: laid · CodecEqual: laid · CodecReads: laid · CodecUnique: laid · CodecReturns: laid · CodecSpoilt: laid · CodecFull: laid.
  DERIVED. THE GIVEN ROWS OF THIS SEAT. 9 by the template 'for every input the law returns true; each argument reads behind the call as it read before'; 0 by the template 'total and deterministic' (their statements: YtkkjjablmmmmkaaGreatDoorTotals.lean).
  GIVEN WITH THE SEED: the statements are not yours to turn. If you find one false, say at which input.
  Laid BY PROGRAM, IN A SANDBOX (cutbox-rows.mjs): the forced cells as the released guide's own fill.sh prints them over the translation 02889d38b104822a… (all of the seat's roots in one cut). By AI agents, Wed Nov 11 2026. No macro, syntax, notation, axiom, sorry.
-/
import Derived.Test.YtkkjjablmmmmkaaGreatDoorChecked
import GoSem.Claim
import GoSem.ClaimJoined
import GoSem.ClaimMapViews
import Derived.JoinedTies
import Derived.KernelRfl
namespace Go.Proofs.YtkkjjablmmmmkaaGreatDoor
/- THE CELL 'sum', in the pinned program and in every row, IS THE sha256 OF THE DUMP (.gsa) THAT YtkkjjablmmmmkaaGreatDoorProg.lean LOADS. Nothing in Lean hashes anything: it is a label: what it is worth is what the hold of that sum in a sandbox is worth. -/
noncomputable def Tryz.pinned : Pinned := { name := "ytkkjjablmmmmkaagreatdoor", sum := "02889d38b104822a667a6b0c35d3040806735a015b963a945f74959cdd55738e", checked := Tryz.checked }
namespace Rows
def none {H : Type} : Left H := { results := [], args := [] }

/- WHAT THE LISTED PACKAGE-LEVEL VARIABLES READ AS WHEN THE CALL BEGINS. Each datum BY PROGRAM (the guide's laid-datum.mjs) off the statement by which the dump's own 'gosem.cut.vars' lays the variable. In a bare row this is a premise. The card (YtkkjjablmmmmkaaGreatDoorCards.lean) ties it to the program's text. -/
def laid_math_bits_deBruijn64tab {H : Type} : DataW H := .agg [.lit (.int .u8 0), .lit (.int .u8 1), .lit (.int .u8 56), .lit (.int .u8 2), .lit (.int .u8 57), .lit (.int .u8 49), .lit (.int .u8 28), .lit (.int .u8 3), .lit (.int .u8 61), .lit (.int .u8 58), .lit (.int .u8 42), .lit (.int .u8 50), .lit (.int .u8 38), .lit (.int .u8 29), .lit (.int .u8 17), .lit (.int .u8 4), .lit (.int .u8 62), .lit (.int .u8 47), .lit (.int .u8 59), .lit (.int .u8 36), .lit (.int .u8 45), .lit (.int .u8 43), .lit (.int .u8 51), .lit (.int .u8 22), .lit (.int .u8 53), .lit (.int .u8 39), .lit (.int .u8 33), .lit (.int .u8 30), .lit (.int .u8 24), .lit (.int .u8 18), .lit (.int .u8 12), .lit (.int .u8 5), .lit (.int .u8 63), .lit (.int .u8 55), .lit (.int .u8 48), .lit (.int .u8 27), .lit (.int .u8 60), .lit (.int .u8 41), .lit (.int .u8 37), .lit (.int .u8 16), .lit (.int .u8 46), .lit (.int .u8 35), .lit (.int .u8 44), .lit (.int .u8 21), .lit (.int .u8 52), .lit (.int .u8 32), .lit (.int .u8 23), .lit (.int .u8 11), .lit (.int .u8 54), .lit (.int .u8 26), .lit (.int .u8 40), .lit (.int .u8 15), .lit (.int .u8 34), .lit (.int .u8 20), .lit (.int .u8 31), .lit (.int .u8 10), .lit (.int .u8 25), .lit (.int .u8 14), .lit (.int .u8 19), .lit (.int .u8 9), .lit (.int .u8 13), .lit (.int .u8 8), .lit (.int .u8 7), .lit (.int .u8 6)]

/-- 'evergreenlaw50.CodecErrors': WHATEVER THE INPUT: true; the input reads as it did. -/
def codecErrorsSpec : ChangeSpec := { name := "codecErrors", fn := fun _ => fun
  | [d1, d2, d3] => { results := [.lit (.bool true)], args := [d1, d2, d3] }
  | _ => none }
def codecErrorsRow : OpenClaim := { program := "ytkkjjablmmmmkaagreatdoor", sum := "02889d38b104822a667a6b0c35d3040806735a015b963a945f74959cdd55738e", func := "evergreen/evergreenlaw50.CodecErrors", spec := "codecErrors", inPlace := ["slices.overlaps[evergreen/seam.item]"], unfollowed := true, recurses := true, named := ["math/bits.deBruijn64tab"], plainKeys := false, apart := false, laid := [("math/bits.deBruijn64tab", laid_math_bits_deBruijn64tab)] }
def CodecErrorsSaid : Prop := codecErrorsRow.holds Tryz.pinned (OpenSpec.ofChange codecErrorsSpec)

/-- ITS FALSE NEIGHBOUR: 'it returns false'. Refute it at one input. -/
def codecErrorsWrong : ChangeSpec := { name := "codecErrors", fn := fun _ => fun
  | [d1, d2, d3] => { results := [.lit (.bool false)], args := [d1, d2, d3] }
  | _ => none }
def CodecErrorsWrongFalsely : Prop := codecErrorsRow.holds Tryz.pinned (OpenSpec.ofChange codecErrorsWrong)

/-- 'evergreenlaw50.CodecEncodes': WHATEVER THE INPUT: true; the input reads as it did. -/
def codecEncodesSpec : ChangeSpec := { name := "codecEncodes", fn := fun _ => fun
  | [d1, d2] => { results := [.lit (.bool true)], args := [d1, d2] }
  | _ => none }
def codecEncodesRow : OpenClaim := { program := "ytkkjjablmmmmkaagreatdoor", sum := "02889d38b104822a667a6b0c35d3040806735a015b963a945f74959cdd55738e", func := "evergreen/evergreenlaw50.CodecEncodes", spec := "codecEncodes", inPlace := ["slices.overlaps[evergreen/seam.item]"], unfollowed := true, recurses := true, named := ["math/bits.deBruijn64tab"], plainKeys := false, apart := false, laid := [("math/bits.deBruijn64tab", laid_math_bits_deBruijn64tab)] }
def CodecEncodesSaid : Prop := codecEncodesRow.holds Tryz.pinned (OpenSpec.ofChange codecEncodesSpec)

/-- ITS FALSE NEIGHBOUR: 'it returns false'. Refute it at one input. -/
def codecEncodesWrong : ChangeSpec := { name := "codecEncodes", fn := fun _ => fun
  | [d1, d2] => { results := [.lit (.bool false)], args := [d1, d2] }
  | _ => none }
def CodecEncodesWrongFalsely : Prop := codecEncodesRow.holds Tryz.pinned (OpenSpec.ofChange codecEncodesWrong)

/-- 'evergreenlaw50.CodecShares': WHATEVER THE INPUT: true; the input reads as it did. -/
def codecSharesSpec : ChangeSpec := { name := "codecShares", fn := fun _ => fun
  | [d1, d2] => { results := [.lit (.bool true)], args := [d1, d2] }
  | _ => none }
def codecSharesRow : OpenClaim := { program := "ytkkjjablmmmmkaagreatdoor", sum := "02889d38b104822a667a6b0c35d3040806735a015b963a945f74959cdd55738e", func := "evergreen/evergreenlaw50.CodecShares", spec := "codecShares", inPlace := ["slices.overlaps[evergreen/seam.item]"], unfollowed := true, recurses := true, named := ["math/bits.deBruijn64tab"], plainKeys := false, apart := false, laid := [("math/bits.deBruijn64tab", laid_math_bits_deBruijn64tab)] }
def CodecSharesSaid : Prop := codecSharesRow.holds Tryz.pinned (OpenSpec.ofChange codecSharesSpec)

/-- ITS FALSE NEIGHBOUR: 'it returns false'. Refute it at one input. -/
def codecSharesWrong : ChangeSpec := { name := "codecShares", fn := fun _ => fun
  | [d1, d2] => { results := [.lit (.bool false)], args := [d1, d2] }
  | _ => none }
def CodecSharesWrongFalsely : Prop := codecSharesRow.holds Tryz.pinned (OpenSpec.ofChange codecSharesWrong)

/-- 'evergreenlaw50.CodecEqual': WHATEVER THE INPUT: true; the input reads as it did. -/
def codecEqualSpec : ChangeSpec := { name := "codecEqual", fn := fun _ => fun
  | [d1, d2, d3] => { results := [.lit (.bool true)], args := [d1, d2, d3] }
  | _ => none }
def codecEqualRow : OpenClaim := { program := "ytkkjjablmmmmkaagreatdoor", sum := "02889d38b104822a667a6b0c35d3040806735a015b963a945f74959cdd55738e", func := "evergreen/evergreenlaw50.CodecEqual", spec := "codecEqual", inPlace := ["slices.overlaps[evergreen/seam.item]"], unfollowed := true, recurses := true, named := ["math/bits.deBruijn64tab"], plainKeys := false, apart := false, laid := [("math/bits.deBruijn64tab", laid_math_bits_deBruijn64tab)] }
def CodecEqualSaid : Prop := codecEqualRow.holds Tryz.pinned (OpenSpec.ofChange codecEqualSpec)

/-- ITS FALSE NEIGHBOUR: 'it returns false'. Refute it at one input. -/
def codecEqualWrong : ChangeSpec := { name := "codecEqual", fn := fun _ => fun
  | [d1, d2, d3] => { results := [.lit (.bool false)], args := [d1, d2, d3] }
  | _ => none }
def CodecEqualWrongFalsely : Prop := codecEqualRow.holds Tryz.pinned (OpenSpec.ofChange codecEqualWrong)

/-- 'evergreenlaw50.CodecReads': WHATEVER THE INPUT: true; the input reads as it did. -/
def codecReadsSpec : ChangeSpec := { name := "codecReads", fn := fun _ => fun
  | [d1, d2] => { results := [.lit (.bool true)], args := [d1, d2] }
  | _ => none }
def codecReadsRow : OpenClaim := { program := "ytkkjjablmmmmkaagreatdoor", sum := "02889d38b104822a667a6b0c35d3040806735a015b963a945f74959cdd55738e", func := "evergreen/evergreenlaw50.CodecReads", spec := "codecReads", inPlace := ["slices.overlaps[evergreen/seam.item]"], unfollowed := true, recurses := true, named := ["math/bits.deBruijn64tab"], plainKeys := false, apart := false, laid := [("math/bits.deBruijn64tab", laid_math_bits_deBruijn64tab)] }
def CodecReadsSaid : Prop := codecReadsRow.holds Tryz.pinned (OpenSpec.ofChange codecReadsSpec)

/-- ITS FALSE NEIGHBOUR: 'it returns false'. Refute it at one input. -/
def codecReadsWrong : ChangeSpec := { name := "codecReads", fn := fun _ => fun
  | [d1, d2] => { results := [.lit (.bool false)], args := [d1, d2] }
  | _ => none }
def CodecReadsWrongFalsely : Prop := codecReadsRow.holds Tryz.pinned (OpenSpec.ofChange codecReadsWrong)

/-- 'evergreenlaw50.CodecUnique': WHATEVER THE INPUT: true; the input reads as it did. -/
def codecUniqueSpec : ChangeSpec := { name := "codecUnique", fn := fun _ => fun
  | [d] => { results := [.lit (.bool true)], args := [d] }
  | _ => none }
def codecUniqueRow : OpenClaim := { program := "ytkkjjablmmmmkaagreatdoor", sum := "02889d38b104822a667a6b0c35d3040806735a015b963a945f74959cdd55738e", func := "evergreen/evergreenlaw50.CodecUnique", spec := "codecUnique", inPlace := ["slices.overlaps[evergreen/seam.item]"], unfollowed := true, recurses := true, named := ["math/bits.deBruijn64tab"], plainKeys := false, apart := false, laid := [("math/bits.deBruijn64tab", laid_math_bits_deBruijn64tab)] }
def CodecUniqueSaid : Prop := codecUniqueRow.holds Tryz.pinned (OpenSpec.ofChange codecUniqueSpec)

/-- ITS FALSE NEIGHBOUR: 'it returns false'. Refute it at one input. -/
def codecUniqueWrong : ChangeSpec := { name := "codecUnique", fn := fun _ => fun
  | [d] => { results := [.lit (.bool false)], args := [d] }
  | _ => none }
def CodecUniqueWrongFalsely : Prop := codecUniqueRow.holds Tryz.pinned (OpenSpec.ofChange codecUniqueWrong)

/-- 'evergreenlaw50.CodecReturns': WHATEVER THE INPUT: true; the input reads as it did. -/
def codecReturnsSpec : ChangeSpec := { name := "codecReturns", fn := fun _ => fun
  | [d1, d2] => { results := [.lit (.bool true)], args := [d1, d2] }
  | _ => none }
def codecReturnsRow : OpenClaim := { program := "ytkkjjablmmmmkaagreatdoor", sum := "02889d38b104822a667a6b0c35d3040806735a015b963a945f74959cdd55738e", func := "evergreen/evergreenlaw50.CodecReturns", spec := "codecReturns", inPlace := ["slices.overlaps[evergreen/seam.item]"], unfollowed := true, recurses := true, named := ["math/bits.deBruijn64tab"], plainKeys := false, apart := false, laid := [("math/bits.deBruijn64tab", laid_math_bits_deBruijn64tab)] }
def CodecReturnsSaid : Prop := codecReturnsRow.holds Tryz.pinned (OpenSpec.ofChange codecReturnsSpec)

/-- ITS FALSE NEIGHBOUR: 'it returns false'. Refute it at one input. -/
def codecReturnsWrong : ChangeSpec := { name := "codecReturns", fn := fun _ => fun
  | [d1, d2] => { results := [.lit (.bool false)], args := [d1, d2] }
  | _ => none }
def CodecReturnsWrongFalsely : Prop := codecReturnsRow.holds Tryz.pinned (OpenSpec.ofChange codecReturnsWrong)

/-- 'evergreenlaw50.CodecSpoilt': WHATEVER THE INPUT: true; the input reads as it did. -/
def codecSpoiltSpec : ChangeSpec := { name := "codecSpoilt", fn := fun _ => fun
  | [d1, d2, d3] => { results := [.lit (.bool true)], args := [d1, d2, d3] }
  | _ => none }
def codecSpoiltRow : OpenClaim := { program := "ytkkjjablmmmmkaagreatdoor", sum := "02889d38b104822a667a6b0c35d3040806735a015b963a945f74959cdd55738e", func := "evergreen/evergreenlaw50.CodecSpoilt", spec := "codecSpoilt", inPlace := ["slices.overlaps[evergreen/seam.item]"], unfollowed := true, recurses := true, named := ["math/bits.deBruijn64tab"], plainKeys := false, apart := false, laid := [("math/bits.deBruijn64tab", laid_math_bits_deBruijn64tab)] }
def CodecSpoiltSaid : Prop := codecSpoiltRow.holds Tryz.pinned (OpenSpec.ofChange codecSpoiltSpec)

/-- ITS FALSE NEIGHBOUR: 'it returns false'. Refute it at one input. -/
def codecSpoiltWrong : ChangeSpec := { name := "codecSpoilt", fn := fun _ => fun
  | [d1, d2, d3] => { results := [.lit (.bool false)], args := [d1, d2, d3] }
  | _ => none }
def CodecSpoiltWrongFalsely : Prop := codecSpoiltRow.holds Tryz.pinned (OpenSpec.ofChange codecSpoiltWrong)

/-- 'evergreenlaw50.CodecFull': WHATEVER THE INPUT: true; the input reads as it did. -/
def codecFullSpec : ChangeSpec := { name := "codecFull", fn := fun _ => fun
  | [d1, d2] => { results := [.lit (.bool true)], args := [d1, d2] }
  | _ => none }
def codecFullRow : OpenClaim := { program := "ytkkjjablmmmmkaagreatdoor", sum := "02889d38b104822a667a6b0c35d3040806735a015b963a945f74959cdd55738e", func := "evergreen/evergreenlaw50.CodecFull", spec := "codecFull", inPlace := ["slices.overlaps[evergreen/seam.item]"], unfollowed := true, recurses := true, named := ["math/bits.deBruijn64tab"], plainKeys := false, apart := false, laid := [("math/bits.deBruijn64tab", laid_math_bits_deBruijn64tab)] }
def CodecFullSaid : Prop := codecFullRow.holds Tryz.pinned (OpenSpec.ofChange codecFullSpec)

/-- ITS FALSE NEIGHBOUR: 'it returns false'. Refute it at one input. -/
def codecFullWrong : ChangeSpec := { name := "codecFull", fn := fun _ => fun
  | [d1, d2] => { results := [.lit (.bool false)], args := [d1, d2] }
  | _ => none }
def CodecFullWrongFalsely : Prop := codecFullRow.holds Tryz.pinned (OpenSpec.ofChange codecFullWrong)

/- THE SECOND FORM. 'bulk': how many values and letters a reading holds, each counted each time it is reached (what is shared counts as often as it is met; a slice's spare places count too). A statement '..UptoSaid' is the law's where the arguments, and the package variables that the reading takes, are together of bulk at most 1048576: NARROWER than '..Said'. Prove '..Said' where nothing that the law and all that it calls make is longer than what came in: it says more and counts as full. Else prove '..UptoSaid'. A law counts once. -/
mutual
def uptoBulk {H : Type} : DataW H → Nat
  | .lit (.string bytes) => bytes.length + 1
  | .lit _ => 1
  | .nil => 1
  | .ptr d => uptoBulk d + 1
  | .slice elems spare => uptoBulkAll elems + uptoBulkAll spare + 1
  | .agg parts => uptoBulkAll parts + 1
  | .iface _ d => uptoBulk d + 1
  | .map entries => uptoBulkEntries entries + 1
  | .held _ => 1
def uptoBulkAll {H : Type} : List (DataW H) → Nat
  | [] => 0
  | d :: r => uptoBulk d + uptoBulkAll r
def uptoBulkEntries {H : Type} : List (Lit × DataW H) → Nat
  | [] => 0
  | x :: r => uptoBulkEntry x + uptoBulkEntries r
def uptoBulkEntry {H : Type} : Lit × DataW H → Nat
  | (.string bytes, d) => bytes.length + uptoBulk d + 1
  | (_, d) => uptoBulk d + 1
 end
def uptoSmall : (H : Type) → List (DataW H) → Bool := fun _ ds => decide (uptoBulkAll ds ≤ 1048576)
def OpenSpec.upto (s : _root_.Go.ChangeSpec) : _root_.Go.OpenSpec := { _root_.Go.OpenSpec.ofChange s with cond := some uptoSmall }

/-- 'evergreenlaw50.CodecErrors', WHERE WHAT IT READS IS OF BULK AT MOST 1048576: true; the input reads as it did. -/
def codecErrorsUptoRow : OpenClaim := { program := "ytkkjjablmmmmkaagreatdoor", sum := "02889d38b104822a667a6b0c35d3040806735a015b963a945f74959cdd55738e", func := "evergreen/evergreenlaw50.CodecErrors", spec := "codecErrors", inPlace := ["slices.overlaps[evergreen/seam.item]"], unfollowed := true, recurses := true, named := ["math/bits.deBruijn64tab"], plainKeys := false, apart := false, laid := [("math/bits.deBruijn64tab", laid_math_bits_deBruijn64tab)], narrowed := true }
def CodecErrorsUptoSaid : Prop := codecErrorsUptoRow.holds Tryz.pinned (OpenSpec.upto codecErrorsSpec)

/-- 'evergreenlaw50.CodecEncodes', WHERE WHAT IT READS IS OF BULK AT MOST 1048576: true; the input reads as it did. -/
def codecEncodesUptoRow : OpenClaim := { program := "ytkkjjablmmmmkaagreatdoor", sum := "02889d38b104822a667a6b0c35d3040806735a015b963a945f74959cdd55738e", func := "evergreen/evergreenlaw50.CodecEncodes", spec := "codecEncodes", inPlace := ["slices.overlaps[evergreen/seam.item]"], unfollowed := true, recurses := true, named := ["math/bits.deBruijn64tab"], plainKeys := false, apart := false, laid := [("math/bits.deBruijn64tab", laid_math_bits_deBruijn64tab)], narrowed := true }
def CodecEncodesUptoSaid : Prop := codecEncodesUptoRow.holds Tryz.pinned (OpenSpec.upto codecEncodesSpec)

/-- 'evergreenlaw50.CodecShares', WHERE WHAT IT READS IS OF BULK AT MOST 1048576: true; the input reads as it did. -/
def codecSharesUptoRow : OpenClaim := { program := "ytkkjjablmmmmkaagreatdoor", sum := "02889d38b104822a667a6b0c35d3040806735a015b963a945f74959cdd55738e", func := "evergreen/evergreenlaw50.CodecShares", spec := "codecShares", inPlace := ["slices.overlaps[evergreen/seam.item]"], unfollowed := true, recurses := true, named := ["math/bits.deBruijn64tab"], plainKeys := false, apart := false, laid := [("math/bits.deBruijn64tab", laid_math_bits_deBruijn64tab)], narrowed := true }
def CodecSharesUptoSaid : Prop := codecSharesUptoRow.holds Tryz.pinned (OpenSpec.upto codecSharesSpec)

/-- 'evergreenlaw50.CodecEqual', WHERE WHAT IT READS IS OF BULK AT MOST 1048576: true; the input reads as it did. -/
def codecEqualUptoRow : OpenClaim := { program := "ytkkjjablmmmmkaagreatdoor", sum := "02889d38b104822a667a6b0c35d3040806735a015b963a945f74959cdd55738e", func := "evergreen/evergreenlaw50.CodecEqual", spec := "codecEqual", inPlace := ["slices.overlaps[evergreen/seam.item]"], unfollowed := true, recurses := true, named := ["math/bits.deBruijn64tab"], plainKeys := false, apart := false, laid := [("math/bits.deBruijn64tab", laid_math_bits_deBruijn64tab)], narrowed := true }
def CodecEqualUptoSaid : Prop := codecEqualUptoRow.holds Tryz.pinned (OpenSpec.upto codecEqualSpec)

/-- 'evergreenlaw50.CodecReads', WHERE WHAT IT READS IS OF BULK AT MOST 1048576: true; the input reads as it did. -/
def codecReadsUptoRow : OpenClaim := { program := "ytkkjjablmmmmkaagreatdoor", sum := "02889d38b104822a667a6b0c35d3040806735a015b963a945f74959cdd55738e", func := "evergreen/evergreenlaw50.CodecReads", spec := "codecReads", inPlace := ["slices.overlaps[evergreen/seam.item]"], unfollowed := true, recurses := true, named := ["math/bits.deBruijn64tab"], plainKeys := false, apart := false, laid := [("math/bits.deBruijn64tab", laid_math_bits_deBruijn64tab)], narrowed := true }
def CodecReadsUptoSaid : Prop := codecReadsUptoRow.holds Tryz.pinned (OpenSpec.upto codecReadsSpec)

/-- 'evergreenlaw50.CodecUnique', WHERE WHAT IT READS IS OF BULK AT MOST 1048576: true; the input reads as it did. -/
def codecUniqueUptoRow : OpenClaim := { program := "ytkkjjablmmmmkaagreatdoor", sum := "02889d38b104822a667a6b0c35d3040806735a015b963a945f74959cdd55738e", func := "evergreen/evergreenlaw50.CodecUnique", spec := "codecUnique", inPlace := ["slices.overlaps[evergreen/seam.item]"], unfollowed := true, recurses := true, named := ["math/bits.deBruijn64tab"], plainKeys := false, apart := false, laid := [("math/bits.deBruijn64tab", laid_math_bits_deBruijn64tab)], narrowed := true }
def CodecUniqueUptoSaid : Prop := codecUniqueUptoRow.holds Tryz.pinned (OpenSpec.upto codecUniqueSpec)

/-- 'evergreenlaw50.CodecReturns', WHERE WHAT IT READS IS OF BULK AT MOST 1048576: true; the input reads as it did. -/
def codecReturnsUptoRow : OpenClaim := { program := "ytkkjjablmmmmkaagreatdoor", sum := "02889d38b104822a667a6b0c35d3040806735a015b963a945f74959cdd55738e", func := "evergreen/evergreenlaw50.CodecReturns", spec := "codecReturns", inPlace := ["slices.overlaps[evergreen/seam.item]"], unfollowed := true, recurses := true, named := ["math/bits.deBruijn64tab"], plainKeys := false, apart := false, laid := [("math/bits.deBruijn64tab", laid_math_bits_deBruijn64tab)], narrowed := true }
def CodecReturnsUptoSaid : Prop := codecReturnsUptoRow.holds Tryz.pinned (OpenSpec.upto codecReturnsSpec)

/-- 'evergreenlaw50.CodecSpoilt', WHERE WHAT IT READS IS OF BULK AT MOST 1048576: true; the input reads as it did. -/
def codecSpoiltUptoRow : OpenClaim := { program := "ytkkjjablmmmmkaagreatdoor", sum := "02889d38b104822a667a6b0c35d3040806735a015b963a945f74959cdd55738e", func := "evergreen/evergreenlaw50.CodecSpoilt", spec := "codecSpoilt", inPlace := ["slices.overlaps[evergreen/seam.item]"], unfollowed := true, recurses := true, named := ["math/bits.deBruijn64tab"], plainKeys := false, apart := false, laid := [("math/bits.deBruijn64tab", laid_math_bits_deBruijn64tab)], narrowed := true }
def CodecSpoiltUptoSaid : Prop := codecSpoiltUptoRow.holds Tryz.pinned (OpenSpec.upto codecSpoiltSpec)

/-- 'evergreenlaw50.CodecFull', WHERE WHAT IT READS IS OF BULK AT MOST 1048576: true; the input reads as it did. -/
def codecFullUptoRow : OpenClaim := { program := "ytkkjjablmmmmkaagreatdoor", sum := "02889d38b104822a667a6b0c35d3040806735a015b963a945f74959cdd55738e", func := "evergreen/evergreenlaw50.CodecFull", spec := "codecFull", inPlace := ["slices.overlaps[evergreen/seam.item]"], unfollowed := true, recurses := true, named := ["math/bits.deBruijn64tab"], plainKeys := false, apart := false, laid := [("math/bits.deBruijn64tab", laid_math_bits_deBruijn64tab)], narrowed := true }
def CodecFullUptoSaid : Prop := codecFullUptoRow.holds Tryz.pinned (OpenSpec.upto codecFullSpec)

end Rows
end Go.Proofs.YtkkjjablmmmmkaaGreatDoor
