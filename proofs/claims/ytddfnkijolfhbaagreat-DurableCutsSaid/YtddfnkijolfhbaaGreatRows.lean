/-
  No cell of these rows narrows 'for every input' (looked for: loops, veiled, ifaces, maps, wideKeys, modest, calm, conditions, laid).
  DERIVED. THE GIVEN ROWS OF THIS SEAT. 5 by the template 'for every input the law returns true; each argument reads behind the call as it read before'; 0 by the template 'total and deterministic' (their statements: YtddfnkijolfhbaaGreatTotals.lean).
  GIVEN WITH THE SEED: the statements are not yours to turn. If you find one false, say at which input.
  Laid BY PROGRAM, IN A SANDBOX (cutbox-rows.mjs): the forced cells as the released guide's own fill.sh prints them over the translation 1a97c423bfa4a913… (all of the seat's roots in one cut). By AI agents, Wed Nov 11 2026. No macro, syntax, notation, axiom, sorry.
-/
import Derived.Test.YtddfnkijolfhbaaGreatChecked
import GoSem.Claim
import GoSem.ClaimJoined
import GoSem.ClaimMapViews
import Derived.JoinedTies
import Derived.KernelRfl
namespace Go.Proofs.YtddfnkijolfhbaaGreat
/- THE CELL 'sum', in the pinned program and in every row, IS THE sha256 OF THE DUMP (.gsa) THAT YtddfnkijolfhbaaGreatProg.lean LOADS. Nothing in Lean hashes anything: it is a label: what it is worth is what the hold of that sum in a sandbox is worth. -/
noncomputable def Tryz.pinned : Pinned := { name := "ytddfnkijolfhbaagreat", sum := "1a97c423bfa4a91351a99169259bb537731f69cbf270f7016defac8caece524f", checked := Tryz.checked }
namespace Rows
def none {H : Type} : Left H := { results := [], args := [] }

/-- 'evergreenlaw49.DurableErrors': WHATEVER THE INPUT: true; the input reads as it did. -/
def durableErrorsSpec : ChangeSpec := { name := "durableErrors", fn := fun _ => fun
  | [d1, d2] => { results := [.lit (.bool true)], args := [d1, d2] }
  | _ => none }
def durableErrorsRow : OpenClaim := { program := "ytddfnkijolfhbaagreat", sum := "1a97c423bfa4a91351a99169259bb537731f69cbf270f7016defac8caece524f", func := "evergreen/evergreenlaw49.DurableErrors", spec := "durableErrors", inPlace := ["internal/reflectlite.TypeOf"], unfollowed := true, recurses := true, plainKeys := false, apart := false }
def DurableErrorsSaid : Prop := durableErrorsRow.holds Tryz.pinned (OpenSpec.ofChange durableErrorsSpec)

/-- ITS FALSE NEIGHBOUR: 'it returns false'. Refute it at one input. -/
def durableErrorsWrong : ChangeSpec := { name := "durableErrors", fn := fun _ => fun
  | [d1, d2] => { results := [.lit (.bool false)], args := [d1, d2] }
  | _ => none }
def DurableErrorsWrongFalsely : Prop := durableErrorsRow.holds Tryz.pinned (OpenSpec.ofChange durableErrorsWrong)

/-- 'evergreenlaw49.DurableSteps': WHATEVER THE INPUT: true; the input reads as it did. -/
def durableStepsSpec : ChangeSpec := { name := "durableSteps", fn := fun _ => fun
  | [d1, d2] => { results := [.lit (.bool true)], args := [d1, d2] }
  | _ => none }
def durableStepsRow : OpenClaim := { program := "ytddfnkijolfhbaagreat", sum := "1a97c423bfa4a91351a99169259bb537731f69cbf270f7016defac8caece524f", func := "evergreen/evergreenlaw49.DurableSteps", spec := "durableSteps", inPlace := ["internal/reflectlite.TypeOf"], unfollowed := true, recurses := true, plainKeys := false, apart := false }
def DurableStepsSaid : Prop := durableStepsRow.holds Tryz.pinned (OpenSpec.ofChange durableStepsSpec)

/-- ITS FALSE NEIGHBOUR: 'it returns false'. Refute it at one input. -/
def durableStepsWrong : ChangeSpec := { name := "durableSteps", fn := fun _ => fun
  | [d1, d2] => { results := [.lit (.bool false)], args := [d1, d2] }
  | _ => none }
def DurableStepsWrongFalsely : Prop := durableStepsRow.holds Tryz.pinned (OpenSpec.ofChange durableStepsWrong)

/-- 'evergreenlaw49.DurableGreat': WHATEVER THE INPUT: true; the input reads as it did. -/
def durableGreatSpec : ChangeSpec := { name := "durableGreat", fn := fun _ => fun
  | [d1, d2, d3] => { results := [.lit (.bool true)], args := [d1, d2, d3] }
  | _ => none }
def durableGreatRow : OpenClaim := { program := "ytddfnkijolfhbaagreat", sum := "1a97c423bfa4a91351a99169259bb537731f69cbf270f7016defac8caece524f", func := "evergreen/evergreenlaw49.DurableGreat", spec := "durableGreat", inPlace := ["internal/reflectlite.TypeOf"], unfollowed := true, recurses := true, plainKeys := false, apart := false }
def DurableGreatSaid : Prop := durableGreatRow.holds Tryz.pinned (OpenSpec.ofChange durableGreatSpec)

/-- ITS FALSE NEIGHBOUR: 'it returns false'. Refute it at one input. -/
def durableGreatWrong : ChangeSpec := { name := "durableGreat", fn := fun _ => fun
  | [d1, d2, d3] => { results := [.lit (.bool false)], args := [d1, d2, d3] }
  | _ => none }
def DurableGreatWrongFalsely : Prop := durableGreatRow.holds Tryz.pinned (OpenSpec.ofChange durableGreatWrong)

/-- 'evergreenlaw49.DurableSmall': WHATEVER THE INPUT: true; the input reads as it did. -/
def durableSmallSpec : ChangeSpec := { name := "durableSmall", fn := fun _ => fun
  | [d1, d2] => { results := [.lit (.bool true)], args := [d1, d2] }
  | _ => none }
def durableSmallRow : OpenClaim := { program := "ytddfnkijolfhbaagreat", sum := "1a97c423bfa4a91351a99169259bb537731f69cbf270f7016defac8caece524f", func := "evergreen/evergreenlaw49.DurableSmall", spec := "durableSmall", inPlace := ["internal/reflectlite.TypeOf"], unfollowed := true, recurses := true, plainKeys := false, apart := false }
def DurableSmallSaid : Prop := durableSmallRow.holds Tryz.pinned (OpenSpec.ofChange durableSmallSpec)

/-- ITS FALSE NEIGHBOUR: 'it returns false'. Refute it at one input. -/
def durableSmallWrong : ChangeSpec := { name := "durableSmall", fn := fun _ => fun
  | [d1, d2] => { results := [.lit (.bool false)], args := [d1, d2] }
  | _ => none }
def DurableSmallWrongFalsely : Prop := durableSmallRow.holds Tryz.pinned (OpenSpec.ofChange durableSmallWrong)

/-- 'evergreenlaw49.DurableCuts': WHATEVER THE INPUT: true; the input reads as it did. -/
def durableCutsSpec : ChangeSpec := { name := "durableCuts", fn := fun _ => fun
  | [d1, d2, d3] => { results := [.lit (.bool true)], args := [d1, d2, d3] }
  | _ => none }
def durableCutsRow : OpenClaim := { program := "ytddfnkijolfhbaagreat", sum := "1a97c423bfa4a91351a99169259bb537731f69cbf270f7016defac8caece524f", func := "evergreen/evergreenlaw49.DurableCuts", spec := "durableCuts", inPlace := ["internal/reflectlite.TypeOf"], unfollowed := true, recurses := true, plainKeys := false, apart := false }
def DurableCutsSaid : Prop := durableCutsRow.holds Tryz.pinned (OpenSpec.ofChange durableCutsSpec)

/-- ITS FALSE NEIGHBOUR: 'it returns false'. Refute it at one input. -/
def durableCutsWrong : ChangeSpec := { name := "durableCuts", fn := fun _ => fun
  | [d1, d2, d3] => { results := [.lit (.bool false)], args := [d1, d2, d3] }
  | _ => none }
def DurableCutsWrongFalsely : Prop := durableCutsRow.holds Tryz.pinned (OpenSpec.ofChange durableCutsWrong)

/- THE SECOND FORM. 'bulk': how many values and letters a reading holds, each counted each time it is reached (what is shared counts as often as it is met; a slice's spare places count too). A statement '..UptoSaid' is the law's where the arguments, and the package variables that the reading takes, are together of bulk at most 1048576: NARROWER than '..Said'. Prove '..Said' where nothing that the law and all that it calls make is longer than what came in: it says more and counts as full. Else prove '..UptoSaid'. A law counts once. -/
mutual
def uptoBulk {H : Type} : DataW H → Nat
  | .lit (.string bytes) => bytes.length + 1
  | .lit _ => 1
  | .nil => 1
  | .ptr d => uptoBulk d + 1
  | .slice elems spare => uptoBulkAll elems + uptoBulkAll spare + 1
  | .agg parts => uptoBulkAll parts + 1
  | .iface _ d => uptoBulk d + 1
  | .map entries => uptoBulkEntries entries + 1
  | .held _ => 1
def uptoBulkAll {H : Type} : List (DataW H) → Nat
  | [] => 0
  | d :: r => uptoBulk d + uptoBulkAll r
def uptoBulkEntries {H : Type} : List (Lit × DataW H) → Nat
  | [] => 0
  | x :: r => uptoBulkEntry x + uptoBulkEntries r
def uptoBulkEntry {H : Type} : Lit × DataW H → Nat
  | (.string bytes, d) => bytes.length + uptoBulk d + 1
  | (_, d) => uptoBulk d + 1
 end
def uptoSmall : (H : Type) → List (DataW H) → Bool := fun _ ds => decide (uptoBulkAll ds ≤ 1048576)
def OpenSpec.upto (s : _root_.Go.ChangeSpec) : _root_.Go.OpenSpec := { _root_.Go.OpenSpec.ofChange s with cond := some uptoSmall }

/-- 'evergreenlaw49.DurableErrors', WHERE WHAT IT READS IS OF BULK AT MOST 1048576: true; the input reads as it did. -/
def durableErrorsUptoRow : OpenClaim := { program := "ytddfnkijolfhbaagreat", sum := "1a97c423bfa4a91351a99169259bb537731f69cbf270f7016defac8caece524f", func := "evergreen/evergreenlaw49.DurableErrors", spec := "durableErrors", inPlace := ["internal/reflectlite.TypeOf"], unfollowed := true, recurses := true, plainKeys := false, apart := false, narrowed := true }
def DurableErrorsUptoSaid : Prop := durableErrorsUptoRow.holds Tryz.pinned (OpenSpec.upto durableErrorsSpec)

/-- 'evergreenlaw49.DurableSteps', WHERE WHAT IT READS IS OF BULK AT MOST 1048576: true; the input reads as it did. -/
def durableStepsUptoRow : OpenClaim := { program := "ytddfnkijolfhbaagreat", sum := "1a97c423bfa4a91351a99169259bb537731f69cbf270f7016defac8caece524f", func := "evergreen/evergreenlaw49.DurableSteps", spec := "durableSteps", inPlace := ["internal/reflectlite.TypeOf"], unfollowed := true, recurses := true, plainKeys := false, apart := false, narrowed := true }
def DurableStepsUptoSaid : Prop := durableStepsUptoRow.holds Tryz.pinned (OpenSpec.upto durableStepsSpec)

/-- 'evergreenlaw49.DurableGreat', WHERE WHAT IT READS IS OF BULK AT MOST 1048576: true; the input reads as it did. -/
def durableGreatUptoRow : OpenClaim := { program := "ytddfnkijolfhbaagreat", sum := "1a97c423bfa4a91351a99169259bb537731f69cbf270f7016defac8caece524f", func := "evergreen/evergreenlaw49.DurableGreat", spec := "durableGreat", inPlace := ["internal/reflectlite.TypeOf"], unfollowed := true, recurses := true, plainKeys := false, apart := false, narrowed := true }
def DurableGreatUptoSaid : Prop := durableGreatUptoRow.holds Tryz.pinned (OpenSpec.upto durableGreatSpec)

/-- 'evergreenlaw49.DurableSmall', WHERE WHAT IT READS IS OF BULK AT MOST 1048576: true; the input reads as it did. -/
def durableSmallUptoRow : OpenClaim := { program := "ytddfnkijolfhbaagreat", sum := "1a97c423bfa4a91351a99169259bb537731f69cbf270f7016defac8caece524f", func := "evergreen/evergreenlaw49.DurableSmall", spec := "durableSmall", inPlace := ["internal/reflectlite.TypeOf"], unfollowed := true, recurses := true, plainKeys := false, apart := false, narrowed := true }
def DurableSmallUptoSaid : Prop := durableSmallUptoRow.holds Tryz.pinned (OpenSpec.upto durableSmallSpec)

/-- 'evergreenlaw49.DurableCuts', WHERE WHAT IT READS IS OF BULK AT MOST 1048576: true; the input reads as it did. -/
def durableCutsUptoRow : OpenClaim := { program := "ytddfnkijolfhbaagreat", sum := "1a97c423bfa4a91351a99169259bb537731f69cbf270f7016defac8caece524f", func := "evergreen/evergreenlaw49.DurableCuts", spec := "durableCuts", inPlace := ["internal/reflectlite.TypeOf"], unfollowed := true, recurses := true, plainKeys := false, apart := false, narrowed := true }
def DurableCutsUptoSaid : Prop := durableCutsUptoRow.holds Tryz.pinned (OpenSpec.upto durableCutsSpec)

end Rows
end Go.Proofs.YtddfnkijolfhbaaGreat
