/- evergreen WholeSnapshots: for every list of steps and every list of writes the law returns true; the input reads as it did. The tied card. Conditions: the row's own (the table of package math/bits reads as the program's text lays it; the tie is given). -/
import Derived.Test.YtejcjelmpbkcbaaGreatDoorQRWholeSnapshots
import Derived.SevenTiedAt
set_option linter.all false
set_option maxHeartbeats 1000000
namespace Go.Proofs.YtejcjelmpbkcbaaGreatDoor
open Go
theorem wholeSnapshots_holds : Rows.WholeSnapshotsCardSaid :=
 Claim7.holds_tied_plain_at .later [] [.data] true (true, "bd8d405b6170639b49df584ac37378bebb49d897ef3380eb92fb60f50d9f52ff") true
  wholeSnapshots_row (fun _ h => by cases h) (by kernel_rfl) (fun _ h => by cases h) wholeSnapshots_row_tie rfl ⟨rfl, rfl⟩ (by kernel_rfl) rfl
  (fun f fn hf hfn => by
   obtain rfl : f = 3 := Option.some.inj ((show Tryz.prog.funcNamed "evergreen/evergreentop.WholeSnapshots" = some 3 by kernel_rfl).symm.trans hf) |>.symm
   obtain rfl : fn = Tryz.f3 := (Option.some.inj (Tryz.func3.symm.trans hfn)).symm
   exact ⟨by kernel_rfl, fun j t ht => by
    rw [Tryz.params3] at ht
    have hm := Array.mem_of_getElem? ht
    have hall : (#[22, 23] : Array Nat).all (fun t => !Tryz.prog.wantsStandIn t) = true := by kernel_rfl
    have := (Array.all_eq_true_iff_forall_mem.1 hall) t hm
    have h2 : Tryz.prog.wantsStandIn t = false := by simpa using this
    exact h2⟩)
  (by kernel_rfl)
#print axioms wholeSnapshots_holds
end Go.Proofs.YtejcjelmpbkcbaaGreatDoor
