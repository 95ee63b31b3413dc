/- evergreen WholeCodec: for every list of steps the law returns true; the input reads as it did. The tied card. Conditions: the row's own (the table of package math/bits reads as the program's text lays it; the tie is given). -/
import Derived.Test.YtlmpojkmeglepaaGreatDoorQRWholeCodec
import Derived.SevenTiedAt
set_option linter.all false
set_option maxHeartbeats 1000000
namespace Go.Proofs.YtlmpojkmeglepaaGreatDoor
open Go
theorem wholeCodec_holds : Rows.WholeCodecCardSaid :=
 Claim7.holds_tied_plain_at .later [] [.data] true (true, "97d8fa4e7da631e164aeac1eb76014f2be167ad6a6ad7fd1b7b0c8eac4f02351") true
  wholeCodec_row (fun _ h => by cases h) (by kernel_rfl) (fun _ h => by cases h) wholeCodec_row_tie rfl ⟨rfl, rfl⟩ (by kernel_rfl) rfl
  (fun f fn hf hfn => by
   obtain rfl : f = 3 := Option.some.inj ((show Tryz.prog.funcNamed "evergreen/evergreentop.WholeCodec" = some 3 by kernel_rfl).symm.trans hf) |>.symm
   obtain rfl : fn = Tryz.f3 := (Option.some.inj (Tryz.func3.symm.trans hfn)).symm
   exact ⟨by kernel_rfl, fun j t ht => by
    rw [Tryz.params3] at ht
    have hm := Array.mem_of_getElem? ht
    have hall : (#[22] : Array Nat).all (fun t => !Tryz.prog.wantsStandIn t) = true := by kernel_rfl
    have := (Array.all_eq_true_iff_forall_mem.1 hall) t hm
    have h2 : Tryz.prog.wantsStandIn t = false := by simpa using this
    exact h2⟩)
  (by kernel_rfl)
#print axioms wholeCodec_holds
end Go.Proofs.YtlmpojkmeglepaaGreatDoor
