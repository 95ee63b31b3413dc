/- evergreen OrderRanges: for every list of texts and every text the law returns true; the input reads as it did. The tied card. Conditions: the row's own (the table of package math/bits reads as the program's text lays it; the tie is given). -/
import Derived.Test.YtlmdkaniblhdmaaDoorQROrderRanges
import Derived.SevenTiedAt
import Derived.Test.YtlmdkaniblhdmaaDoorCards
import Derived.Test.YtlmdkaniblhdmaaDoorTie
set_option linter.unusedVariables false
set_option linter.unusedSimpArgs false
namespace Go.Proofs.YtlmdkaniblhdmaaDoor
open Go
theorem orderRanges_holds : Rows.OrderRangesCardSaid :=
  Claim7.holds_tied_plain_at .later [] [.data] true (true, "acb0a4543f2826f3889ca018e8bb05e5dd798f4616e645b36718a02a9ea6f13d") true
    orderRanges_row (fun _ h => by cases h) (by kernel_rfl) (fun _ h => by cases h) orderRanges_row_tie rfl ⟨rfl, rfl⟩ (by kernel_rfl) rfl
    (fun f fn hf hfn => by
      obtain rfl : f = 13 := Option.some.inj ((show Tryd.prog.funcNamed "evergreen/evergreenlaw27.OrderRanges" = some 13 by kernel_rfl).symm.trans hf) |>.symm
      obtain rfl : fn = Tryd.f13 := (Option.some.inj (Tryd.func13.symm.trans hfn)).symm
      exact ⟨by kernel_rfl, fun j t ht => by
        rw [Tryd.params13] at ht
        have hm := Array.mem_of_getElem? ht
        have hall : (#[97, 31] : Array Nat).all (fun t => !Tryd.prog.wantsStandIn t) = true := by kernel_rfl
        have := (Array.all_eq_true_iff_forall_mem.1 hall) t hm
        have h2 : Tryd.prog.wantsStandIn t = false := by simpa using this
        exact h2⟩)
    (by kernel_rfl)
#print axioms orderRanges_holds
end Go.Proofs.YtlmdkaniblhdmaaDoor
