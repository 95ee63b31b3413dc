/- evergreen OrderErrors: for every text and every ID the law returns true; the input reads as it did. The tied card. Conditions: the row's own (the table of package math/bits reads as the program's text lays it; the tie is given). -/
import Derived.Test.YtoenonlkdmdlcaaGreatDoorQROrderErrors
import Derived.SevenTiedAt
import Derived.Test.YtoenonlkdmdlcaaGreatDoorCards
import Derived.Test.YtoenonlkdmdlcaaGreatDoorTie
set_option linter.unusedVariables false
set_option linter.unusedSimpArgs false
namespace Go.Proofs.YtoenonlkdmdlcaaGreatDoor
open Go
theorem orderErrors_holds : Rows.OrderErrorsCardSaid :=
  Claim7.holds_tied_plain_at .later [] [.data] true (true, "75e4f5cc23beee7cda3e7d71d925da3ead8a8d55760440fe1d472afae072da85") true
    orderErrors_row (fun _ h => by cases h) (by kernel_rfl) (fun _ h => by cases h) orderErrors_row_tie rfl ⟨rfl, rfl⟩ (by kernel_rfl) rfl
    (fun f fn hf hfn => by
      obtain rfl : f = 3 := Option.some.inj ((show Tryz.prog.funcNamed "evergreen/evergreenlaw27.OrderErrors" = some 3 by kernel_rfl).symm.trans hf) |>.symm
      obtain rfl : fn = Tryz.f3 := (Option.some.inj (Tryz.func3.symm.trans hfn)).symm
      exact ⟨by kernel_rfl, fun j t ht => by
        rw [Tryz.params3] at ht
        have hm := Array.mem_of_getElem? ht
        have hall : (#[22, 23] : Array Nat).all (fun t => !Tryz.prog.wantsStandIn t) = true := by kernel_rfl
        have := (Array.all_eq_true_iff_forall_mem.1 hall) t hm
        have h2 : Tryz.prog.wantsStandIn t = false := by simpa using this
        exact h2⟩)
    (by kernel_rfl)
#print axioms orderErrors_holds
end Go.Proofs.YtoenonlkdmdlcaaGreatDoor
