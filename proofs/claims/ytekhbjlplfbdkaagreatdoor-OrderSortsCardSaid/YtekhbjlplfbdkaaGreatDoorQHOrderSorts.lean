/- evergreen OrderSorts: for every list of texts the law returns true; the input reads as it did. The tied card. Conditions: the row's own (the table of package math/bits reads as the program's text lays it; the tie is given). -/
import Derived.Test.YtekhbjlplfbdkaaGreatDoorQROrderSorts
import Derived.SevenTiedAt
import Derived.Test.YtekhbjlplfbdkaaGreatDoorCards
import Derived.Test.YtekhbjlplfbdkaaGreatDoorTie
set_option linter.unusedVariables false
set_option linter.unusedSimpArgs false
namespace Go.Proofs.YtekhbjlplfbdkaaGreatDoor
open Go
theorem orderSorts_holds : Rows.OrderSortsCardSaid :=
  Claim7.holds_tied_plain_at .later [] [.data] true (true, "f89addf672b0b9d2af8b41c07c9148bcca85d4b8aa9ab44686e1b276e5f806b9") false
    orderSorts_row (fun _ h => by cases h) (by kernel_rfl) (fun _ h => by cases h) orderSorts_row_tie rfl ⟨rfl, rfl⟩ (by kernel_rfl) rfl
    (fun f fn hf hfn => by
      obtain rfl : f = 4 := Option.some.inj ((show Tryz.prog.funcNamed "evergreen/evergreenlaw27.OrderSorts" = some 4 by kernel_rfl).symm.trans hf) |>.symm
      obtain rfl : fn = Tryz.f4 := (Option.some.inj (Tryz.func4.symm.trans hfn)).symm
      exact ⟨by kernel_rfl, fun j t ht => by
        rw [Tryz.params4] at ht
        have hm := Array.mem_of_getElem? ht
        have hall : (#[46] : Array Nat).all (fun t => !Tryz.prog.wantsStandIn t) = true := by kernel_rfl
        have := (Array.all_eq_true_iff_forall_mem.1 hall) t hm
        have h2 : Tryz.prog.wantsStandIn t = false := by simpa using this
        exact h2⟩)
    (by kernel_rfl)
#print axioms orderSorts_holds
end Go.Proofs.YtekhbjlplfbdkaaGreatDoor
