/- evergreen SeamCosts: for every two texts and all numbers of copies the law returns true; the input reads as it did. The tied card. Conditions: the row's own (the table of package math/bits reads as the program's text lays it; the tie is given). -/
import Derived.Test.YtekhbjlplfbdkaaGreatDoorQRSeamCosts
import Derived.SevenTiedAt
import Derived.Test.YtekhbjlplfbdkaaGreatDoorCards
import Derived.Test.YtekhbjlplfbdkaaGreatDoorTie
set_option linter.unusedVariables false
set_option linter.unusedSimpArgs false
namespace Go.Proofs.YtekhbjlplfbdkaaGreatDoor
open Go
theorem seamCosts_holds : Rows.SeamCostsCardSaid :=
  Claim7.holds_tied_plain_at .later [] [.data] true (true, "f89addf672b0b9d2af8b41c07c9148bcca85d4b8aa9ab44686e1b276e5f806b9") false
    seamCosts_row (fun _ h => by cases h) (by kernel_rfl) (fun _ h => by cases h) seamCosts_row_tie rfl ⟨rfl, rfl⟩ (by kernel_rfl) rfl
    (fun f fn hf hfn => by
      obtain rfl : f = 3 := Option.some.inj ((show Tryz.prog.funcNamed "evergreen/evergreenlaw23.SeamCosts" = some 3 by kernel_rfl).symm.trans hf) |>.symm
      obtain rfl : fn = Tryz.f3 := (Option.some.inj (Tryz.func3.symm.trans hfn)).symm
      exact ⟨by kernel_rfl, fun j t ht => by
        rw [Tryz.params3] at ht
        have hm := Array.mem_of_getElem? ht
        have hall : (#[9, 9, 5, 5] : Array Nat).all (fun t => !Tryz.prog.wantsStandIn t) = true := by kernel_rfl
        have := (Array.all_eq_true_iff_forall_mem.1 hall) t hm
        have h2 : Tryz.prog.wantsStandIn t = false := by simpa using this
        exact h2⟩)
    (by kernel_rfl)
#print axioms seamCosts_holds
end Go.Proofs.YtekhbjlplfbdkaaGreatDoor
