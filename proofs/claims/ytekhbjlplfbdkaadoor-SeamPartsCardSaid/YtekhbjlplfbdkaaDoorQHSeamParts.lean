/- evergreen SeamParts: for every text and every list of cuts the law returns true; the input reads as it did. The tied card. Conditions: the row's own (the table of package math/bits reads as the program's text lays it; the tie is given). -/
import Derived.Test.YtekhbjlplfbdkaaDoorQRSeamParts
import Derived.SevenTiedAt
import Derived.Test.YtekhbjlplfbdkaaDoorCards
import Derived.Test.YtekhbjlplfbdkaaDoorTie
set_option linter.unusedVariables false
set_option linter.unusedSimpArgs false
namespace Go.Proofs.YtekhbjlplfbdkaaDoor
open Go
theorem seamParts_holds : Rows.SeamPartsCardSaid :=
  Claim7.holds_tied_plain_at .later [] [.data] true (true, "96dc69b25fa874c8c3efc3d730a3a825d7b41be6b55ea3e2836dbdf868df4e7d") true
    seamParts_row (fun _ h => by cases h) (by kernel_rfl) (fun _ h => by cases h) seamParts_row_tie rfl ⟨rfl, rfl⟩ (by kernel_rfl) rfl
    (fun f fn hf hfn => by
      obtain rfl : f = 5 := Option.some.inj ((show Tryd.prog.funcNamed "evergreen/evergreenlaw23.SeamParts" = some 5 by kernel_rfl).symm.trans hf) |>.symm
      obtain rfl : fn = Tryd.f5 := (Option.some.inj (Tryd.func5.symm.trans hfn)).symm
      exact ⟨by kernel_rfl, fun j t ht => by
        rw [Tryd.params5] at ht
        have hm := Array.mem_of_getElem? ht
        have hall : (#[9, 64] : Array Nat).all (fun t => !Tryd.prog.wantsStandIn t) = true := by kernel_rfl
        have := (Array.all_eq_true_iff_forall_mem.1 hall) t hm
        have h2 : Tryd.prog.wantsStandIn t = false := by simpa using this
        exact h2⟩)
    (by kernel_rfl)
#print axioms seamParts_holds
end Go.Proofs.YtekhbjlplfbdkaaDoor
