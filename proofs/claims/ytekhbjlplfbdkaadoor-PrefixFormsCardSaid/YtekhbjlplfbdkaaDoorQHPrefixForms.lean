/- evergreen PrefixForms: for every list of Makes and all IDs the law returns true; the input reads as it did. The tied card. Conditions: the row's own (the table of package math/bits reads as the program's text lays it; the tie is given). -/
import Derived.Test.YtekhbjlplfbdkaaDoorQRPrefixForms
import Derived.SevenTiedAt
import Derived.Test.YtekhbjlplfbdkaaDoorCards
import Derived.Test.YtekhbjlplfbdkaaDoorTie
set_option linter.unusedVariables false
set_option linter.unusedSimpArgs false
namespace Go.Proofs.YtekhbjlplfbdkaaDoor
open Go
theorem prefixForms_holds : Rows.PrefixFormsCardSaid :=
  Claim7.holds_tied_plain_at .later [] [.data] true (true, "96dc69b25fa874c8c3efc3d730a3a825d7b41be6b55ea3e2836dbdf868df4e7d") true
    prefixForms_row (fun _ h => by cases h) (by kernel_rfl) (fun _ h => by cases h) prefixForms_row_tie rfl ⟨rfl, rfl⟩ (by kernel_rfl) rfl
    (fun f fn hf hfn => by
      obtain rfl : f = 3 := Option.some.inj ((show Tryd.prog.funcNamed "evergreen/evergreenlaw26.PrefixForms" = some 3 by kernel_rfl).symm.trans hf) |>.symm
      obtain rfl : fn = Tryd.f3 := (Option.some.inj (Tryd.func3.symm.trans hfn)).symm
      exact ⟨by kernel_rfl, fun j t ht => by
        rw [Tryd.params3] at ht
        have hm := Array.mem_of_getElem? ht
        have hall : (#[22, 3, 3] : Array Nat).all (fun t => !Tryd.prog.wantsStandIn t) = true := by kernel_rfl
        have := (Array.all_eq_true_iff_forall_mem.1 hall) t hm
        have h2 : Tryd.prog.wantsStandIn t = false := by simpa using this
        exact h2⟩)
    (by kernel_rfl)
#print axioms prefixForms_holds
end Go.Proofs.YtekhbjlplfbdkaaDoor
