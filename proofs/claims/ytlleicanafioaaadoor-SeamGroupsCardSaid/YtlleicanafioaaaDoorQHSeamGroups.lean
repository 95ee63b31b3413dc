/- evergreen SeamGroups: for every three texts and all numbers of copies the law returns true; the input reads as it did. The tied card. Conditions: the row's own (the table of package math/bits reads as the program's text lays it; the tie is given). -/
import Derived.Test.YtlleicanafioaaaDoorQRSeamGroups
import Derived.SevenTiedAt
set_option linter.all false
set_option maxHeartbeats 1000000
namespace Go.Proofs.YtlleicanafioaaaDoor
open Go
theorem seamGroups_holds : Rows.SeamGroupsCardSaid :=
 Claim7.holds_tied_plain_at .later [] [.data] true (true, "c635d23df6bb57e51ff65c22dc29263c706e44d075f3fc0e0f0cc396b41a0caa") true
  seamGroups_row (fun _ h => by cases h) (by kernel_rfl) (fun _ h => by cases h) seamGroups_row_tie rfl ⟨rfl, rfl⟩ (by kernel_rfl) rfl
  (fun f fn hf hfn => by
   obtain rfl : f = 4 := Option.some.inj ((show Tryd.prog.funcNamed "evergreen/evergreenlaw23.SeamGroups" = some 4 by kernel_rfl).symm.trans hf) |>.symm
   obtain rfl : fn = Tryd.f4 := (Option.some.inj (Tryd.func4.symm.trans hfn)).symm
   exact ⟨by kernel_rfl, fun j t ht => by
    rw [Tryd.params4] at ht
    have hm := Array.mem_of_getElem? ht
    have hall : (#[9, 9, 9, 23, 23, 23] : Array Nat).all (fun t => !Tryd.prog.wantsStandIn t) = true := by kernel_rfl
    have := (Array.all_eq_true_iff_forall_mem.1 hall) t hm
    have h2 : Tryd.prog.wantsStandIn t = false := by simpa using this
    exact h2⟩)
  (by kernel_rfl)
#print axioms seamGroups_holds
end Go.Proofs.YtlleicanafioaaaDoor
