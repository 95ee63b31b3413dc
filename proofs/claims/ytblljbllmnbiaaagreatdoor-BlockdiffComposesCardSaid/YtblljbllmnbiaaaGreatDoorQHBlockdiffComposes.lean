/- evergreen BlockdiffComposes: for every three texts the law returns true; the input reads as it did. The tied card. Conditions: the row's own (the table of package math/bits reads as the program's text lays it; the tie is given). -/
import Derived.Test.YtblljbllmnbiaaaGreatDoorQRBlockdiffComposes
import Derived.SevenTiedAt
set_option linter.all false
set_option maxHeartbeats 1000000
namespace Go.Proofs.YtblljbllmnbiaaaGreatDoor
open Go
theorem blockdiffComposes_holds : Rows.BlockdiffComposesCardSaid :=
 Claim7.holds_tied_plain_at .later [] [.data] true (true, "e32db54c7c9887906c9732668f48e67a6486480502fef6d0f6aee2d1ac9da316") true
  blockdiffComposes_row (fun _ h => by cases h) (by kernel_rfl) (fun _ h => by cases h) blockdiffComposes_row_tie rfl ⟨rfl, rfl⟩ (by kernel_rfl) rfl
  (fun f fn hf hfn => by
   obtain rfl : f = 7 := Option.some.inj ((show Tryz.prog.funcNamed "evergreen/evergreenlaw42.BlockdiffComposes" = some 7 by kernel_rfl).symm.trans hf) |>.symm
   obtain rfl : fn = Tryz.f7 := (Option.some.inj (Tryz.func7.symm.trans hfn)).symm
   exact ⟨by kernel_rfl, fun j t ht => by
    rw [Tryz.params7] at ht
    have hm := Array.mem_of_getElem? ht
    have hall : (#[22, 22, 22] : Array Nat).all (fun t => !Tryz.prog.wantsStandIn t) = true := by kernel_rfl
    have := (Array.all_eq_true_iff_forall_mem.1 hall) t hm
    have h2 : Tryz.prog.wantsStandIn t = false := by simpa using this
    exact h2⟩)
  (by kernel_rfl)
#print axioms blockdiffComposes_holds
end Go.Proofs.YtblljbllmnbiaaaGreatDoor
