/- evergreen CodecFull: for every list of names with texts and every number the law returns true; the input reads as it did. The tied card. Conditions: the row's own (the table of package math/bits reads as the program's text lays it; the tie is given). -/
import Derived.Test.YtkkjjablmmmmkaaGreatDoorQRCodecFull
import Derived.SevenTiedAt
set_option linter.all false
namespace Go.Proofs.YtkkjjablmmmmkaaGreatDoor
open Go
theorem codecFull_holds : Rows.CodecFullCardSaid :=
 Claim7.holds_tied_plain_at .later [] [.data] true (true, "a2d3e7cd88ccad8d7a5e8db26ca76be353a49f083f821895c60b79d3bcc730ac") true
  codecFull_row (fun _ h => by cases h) (by kernel_rfl) (fun _ h => by cases h) codecFull_row_tie rfl ⟨rfl, rfl⟩ (by kernel_rfl) rfl
  (fun f fn hf hfn => by
   obtain rfl : f = 11 := Option.some.inj ((show Tryz.prog.funcNamed "evergreen/evergreenlaw50.CodecFull" = some 11 by kernel_rfl).symm.trans hf) |>.symm
   obtain rfl : fn = Tryz.f11 := (Option.some.inj (Tryz.func11.symm.trans hfn)).symm
   exact ⟨by kernel_rfl, fun j t ht => by
    rw [Tryz.params11] at ht
    have hm := Array.mem_of_getElem? ht
    have hall : (#[43, 5] : Array Nat).all (fun t => !Tryz.prog.wantsStandIn t) = true := by kernel_rfl
    have := (Array.all_eq_true_iff_forall_mem.1 hall) t hm
    have h2 : Tryz.prog.wantsStandIn t = false := by simpa using this
    exact h2⟩)
  (by kernel_rfl)
#print axioms codecFull_holds
end Go.Proofs.YtkkjjablmmmmkaaGreatDoor
