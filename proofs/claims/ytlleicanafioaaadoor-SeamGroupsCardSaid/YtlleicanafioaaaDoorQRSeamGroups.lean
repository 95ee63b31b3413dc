/- evergreen SeamGroups: for every three texts and all numbers of copies the law returns true; the input reads as it did. The row. Conditions: the row's own (the table of package math/bits reads as the program's text lays it). -/
import Derived.Test.YtlleicanafioaaaDoorQ47
import Derived.Test.YtlleicanafioaaaDoorQJSeamGroups
set_option linter.all false
set_option maxHeartbeats 1000000
namespace Go.Proofs.YtlleicanafioaaaDoor
open Go.ChangeShapes Go.WideShapes Go.ChangeAt Go.WideMaps Go.WideElems Go.RowKit Go.ChangeMaps Sl
set_option maxRecDepth 100000 in
theorem seamGroups_lifted (os : Os) (started : os.Started) (H : Type) (enc : TypeId × Value → H) :
  ReturnsInHanded {} Tryd.checked os 4 .any (fun w args => (Rows.seamGroupsSpec.pre enc Tryd.prog Tryd.f4 [] false w args ∧ laidMetH Tryd.prog lay w) ∧ sizedMet enc Tryd.prog Tryd.f4 (OpenSpec.ofChange Rows.seamGroupsSpec) false w args)
   (Rows.seamGroupsSpec.post enc Tryd.prog Tryd.f4 false true false false) := by
 refine returnsInHanded_of_change_and (C := Tryd.checked) (X := fun w _ => laidMetH Tryd.prog lay w) (fun _ _ _ hh h => h.of_heap hh) own started (by kernel_rfl) Tryd.func4
  (ChangeSpec.witness_shaped (enc := enc) (C := Tryd.checked) (os := os) (X := fun w _ => laidMetH Tryd.prog lay w) false (World.doorLaid Tryd.prog 400 os) #[.string ByteArray.empty, .string ByteArray.empty, .string ByteArray.empty, .int .u32 0, .int .u32 0, .int .u32 0] 8 rfl (World.shaped_of_RefB (by kernel_rfl) (by kernel_rfl)) (by kernel_rfl) (by kernel_rfl) (by kernel_rfl) (door_met os _)) ?_
 intro W base args ds gs before hval0 hW _ hsz0 hL _
 have hval : ∀ (j : Nat) t v, Tryd.f4.params[j]? = some t → args[j]? = some v → Value.okWide Tryd.prog W .any base t v := hval0
 have hW' := hW
 obtain ⟨p, q, hA0, hV, rfl, hfz, hnd⟩ := hW
 have hA : DataW.TrodAll enc Tryd.prog W 0 (fun _ => true) true Tryd.f4.params.toList args.toList ds p := hA0
 rw [Tryd.params4] at hA hval
 obtain ⟨v0, v1, v2, v3, v4, v5, d0, d1, d2, d3, d4, d5, p0, p1, p2, p3, p4, p5, rfl, rfl, rfl, h0, h1, h2, h3, h4, h5⟩ := qVv hA
 obtain ⟨rfl, rfl⟩ := trodVars_none hV
 obtain ⟨⟨⟨a0⟩⟩, rfl, rfl, rfl, hs0⟩ := open_string Tryd.underlying9 (hval 0 9 v0 rfl rfl) h0
 obtain ⟨⟨⟨a1⟩⟩, rfl, rfl, rfl, hs1⟩ := open_string Tryd.underlying9 (hval 1 9 v1 rfl rfl) h1
 obtain ⟨⟨⟨a2⟩⟩, rfl, rfl, rfl, hs2⟩ := open_string Tryd.underlying9 (hval 2 9 v2 rfl rfl) h2
 obtain ⟨a3, rfl, rfl, rfl, hs3⟩ := open_int Tryd.underlying23 (hval 3 _ v3 rfl rfl) h3
 obtain ⟨n3, rfl, b3⟩ := qSh hs3
 obtain ⟨a4, rfl, rfl, rfl, hs4⟩ := open_int Tryd.underlying23 (hval 4 _ v4 rfl rfl) h4
 obtain ⟨n4, rfl, b4⟩ := qSh hs4
 obtain ⟨a5, rfl, rfl, rfl, hs5⟩ := open_int Tryd.underlying23 (hval 5 _ v5 rfl rfl) h5
 obtain ⟨n5, rfl, b5⟩ := qSh hs5
 refine (calls_of (base_of hL) (fun E hE hB => qQd (a := a0) (b := a1) (c := a2) (i := n3) (j := n4) (k := n5) hE hB b3 b4 b5)).mono fun e W' ⟨he, hbl⟩ => ?_
 subst he
 exact ⟨_, rfl, law_post rfl hW' hbl (by kernel_rfl) (by kernel_rfl) rfl⟩
theorem seamGroups_row : Rows.SeamGroupsSaid :=
 OpenClaim.holds_of_wide 4 Tryd.f4 rfl rfl rfl rfl rfl rfl rfl ⟨rfl, rfl, rfl, rfl, rfl⟩ rfl rfl rfl rfl rfl (by kernel_rfl) Tryd.func4 seamGroups_joined
  (of_decide_eq_true (by kernel_rfl)) (by unfold Func.isWrapper; first | (rw [if_pos (by decide +kernel)]; kernel_rfl) | (rw [if_neg (by decide +kernel)]; exact ⟨rfl, rfl⟩))
  (fun os started H enc _ => seamGroups_lifted os started H enc)
end Go.Proofs.YtlleicanafioaaaDoor
