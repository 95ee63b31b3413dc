/- evergreen BlockdiffComposes: for every three texts the law returns true; the input reads as it did. The row. Conditions: the row's own (the table of package math/bits reads as the program's text lays it). -/
import Derived.Test.YtblljbllmnbiaaaGreatDoorQ96
import Derived.Test.YtblljbllmnbiaaaGreatDoorQJBlockdiffComposes
set_option linter.all false
set_option maxHeartbeats 1000000
namespace Go.Proofs.YtblljbllmnbiaaaGreatDoor
open Go.ChangeShapes Go.WideShapes Go.ChangeAt Go.WideMaps Go.WideElems Go.RowKit Go.ChangeMaps Sl
set_option maxRecDepth 100000 in
theorem blockdiffComposes_lifted (os : Os) (started : os.Started) (H : Type) (enc : TypeId × Value → H) :
  ReturnsInHanded {} Tryz.checked os 7 .any (fun w args => (Rows.blockdiffComposesSpec.pre enc Tryz.prog Tryz.f7 [] false w args ∧ laidMetH Tryz.prog lay w) ∧ sizedMet enc Tryz.prog Tryz.f7 (OpenSpec.ofChange Rows.blockdiffComposesSpec) false w args)
   (Rows.blockdiffComposesSpec.post enc Tryz.prog Tryz.f7 false true false false) := by
 refine returnsInHanded_of_change_and (C := Tryz.checked) (X := fun w _ => laidMetH Tryz.prog lay w) (fun _ _ _ hh h => h.of_heap hh) own started (by kernel_rfl) Tryz.func7
  (ChangeSpec.witness_shaped (enc := enc) (C := Tryz.checked) (os := os) (X := fun w _ => laidMetH Tryz.prog lay w) false (World.doorLaid Tryz.prog 400 os) #[.slice none 0 0, .slice none 0 0, .slice none 0 0] 8 rfl (World.shaped_of_RefB (by kernel_rfl) (by kernel_rfl)) (by kernel_rfl) (by kernel_rfl) (by kernel_rfl) (qNs os _)) ?_
 intro W base args ds gs before hval0 hW _ hsz0 hL _
 have hval : ∀ (j : Nat) t v, Tryz.f7.params[j]? = some t → args[j]? = some v → Value.okWide Tryz.prog W .any base t v := hval0
 have hW' := hW
 obtain ⟨p, q, hA0, hV, rfl, hfz, hnd⟩ := hW
 have hA : DataW.TrodAll enc Tryz.prog W 0 (fun _ => true) true Tryz.f7.params.toList args.toList ds p := hA0
 have hsz : (DataW.weightsEach Tryz.prog (Tryz.f7.params.toList ++ Rows.blockdiffComposesSpec.plain.varTypes Tryz.prog) (ds ++ gs)).all (· ≤ reachBytes) = true := hsz0
 rw [Tryz.params7] at hA hval hsz
 obtain ⟨v0, v1, v2, d0, d1, d2, p0, p1, p2, rfl, rfl, rfl, h0, h1, h2⟩ := trodAll_three hA
 obtain ⟨rfl, rfl⟩ := trodVars_none hV
 obtain ⟨a0, rfl, ok0⟩ := rO (hval 0 _ v0 rfl rfl) h0 (fun n hn => by simpa using List.all_eq_true.1 hsz n (DataW.weights_mem_each (j := 0) rfl rfl n hn))
 obtain ⟨a1, rfl, ok1⟩ := rO (hval 1 _ v1 rfl rfl) h1 (fun n hn => by simpa using List.all_eq_true.1 hsz n (DataW.weights_mem_each (j := 1) rfl rfl n hn))
 obtain ⟨a2, rfl, ok2⟩ := rO (hval 2 _ v2 rfl rfl) h2 (fun n hn => by simpa using List.all_eq_true.1 hsz n (DataW.weights_mem_each (j := 2) rfl rfl n hn))
 refine (qNe (qRy hL) (fun E hE hw0 hB => tK hE hB (by rw [hw0]; exact ok0) (by rw [hw0]; exact ok1) (by rw [hw0]; exact ok2))).mono fun e W' ⟨he, hbl⟩ => ?_
 subst he
 exact ⟨_, rfl, qOd rfl hW' hbl (by kernel_rfl) (by kernel_rfl) rfl⟩
theorem blockdiffComposes_row : Rows.BlockdiffComposesSaid :=
 OpenClaim.holds_of_wide 7 Tryz.f7 rfl rfl rfl rfl rfl rfl rfl ⟨rfl, rfl, rfl, rfl, rfl⟩ rfl rfl rfl rfl rfl (by kernel_rfl) Tryz.func7 blockdiffComposes_joined
  (of_decide_eq_true (by kernel_rfl)) (by unfold Func.isWrapper; first | (rw [if_pos (by decide +kernel)]; kernel_rfl) | (rw [if_neg (by decide +kernel)]; exact ⟨rfl, rfl⟩))
  (fun os started H enc _ => blockdiffComposes_lifted os started H enc)
end Go.Proofs.YtblljbllmnbiaaaGreatDoor
