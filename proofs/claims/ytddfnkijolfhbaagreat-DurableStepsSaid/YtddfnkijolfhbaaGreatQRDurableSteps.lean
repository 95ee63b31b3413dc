/- evergreen DurableSteps: for every list of names with texts and every list of numbers the law returns true; the input reads as it did. The call. Conditions: none. -/
import Derived.Test.YtddfnkijolfhbaaGreatQ9G
set_option linter.all false
set_option maxHeartbeats 1000000
namespace Go.Proofs.YtddfnkijolfhbaaGreat
open Go Go.ChangeShapes Go.WideShapes Go.ChangeAt Go.WideMaps Go.WideElems Go.RowKit Go.ChangeMaps Sl
set_option maxRecDepth 100000 in
theorem durableSteps_lifted (os : Os) (started : os.Started) (H : Type) (enc : TypeId × Value → H) :
  ReturnsInHanded {} Tryz.checked os 4 .any (Rows.durableStepsSpec.pre6 enc Tryz.prog Tryz.f4 [] false) (Rows.durableStepsSpec.post enc Tryz.prog Tryz.f4 false true false false) := by
 refine returnsInHanded_of_change_sized (C := Tryz.checked) own started (by kernel_rfl) Tryz.func4
  (ChangeSpec.witness6 (enc := enc) (C := Tryz.checked) false ⟨#[], #[.slice none 0 0, .slice none 0 0], []⟩ 8 (by kernel_rfl) (by kernel_rfl) (by kernel_rfl) (by kernel_rfl)) ?_
 intro W base args ds gs before hval0 hW _ hsz0 _
 have hval : ∀ (j : Nat) t v, Tryz.f4.params[j]? = some t → args[j]? = some v → Value.okWide Tryz.prog W .any base t v := hval0
 have hW' := hW
 obtain ⟨p, q, hA0, hV, rfl, hfz, hnd⟩ := hW
 have hA : DataW.TrodAll enc Tryz.prog W 0 (fun _ => true) true Tryz.f4.params.toList args.toList ds p := hA0
 rw [Tryz.params4] at hA hval
 obtain ⟨v0, v1, d0, d1, p0, p1, rfl, rfl, rfl, h0, h1⟩ := trodAll_two hA
 obtain ⟨rfl, rfl⟩ := trodVars_none hV
 obtain ⟨A0, l0, C0, rfl, rd0, n0⟩ := qZr (hval 0 _ v0 rfl rfl) h0
 obtain ⟨A1, l1, C1, rfl, rd1, z1, n1⟩ := qTn (hval 1 _ v1 rfl rfl) h1
 refine (qUc (fun E hE hw0 => qLd (l := l0) (zs := l1) hE (by rw [hw0]; exact rd0) n0 (by rw [hw0]; exact rd1) n1)).mono fun e W' ⟨he, hbl⟩ => ?_
 subst he
 exact ⟨_, rfl, qUl rfl hW' hbl (by kernel_rfl) (by kernel_rfl) rfl⟩
end Go.Proofs.YtddfnkijolfhbaaGreat
