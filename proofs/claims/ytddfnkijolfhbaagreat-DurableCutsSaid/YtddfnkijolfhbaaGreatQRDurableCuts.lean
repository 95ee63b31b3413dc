/- evergreen DurableCuts: for every list of texts, every number and every list of numbers the law returns true; the input reads as it did. The call. Conditions: none. -/
import Derived.Test.YtddfnkijolfhbaaGreatQ9J
set_option linter.all false
set_option maxHeartbeats 1000000
namespace Go.Proofs.YtddfnkijolfhbaaGreat
open Go Go.ChangeShapes Go.WideShapes Go.ChangeAt Go.WideMaps Go.WideElems Go.RowKit Go.ChangeMaps Sl
set_option maxRecDepth 100000 in
theorem durableCuts_lifted (os : Os) (started : os.Started) (H : Type) (enc : TypeId × Value → H) :
  ReturnsInHanded {} Tryz.checked os 7 .any (Rows.durableCutsSpec.pre6 enc Tryz.prog Tryz.f7 [] false) (Rows.durableCutsSpec.post enc Tryz.prog Tryz.f7 false true false false) := by
 refine returnsInHanded_of_change_sized (C := Tryz.checked) own started (by kernel_rfl) Tryz.func7
  (ChangeSpec.witness6 (enc := enc) (C := Tryz.checked) false ⟨#[], #[.slice none 0 0, .int .i64 0, .slice none 0 0], []⟩ 8 (by kernel_rfl) (by kernel_rfl) (by kernel_rfl) (by kernel_rfl)) ?_
 intro W base args ds gs before hval0 hW _ hsz0 _
 have hval : ∀ (j : Nat) t v, Tryz.f7.params[j]? = some t → args[j]? = some v → Value.okWide Tryz.prog W .any base t v := hval0
 have hW' := hW
 obtain ⟨p, q, hA0, hV, rfl, hfz, hnd⟩ := hW
 have hA : DataW.TrodAll enc Tryz.prog W 0 (fun _ => true) true Tryz.f7.params.toList args.toList ds p := hA0
 rw [Tryz.params7] at hA hval
 obtain ⟨v0, v1, v2, d0, d1, d2, p0, p1, p2, rfl, rfl, rfl, h0, h1, h2⟩ := trodAll_three hA
 obtain ⟨rfl, rfl⟩ := trodVars_none hV
 obtain ⟨A0, l0, C0, rfl, rd0, n0⟩ := zAy (hval 0 _ v0 rfl rfl) h0
 obtain ⟨a1, rfl, rfl, rfl, hs1⟩ := open_int Tryz.underlying3 (hval 1 _ v1 rfl rfl) h1
 obtain ⟨A2, l2, C2, rfl, rd2, z2, n2, m2⟩ := qUu (hval 2 _ v2 rfl rfl) h2
 refine (calls_at (fun E hE hw0 => qNu (ts := l0) (at_ := a1) (ks := l2) hE (by rw [hw0]; exact rd0) (by rw [hw0]; exact rd2) m2)).mono fun e W' ⟨he, hbl⟩ => ?_
 subst he
 exact ⟨_, rfl, law_post rfl hW' hbl (by kernel_rfl) (by kernel_rfl) rfl⟩
end Go.Proofs.YtddfnkijolfhbaaGreat
