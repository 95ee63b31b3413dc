import Derived.Test.YtlleicanafioaaaDoorQ04
import Derived.Carry
import Derived.ChangeSame
import Derived.ChangeVars
import Derived.JoinedOf
import Derived.LaidHandle
import Derived.LaidLaws
import Derived.LaidMore
import Derived.Lib.LaidTab
import Derived.MakeChecks
import Derived.OpenShut
import Derived.ProofKit
import Derived.RowKit
import Derived.RowKitTokens
import Derived.Stop.Joined
import Derived.Test.YtlleicanafioaaaDoorCards
import Derived.Test.YtlleicanafioaaaDoorRows
import Derived.Test.YtlleicanafioaaaDoorTie
set_option linter.all false
set_option maxHeartbeats 1000000
namespace Go.Proofs.YtlleicanafioaaaDoor
open Go.ChangeShapes Go.WideShapes Go.RowKit Sl
theorem own : ownKnob Tryd.prog.godebug = none := by kernel_rfl
theorem laidOut : laidOutB Tryd.prog = true := by kernel_rfl
theorem gTab : Tryd.prog.globalNamed "math/bits.deBruijn64tab" = some 0 := by kernel_rfl
theorem boolT : Tryd.prog.underlying 4 = some .bool := by kernel_rfl
abbrev lay : List (String × DataW Unit) := [("math/bits.deBruijn64tab", Rows.laid_math_bits_deBruijn64tab)]
theorem door_met (os : Os) (args : Array Value) : laidMetH Tryd.prog lay ((World.doorLaid Tryd.prog 400 os).forCall (fun _ _ => 0) ⟨#[], args, []⟩).memory :=
 laidMetH_of_parts3 (fuel := 8) (laidMet_of_run' 8 (by kernel_rfl) (by kernel_rfl)) (by kernel_rfl) (by kernel_rfl)
theorem base_of {W : World} (h : laidMetH Tryd.prog lay W) : Base W := by
 rw [MakeChecks.laidMetH_plain _ _ _ (by kernel_rfl)] at h
 obtain ⟨t, ht⟩ : ∃ t, (Tryd.prog.globals[0]?).map (·.type) = some t := ⟨_, rfl⟩
 have hT := Lib.tabIs_of_head (e := 5) (n := 64) gTab ht (by cases ht; kernel_rfl) (by kernel_rfl) (by kernel_rfl) (by cases ht; kernel_rfl) (show laidMet Tryd.prog [("math/bits.deBruijn64tab", Lib.tabData .u8 (Lib.deBruijn64tab.map fun (n : Nat) => (n : Int)))] W from h)
 have hc : TabAt W := fun j hj => by
  have := hT.cell gTab j (by simpa using hj)
  rw [this]
  simp [List.getD, hj]
 refine ⟨hc, ?_⟩
 have h0 := hc 0 (by decide)
 exact Nat.pos_of_ne_zero fun e => by
  have : W.heap[0]? = none := Array.getElem?_eq_none (by omega)
  simp [World.cell?, this] at h0
theorem qSb {H : Type} {enc : TypeId × Value → H} {P : Program} (hlo : laidOutB P = true) {W W' : World} (hb : Below W.heap.size W W') : ∀ (ts : List TypeId) (vs : List Value) (ds : List (DataW H)) (ps : List MemPlace),
  (ts.all fun t => P.readableRec t && decide (t < P.types.size)) = true → (∀ x ∈ ps, x.block < W.heap.size) → DataW.TrodAll enc P W 0 (fun _ => true) true ts vs ds ps → DataW.TrodAll enc P W' 0 (fun b => decide (b < W.heap.size)) true ts vs ds ps := by
 intro ts
 induction ts with
 | nil =>
  intro vs ds ps _ _ h
  cases vs <;> cases ds <;> first | exact h | exact h.elim
 | cons t ts ih =>
  intro vs ds ps ht hl h
  cases vs with
  | nil => cases ds <;> exact h.elim
  | cons v vs =>
   cases ds with
   | nil => exact h.elim
   | cons d ds =>
    obtain ⟨p, q, h1, h2, rfl⟩ := h
    simp only [List.all_cons, Bool.and_eq_true, decide_eq_true_eq] at ht
    exact ⟨p, q, Below.trod hlo ht.1.1 ht.1.2 h1 hb (fun x hx => hl x (List.mem_append_left _ hx)), ih vs ds q ht.2 (fun x hx => hl x (List.mem_append_right _ hx)) h2, rfl⟩
theorem law_post {H : Type} {enc : TypeId × Value → H} {f : Func} {s : ChangeSpec} {W W' : World} {args : Array Value} {ds : List (DataW H)} {before : List MemPlace} (hv : s.vars = [])
  (hW : DataW.Whole enc Tryd.prog f.params.toList s.vars false W args.toList ds [] before) (hb : Below W.heap.size W W') (hts : (f.params.toList.all fun t => Tryd.prog.readableRec t && decide (t < Tryd.prog.types.size)) = true)
  (hr : f.resultTypes = #[4]) (hfn : s.fn H (ds ++ []) = { results := [.lit (.bool true)], args := ds }) : s.post enc Tryd.prog f false true false false W args (.bool true) W' := by
 have hW' := hW
 obtain ⟨p, q, hA, hV, rfl, hfz, hnd⟩ := hW
 have hlt : ∀ x ∈ p, x.block < W.heap.size := fun x hx => hW'.lt x (List.mem_append_left _ hx)
 refine ⟨ds, [], p ++ q, [], p, [], hW', ?_, ?_, ?_, hb.frame _, fun h => by cases h⟩
 ·rw [hfn, hr]; exact trodAll_mk1 (shut_bool boolT true)
 ·rw [hfn]; exact qSb laidOut hb _ _ _ _ hts hlt hA
 rw [hfn, hv]; rfl
theorem env_of (W : World) : ∃ E : Env, Seat E ∧ E.w0 = W := ⟨⟨Tryd.prog, W, tabT.find, tab_ok, by kernel_rfl⟩, ⟨rfl, rfl⟩, rfl⟩
theorem calls_of {W : World} {f : FuncId} {args : List Value} (hB : Base W) (h : ∀ E : Env, Seat E → Base E.w0 → Ct E f args [] (fun v Q => v = .bool true ∧ Q = [])) : Calls Tryd.prog f ⟨args⟩ W (fun e W' => e = .returned (.bool true) ∧ Below W.heap.size W W') := by
 obtain ⟨E, hE, rfl⟩ := env_of W
 have hs : Sat E.w0 E.w0 ([] ++ [fun _ => True]) := ⟨rfl, rfl, rfl, Nat.le_refl _, fun _ _ => rfl, ⟨qDk E.w0 E.w0, fun _ => none, fun _ => .inr rfl, by funext b; simp [join], trivial, trivial⟩⟩
 have := h E hE hB (fun _ => True) E.w0 hs
 rw [hE.P] at this
 exact this.mono fun e W' ⟨v, Qs, h1, ⟨h2, _⟩, h3⟩ => ⟨by rw [h1, h2], h3.os, h3.tape, h3.output, h3.size, h3.old⟩
end Go.Proofs.YtlleicanafioaaaDoor
