import Derived.Test.YtddfnkijolfhbaaGreatQ9F
import Derived.Carry
import Derived.ChangeArms
import Derived.ChangeSame
import Derived.ChangeSlices
import Derived.Deep.SlicePairs
import Derived.JoinedOf
import Derived.ProofKit
import Derived.RowKit
import Derived.SizedLaws
import Derived.SliceStrings
import Derived.Test.YtddfnkijolfhbaaGreatRows
set_option linter.all false
set_option maxHeartbeats 1000000
namespace Go.Proofs.YtddfnkijolfhbaaGreat
section
open Go Go.ChangeShapes Go.WideShapes Go.ChangeAt Go.WideMaps Go.WideElems Go.RowKit Go.ChangeMaps Sl
theorem own : ownKnob Tryz.prog.godebug = none := by kernel_rfl
theorem laidOut : laidOutB Tryz.prog = true := by kernel_rfl
theorem boolT : Tryz.prog.underlying 4 = some .bool := by kernel_rfl
theorem qQs {H : Type} {enc : TypeId × Value → H} {P : Program} (hlo : laidOutB P = true) {W W' : World} (hb : Below W.heap.size W W') : ∀ (ts : List TypeId) (vs : List Value) (ds : List (DataW H)) (ps : List MemPlace),
  (ts.all fun t => P.readableRec t && decide (t < P.types.size)) = true → (∀ x ∈ ps, x.block < W.heap.size) → DataW.TrodAll enc P W 0 (fun _ => true) true ts vs ds ps → DataW.TrodAll enc P W' 0 (fun b => decide (b < W.heap.size)) true ts vs ds ps := by
 intro ts
 induction ts with
 | nil =>
  intro vs ds ps _ _ h
  cases vs <;> cases ds <;> first | exact h | exact h.elim
 | cons t ts ih =>
  intro vs ds ps ht hl h
  cases vs with
  | nil => cases ds <;> exact h.elim
  | cons v vs =>
   cases ds with
   | nil => exact h.elim
   | cons d ds =>
    obtain ⟨p, q, h1, h2, rfl⟩ := h
    simp only [List.all_cons, Bool.and_eq_true, decide_eq_true_eq] at ht
    exact ⟨p, q, Below.trod hlo ht.1.1 ht.1.2 h1 hb (fun x hx => hl x (List.mem_append_left _ hx)), ih vs ds q ht.2 (fun x hx => hl x (List.mem_append_right _ hx)) h2, rfl⟩
theorem law_post {H : Type} {enc : TypeId × Value → H} {f : Func} {s : ChangeSpec} {W W' : World} {args : Array Value} {ds : List (DataW H)} {before : List MemPlace} (hv : s.vars = [])
  (hW : DataW.Whole enc Tryz.prog f.params.toList s.vars false W args.toList ds [] before) (hb : Below W.heap.size W W') (hts : (f.params.toList.all fun t => Tryz.prog.readableRec t && decide (t < Tryz.prog.types.size)) = true)
  (hr : f.resultTypes = #[4]) (hfn : s.fn H (ds ++ []) = { results := [.lit (.bool true)], args := ds }) : s.post enc Tryz.prog f false true false false W args (.bool true) W' := by
 have hW' := hW
 obtain ⟨p, q, hA, hV, rfl, hfz, hnd⟩ := hW
 have hlt : ∀ x ∈ p, x.block < W.heap.size := fun x hx => hW'.lt x (List.mem_append_left _ hx)
 refine ⟨ds, [], p ++ q, [], p, [], hW', ?_, ?_, ?_, hb.frame _, fun h => by cases h⟩
 ·rw [hfn, hr]; exact trodAll_mk1 (shut_bool boolT true)
 ·rw [hfn]; exact qQs laidOut hb _ _ _ _ hts hlt hA
 rw [hfn, hv]; rfl
theorem env_of (W : World) : ∃ E : Env, Seat E ∧ E.w0 = W := ⟨⟨Tryz.prog, W, tabT.find, tab_ok, by kernel_rfl⟩, ⟨rfl, rfl⟩, rfl⟩
theorem calls_at {W : World} {f : FuncId} {args : List Value} (h : ∀ E : Env, Seat E → E.w0 = W → Ct E f args [] (fun v Q => v = .bool true ∧ Q = [])) : Calls Tryz.prog f ⟨args⟩ W (fun e W' => e = .returned (.bool true) ∧ Below W.heap.size W W') := by
 obtain ⟨E, hE, rfl⟩ := env_of W
 have hs : Sat E.w0 E.w0 ([] ++ [fun _ => True]) := ⟨rfl, rfl, rfl, Nat.le_refl _, fun _ _ => rfl, ⟨qEe E.w0 E.w0, fun _ => none, fun _ => .inr rfl, by funext b; simp [join], trivial, trivial⟩⟩
 have := h E hE rfl (fun _ => True) E.w0 hs
 rw [hE.P] at this
 exact this.mono fun e W' ⟨v, Qs, h1, ⟨h2, _⟩, h3⟩ => ⟨by rw [h1, h2], h3.os, h3.tape, h3.output, h3.size, h3.old⟩
theorem ct_unold {E : Env} {f : FuncId} {args : List Value} {u : Value} (h : Ct E f args [old] (fun v Q => v = u ∧ Q = [old])) : Ct E f args [] (fun v Q => v = u ∧ Q = []) := fun R w s => (h R w (s.imp fun _ x => ent_old _ x)).mono fun e w' ⟨v, Qs, h1, ⟨h2, h3⟩, h4⟩ => ⟨v, [], h1, ⟨h2, rfl⟩, by
 subst h3
 exact h4.imp (by show ∀ k, qAd [old, R] k → qAd [R] k; (apply ent; (repeat constructor); done))⟩
theorem zBo {W : World} {a : Addr} {v : Value} (h : W.cell? a = some v) : a = ⟨a.block, a.off, none⟩ := by
 obtain ⟨b, o, s⟩ := a
 cases s with
 | none => rfl
 | some x =>
  unfold World.cell? at h
  split at h
  ·simp at h
  cases h
theorem rdb_of {W : World} {a : Option Addr} {vs : List Value} (h : ∀ i v, vs[i]? = some v → ∃ a', a = some a' ∧ W.cell? (a'.add i) = some v) : Rdb W a vs old := fun hne => by
 cases vs with
 | nil => exact absurd rfl hne
 | cons v vs =>
  obtain ⟨a', rfl, h0⟩ := h 0 v rfl
  rw [show a'.add 0 = a' by simp [Addr.add]] at h0
  have e := zBo h0
  refine ⟨a'.block, a'.off, by rw [← e], rd_old fun i u hu => ?_⟩
  obtain ⟨a2, h1, h2⟩ := h i u hu
  cases h1
  rw [e, Sl.addr_add] at h2
  exact h2
def intC (zs : List Int) : List Value := zs.map fun z => .int .i64 z
theorem qPe : Tryz.prog.underlying 49 = some (.slice 3) := by kernel_rfl
theorem zCh : Tryz.prog.underlying 3 = some (.int .i64) := by kernel_rfl
theorem qYq : Tryz.prog.cellsOf 3 = 1 := by kernel_rfl
theorem i64_wf {z : Int} (h : (Lit.int .i64 z).wf = true) : -9223372036854775808 ≤ z ∧ z ≤ 9223372036854775807 := by
 simp only [Lit.wf, Bool.and_eq_true, decide_eq_true_eq] at h
 have h1 : (IntKind.i64.min : Int) = -9223372036854775808 := by rfl
 have h2 : (IntKind.i64.max : Int) = 9223372036854775807 := by rfl
 omega
set_option maxRecDepth 100000 in
theorem qUu {H : Type} {enc : TypeId × Value → H} {w : World} {base b0 : Nat} {r : Reach} {held : Bool} {v : Value} {d : DataW H} {ps : List MemPlace}
  (hv : Value.okWide Tryz.prog w r b0 49 v) (hd : DataW.Trod enc Tryz.prog w base (fun _ => true) held 49 v d ps) :
  ∃ (A : Option Addr) (zs : List Int) (C : Nat), v = .slice A zs.length C ∧ Rdb w A (intC zs) old ∧ (∀ z ∈ zs, -9223372036854775808 ≤ z ∧ z ≤ 9223372036854775807) ∧ zs.length ≤ maxLen ∧ zs.length ≤ C := by
 obtain ⟨a, len, cap, rfl⟩ := okWide_slice qPe hv
 obtain ⟨fuel, hf⟩ := hd
 simp only [Value.cells] at hf
 rcases open_ints qPe zCh qYq hf with ⟨h1, h2⟩ | ⟨a', len', cap', zs, h1, hb, hl, hm, hzl, hx, hcell, hwf⟩
 ·simp at h1
  obtain ⟨rfl, rfl, rfl⟩ := h1
  exact ⟨none, [], 0, rfl, fun h => absurd rfl h, by simp, Nat.zero_le _, Nat.zero_le _⟩
 simp at h1
 obtain ⟨rfl, rfl, rfl⟩ := h1
 simp only [if_true] at hzl
 have hlen : (zs.take len).length = len := by simp; omega
 refine ⟨some a', zs.take len, cap, by rw [hlen], rdb_of fun i v hv => ⟨a', rfl, ?_⟩, fun z hz => i64_wf (hwf z (List.mem_of_mem_take hz)), by rw [hlen]; omega, by rw [hlen]; exact hl⟩
 unfold intC at hv
 rw [List.getElem?_map, Option.map_eq_some_iff] at hv
 obtain ⟨z, hz, rfl⟩ := hv
 have hi : i < len := by
  have := (List.getElem?_eq_some_iff.1 hz).1
  omega
 rw [List.getElem?_take, if_pos hi] at hz
 rw [hcell i (by omega), List.getD_eq_getElem?_getD, hz]
 rfl
def strC (l : List (List UInt8)) : List Value := l.map fun x => .string ⟨⟨x⟩⟩
def baL (s : ByteArray) : List UInt8 := s.data.toList
theorem baL_mk (s : ByteArray) : (⟨⟨baL s⟩⟩ : ByteArray) = s := by
 obtain ⟨⟨l⟩⟩ := s
 rfl
theorem qPf : Tryz.prog.underlying 45 = some (.slice 9) := by kernel_rfl
theorem zCi : Tryz.prog.underlying 9 = some .string := by kernel_rfl
theorem qYr : Tryz.prog.cellsOf 9 = 1 := by kernel_rfl
set_option maxRecDepth 100000 in
theorem zAy {H : Type} {enc : TypeId × Value → H} {w : World} {base b0 : Nat} {r : Reach} {held : Bool} {v : Value} {d : DataW H} {ps : List MemPlace}
  (hv : Value.okWide Tryz.prog w r b0 45 v) (hd : DataW.Trod enc Tryz.prog w base (fun _ => true) held 45 v d ps) :
  ∃ (A : Option Addr) (l : List (List UInt8)) (C : Nat), v = .slice A l.length C ∧ Rdb w A (strC l) old ∧ l.length ≤ maxLen := by
 obtain ⟨a, len, cap, rfl⟩ := okWide_slice qPf hv
 obtain ⟨fuel, hf⟩ := hd
 simp only [Value.cells] at hf
 rcases open_strings qPf zCi qYr hf with ⟨h1, h2⟩ | ⟨a', len', cap', ss, h1, hb, hl, hm, hzl, hx, hcell, hwf⟩
 ·simp at h1
  obtain ⟨rfl, rfl, rfl⟩ := h1
  exact ⟨none, [], 0, rfl, fun h => absurd rfl h, Nat.zero_le _⟩
 simp at h1
 obtain ⟨rfl, rfl, rfl⟩ := h1
 simp only [if_true] at hzl
 have hlen : ((ss.take len).map baL).length = len := by simp; omega
 refine ⟨some a', (ss.take len).map baL, cap, by rw [hlen], rdb_of fun i v hv => ⟨a', rfl, ?_⟩, by rw [hlen]; omega⟩
 unfold strC at hv
 rw [List.map_map, List.getElem?_map, Option.map_eq_some_iff] at hv
 obtain ⟨z, hz, rfl⟩ := hv
 have hi : i < len := by
  have := (List.getElem?_eq_some_iff.1 hz).1
  rw [List.length_take] at this
  omega
 rw [List.getElem?_take, if_pos hi] at hz
 rw [hcell i (by omega), List.getD_eq_getElem?_getD, hz]
 show _ = some (Value.string ⟨⟨baL z⟩⟩)
 rw [baL_mk]
 rfl
end
section
open Go Go.ChangeShapes Go.WideShapes Go.ChangeAt Go.WideMaps Go.WideElems Go.RowKit Go.ChangeMaps Sl Eg
instance : Inhabited (List UInt8 × List UInt8) := ⟨([], [])⟩
end
end Go.Proofs.YtddfnkijolfhbaaGreat
namespace Sl
open Go Go.RowKit
variable {E : Env} {n : Nat} {L : Fr} {S : List HP} {ty : TypeId} {pos : String} {af : Array Edge} {d : Option Nat} {gd : Option (Nat × Bool)}
end Sl
namespace Go.Proofs.YtddfnkijolfhbaaGreat
open Go Go.RowKit Sl Eg
set_option maxRecDepth 10000
variable {E : Env}
theorem zAq {zs : List Int} {i : Nat} {z : Int} (h : zs[i]? = some z) (o : Nat) (ho : o = i) : (intC zs)[o]? = some (.int .i64 z) := by
 subst ho
 unfold intC
 rw [List.getElem?_map, h]
 rfl
end Go.Proofs.YtddfnkijolfhbaaGreat
