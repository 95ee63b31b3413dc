import Derived.Test.YtddfnkijolfhbaaGreatQ9F
import Derived.Carry
import Derived.ChangeArms
import Derived.ChangeSame
import Derived.ChangeSlices
import Derived.Deep.SlicePairs
import Derived.JoinedOf
import Derived.ProofKit
import Derived.RowKit
import Derived.SizedLaws
import Derived.SliceStrings
import Derived.Test.YtddfnkijolfhbaaGreatRows
set_option linter.all false
set_option maxHeartbeats 1000000
namespace Go.Proofs.YtddfnkijolfhbaaGreat
section
open Go Go.ChangeShapes Go.WideShapes Go.ChangeAt Go.WideMaps Go.WideElems Go.RowKit Go.ChangeMaps Sl
theorem own : ownKnob Tryz.prog.godebug = none := by kernel_rfl
theorem laidOut : laidOutB Tryz.prog = true := by kernel_rfl
theorem boolT : Tryz.prog.underlying 4 = some .bool := by kernel_rfl
theorem qOx {H : Type} {enc : TypeId × Value → H} {P : Program} (hlo : laidOutB P = true) {W W' : World} (hb : Below W.heap.size W W') : ∀ (ts : List TypeId) (vs : List Value) (ds : List (DataW H)) (ps : List MemPlace),
  (ts.all fun t => P.readableRec t && decide (t < P.types.size)) = true → (∀ x ∈ ps, x.block < W.heap.size) → DataW.TrodAll enc P W 0 (fun _ => true) true ts vs ds ps → DataW.TrodAll enc P W' 0 (fun b => decide (b < W.heap.size)) true ts vs ds ps := by
 intro ts
 induction ts with
 | nil =>
  intro vs ds ps _ _ h
  cases vs <;> cases ds <;> first | exact h | exact h.elim
 | cons t ts ih =>
  intro vs ds ps ht hl h
  cases vs with
  | nil => cases ds <;> exact h.elim
  | cons v vs =>
   cases ds with
   | nil => exact h.elim
   | cons d ds =>
    obtain ⟨p, q, h1, h2, rfl⟩ := h
    simp only [List.all_cons, Bool.and_eq_true, decide_eq_true_eq] at ht
    exact ⟨p, q, Below.trod hlo ht.1.1 ht.1.2 h1 hb (fun x hx => hl x (List.mem_append_left _ hx)), ih vs ds q ht.2 (fun x hx => hl x (List.mem_append_right _ hx)) h2, rfl⟩
theorem law_post {H : Type} {enc : TypeId × Value → H} {f : Func} {s : ChangeSpec} {W W' : World} {args : Array Value} {ds : List (DataW H)} {before : List MemPlace} (hv : s.vars = [])
  (hW : DataW.Whole enc Tryz.prog f.params.toList s.vars false W args.toList ds [] before) (hb : Below W.heap.size W W') (hts : (f.params.toList.all fun t => Tryz.prog.readableRec t && decide (t < Tryz.prog.types.size)) = true)
  (hr : f.resultTypes = #[4]) (hfn : s.fn H (ds ++ []) = { results := [.lit (.bool true)], args := ds }) : s.post enc Tryz.prog f false true false false W args (.bool true) W' := by
 have hW' := hW
 obtain ⟨p, q, hA, hV, rfl, hfz, hnd⟩ := hW
 have hlt : ∀ x ∈ p, x.block < W.heap.size := fun x hx => hW'.lt x (List.mem_append_left _ hx)
 refine ⟨ds, [], p ++ q, [], p, [], hW', ?_, ?_, ?_, hb.frame _, fun h => by cases h⟩
 ·rw [hfn, hr]; exact trodAll_mk1 (shut_bool boolT true)
 ·rw [hfn]; exact qOx laidOut hb _ _ _ _ hts hlt hA
 rw [hfn, hv]; rfl
theorem env_of (W : World) : ∃ E : Env, Seat E ∧ E.w0 = W := ⟨⟨Tryz.prog, W, tabT.find, tab_ok, by kernel_rfl⟩, ⟨rfl, rfl⟩, rfl⟩
theorem calls_at {W : World} {f : FuncId} {args : List Value} (h : ∀ E : Env, Seat E → E.w0 = W → Ct E f args [] (fun v Q => v = .bool true ∧ Q = [])) : Calls Tryz.prog f ⟨args⟩ W (fun e W' => e = .returned (.bool true) ∧ Below W.heap.size W W') := by
 obtain ⟨E, hE, rfl⟩ := env_of W
 have hs : Sat E.w0 E.w0 ([] ++ [fun _ => True]) := ⟨rfl, rfl, rfl, Nat.le_refl _, fun _ _ => rfl, ⟨qDp E.w0 E.w0, fun _ => none, fun _ => .inr rfl, by funext b; simp [join], trivial, trivial⟩⟩
 have := h E hE rfl (fun _ => True) E.w0 hs
 rw [hE.P] at this
 exact this.mono fun e W' ⟨v, Qs, h1, ⟨h2, _⟩, h3⟩ => ⟨by rw [h1, h2], h3.os, h3.tape, h3.output, h3.size, h3.old⟩
theorem ct_unold {E : Env} {f : FuncId} {args : List Value} {u : Value} (h : Ct E f args [old] (fun v Q => v = u ∧ Q = [old])) : Ct E f args [] (fun v Q => v = u ∧ Q = []) := fun R w s => (h R w (s.imp fun _ x => ent_old _ x)).mono fun e w' ⟨v, Qs, h1, ⟨h2, h3⟩, h4⟩ => ⟨v, [], h1, ⟨h2, rfl⟩, by
 subst h3
 exact h4.imp (by show ∀ k, qAb [old, R] k → qAb [R] k; (apply ent; (repeat constructor); done))⟩
theorem qYz {W : World} {a : Addr} {v : Value} (h : W.cell? a = some v) : a = ⟨a.block, a.off, none⟩ := by
 obtain ⟨b, o, s⟩ := a
 cases s with
 | none => rfl
 | some x =>
  unfold World.cell? at h
  split at h
  ·simp at h
  cases h
theorem rdb_of {W : World} {a : Option Addr} {vs : List Value} (h : ∀ i v, vs[i]? = some v → ∃ a', a = some a' ∧ W.cell? (a'.add i) = some v) : Rdb W a vs old := fun hne => by
 cases vs with
 | nil => exact absurd rfl hne
 | cons v vs =>
  obtain ⟨a', rfl, h0⟩ := h 0 v rfl
  rw [show a'.add 0 = a' by simp [Addr.add]] at h0
  have e := qYz h0
  refine ⟨a'.block, a'.off, by rw [← e], rd_old fun i u hu => ?_⟩
  obtain ⟨a2, h1, h2⟩ := h i u hu
  cases h1
  rw [e, Sl.addr_add] at h2
  exact h2
end
section
open Go Go.ChangeShapes Go.WideShapes Go.ChangeAt Go.WideMaps Go.WideElems Go.RowKit Go.ChangeMaps Sl Eg
instance : Inhabited (List UInt8 × List UInt8) := ⟨([], [])⟩
theorem qJu : Tryz.prog.underlying 57 = some (.slice 5) := by kernel_rfl
theorem qTd : Tryz.prog.underlying 5 = some (.int .u8) := by kernel_rfl
theorem qRr : Tryz.prog.cellsOf 5 = 1 := by kernel_rfl
def qKs (z : Int) : UInt8 := UInt8.ofNat z.toNat
theorem qRq {z : Int} (h : (Lit.int .u8 z).wf = true) : ((qKs z).toNat : Int) = z := by
 have hh : 0 ≤ z ∧ z < 256 := by
  simp only [Lit.wf, Bool.and_eq_true, decide_eq_true_eq] at h
  have h1 : (IntKind.u8.min : Int) = 0 := by rfl
  have h2 : (IntKind.u8.max : Int) = 255 := by rfl
  omega
 unfold qKs
 rw [UInt8.toNat_ofNat']
 omega
set_option maxRecDepth 100000 in
theorem qVp {H : Type} {enc : TypeId × Value → H} {w : World} {base b0 : Nat} {r : Reach} {held : Bool} {v : Value} {d : DataW H} {ps : List MemPlace}
  (hv : Value.okWide Tryz.prog w r b0 57 v) (hd : DataW.Trod enc Tryz.prog w base (fun _ => true) held 57 v d ps) :
  ∃ (A : Option Addr) (zs : List UInt8) (C : Nat), v = .slice A zs.length C ∧ Rdb w A (byC zs) old ∧ zs.length ≤ C := by
 obtain ⟨a, len, cap, rfl⟩ := okWide_slice qJu hv
 obtain ⟨fuel, hf⟩ := hd
 simp only [Value.cells] at hf
 rcases open_ints qJu qTd qRr hf with ⟨h1, h2⟩ | ⟨a', len', cap', zs, h1, hb, hl, hm, hzl, hx, hcell, hwf⟩
 ·simp at h1
  obtain ⟨rfl, rfl, rfl⟩ := h1
  exact ⟨none, [], 0, rfl, fun h => absurd rfl h, Nat.zero_le _⟩
 simp at h1
 obtain ⟨rfl, rfl, rfl⟩ := h1
 simp only [if_true] at hzl
 have hlen : ((zs.take len).map qKs).length = len := by simp; omega
 refine ⟨some a', (zs.take len).map qKs, cap, by rw [hlen], rdb_of fun i v hv => ⟨a', rfl, ?_⟩, by rw [hlen]; exact hl⟩
 unfold byC at hv
 rw [List.map_map, List.getElem?_map, Option.map_eq_some_iff] at hv
 obtain ⟨z, hz, rfl⟩ := hv
 have hzm := List.mem_of_mem_take (List.mem_of_getElem? hz)
 have hi : i < len := by
  have := (List.getElem?_eq_some_iff.1 hz).1
  rw [List.length_take] at this
  omega
 rw [List.getElem?_take, if_pos hi] at hz
 rw [hcell i (by omega), List.getD_eq_getElem?_getD, hz]
 show some (Value.int .u8 z) = some (Value.int .u8 ((qKs z).toNat : Nat))
 rw [qRq (hwf z hzm)]
end
section
open Go Go.RowKit Sl Eg
set_option maxRecDepth 100000
theorem underWg : Tryz.prog.underlying 64 = some (.struct (Tryz.prog.fieldsOf 64)) := by kernel_rfl
theorem heldWg : Tryz.prog.stoodInHeld 64 = false := by kernel_rfl
theorem fieldsWg : (Tryz.prog.fieldsOf 64).toList = [⟨"Length", 3, 0, false, "", "", 0⟩, ⟨"Lines", 3, 1, false, "", "", 8⟩, ⟨"Head", 3, 2, false, "", "", 16⟩, ⟨"Tail", 3, 3, false, "", "", 24⟩, ⟨"Digest", 62, 4, false, "", "", 32⟩] := by kernel_rfl
theorem wgt_same (a b c d e f : Int) (w : World) : (Op.equal 64 (.agg #[.int .i64 a, .int .i64 b, .int .i64 c, .int .i64 d, .int .u64 e, .int .u64 f]) (.agg #[.int .i64 a, .int .i64 b, .int .i64 c, .int .i64 d, .int .u64 e, .int .u64 f])).run Tryz.prog w = .ok true w := by
 unfold Op.equal Op.maxDepth
 rw [show (10000 : Nat) = 9999 + 1 from rfl, run_equalIn_struct _ _ _ _ _ underWg heldWg, fieldsWg]
 simp only [Op.eqFields]
 simp [go_sem]
variable {E : Env} {Es : List Ent} {s most : Nat}
theorem y_eq_wgt (hE : Seat E) {n : Nat} {L : Fr} {S : List HP} {ty : TypeId} {pos : String} {af : Array Edge} {d : Option Nat} {gd : Option (Nat × Bool)} {x y : Operand} {yt : TypeId} {a b c e f g : Int} (hx : ev L x = some (.agg #[.int .i64 a, .int .i64 b, .int .i64 c, .int .i64 e, .int .u64 f, .int .u64 g])) (hy : ev L y = some (.agg #[.int .i64 a, .int .i64 b, .int .i64 c, .int .i64 e, .int .u64 f, .int .u64 g])) :
  Yl E n L S ⟨d, .binOp .eql 64 x y yt, ty, pos, af, gd⟩ (.bool true) := fun ac w gg _ => by
 have h1 : (eqGuard .eql 64 x y (.agg #[.int .i64 a, .int .i64 b, .int .i64 c, .int .i64 e, .int .u64 f, .int .u64 g]) (.agg #[.int .i64 a, .int .i64 b, .int .i64 c, .int .i64 e, .int .u64 f, .int .u64 g])).run E.P w = .ok () w := by
  have hg : E.P.eqGuardType E.P.depth 64 = false := by rw [hE.P]; kernel_rfl
  unfold eqGuard
  simp [program, Sem.run, hg]
 have h2 : ∀ u v : Array Value, binOp .eql 64 (.agg u) (.agg v) = (do pure (.bool (← Op.equal 64 (.agg u) (.agg v)))) := fun u v => rfl
 have h3 := wgt_same a b c e f g w
 rw [← hE.P] at h3
 simp [execOp, h1, h2, h3, gg.ev hx, gg.ev hy]
theorem qXj (hE : Seat E) {i : Nat} (hi : i < Es.length) : Ct E 30 [uPt s, .int .i64 ((i + 1 : Nat) : Int), .int .i64 ((1 : Nat) : Int)] [zR s most Es] (fun v Q => v = .tuple #[.int .i64 ((i + 1 : Nat) : Int), .nilIface] ∧ Q = [zR s most Es]) := by
 refine zO (hE.fn Tryz.func30) rfl rfl rfl (fun R => ?_)
 simp only [qAd, uV, uW]
 refine qK (qI (uA rfl (uA rfl (qL (qJ (qK (qK (qI (uM rfl (uB (qBl rfl (hE.t rfl)) ?_))))))))))
 refine qL (qJ (zC rfl (zB (qJ (qK (qK (qI (uM rfl (uM rfl (uX (qXf (Es := Es) (i := i + 1) hE (by omega)) rfl ?_))))))))))
 rintro _ _ ⟨rfl, rfl⟩
 simp only [uV, uW]
 refine uB (qBo rfl) ?_
 refine uM rfl (kP rfl rfl (uM rfl (kP rfl rfl (uB (y_lt rfl rfl) ?_))))
 refine uB (qY rfl rfl) ?_
 refine qL (qJ (zC rfl (zB (qJ (qK (qK (qI (uM rfl (uB (y_eq rfl rfl) ?_)))))))))
 refine uM rfl (kP rfl rfl (uM rfl (kP rfl rfl (uB (y_eq rfl rfl) ?_))))
 refine uB (qY rfl rfl) ?_
 refine qL (qJ ?_)
 refine zD rfl (fun h3 => ?_) (fun h3 => ?_)
 ·exfalso; omega
 refine zB (qJ (qK (qK (qI (uM rfl (uB (y_eq rfl rfl) ?_))))))
 refine qL (qJ (zF rfl (qK (qI (uM rfl (uA rfl (uA rfl (qL (qJ (zZ (qW ?_)))))))))))
 exact uZ rfl (.tmp rfl (.tmp rfl .nil)) ⟨rfl, rfl⟩
theorem qXk (hE : Seat E) {i k : Nat} {t : List UInt8} (hi : i < Es.length) (ht : txt (rls Es) (i + 1) = t) (hk : 1 ≤ k) (hlen : t.length * k ≤ kH) (hroom : Es.length < most) :
  Ct E 30 [uPt s, .int .i64 ((i + 1 : Nat) : Int), .int .i64 (k : Nat)] [zR s most Es]
   (fun v Q => ∃ (M : List Ent) (id : Nat), v = .tuple #[.int .i64 (id : Nat), .nilIface] ∧ (M.length ≤ 1 ∧ 1 ≤ id ∧ id ≤ (Es ++ M).length ∧ txt (rls (Es ++ M)) id = Eg.rep k t) ∧ Q = [zR s most (Es ++ M)]) := by
 rcases Nat.lt_or_ge k 2 with hk2 | hk2
 ·obtain rfl : k = 1 := by omega
  refine (qXj hE hi).mono fun v Q ⟨h1, h2⟩ => ⟨[], i + 1, h1, ⟨Nat.zero_le _, by omega, by rw [List.append_nil]; omega, by rw [List.append_nil, ht, Eg.rep_one]⟩, by rw [List.append_nil]; exact h2⟩
 obtain ⟨xl, hxl⟩ : ∃ x, Es[i]? = some x := ⟨_, List.getElem?_eq_getElem hi⟩
 refine qBr (p := zR s most Es) uK (fun _ h => qBi h) (fun hsay => ?_)
 have hxt := hsay.2.1 i xl hxl
 rw [ht] at hxt
 refine qGz (qQa hE hxl hk2 (by rw [hxt]; exact hlen) hroom) ?_
 rintro v Q ⟨M, id, rfl, h1, hr, hM, rfl⟩ R h hx
 have hsay2 := qRj (p := zR s most (Es ++ M)) uK (fun _ h => qBi h) hx
 have hwf := hsay2.1
 have hil : id - 1 < (rls (Es ++ M)).length := (List.getElem?_eq_some_iff.1 hr).1
 rw [zQ] at hil
 refine ⟨_, ⟨M, id, rfl, ⟨by rcases hM with rfl | ⟨x, rfl, _⟩ <;> simp, h1, by omega, ?_⟩, rfl⟩, fun _ x => x⟩
 have hok := hwf.ok _ _ hr
 have := qCo hr hok
 rw [show id - 1 + 1 = id by omega] at this
 rw [this, kG, qFz _ (by rw [zQ]; omega), ht]
 rfl
def grN : List UInt8 := [103, 114, 101, 97, 116]
theorem okG : okN grN := ⟨by decide, by decide⟩
theorem qJw (hE : Seat E) {bs : List UInt8} {q : Option Addr} {c : Nat} {k : Int} {ck : Bool} (hq : Rdb E.w0 q (byC bs) old) (hc : bs.length ≤ c) :
  Ct E 5 [.slice q bs.length c, .int .i64 k, .bool ck] [old] (fun v Q => v = .bool true ∧ Q = [old]) := by
 refine zO (hE.fn Tryz.func5) rfl rfl rfl (fun R => ?_)
 simp only [qAd, uV, uW]
 refine qK (qI (uA rfl (qL (qJ (qK (qK (qI (uX (ct_alive hE) rfl ?_))))))))
 rintro _ _ ⟨rfl, rfl⟩
 simp only [uV, uW]
 refine uB (qBo rfl) ?_
 refine qL (qJ (zC rfl (zB (qJ (qK (qK (qI (uM rfl (uB (uBl rfl) ?_)))))))))
 refine uB (y_eq rfl rfl) ?_
 refine uM rfl ?_
 refine qAl 23 rfl (fun c0 => ?_) (fun c0 => ?_)
 ·refine zT rfl rfl rfl rfl (zT rfl rfl rfl rfl (zT rfl rfl rfl rfl ?_))
  refine uB (qX rfl rfl) ?_
  refine uM rfl ?_
  refine zT rfl rfl rfl rfl (zT rfl rfl rfl rfl ?_)
  refine uB (qX rfl rfl) ?_
  refine uM rfl ?_
  refine zT rfl rfl rfl rfl (zT rfl rfl rfl rfl ?_)
  refine uB (qX rfl rfl) ?_
  refine qL (qJ (zF rfl (qK (qI (uA rfl (qL (qJ (zZ (qW ?_)))))))))
  exact uZ rfl (.tmp rfl .nil) ⟨rfl, rfl⟩
 refine kP rfl rfl (uM rfl (kP rfl rfl (uB (uBl rfl) ?_)))
 refine kP rfl rfl (uB (y_gt rfl rfl) ?_)
 refine uB (qY rfl rfl) ?_
 refine uM rfl ?_
 refine qAl 28 rfl (fun c1 => ?_) (fun c1 => ?_)
 ·refine zT rfl rfl rfl rfl (zT rfl rfl rfl rfl ?_)
  refine uB (qX rfl rfl) ?_
  refine uM rfl ?_
  refine zT rfl rfl rfl rfl (zT rfl rfl rfl rfl ?_)
  refine uB (qX rfl rfl) ?_
  refine qL (qJ (zF rfl (qK (qI (uA rfl (qL (qJ (zZ (qW ?_)))))))))
  exact uZ rfl (.tmp rfl .nil) ⟨rfl, rfl⟩
 refine kP rfl rfl (uM rfl (kP rfl rfl (uB (y_lt rfl rfl) ?_)))
 refine uB (qY rfl rfl) ?_
 refine uM rfl ?_
 refine qAl 32 rfl (fun c2 => ?_) (fun c2 => ?_)
 ·refine zT rfl rfl rfl rfl (zT rfl rfl rfl rfl ?_)
  refine uB (qX rfl rfl) ?_
  refine qL (qJ (zF rfl (qK (qI (uA rfl (qL (qJ (zZ (qW ?_)))))))))
  exact uZ rfl (.tmp rfl .nil) ⟨rfl, rfl⟩
 refine kP rfl rfl (uM rfl (kP rfl rfl (uB (y_gt rfl rfl) ?_)))
 refine uB (qY rfl rfl) ?_
 refine qL (qJ ?_)
 refine zD rfl (fun c3 => ?_) (fun c3 => ?_)
 ·refine qK (qI ?_)
  refine uA rfl (qL (qJ (zZ (qW ?_))))
  exact uZ rfl (.tmp rfl .nil) ⟨rfl, rfl⟩
 obtain ⟨k, rfl⟩ : ∃ k' : Nat, k = (k' : Int) := ⟨k.toNat, by omega⟩
 have hlk : bs.length * k ≤ 576460752303423488 := by
  have := Nat.mul_le_mul (show bs.length ≤ 64 by omega) (show k ≤ 9007199254740992 by omega)
  omega
 refine zB (qJ (qK (qI (uX (qXa hE) rfl ?_))))
 rintro _ _ ⟨a, rfl, rfl⟩
 simp only [uV, uW]
 refine uA rfl (qL (qJ (qK (qI (uM rfl (uX (qKc (a := a) (k := 0) (j := 0) (tm0 := tm00) hE (by omega)) rfl ?_))))))
 rintro _ _ ⟨d, rfl, rfl⟩
 simp only [uV, uW]
 refine uM rfl (uB (qU rfl rfl) (uB (qU rfl rfl) (uA rfl (uA rfl (qL (qJ (qK (qK (qI (uM rfl (uB (qBo rfl) ?_)))))))))))
 refine qL (qJ (zC rfl (zB (qJ ?_))))
 refine qGv (p := dbP d a tm00 tm00 0 0) (ps := fun i : {i : DbG // DB (rls i.Es) i.V i.f i.ch i.x0 tm00 0 0 ∧ FB i.x0 tm00 0 0} => [dsP d a flN i.1.s i.1.f i.1.ch i.1.V (flen i.1.x0), zR i.1.s 1048576 i.1.Es, fsP a flN (flN ++ qAj) i.1.x0 none Pwr.on]) uK (fun k ⟨i, hi, h⟩ => ⟨⟨i, hi⟩, h⟩) ?_
 rintro ⟨⟨Es, s, V, f, ch, x0⟩, hd, hb⟩
 simp only at hd hb ⊢
 have hl := hd.len
 rw [zQ] at hl
 simp only [uV, uW]
 refine qK (qI (uM rfl (uX (qDh hE) rfl ?_)))
 rintro _ _ ⟨rfl, rfl⟩
 simp only [uV, uW]
 refine uM rfl (uX (qPs (Es := Es) (s := s) (most := 1048576) (bs := bs) (a := q) (c := c) (q := old) hE hq (by omega) hc (by omega)) rfl ?_)
 rintro _ _ ⟨M1, id, rfl, hM1, hid, rfl⟩
 simp only [uV, uW]
 have hidl := hid.le
 have hidx := hid.tx
 obtain ⟨i, rfl⟩ : ∃ i, id = i + 1 := by
  cases id with
  | zero =>
   rw [qIi] at hidx
   rw [← hidx] at c0
   exact absurd rfl c0
  | succ i => exact ⟨i, rfl⟩
 refine uM rfl (uB (qU rfl rfl) (uB (qU rfl rfl) (uA rfl (uA rfl (qL (qJ (qK (qI (uM rfl (uX (qDh hE) rfl ?_))))))))))
 rintro _ _ ⟨rfl, rfl⟩
 simp only [uV, uW]
 refine uM rfl (uM rfl ?_)
 have hml : bs.length * k ≤ kH := by unfold kH; omega
 have hrm : (Es ++ M1).length < 1048576 := by rw [List.length_append]; omega
 refine uX (qXk (Es := Es ++ M1) (s := s) (most := 1048576) (i := i) (k := k) (t := bs) hE (by omega) hidx (by omega) hml hrm) rfl ?_
 rintro _ _ ⟨M2, y, rfl, ⟨hM2, hy1, hyl, hyt⟩, rfl⟩
 simp only [uV, uW]
 rw [List.append_assoc] at hyl hyt ⊢
 have hML : (M1 ++ M2).length ≤ 200 := by rw [List.length_append]; omega
 generalize M1 ++ M2 = M at hML hyl hyt ⊢
 obtain ⟨y, rfl⟩ : ∃ i, y = i + 1 := ⟨y - 1, by omega⟩
 obtain ⟨yl, hyy⟩ : ∃ x, (Es ++ M)[y]? = some x := ⟨_, List.getElem?_eq_getElem (by omega)⟩
 refine qHx (p := zR s 1048576 (Es ++ M)) uK (fun _ h => qBi h) (fun hsay => ?_)
 have hylt := hsay.2.1 _ _ hyy
 rw [hyt] at hylt
 have hwf := hsay.1
 rw [kG] at hwf hyt
 have hd2 := hd.set (M := rls M) (id := y + 1) (n := grN) hwf (by rw [zQ]; omega) (by rw [← kG, zQ]; exact hyl) hyt okG
 rw [← kG] at hd2
 have hb2 : FB x0 tm00 1 0 := hb.more (Nat.le_succ 0) (Nat.le_refl 0)
 refine uM rfl (uB (qU rfl rfl) (uB (qU rfl rfl) (uA rfl (uA rfl (qL (qJ (qK (qK (qI (uM rfl ?_))))))))))
 refine uB (qAe rfl (hE.t rfl)) ?_
 refine uM rfl (kP rfl rfl (uM rfl (kP rfl rfl (uB (qAe rfl (hE.t rfl)) ?_))))
 refine uB (qY rfl rfl) ?_
 refine uM rfl (kP rfl rfl (uM rfl (kP rfl rfl (uM rfl (kP rfl rfl (uX (qWw (Es := Es ++ M) (k := grN) (id := y + 1) hE okG hyl) rfl ?_))))))
 rintro _ _ ⟨rfl, rfl⟩
 simp only [uV, uW]
 refine kP rfl rfl (uB (qAe rfl (hE.t rfl)) ?_)
 refine uB (qY rfl rfl) ?_
 refine qL (qJ (zC rfl (zB (qJ (qK (qI (uM rfl (uX (qDh hE) rfl ?_))))))))
 rintro _ _ ⟨rfl, rfl⟩
 simp only [uV, uW]
 refine uM rfl (uX (qFo (Es := Es ++ M) (i := y) hE hyy) rfl ?_)
 rintro _ _ ⟨rfl, rfl⟩
 simp only [uV, uW]
 refine uM rfl (uB (qU rfl rfl) (uB (qU rfl rfl) (uU (kF (hE.t rfl) (fun b14 => ?_)))))
 refine uU (uS ?_)
 refine uA rfl (qL (qJ (qK (qK (qI (uM rfl (uB (qAe rfl (hE.t rfl)) ?_)))))))
 refine qL (qJ (zC rfl ?_))
 rw [hylt]
 have htm : (fun x => if x = grN then some (Eg.rep k bs) else tm00 x) = updT tm00 grN (Eg.rep k bs) := rfl
 rw [htm] at hd2
 refine zB (qJ ?_)
 refine qAu (fun h x => qHb ⟨Es ++ M, s, V, setN f (grN, y + 1), fun x => x == grN || ch x, x0⟩ hd2 hb2 [cells b14 [.int .i64 (List.length ((Eg.rep k bs)) : Nat), .int .i64 (qBf ((Eg.rep k bs)) : Nat), .int .i64 (qCp ((Eg.rep k bs)) : Nat), .int .i64 (qCr ((Eg.rep k bs)) : Nat), .int .u64 (dval ((Eg.rep k bs)) : Nat), .int .u64 (qAn ((Eg.rep k bs)) : Nat)] 64, old, R] h (qFe uI h x)) ?_
 refine qDl (fun _ : Unit => [(0, .slice q bs.length c), (1, .int .i64 (k : Nat)), (7, uPt a), (8, uPt d), (14, uPt b14), (15, .nilIface)]) (fun _ => [dbP d a (updT tm00 grN (Eg.rep k bs)) (updT tm00 grN (Eg.rep k bs)) 1 1, cells b14 [.int .i64 (List.length ((Eg.rep k bs)) : Nat), .int .i64 (qBf ((Eg.rep k bs)) : Nat), .int .i64 (qCp ((Eg.rep k bs)) : Nat), .int .i64 (qCr ((Eg.rep k bs)) : Nat), .int .u64 (dval ((Eg.rep k bs)) : Nat), .int .u64 (qAn ((Eg.rep k bs)) : Nat)] 64, old, R]) (fun _ => True) ?_ ?_
 ·refine qK (qI ?_)
  refine uM rfl (qL (qJ ?_))
  refine qIj rfl (fun w1 => ?_) (fun w1 => ?_)
  ·refine qI ?_
   refine uM rfl (uX (qWz (k := 1) (j := 0) (tm := updT tm00 grN (Eg.rep k bs)) (tm0 := tm00) hE (by omega)) rfl ?_)
   rintro _ _ ⟨rfl, rfl⟩
   simp only [uV, uW]
   refine uA rfl (qL ?_)
   refine qBe (ι := Unit) () trivial ⟨rfl, rfl, rfl, rfl, rfl, rfl, trivial⟩ ?_
   exact uI
  refine qI ?_
  refine uM rfl (uX (qMu (k := 1) (j := 0) (tm := updT tm00 grN (Eg.rep k bs)) (tm0 := tm00) hE (by omega) (by omega)) rfl ?_)
  rintro _ _ ⟨rfl, rfl⟩
  simp only [uV, uW]
  refine uA rfl (qL ?_)
  refine qBe (ι := Unit) () trivial ⟨rfl, rfl, rfl, rfl, rfl, rfl, trivial⟩ ?_
  exact uI
 rintro - -
 clear hd hb hd2 hb2 htm
 refine qK (qK (qI (uM rfl (uB (qAe rfl (hE.t rfl)) ?_))))
 refine qL (qJ (zC rfl (zB (qJ (qK (qI (uM rfl ?_)))))))
 refine uX (qPx (d := d) (a := a) (k := 1) (j := 1) (tm := updT tm00 grN (Eg.rep k bs)) (tm0 := updT tm00 grN (Eg.rep k bs)) hE) rfl ?_
 rintro _ _ ⟨rfl, rfl⟩
 simp only [uV, uW]
 refine qL (qJ (qK (qI (uM rfl (uX (qKc (a := a) (k := 1) (j := 1) (tm0 := updT tm00 grN (Eg.rep k bs)) hE (by omega)) rfl ?_)))))
 rintro _ _ ⟨d, rfl, rfl⟩
 simp only [uV, uW]
 refine uM rfl (uB (qU rfl rfl) (uB (qU rfl rfl) (uA rfl (uA rfl (qL (qJ (qK (qK (qI (uM rfl (uB (qBo rfl) ?_)))))))))))
 refine qL (qJ (zC rfl (zB (qJ ?_))))
 refine qGv (p := dbP d a (updT tm00 grN (Eg.rep k bs)) (updT tm00 grN (Eg.rep k bs)) 1 1) (ps := fun i : {i : DbG // DB (rls i.Es) i.V i.f i.ch i.x0 (updT tm00 grN (Eg.rep k bs)) 1 1 ∧ FB i.x0 (updT tm00 grN (Eg.rep k bs)) 1 1} => [dsP d a flN i.1.s i.1.f i.1.ch i.1.V (flen i.1.x0), zR i.1.s 1048576 i.1.Es, fsP a flN (flN ++ qAj) i.1.x0 none Pwr.on]) uK (fun k ⟨i, hi, h⟩ => ⟨⟨i, hi⟩, h⟩) ?_
 rintro ⟨⟨Es2, s2, V2, f2, ch2, x2⟩, hd, hb⟩
 simp only at hd hb ⊢
 simp only [uV, uW]
 have hrl := Eg.rep_length k bs
 obtain ⟨z, hfz, hzt⟩ : ∃ z, f2 grN = some z ∧ txt (rls Es2) z = Eg.rep k bs := by
  have := congrFun hd.tms grN
  unfold txm updT at this
  rw [if_pos rfl, Option.map_eq_some_iff] at this
  exact this
 obtain ⟨ts, -, hds⟩ := hd.fil
 have hzl := hds.ids _ _ hfz
 rw [zQ] at hzl
 obtain ⟨z, rfl⟩ : ∃ i, z = i + 1 := by
  cases z with
  | zero =>
   exfalso
   rw [qIi] at hzt
   rw [← hzt] at hrl
   have := Nat.mul_pos (show 0 < k by omega) (show 0 < bs.length by omega)
   simp at hrl
   omega
  | succ i => exact ⟨i, rfl⟩
 obtain ⟨zl, hzz⟩ : ∃ x, Es2[z]? = some x := ⟨_, List.getElem?_eq_getElem (by omega)⟩
 refine qFk (p := zR s2 1048576 Es2) uK (fun _ h => qBi h) (fun hsay2 => ?_)
 have hzlt := hsay2.2.1 _ _ hzz
 rw [hzt] at hzlt
 refine qK (qI (uM rfl (uX (qWv (k := grN) hE hfz) rfl ?_)))
 rintro _ _ ⟨rfl, rfl⟩
 simp only [uV, uW]
 refine uM rfl (uB (qU rfl rfl) (uB (qU rfl rfl) (uA rfl (uA rfl (qL (qJ (qK (qK (qI (uM rfl ?_))))))))))
 refine uB (qAe rfl (hE.t rfl)) ?_
 refine qL (qJ (zC rfl (zB (qJ (qK (qI (uM rfl (uX (qDh hE) rfl ?_))))))))
 rintro _ _ ⟨rfl, rfl⟩
 simp only [uV, uW]
 refine uM rfl (uX (qFo (Es := Es2) (i := z) hE hzz) rfl ?_)
 rintro _ _ ⟨rfl, rfl⟩
 simp only [uV, uW]
 rw [hzlt]
 refine uM rfl (uB (qU rfl rfl) (uB (qU rfl rfl) (uU (kF (hE.t rfl) (fun b17 => ?_)))))
 refine uU (uS ?_)
 refine uA rfl (qL (qJ (qK (qI (uM rfl (uB (qZv rfl (hE.t rfl)) ?_))))))
 refine uM rfl ?_
 have hm1 : 0 ≤ (bs.length : Int) * (k : Int) := Int.mul_nonneg (by omega) (by omega)
 have hm2 : (bs.length : Int) * (k : Int) ≤ 576460752303423488 := by
  have : ((bs.length * k : Nat) : Int) ≤ 576460752303423488 := by omega
  rwa [Int.natCast_mul] at this
 refine kP rfl rfl (uB (uG) ?_)
 refine kP rfl rfl (uB (uG) ?_)
 refine kP rfl rfl (uB (y_eq_wgt hE rfl rfl) ?_)
 refine uB (qX rfl rfl) ?_
 refine uM rfl (kP rfl rfl (uB (uBf rfl) ?_))
 refine kP rfl rfl (uL ?_)
 refine kP rfl rfl (uM rfl (kP rfl rfl (uB (uBl rfl) ?_)))
 refine kP rfl rfl (uM rfl (kP rfl rfl (uB (qHl rfl rfl (by omega) (by omega)) ?_)))
 refine kP rfl rfl (uB (y_eq rfl rfl) ?_)
 refine uB (qX rfl rfl) ?_
 refine uA rfl (qL (qJ (zZ ?_)))
 apply kC
 ·rfl
 ·(apply Rs.tmp rfl; exact Rs.nil)
 ·refine ⟨congrArg Value.bool (decide_eq_true ?_), rfl⟩
  rw [hrl, Int.natCast_mul, Int.mul_comm]
 exact uI
theorem qKu (hE : Seat E) {bs : List UInt8} {q : Option Addr} {c : Nat} {k : Int} {ck : Bool} (hq : Rdb E.w0 q (byC bs) old) (hc : bs.length ≤ c) :
  Ct E 5 [.slice q bs.length c, .int .i64 k, .bool ck] [] (fun v Q => v = .bool true ∧ Q = []) := ct_unold (qJw hE hq hc)
end
end Go.Proofs.YtddfnkijolfhbaaGreat
