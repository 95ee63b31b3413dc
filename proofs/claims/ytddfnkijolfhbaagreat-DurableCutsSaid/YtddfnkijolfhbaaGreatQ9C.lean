import Derived.Test.YtddfnkijolfhbaaGreatQ82
import Derived.Test.YtddfnkijolfhbaaGreatQ83
import Derived.Test.YtddfnkijolfhbaaGreatQ9B
set_option linter.all false
set_option maxHeartbeats 1000000
namespace Sl
open Go Go.RowKit
variable {E : Env} {n : Nat} {L : Fr} {H H' H'' : List HP} {ty : TypeId} {pos : String} {af : Array Edge} {d : Option Nat} {gd : Option (Nat × Bool)} {K : Value → List HP → Prop}
theorem qGo {x y : Operand} {t e bt : TypeId} {g b m cc by_ sz sz' : Nat} {xs zs zs' : List Value} {v : Value} {kk : TK} (ht : E.tab t = some ⟨.slice e 1 by_, sz, zs⟩) (he : E.tab e = some ⟨kk, sz', zs'⟩) (hz : Nat.beq zs'.length 1 = true)
  (hx : ev L x = some (.slice (some ⟨g, 0, none⟩) m m)) (hy : ev L y = some (.slice (some ⟨b, 0, none⟩) 1 cc)) (hxs : xs.length = m) (hm : Take (ro g xs) H H') (hm2 : Take (cells b [v] bt) H' H'') (hb : (m + 1) * by_ ≤ 140737488355328) (hb2 : m + 1 ≤ maxLen)
  (hk : ∀ g' c', K (.slice (some ⟨g', 0, none⟩) (m + 1) c') (sl (some ⟨g', 0, none⟩) c' e 1 (m + 1) (xs ++ [v]) :: H'')) : Ld E n L H ⟨d, .call { callee := .builtin .append, args := #[x, y], argTypes := #[t, t] }, ty, pos, af, gd⟩ K := fun Q next a w G hn => by
 obtain ⟨hu, j, hj, hs, hby⟩ := qBj ht
 obtain ⟨i, z, hi, hi2, hiz, hzc, _⟩ := qBg he
 obtain rfl : i = j := by rw [hi] at hj; simpa using hj
 have z1 : z.cells.size = 1 := by rw [← Array.length_toList, hzc]; exact Nat.eq_of_beq_eq_true hz
 have s1 := G.hp.take hm
 have s2 : Sat E.w0 w (cells b [v] bt :: ro g xs :: H'') := (s1.imp fun _ h => qCd (qAq (fun _ => hm2.out) h))
 have holds : ∀ j u, xs[j]? = some u → w.cell? ((⟨g, 0, none⟩ : Addr).add j) = some u := fun j u hu => by rw [addr_add, Nat.zero_add]; exact ro_cell s1 hu
 have hnews : ∀ j u, [v][j]? = some u → w.cell? ((⟨b, 0, none⟩ : Addr).add j) = some u := fun j u hu => by rw [addr_add, Nat.zero_add]; exact s2.cell j hu
 have h63 : ((m + 1 : Nat) : Int) ≤ 9223372036854775807 := by have h := hb2; simp [maxLen] at h; omega
 have hfit : Builtin.nextslicecap (m + 1) m * i.bytes ≤ 281474976710656 := growslice_fits (by omega) (by rw [hby]; exact hb)
 have hr := run_append_grow (P := E.P) w t ty e i z hu hi hiz ⟨g, 0, none⟩ m m xs (by rw [hs, Nat.mul_one]; exact hxs) holds ⟨b, 0, none⟩ 1 cc [v] (by rw [hs]; rfl) hnews (by omega) h63 hfit
 have hge := grownCap_ge w (m + 1) m e
 have hle := grownCap_le_maxLen w (m + 1) m e hb2
 have hrun : (execOp a.eval ⟨d, .call { callee := .builtin .append, args := #[x, y], argTypes := #[t, t] }, ty, pos, af, gd⟩).run E.P w = .ok (.value (.slice (some ⟨w.heap.size, 0, none⟩) (m + 1) (grownCap w (m + 1) m e))) (w.drew.alloc (.cells (xs.toArray ++ [v].toArray ++ Builtin.zeroCells z.cells (grownCap w (m + 1) m e - (m + 1))) e)) := by
  simp [execOp, resolve, invoke, builtin, G.f.ev hx, G.f.ev hy, hr]
 unfold Oper.wp
 rw [hrun, Oper.upon_value]
 have s3 := (s2.tail.tail.drew).new (.cells (xs.toArray ++ [v].toArray ++ Builtin.zeroCells z.cells (grownCap w (m + 1) m e - (m + 1))) e)
 refine hn _ _ _ (hk w.heap.size (grownCap w (m + 1) m e)) (s3.imp fun k h => qAp (fun k' h' => ⟨?_, .inr ⟨w.heap.size, _, rfl, h', hge, hle, ?_, ?_⟩⟩) h)
 ·simp [hxs]
 ·simp [size_zeroCells, z1, hxs]
  omega
 have e1 : ∀ Z : List Value, (xs ++ v :: Z).take (m + 1) = xs ++ [v] := fun Z => by
  rw [show xs ++ v :: Z = (xs ++ [v]) ++ Z by simp]
  exact List.take_left' (by simp [hxs])
 simp [e1]
theorem y_orU {x y : Operand} {xt yt : TypeId} {i j : Int} {kd : IntKind} {S : List HP} (hx : ev L x = some (.int kd i)) (hy : ev L y = some (.int kd j)) :
  Yl E n L S ⟨d, .binOp .or xt x y yt, ty, pos, af, gd⟩ (.int kd (kd.wrap (BitVec.ofInt kd.bits i ||| BitVec.ofInt kd.bits j).toNat)) := fun a w g _ => by
 simp [execOp, eqGuard, binOp, Op.intBits, g.ev hx, g.ev hy]
theorem qTl {x y : Operand} {xt yt : TypeId} {i j : Int} {kd : IntKind} {S : List HP} (hx : ev L x = some (.int kd i)) (hy : ev L y = some (.int kd j)) :
  Yl E n L S ⟨d, .binOp .andNot xt x y yt, ty, pos, af, gd⟩ (.int kd (kd.wrap (BitVec.ofInt kd.bits i &&& ~~~ BitVec.ofInt kd.bits j).toNat)) := fun a w g _ => by
 simp [execOp, eqGuard, binOp, Op.intBits, g.ev hx, g.ev hy]
end Sl
namespace Go.Proofs.YtddfnkijolfhbaaGreat
open Go Go.RowKit Sl Eg
set_option maxRecDepth 10000
variable {E : Env}
def payB (b : List UInt8) : List UInt8 := 69 :: 71 :: 3 :: b
theorem qEh (b : List UInt8) : (payB b).length = b.length + 3 := rfl
theorem qMb (hE : Seat E) {p : Pwr} {a l ct sz c : Nat} {n0 n1 bs : List UInt8} {x0 x1 : Option Fl} {e : Option Addr} {q : HP} (hp : p.up) (hp2 : p.fin.up) (hn : okN n0) (hq : Rdb E.w0 e (byC bs) q) (hc : bs.length ≤ c) (h2 : bs.length ≤ 1048573) (hl : flen x0 + bs.length + 11 ≤ 16777216) (hct : ct ≤ 1000000000) (hsz : sz ≤ 1000000000) :
  Ct E 43 [uPt l, .slice e bs.length c] [cells l [uPt a, .string ⟨⟨n0⟩⟩, .int .i64 (ct : Nat), .int .i64 (sz : Nat), .bool false] 137, fsP a n0 n1 x0 x1 p, q] (fun v Q => v = .nilIface ∧ Q = [cells l [uPt a, .string ⟨⟨n0⟩⟩, .int .i64 ((ct + 1) : Nat), .int .i64 ((sz + (frm (payB bs)).length) : Nat), .bool false] 137, fsP a n0 n1 (some ⟨(apF x0 (frm (payB bs))).data, (apF x0 (frm (payB bs))).data.length⟩) x1 p.fin.fin, q]) := by
 have hpl := qEh bs
 refine zP (hE.fn Tryz.func43) rfl rfl rfl (fun R => ?_)
 simp only [qAe, uV, uW]
 refine qL (qJ (uA rfl (qM (qK (qL (qJ (uA rfl (qM (qK (qL (zL ?_)))))))))))
 refine qFb 2 ?_
 refine qGr ?_
 refine qL (qL (qJ (uM rfl (uB (qTk rfl rfl) ?_))))
 refine l_eq 10 (.int .u8 0) rfl (zX (by decide)) ?_
 refine uB (y_eq rfl rfl) ?_
 refine qM (qK (zG rfl (zC (qK (zL (qL (qJ (uM rfl (uB (uBl rfl) ?_)))))))))
 refine uB (y_min rfl rfl) ?_
 refine uA rfl (qM (qK ?_))
 refine w_eq 6 (.int .i64 (bs.length : Nat)) rfl (zX (by omega)) ?_
 refine qL (qL (qJ (uM rfl (uM rfl (uB (uBl rfl) ?_)))))
 refine uB (y_eq rfl rfl) ?_
 refine qM (qK ?_)
 refine zF rfl (fun c1 => ?_) (fun c1 => ?_)
 ·refine qJ ?_
  refine uM rfl (uB (y_orU rfl rfl) ?_)
  refine l_eq 20 (.int .u8 3) rfl (zX (by decide)) ?_
  have hq0 : Rdb E.w0 (vwA e c 0) (byC bs) q := by
   have := qBz (k := 0) hq hc
   rwa [List.drop_zero] at this
  have hml3 : 2 + 1 ≤ maxLen := by unfold maxLen; omega
  have hb1 : (2 + 1 + (byC bs).length) * 1 ≤ 140737488355328 := by
   rw [qAg]
   omega
  have hb2 : 2 + 1 + (byC bs).length ≤ maxLen := by
   rw [qAg]
   unfold maxLen
   omega
  refine uA rfl (qM (qK (qL (qJ (uU ?_)))))
  refine qW (hE.t rfl) (hE.t rfl) rfl rfl rfl (fun b21 => ?_)
  refine uU ?_
  refine qQd rfl (hE.t rfl) (hE.t rfl) uK ?_
  refine uM rfl (uU ?_)
  refine qW (hE.t rfl) (hE.t rfl) rfl rfl rfl (fun b24 => ?_)
  refine uU ?_
  refine qGo (xs := [.int .u8 69, .int .u8 71]) (hE.t rfl) (hE.t rfl) rfl rfl rfl rfl uK uK (by omega) hml3 (fun g25 c25 => ?_)
  refine uA rfl (qM (qK (qL (qL (qJ (uM rfl (uM rfl (uM rfl (uM rfl ?_)))))))))
  refine uB (qBv (l := 0) (h := bs.length) rfl (hE.t rfl) rfl ⟨_, rfl⟩ (Nat.zero_le _) hc) ?_
  refine l_eq 30 (.slice (vwA e c 0) bs.length (c - 0)) rfl (congrArg (fun z => Value.slice _ z _) (by omega)) ?_
  refine uU ?_
  refine qBp (us := byC bs) (q := q) (hE.t rfl) (hE.t rfl) rfl rfl rfl (qAg _).symm hq0 uK uK (qBh _) hb1 hb2 (fun pt ct' m1 y1 hm1 hy1 => ?_)
  obtain rfl : m1 = (payB bs).length := by rw [hm1, qAg, hpl]; omega
  obtain rfl : y1 = byC (payB bs) := hy1
  refine qGh (p := sl pt ct' 5 1 (payB bs).length (byC (payB bs))) uK (fun _ h => qAz h (by omega)) ?_
  rintro ⟨g31, rfl⟩
  have hqf : Rdb E.w0 (some ⟨g31, 0, none⟩) (byC (payB bs)) (sl (some ⟨g31, 0, none⟩) ct' 5 1 (payB bs).length (byC (payB bs))) := qCv (qAg _) (fun _ => ⟨g31, rfl⟩)
  refine uX (qKs (bs := payB bs) (a := a) (n0 := n0) (n1 := n1) (x0 := x0) (x1 := x1) (ct := ct) (sz := sz) hE hp hn hqf (by omega) (by omega) (by omega) hct hsz) rfl ?_
  rintro _ _ ⟨rfl, rfl⟩
  simp only [uV, uW]
  refine uA rfl (qM (qK (qL (qJ (uM rfl (uB (qAf rfl (hE.t rfl)) ?_))))))
  refine qM (qK (zD rfl (zC (qK (qL (qJ (uM rfl (uM rfl ?_))))))))
  refine uB (qBv (l := bs.length) (h := bs.length) rfl (hE.t rfl) ⟨_, rfl⟩ rfl (Nat.le_refl _) hc) ?_
  refine uA rfl (qM (qK (qJ (uM rfl (uB (qTl rfl rfl) ?_)))))
  refine l_eq 40 (.int .u8 2) rfl (zX (by decide)) ?_
  refine uA rfl (qM (zJ ?_))
  refine a_rd ?_
  refine qGr ?_
  refine qL (qL (qJ (uM rfl (uB (qTk rfl rfl) ?_))))
  refine l_eq 10 (.int .u8 2) rfl (zX (by decide)) ?_
  refine uB (y_eq rfl rfl) ?_
  refine qM (qK (zD rfl (kJ (qQ (qQ (zI (qK (qL (qJ (uM rfl ?_))))))))))
  refine uX (qXh (ct := ct + 1) hE hp2 hn (by omega)) rfl ?_
  rintro _ _ ⟨rfl, rfl⟩
  simp only [uV, uW]
  refine uA rfl (qM (qK (kC ?_)))
  exact uZ rfl (.tmp rfl .nil) ⟨rfl, rfl⟩
 exfalso
 exact c1 rfl
end Go.Proofs.YtddfnkijolfhbaaGreat
namespace Sl
open Go Go.RowKit
variable {E : Env} {n : Nat} {L : Fr} {S H H' : List HP} {ty : TypeId} {pos : String} {af : Array Edge} {d : Option Nat} {gd : Option (Nat × Bool)} {K : Value → List HP → Prop}
theorem qIn {f : FuncId} {fst : List Operand} {vs : List Value} (hc : evs L fst = some vs) : Yl E n L S ⟨d, .makeFunc (.func f) fst.toArray #[], ty, pos, af, gd⟩ (.func (.func f) ⟨vs⟩ #[]) := fun a w g _ => by
 have h1 := g.evs hc
 simp [execOp, Instr.makeFunc, h1]
theorem zAs {x : Operand} {f : FuncId} {fst : List Value} {args : List Operand} {ts : Array TypeId} {vs : List Value} {Pre : List HP} {Φ : Value → List HP → Prop} (hc : Ct E f (fst ++ vs) Pre Φ) (hx : ev L x = some (.func (.func f) ⟨fst⟩ #[])) (ha : evs L args = some vs) (hf : goFn E.P f = true) (hs : Sub Pre H H') (hk : ∀ v Qs, Φ v Qs → K v (Qs ++ H')) :
  Ld E n L H ⟨d, .call { callee := .value x, args := args.toArray, argTypes := ts }, ty, pos, af, gd⟩ K := fun Q next a w g hn => by
 have hrun : (execOp a.eval ⟨d, .call { callee := .value x, args := args.toArray, argTypes := ts }, ty, pos, af, gd⟩).run E.P w = .ok (.enter f ⟨fst ++ vs⟩) w := by
  have h1 := g.f.evs ha
  have h2 := g.f.ev hx
  have h3 : (⟨fst⟩ : Array Value) ++ (⟨vs⟩ : Array Value) = ⟨fst ++ vs⟩ := by simp
  simp [execOp, resolve, Deferred.ofValue, invoke, h2, qGt hf, h1, h3]
 unfold Oper.wp
 rw [hrun, Oper.upon_enter]
 refine (hc (qAd H') w ((g.hp.sub hs).imp fun _ => qCt)).mono ?_
 rintro e w' ⟨v, Qs, rfl, hΦ, hs'⟩
 exact hn v _ w' (hk v Qs hΦ) (hs'.imp fun _ => qEl)
end Sl
namespace Go.Proofs.YtddfnkijolfhbaaGreat
open Go Go.RowKit Sl Eg
set_option maxRecDepth 10000
section
variable {E : Env}
structure RqD where
 i : Nat
 a : Option Addr
 c : Nat
theorem qJq (hE : Seat E) {fc : FuncId} {recv : Value} (hf : goFn E.P fc = true) {Bs t : List UInt8} {items : List (List UInt8)} (hBs : Bs = vput items.length ++ (items.flatten ++ t)) {J : Nat → HP} {q : HP} {a : Option Addr} {c : Nat} (hq : Rdb E.w0 a (byC Bs) q) (hc : Bs.length ≤ c) (hcl : Bs.length ≤ 1099511627776) (hn : items.length ≤ 1099511627776) (hit : ∀ x ∈ items, 1 ≤ x.length)
  (hcall : ∀ i x r a' c', items[i]? = some x → r = ((items.drop (i + 1)).flatten ++ t) → Rdb E.w0 a' (byC (x ++ r)) q → (x ++ r).length ≤ c' → Ct E fc [recv, .slice a' (x ++ r).length c'] [J i, q] (fun v Q => v = .int .i64 (x.length : Nat) ∧ Q = [J (i + 1), q])) :
  Ct E 98 [.slice a Bs.length c, .func (.func fc) #[recv] #[]] [J 0, q] (fun v Q => ∃ a' c', v = .tuple #[.slice a' t.length c', .bool true] ∧ Rdb E.w0 a' (byC t) q ∧ t.length ≤ c' ∧ Q = [J items.length, q]) := by
 have hvp := qCq items.length
 have hBl : Bs.length = (vput items.length).length + (items.flatten ++ t).length := by rw [hBs, List.length_append]
 have hd0 : Bs.drop (vput items.length).length = items.flatten ++ t := by rw [hBs]; exact List.drop_left
 have hq0 := qBz (k := (vput items.length).length) hq hc
 rw [hd0] at hq0
 refine zP (hE.fn Tryz.func98) rfl rfl rfl (fun R => ?_)
 simp only [qAe, uV, uW]
 refine qL (qJ (uA rfl (uA rfl (qM (qK (qL (qJ (uM rfl (uX (qIu (n := items.length) hE (by omega) hBs hq) rfl ?_)))))))))
 rintro _ _ ⟨rfl, rfl⟩
 simp only [uV, uW]
 refine uM rfl (uB (qV rfl rfl) (uB (qV rfl rfl) (uB (qV rfl rfl) (uA rfl (uA rfl (uA rfl (qM (qK (qL (qL (qJ ?_)))))))))))
 refine uM rfl (uB (qAf rfl (hE.t rfl)) ?_)
 refine qM (qK (zD rfl (zC (qK (qL (qJ (uM rfl (uM rfl ?_))))))))
 refine uB (qBv (l := (vput items.length).length) (h := Bs.length) rfl (hE.t rfl) ⟨_, rfl⟩ rfl (by omega) (by omega)) ?_
 refine l_eq 20 (.slice (vwA a c (vput items.length).length) (items.flatten ++ t).length (c - (vput items.length).length)) rfl (congrArg (fun z => Value.slice _ z _) (by omega)) ?_
 refine uA rfl (qM (qK (qL (zL ?_))))
 refine qAj (fun x : RqD => [(0, .slice x.a ((items.drop x.i).flatten ++ t).length x.c), (1, .func (.func fc) #[recv] #[]), (6, .int .u64 ((items.length - x.i : Nat) : Int))]) (fun x => [J x.i, q, R]) (fun x => items.length - x.i) (fun x => x.i ≤ items.length ∧ Rdb E.w0 x.a (byC ((items.drop x.i).flatten ++ t)) q ∧ ((items.drop x.i).flatten ++ t).length ≤ x.c) ⟨0, vwA a c (vput items.length).length, c - (vput items.length).length⟩ ⟨Nat.zero_le _, hq0, by simp only [List.drop_zero]; omega⟩ ⟨rfl, rfl, rfl, trivial⟩ uI ?_
 rintro ⟨i, a1, c1⟩ ⟨hi, hq1, hc1⟩
 simp only at hi hq1 hc1 ⊢
 refine qL (qL (qJ (uM rfl (uB (y_gt rfl rfl) ?_))))
 refine qM (qK ?_)
 refine zF rfl (fun h1 => ?_) (fun h1 => ?_)
 ·obtain ⟨x, hx⟩ : ∃ x, items[i]? = some x := ⟨_, List.getElem?_eq_getElem (by omega)⟩
  have hx1 := hit x (List.mem_of_getElem? hx)
  have e1 : ((items.drop i).flatten ++ t) = x ++ ((items.drop (i + 1)).flatten ++ t) := by rw [qDy hx, List.flatten_cons, List.append_assoc]
  obtain ⟨r, hr⟩ : ∃ r, r = ((items.drop (i + 1)).flatten ++ t) := ⟨_, rfl⟩
  rw [← hr] at e1
  rw [e1] at hq1 hc1 ⊢
  have hxl : (x ++ r).length = x.length + r.length := List.length_append
  have hd1 : (x ++ r).drop x.length = r := List.drop_left
  have hq2 := qBz (k := x.length) hq1 hc1
  rw [hd1] at hq2
  refine zC (qK (qL (zL (qL (qJ (uM rfl (uM rfl (uU ?_))))))))
  apply zAs (hx := rfl) (ha := rfl) (hf := hf)
  ·exact hcall i x r a1 c1 hx hr hq1 hc1
  ·exact uK
  rintro _ _ ⟨rfl, rfl⟩
  simp only [uV, uW]
  refine uA rfl (qM (qK (qL (qL (qJ (uM rfl (uB (y_eq rfl rfl) ?_)))))))
  refine qM (qK ?_)
  refine zF rfl (fun h2 => ?_) (fun h2 => ?_)
  ·exfalso
   omega
  refine zC (qK (qJ (uM rfl (uM rfl (uB (qBv (l := x.length) (h := (x ++ r).length) rfl (hE.t rfl) ⟨_, rfl⟩ rfl (by omega) (by omega)) ?_)))))
  refine l_eq 32 (.slice (vwA a1 c1 x.length) r.length (c1 - x.length)) rfl (congrArg (fun z => Value.slice _ z _) (by omega)) ?_
  refine uA rfl (qM (zJ (qK (qJ (uM rfl (uB (qWl (i := items.length - i) (j := 1) rfl rfl (by omega) (by omega)) ?_))))))
  refine uA rfl (qM ?_)
  refine zT (ι := RqD) (j := ⟨i + 1, vwA a1 c1 x.length, c1 - x.length⟩) ⟨by simp only; omega, by simp only; rw [← hr]; exact hq2, by simp only; rw [← hr]; omega⟩ (by simp only; omega) ⟨by simp only; rw [← hr]; rfl, rfl, congrArg some (by simp only; rw [Nat.sub_sub]), trivial⟩ uI
 obtain rfl : i = items.length := by omega
 have e0 : ((items.drop items.length).flatten ++ t) = t := by rw [List.drop_length]; rfl
 rw [e0] at hq1 hc1 ⊢
 refine kJ (qQ (qQ (zI (qK (qL (qJ (uM rfl (uA rfl (uA rfl (qM (qK (kC ?_))))))))))))
 exact uZ rfl (.tmp rfl (.tmp rfl .nil)) ⟨a1, c1, rfl, hq1, hc1, rfl⟩
end
section
variable {E : Env}
theorem qZq (hE : Seat E) {a k : Nat} (h : a * k ≤ kI) (ha : 1 ≤ a) (hk : 1 ≤ k) : Ct E 51 [.int .i64 (a : Nat), .int .i64 (k : Nat)] [] (fun v Q => v = .tuple #[.int .i64 ((a * k : Nat) : Int), .nilIface] ∧ Q = []) := by
 have hmx : kI = 1152921504606846976 := rfl
 have hc : ((a * k : Nat) : Int) = (a : Int) * (k : Int) := Int.natCast_mul a k
 have h1 := Nat.le_mul_of_pos_right a hk
 have h2 := Nat.le_mul_of_pos_left k ha
 have h3 : k ≤ 1152921504606846976 / a := by
  rw [Nat.le_div_iff_mul_le ha, Nat.mul_comm]
  omega
 have h4 : (1152921504606846976 : Int) / (a : Int) = ((1152921504606846976 / a : Nat) : Int) := rfl
 refine zP (hE.fn Tryz.func51) rfl rfl rfl (fun R => ?_)
 simp only [qAe, uV, uW]
 refine qL (qJ (uA rfl (uA rfl (qM (qK (qL (qL (qJ (uM rfl (uX (qXc hE (by omega)) rfl ?_))))))))))
 rintro _ _ ⟨rfl, rfl⟩
 simp only [uV, uW]
 refine uB (qBm rfl) ?_
 refine uM rfl (kQ rfl rfl (uM rfl (kQ rfl rfl (uB (y_lt rfl rfl) ?_))))
 refine uB (qZ rfl rfl) ?_
 refine qM (qK ?_)
 refine zF rfl (fun g1 => ?_) (fun g1 => ?_)
 ·exfalso
  omega
 refine zC (qK (qL (qL (qJ (uM rfl (uB (y_eq rfl rfl) ?_))))))
 refine qM (qK ?_)
 refine zF rfl (fun g2 => ?_) (fun g2 => ?_)
 ·exfalso
  omega
 refine zC (qK (qL (qL (qJ (uM rfl (uM rfl (uB (qHe rfl rfl (by omega) (by omega) (by omega)) ?_)))))))
 refine uB (y_gt rfl rfl) ?_
 refine qM (qK ?_)
 refine zF rfl (fun g3 => ?_) (fun g3 => ?_)
 ·exfalso
  omega
 refine zC (qK (qL (qJ (uM rfl (uM rfl (uB (qJn rfl rfl (by omega) (by omega)) ?_))))))
 refine uA rfl (uA rfl (qM (qK (kC ?_))))
 exact uZ rfl (.tmp rfl (.tmp rfl .nil)) ⟨by rw [hc]; rfl, rfl⟩
def lnsL (G : List Rl) : List Nat := (List.range G.length).map fun i => len G (i + 1)
theorem qUr {G : List Rl} {i : Nat} (h : i < G.length) : (lnsL G)[i]? = some (len G (i + 1)) := by
 unfold lnsL
 rw [List.getElem?_map, List.getElem?_range h]
 rfl
theorem qNa (G : List Rl) (r : Rl) : lnsL (G ++ [r]) = lnsL G ++ [len (G ++ [r]) (G.length + 1)] := by
 unfold lnsL
 rw [List.length_append, List.length_singleton, List.range_succ, List.map_append]
 congr 1
 refine List.map_congr_left fun i hi => ?_
 have := List.mem_range.1 hi
 exact qDb [r] (by omega)
structure CtG where
 rq : Option Addr
 rc : Nat
 lq : Option Addr
 lc : Nat
 nb : Nat
def nmF (N : List UInt8 → Option Nat) : List UInt8 → Option Value := fun x => (N x).map fun k => .int .i64 (k : Nat)
def cnP (cc : Nat) (c : Cn) : HP := fun h => ∃ i : CtG, qAd [cells cc [.slice i.rq (c).G.length i.rc, .slice i.lq (c).G.length i.lc, .map (some i.nb)] 87, sl i.rq i.rc 115 5 (c).G.length (rusC (c).G), sl i.lq i.lc 3 1 (c).G.length (idC (lnsL (c).G)), qAb i.nb (nmF (c).N)] h
theorem qWf {L : List Rl} (hw : Wf L) {i : Nat} {r : Rl} (h : L[i]? = some r) : r.times ≤ 1152921504606846976 := by
 have hsh := hw.short (i + 1)
 have hmx : kI = 1152921504606846976 := rfl
 have hok := hw.ok _ _ h
 have hn := (List.getElem?_eq_some_iff.1 h).1
 cases r with
 | letter b => simp [Rl.times]
 | pair a b => simp [Rl.times]
 | power x t =>
  have e := qJd h hok
  obtain ⟨o1, o2, o3⟩ := hok
  have h1 := hw.pos x o1 (by omega)
  have h2 := Nat.le_mul_of_pos_right t h1
  simp only [Rl.times]
  omega
theorem qWt (hE : Seat E) {cc : Nat} {c : Cn} {r : Rl} {t Bs : List UInt8} {a : Option Addr} {cp : Nat} {q : HP} (hw : Wf (c.G ++ [r])) (hG : c.G.length ≤ 1048576) (hBs : Bs = rulB (c.G.length + 1) r ++ t) (hq : Rdb E.w0 a (byC Bs) q) (hc : Bs.length ≤ cp) (hcl : Bs.length ≤ 1099511627776) :
  Ct E 99 [uPt cc, .slice a Bs.length cp] [cnP cc c, q] (fun v Q => v = .int .i64 ((rulB (c.G.length + 1) r).length : Nat) ∧ Q = [cnP cc ⟨c.G ++ [r], c.N⟩, q]) := by
 have hmx : kI = 1152921504606846976 := rfl
 have hok : r.ok (c.G.length + 1) := hw.ok _ _ (by simp)
 refine Sl.ct_open (p := cnP cc c) (ps := fun i : CtG => [cells cc [.slice i.rq (c).G.length i.rc, .slice i.lq (c).G.length i.lc, .map (some i.nb)] 87, sl i.rq i.rc 115 5 (c).G.length (rusC (c).G), sl i.lq i.lc 3 1 (c).G.length (idC (lnsL (c).G)), qAb i.nb (nmF (c).N)]) (fun k h => h) ?_
 rintro ⟨rq, rc, lq, lc, nb⟩
 simp only
 have htm : r.times ≤ 1152921504606846976 := qWf hw (i := c.G.length) (by simp)
 refine zP (hE.fn Tryz.func99) rfl rfl rfl (fun R => ?_)
 simp only [qAe, uV, uW]
 refine qL (qJ (uA rfl (qM (qK (qL (qJ (uM rfl (uM rfl (uB (zB rfl) ?_)))))))))
 refine uB (uBf rfl) ?_
 refine uL ?_
 refine uB (uBl rfl) ?_
 refine uB (uAa rfl rfl) ?_
 refine uX (ct_rTake (n := c.G.length + 1) hE hok (by omega) (by omega) htm hBs hq hc hcl) rfl ?_
 rintro _ _ ⟨rfl, rfl⟩
 simp only [uV, uW]
 refine uM rfl (uB (qV rfl rfl) (uB (qV rfl rfl) (uB (qV rfl rfl) (uU (kG (hE.t rfl) (fun b5 => ?_))))))
 refine uU (uS ?_)
 refine uA rfl (uA rfl (qM (qK (qL (qL (qJ (uM rfl (uB (qAf rfl (hE.t rfl)) ?_))))))))
 refine qM (qK (zD rfl (zC (qK (qL (qJ (uA rfl (qM (qK (qL (qL (qJ (uB (uBf rfl) ?_)))))))))))))
 refine uL ?_
 refine qM (qK (zL (qL (qJ (uB (y_eq rfl rfl) ?_)))))
 refine uA rfl (qM (qK ?_))
 cases r with
 | letter b =>
  have hlen : len (c.G ++ [Rl.letter b]) (c.G.length + 1) = 1 := qXu (b := b) (by simp)
  refine zD rfl (qL (qJ (uB (y_eq rfl rfl) ?_)))
  refine uA rfl (qM (qK (zD rfl (zC (zJ (qK (qL (qL (qJ (uM rfl (uB (qAf rfl (hE.t rfl)) ?_)))))))))))
  refine qM (qK (zD rfl (zC (qK (qL ?_)))))
  refine uN 10 ([cells cc [.slice rq c.G.length rc, .slice lq c.G.length lc, .map (some nb)] 87, cells b5 [.int .i64 (Rl.kind ((Rl.letter b)) : Nat), .int .u8 (Rl.byte ((Rl.letter b)) : Nat), .int .i64 (Rl.left ((Rl.letter b)) : Nat), .int .i64 (Rl.right ((Rl.letter b)) : Nat), .int .i64 (Rl.times ((Rl.letter b)) : Nat)] 115]) ?_
  refine uT 0 rfl (qC rfl) ?_
  refine uT 1 rfl (qC rfl) ?_
  refine uT 2 rfl (zB rfl) ?_
  refine uT 3 rfl (uBf rfl) ?_
  refine uT 4 rfl (uY) ?_
  apply kK 5 rfl (by kernel_rfl)
  ·(apply zW rfl (hE.t rfl) rfl; (repeat (first | rfl | assumption | constructor)); done)
  ·rfl
  apply qGp 6 rfl (by kernel_rfl) rfl
  refine qW (hE.t rfl) (hE.t rfl) rfl rfl rfl (fun b74 => ?_)
  refine uE ?_
  apply qGp 7 rfl (by kernel_rfl) rfl
  apply zV (hE.t rfl) (hE.t rfl) rfl rfl rfl
  ·exact uK
  ·exact uK
  ·rfl
  ·rfl
  ·omega
  ·omega
  ·(unfold maxLen; omega)
  intro g75 c75 n75 x75 hn75 hx75
  refine uE ?_
  apply kK 8 rfl (by kernel_rfl)
  ·exact zB rfl
  ·rfl
  apply kK 9 rfl (by kernel_rfl)
  ·exact uBf rfl
  ·rfl
  apply qGg rfl (by kernel_rfl) (by kernel_rfl) rfl
  refine uS ?_
  refine qK ?_
  obtain rfl : x75 = rusC (c.G ++ [(Rl.letter b)]) := by rw [hx75, qNk]; rfl
  obtain rfl : n75 = (c.G ++ [(Rl.letter b)]).length := by rw [hn75, List.length_append]; rfl
  refine qL (qJ (uM rfl (uM rfl (uB (zB rfl) ?_))))
  refine uB (uBf rfl) ?_
  refine uL ?_
  refine uM rfl (uU ?_)
  refine qW (hE.t rfl) (hE.t rfl) rfl rfl rfl (fun b84 => ?_)
  refine uU ?_
  apply zV (hE.t rfl) (hE.t rfl) rfl rfl rfl
  ·exact uK
  ·exact uK
  ·rfl
  ·rfl
  ·omega
  ·omega
  ·(unfold maxLen; omega)
  intro g85 c85 n85 x85 hn85 hx85
  refine uB (zB rfl) ?_
  refine uB (uBf rfl) ?_
  refine uU (uS ?_)
  refine qM (qK ?_)
  obtain rfl : x85 = idC (lnsL (c.G ++ [(Rl.letter b)])) := by rw [hx85, qNa, qEi, hlen]; rfl
  obtain rfl : n85 = (c.G ++ [(Rl.letter b)]).length := by rw [hn85, List.length_append]; rfl
  refine qAk (qAm (ps := [cells cc [.slice (some ⟨g75, 0, none⟩) (c.G ++ [(Rl.letter b)]).length c75, .slice (some ⟨g85, 0, none⟩) (c.G ++ [(Rl.letter b)]).length c85, .map (some nb)] 87, sl (some ⟨g75, 0, none⟩) c75 115 5 (c.G ++ [(Rl.letter b)]).length (rusC (c.G ++ [(Rl.letter b)])), sl (some ⟨g85, 0, none⟩) c85 3 1 (c.G ++ [(Rl.letter b)]).length (idC (lnsL (c.G ++ [(Rl.letter b)]))), qAb nb (nmF c.N)]) (p := cnP cc ⟨c.G ++ [(Rl.letter b)], c.N⟩) uK (fun k h => ⟨⟨some ⟨g75, 0, none⟩, c75, some ⟨g85, 0, none⟩, c85, nb⟩, h⟩)) ?_
  refine qL (qJ (uM rfl (uA rfl (qM (qK (kC ?_))))))
  exact uZ rfl (.tmp rfl .nil) ⟨rfl, rfl⟩
 | pair x y =>
  obtain ⟨o1, o2, o3, o4⟩ := hok
  have e1 : (Rl.pair x y).left = x := rfl
  have e2 : (Rl.pair x y).right = y := rfl
  have hlen : len (c.G ++ [Rl.pair x y]) (c.G.length + 1) = len c.G x + len c.G y := by
   rw [qQe (l := x) (r := y) (by simp) ⟨o1, o2, o3, o4⟩, qDb _ (by omega), qDb _ (by omega)]
  have hsh := hw.short (c.G.length + 1)
  rw [hlen] at hsh
  have q1 : (lnsL c.G)[x - 1]? = some (len c.G x) := by
   have := qUr (G := c.G) (i := x - 1) (by omega)
   rwa [Nat.sub_add_cancel o1] at this
  have q2 : (lnsL c.G)[y - 1]? = some (len c.G y) := by
   have := qUr (G := c.G) (i := y - 1) (by omega)
   rwa [Nat.sub_add_cancel (by omega)] at this
  have f0 := qDa q1 ((((Rl.pair x y).left : Nat) : Int) - 1).toNat (by omega)
  have f1 := qDa q2 ((((Rl.pair x y).right : Nat) : Int) - 1).toNat (by omega)
  refine qCw (p := sl lq lc 3 1 c.G.length (idC (lnsL c.G))) uK (fun _ h => qAz h (by omega)) ?_
  rintro ⟨gl, rfl⟩
  refine zG rfl ?_
  refine uH ([cells cc [.slice rq c.G.length rc, .slice (some ⟨gl, 0, none⟩) c.G.length lc, .map (some nb)] 87, cells b5 [.int .i64 (Rl.kind ((Rl.pair x y)) : Nat), .int .u8 (Rl.byte ((Rl.pair x y)) : Nat), .int .i64 (Rl.left ((Rl.pair x y)) : Nat), .int .i64 (Rl.right ((Rl.pair x y)) : Nat), .int .i64 (Rl.times ((Rl.pair x y)) : Nat)] 115, sl (some ⟨gl, 0, none⟩) lc 3 1 c.G.length (idC (lnsL c.G))]) ?_
  refine uD 0 rfl (qC rfl) ?_
  refine uD 1 rfl (zB rfl) ?_
  refine uD 2 rfl (uBf rfl) ?_
  refine uD 3 rfl (uY) ?_
  refine uD 4 rfl (uBf rfl) ?_
  refine uD 5 rfl (uY) ?_
  refine uD 6 rfl (uAs rfl rfl) ?_
  refine uD 7 rfl (uAj rfl rfl) ?_
  refine uD 8 rfl (uY) ?_
  refine uD 9 rfl (qC rfl) ?_
  refine uD 10 rfl (zB rfl) ?_
  refine uD 11 rfl (uBf rfl) ?_
  refine uD 12 rfl (uY) ?_
  refine uD 13 rfl (uBf rfl) ?_
  refine uD 14 rfl (uY) ?_
  refine uD 15 rfl (uAs rfl rfl) ?_
  refine uD 16 rfl (uAj rfl rfl) ?_
  refine uD 17 rfl (uY) ?_
  apply kL 18 rfl (by kernel_rfl) rfl
  refine uC (ct_lnAdd hE hsh) rfl ?_
  rintro _ _ ⟨rfl, rfl⟩
  simp only [uV, uW]
  refine uE ?_
  refine uD 19 rfl (qC rfl) ?_
  refine uD 20 rfl (qV rfl rfl) ?_
  refine uD 21 rfl (qV rfl rfl) ?_
  refine uD 22 rfl (qD rfl) ?_
  refine uD 23 rfl (qD rfl) ?_
  refine qCc (by kernel_rfl) ?_
  refine zJ (qK (qL (qL (qJ (uM rfl (uB (qAf rfl (hE.t rfl)) ?_))))))
  refine qM (qK (zD rfl ?_))
  obtain ⟨lq, hlq⟩ : ∃ lq : Option Addr, lq = some ⟨gl, 0, none⟩ := ⟨_, rfl⟩
  rw [← hlq]
  refine zC (qK (qL ?_))
  refine uN 10 ([cells cc [.slice rq c.G.length rc, .slice lq c.G.length lc, .map (some nb)] 87, cells b5 [.int .i64 (Rl.kind ((Rl.pair x y)) : Nat), .int .u8 (Rl.byte ((Rl.pair x y)) : Nat), .int .i64 (Rl.left ((Rl.pair x y)) : Nat), .int .i64 (Rl.right ((Rl.pair x y)) : Nat), .int .i64 (Rl.times ((Rl.pair x y)) : Nat)] 115]) ?_
  refine uT 0 rfl (qC rfl) ?_
  refine uT 1 rfl (qC rfl) ?_
  refine uT 2 rfl (zB rfl) ?_
  refine uT 3 rfl (uBf rfl) ?_
  refine uT 4 rfl (uY) ?_
  apply kK 5 rfl (by kernel_rfl)
  ·(apply zW rfl (hE.t rfl) rfl; (repeat (first | rfl | assumption | constructor)); done)
  ·rfl
  apply qGp 6 rfl (by kernel_rfl) rfl
  refine qW (hE.t rfl) (hE.t rfl) rfl rfl rfl (fun b74 => ?_)
  refine uE ?_
  apply qGp 7 rfl (by kernel_rfl) rfl
  apply zV (hE.t rfl) (hE.t rfl) rfl rfl rfl
  ·exact uK
  ·exact uK
  ·rfl
  ·rfl
  ·omega
  ·omega
  ·(unfold maxLen; omega)
  intro g75 c75 n75 x75 hn75 hx75
  refine uE ?_
  apply kK 8 rfl (by kernel_rfl)
  ·exact zB rfl
  ·rfl
  apply kK 9 rfl (by kernel_rfl)
  ·exact uBf rfl
  ·rfl
  apply qGg rfl (by kernel_rfl) (by kernel_rfl) rfl
  refine uS ?_
  refine qK ?_
  obtain rfl : x75 = rusC (c.G ++ [(Rl.pair x y)]) := by rw [hx75, qNk]; rfl
  obtain rfl : n75 = (c.G ++ [(Rl.pair x y)]).length := by rw [hn75, List.length_append]; rfl
  refine qL (qJ (uM rfl (uM rfl (uB (zB rfl) ?_))))
  refine uB (uBf rfl) ?_
  refine uL ?_
  refine uM rfl (uU ?_)
  refine qW (hE.t rfl) (hE.t rfl) rfl rfl rfl (fun b84 => ?_)
  refine uU ?_
  apply zV (hE.t rfl) (hE.t rfl) rfl rfl rfl
  ·exact uK
  ·exact uK
  ·rfl
  ·rfl
  ·omega
  ·omega
  ·(unfold maxLen; omega)
  intro g85 c85 n85 x85 hn85 hx85
  refine uB (zB rfl) ?_
  refine uB (uBf rfl) ?_
  refine uU (uS ?_)
  refine qM (qK ?_)
  obtain rfl : x85 = idC (lnsL (c.G ++ [(Rl.pair x y)])) := by rw [hx85, qNa, qEi, hlen]; rfl
  obtain rfl : n85 = (c.G ++ [(Rl.pair x y)]).length := by rw [hn85, List.length_append]; rfl
  refine qAk (qAm (ps := [cells cc [.slice (some ⟨g75, 0, none⟩) (c.G ++ [(Rl.pair x y)]).length c75, .slice (some ⟨g85, 0, none⟩) (c.G ++ [(Rl.pair x y)]).length c85, .map (some nb)] 87, sl (some ⟨g75, 0, none⟩) c75 115 5 (c.G ++ [(Rl.pair x y)]).length (rusC (c.G ++ [(Rl.pair x y)])), sl (some ⟨g85, 0, none⟩) c85 3 1 (c.G ++ [(Rl.pair x y)]).length (idC (lnsL (c.G ++ [(Rl.pair x y)]))), qAb nb (nmF c.N)]) (p := cnP cc ⟨c.G ++ [(Rl.pair x y)], c.N⟩) uK (fun k h => ⟨⟨some ⟨g75, 0, none⟩, c75, some ⟨g85, 0, none⟩, c85, nb⟩, h⟩)) ?_
  refine qL (qJ (uM rfl (uA rfl (qM (qK (kC ?_))))))
  exact uZ rfl (.tmp rfl .nil) ⟨rfl, rfl⟩
 | power x k =>
  obtain ⟨o1, o2, o3⟩ := hok
  have e1 : (Rl.power x k).left = x := rfl
  have e2 : (Rl.power x k).times = k := rfl
  have hlen : len (c.G ++ [Rl.power x k]) (c.G.length + 1) = len c.G x * k := by
   rw [qJd (x := x) (k := k) (by simp) ⟨o1, o2, o3⟩, qDb _ (by omega), Nat.mul_comm]
  have hsh := hw.short (c.G.length + 1)
  rw [hlen] at hsh
  have hx1 : 1 ≤ len c.G x := by
   have := hw.pos x o1 (by rw [List.length_append]; omega)
   rwa [qDb _ (by omega)] at this
  have q1 : (lnsL c.G)[x - 1]? = some (len c.G x) := by
   have := qUr (G := c.G) (i := x - 1) (by omega)
   rwa [Nat.sub_add_cancel o1] at this
  have f0 := qDa q1 ((((Rl.power x k).left : Nat) : Int) - 1).toNat (by omega)
  refine qCw (p := sl lq lc 3 1 c.G.length (idC (lnsL c.G))) uK (fun _ h => qAz h (by omega)) ?_
  rintro ⟨gl, rfl⟩
  refine zD rfl (qL (qJ (uB (y_eq rfl rfl) ?_)))
  refine uA rfl (qM (qK (zG rfl ?_)))
  refine uH ([cells cc [.slice rq c.G.length rc, .slice (some ⟨gl, 0, none⟩) c.G.length lc, .map (some nb)] 87, cells b5 [.int .i64 (Rl.kind ((Rl.power x k)) : Nat), .int .u8 (Rl.byte ((Rl.power x k)) : Nat), .int .i64 (Rl.left ((Rl.power x k)) : Nat), .int .i64 (Rl.right ((Rl.power x k)) : Nat), .int .i64 (Rl.times ((Rl.power x k)) : Nat)] 115, sl (some ⟨gl, 0, none⟩) lc 3 1 c.G.length (idC (lnsL c.G))]) ?_
  refine uD 0 rfl (qC rfl) ?_
  refine uD 1 rfl (zB rfl) ?_
  refine uD 2 rfl (uBf rfl) ?_
  refine uD 3 rfl (uY) ?_
  refine uD 4 rfl (uBf rfl) ?_
  refine uD 5 rfl (uY) ?_
  refine uD 6 rfl (uAs rfl rfl) ?_
  refine uD 7 rfl (uAj rfl rfl) ?_
  refine uD 8 rfl (uY) ?_
  refine uD 9 rfl (uBf rfl) ?_
  refine uD 10 rfl (uY) ?_
  apply kL 11 rfl (by kernel_rfl) rfl
  refine uC (qZq hE hsh hx1 (by omega)) rfl ?_
  rintro _ _ ⟨rfl, rfl⟩
  simp only [uV, uW]
  refine uE ?_
  refine uD 12 rfl (qC rfl) ?_
  refine uD 13 rfl (qV rfl rfl) ?_
  refine uD 14 rfl (qV rfl rfl) ?_
  refine uD 15 rfl (qD rfl) ?_
  refine uD 16 rfl (qD rfl) ?_
  refine qCc (by kernel_rfl) ?_
  refine zJ (qK (qL (qL (qJ (uM rfl (uB (qAf rfl (hE.t rfl)) ?_))))))
  refine qM (qK (zD rfl ?_))
  obtain ⟨lq, hlq⟩ : ∃ lq : Option Addr, lq = some ⟨gl, 0, none⟩ := ⟨_, rfl⟩
  rw [← hlq]
  refine zC (qK (qL ?_))
  refine uN 10 ([cells cc [.slice rq c.G.length rc, .slice lq c.G.length lc, .map (some nb)] 87, cells b5 [.int .i64 (Rl.kind ((Rl.power x k)) : Nat), .int .u8 (Rl.byte ((Rl.power x k)) : Nat), .int .i64 (Rl.left ((Rl.power x k)) : Nat), .int .i64 (Rl.right ((Rl.power x k)) : Nat), .int .i64 (Rl.times ((Rl.power x k)) : Nat)] 115]) ?_
  refine uT 0 rfl (qC rfl) ?_
  refine uT 1 rfl (qC rfl) ?_
  refine uT 2 rfl (zB rfl) ?_
  refine uT 3 rfl (uBf rfl) ?_
  refine uT 4 rfl (uY) ?_
  apply kK 5 rfl (by kernel_rfl)
  ·(apply zW rfl (hE.t rfl) rfl; (repeat (first | rfl | assumption | constructor)); done)
  ·rfl
  apply qGp 6 rfl (by kernel_rfl) rfl
  refine qW (hE.t rfl) (hE.t rfl) rfl rfl rfl (fun b74 => ?_)
  refine uE ?_
  apply qGp 7 rfl (by kernel_rfl) rfl
  apply zV (hE.t rfl) (hE.t rfl) rfl rfl rfl
  ·exact uK
  ·exact uK
  ·rfl
  ·rfl
  ·omega
  ·omega
  ·(unfold maxLen; omega)
  intro g75 c75 n75 x75 hn75 hx75
  refine uE ?_
  apply kK 8 rfl (by kernel_rfl)
  ·exact zB rfl
  ·rfl
  apply kK 9 rfl (by kernel_rfl)
  ·exact uBf rfl
  ·rfl
  apply qGg rfl (by kernel_rfl) (by kernel_rfl) rfl
  refine uS ?_
  refine qK ?_
  obtain rfl : x75 = rusC (c.G ++ [(Rl.power x k)]) := by rw [hx75, qNk]; rfl
  obtain rfl : n75 = (c.G ++ [(Rl.power x k)]).length := by rw [hn75, List.length_append]; rfl
  refine qL (qJ (uM rfl (uM rfl (uB (zB rfl) ?_))))
  refine uB (uBf rfl) ?_
  refine uL ?_
  refine uM rfl (uU ?_)
  refine qW (hE.t rfl) (hE.t rfl) rfl rfl rfl (fun b84 => ?_)
  refine uU ?_
  apply zV (hE.t rfl) (hE.t rfl) rfl rfl rfl
  ·exact uK
  ·exact uK
  ·rfl
  ·rfl
  ·omega
  ·omega
  ·(unfold maxLen; omega)
  intro g85 c85 n85 x85 hn85 hx85
  refine uB (zB rfl) ?_
  refine uB (uBf rfl) ?_
  refine uU (uS ?_)
  refine qM (qK ?_)
  obtain rfl : x85 = idC (lnsL (c.G ++ [(Rl.power x k)])) := by rw [hx85, qNa, qEi, hlen]; rfl
  obtain rfl : n85 = (c.G ++ [(Rl.power x k)]).length := by rw [hn85, List.length_append]; rfl
  refine qAk (qAm (ps := [cells cc [.slice (some ⟨g75, 0, none⟩) (c.G ++ [(Rl.power x k)]).length c75, .slice (some ⟨g85, 0, none⟩) (c.G ++ [(Rl.power x k)]).length c85, .map (some nb)] 87, sl (some ⟨g75, 0, none⟩) c75 115 5 (c.G ++ [(Rl.power x k)]).length (rusC (c.G ++ [(Rl.power x k)])), sl (some ⟨g85, 0, none⟩) c85 3 1 (c.G ++ [(Rl.power x k)]).length (idC (lnsL (c.G ++ [(Rl.power x k)]))), qAb nb (nmF c.N)]) (p := cnP cc ⟨c.G ++ [(Rl.power x k)], c.N⟩) uK (fun k h => ⟨⟨some ⟨g75, 0, none⟩, c75, some ⟨g85, 0, none⟩, c85, nb⟩, h⟩)) ?_
  refine qL (qJ (uM rfl (uA rfl (qM (qK (kC ?_))))))
  exact uZ rfl (.tmp rfl .nil) ⟨rfl, rfl⟩
end
section
variable {E : Env}
theorem nmF_set (N : List UInt8 → Option Nat) (nm : List UInt8) (k : Nat) : qIl (nmF N) nm (.int .i64 (k : Nat)) = nmF (setN N (nm, k)) := by
 funext x
 unfold qIl nmF setN
 by_cases e : x = nm
 ·rw [if_pos e, if_pos e]; rfl
 rw [if_neg e, if_neg e]
theorem nmF_del (N : List UInt8 → Option Nat) (nm : List UInt8) : qPw (nmF N) nm = nmF (delN N nm) := by
 funext x
 unfold qPw nmF delN
 by_cases e : x = nm
 ·rw [if_pos e, if_pos e]; rfl
 rw [if_neg e, if_neg e]
theorem qXe (hE : Seat E) {cc k : Nat} {c : Cn} {nm t Bs : List UInt8} {a : Option Addr} {cp : Nat} {q : HP} (hnm : okN nm) (hk : k ≤ c.G.length) (hG : c.G.length ≤ 1048576) (hBs : Bs = qAs nm ++ (vput k ++ t)) (hq : Rdb E.w0 a (byC Bs) q) (hc : Bs.length ≤ cp) (hcl : Bs.length ≤ 1099511627776) :
  Ct E 100 [uPt cc, .slice a Bs.length cp] [cnP cc c, q] (fun v Q => v = .int .i64 ((qAs nm ++ vput k).length : Nat) ∧ Q = [cnP cc ⟨c.G, setN c.N (nm, k)⟩, q]) := by
 have hBl : Bs.length = (qAs nm).length + (vput k ++ t).length := by rw [hBs, List.length_append]
 have hd1 : Bs.drop (qAs nm).length = vput k ++ t := by rw [hBs]; exact List.drop_left
 have hq1 := qBz (k := (qAs nm).length) hq hc
 have hal : (qAs nm ++ vput k).length = (qAs nm).length + (vput k).length := List.length_append
 have hal2 : (vput k ++ t).length = (vput k).length + t.length := List.length_append
 rw [hd1] at hq1
 refine Sl.ct_open (p := cnP cc c) (ps := fun i : CtG => [cells cc [.slice i.rq (c).G.length i.rc, .slice i.lq (c).G.length i.lc, .map (some i.nb)] 87, sl i.rq i.rc 115 5 (c).G.length (rusC (c).G), sl i.lq i.lc 3 1 (c).G.length (idC (lnsL (c).G)), qAb i.nb (nmF (c).N)]) (fun k h => h) ?_
 rintro ⟨rq, rc, lq, lc, nb⟩
 simp only
 refine zP (hE.fn Tryz.func100) rfl rfl rfl (fun R => ?_)
 simp only [qAe, uV, uW]
 refine qL (qJ (uA rfl (qM (qK (qL (qJ (uM rfl (uX (qIv (mx := 32) hE hnm.1 hnm.2 (by omega) hBs hq hc hcl) rfl ?_))))))))
 rintro _ _ ⟨g, rfl, rfl⟩
 simp only [uV, uW]
 refine uM rfl (uB (qV rfl rfl) (uB (qV rfl rfl) (uB (qV rfl rfl) (uA rfl (uA rfl (uA rfl (qM (qK (qL (qL (qJ ?_)))))))))))
 refine uM rfl (uB (qAf rfl (hE.t rfl)) ?_)
 refine uM rfl (kQ rfl rfl (uM rfl (kQ rfl rfl (uB (uBl rfl) ?_))))
 refine kQ rfl rfl (uB (y_eq rfl rfl) ?_)
 refine uB (qZ rfl rfl) ?_
 refine qM (qK ?_)
 refine zF rfl (fun c1 => ?_) (fun c1 => ?_)
 ·exfalso
  have := hnm.1
  omega
 refine zC (qK (qL (qJ (uM rfl (uM rfl ?_)))))
 refine uB (qBv (l := (qAs nm).length) (h := Bs.length) rfl (hE.t rfl) ⟨_, rfl⟩ rfl (by omega) (by omega)) ?_
 refine l_eq 26 (.slice (vwA a cp (qAs nm).length) (vput k ++ t).length (cp - (qAs nm).length)) rfl (congrArg (fun z => Value.slice _ z _) (by omega)) ?_
 refine uX (qIu (n := k) (t := t) hE (by omega) rfl hq1) rfl ?_
 rintro _ _ ⟨rfl, rfl⟩
 simp only [uV, uW]
 refine uM rfl (uB (qV rfl rfl) (uB (qV rfl rfl) (uB (qV rfl rfl) (uA rfl (uA rfl (uA rfl (qM (qK (qL (qL (qJ ?_)))))))))))
 refine uM rfl (uB (qAf rfl (hE.t rfl)) ?_)
 refine uM rfl (kQ rfl rfl (uM rfl (kQ rfl rfl (uM rfl (kQ rfl rfl (uB (zB rfl) ?_))))))
 refine kQ rfl rfl (uB (uBf rfl) ?_)
 refine kQ rfl rfl (uL ?_)
 refine kQ rfl rfl (uB (uBl rfl) ?_)
 refine kQ rfl rfl (uB (uAc rfl) ?_)
 refine kQ rfl rfl (uB (y_gt rfl rfl) ?_)
 refine uB (qZ rfl rfl) ?_
 refine qM (qK ?_)
 refine zF rfl (fun c2 => ?_) (fun c2 => ?_)
 ·exfalso
  omega
 have hqs : Rdb E.w0 (some ⟨g, 0, none⟩) (byC nm) (sl (some ⟨g, 0, none⟩) nm.length 5 1 nm.length (byC nm)) := qCv (qAg _) (fun _ => ⟨g, rfl⟩)
 refine zC (qK (qL ?_))
 refine uN 8 ([cells cc [.slice rq c.G.length rc, .slice lq c.G.length lc, .map (some nb)] 87, sl (some ⟨g, 0, none⟩) nm.length 5 1 nm.length (byC nm)]) ?_
 refine uT 0 rfl (qC rfl) ?_
 refine uT 1 rfl (zB rfl) ?_
 refine uT 2 rfl (uBf rfl) ?_
 refine uT 3 rfl (uY) ?_
 refine uT 4 rfl (qC rfl) ?_
 refine uT 5 rfl (qIo (q := sl (some ⟨g, 0, none⟩) nm.length 5 1 nm.length (byC nm)) (src := 57) (dst := 9) (e := 5) rfl (hE.t rfl) (hE.t rfl) (hE.t rfl) (by assumption) (by ((repeat constructor); done))) ?_
 apply kK 6 rfl (by kernel_rfl)
 ·exact qC rfl
 ·rfl
 apply kK 7 rfl (by kernel_rfl)
 ·exact uAc rfl
 ·rfl
 apply qGg rfl (by kernel_rfl) (by kernel_rfl) rfl
 apply qFm (kt := 9) (et := 3) (by rw [hE.P]; kernel_rfl) (by rw [hE.P]; kernel_rfl) rfl rfl rfl
 ·exact uK
 refine qK ?_
 rw [nmF_set]
 refine qAk (qAm (ps := [cells cc [.slice rq c.G.length rc, .slice lq c.G.length lc, .map (some nb)] 87, sl rq rc 115 5 c.G.length (rusC c.G), sl lq lc 3 1 c.G.length (idC (lnsL c.G)), qAb nb (nmF (setN c.N (nm, k)))]) (p := cnP cc ⟨c.G, setN c.N (nm, k)⟩) uK (fun k h => ⟨⟨rq, rc, lq, lc, nb⟩, h⟩)) ?_
 refine qL (qJ (uM rfl (uM rfl (uB (uAa rfl rfl) ?_))))
 refine l_eq 53 (.int .i64 ((qAs nm ++ vput k).length : Nat)) rfl (zX (by omega)) ?_
 refine uA rfl (qM (qK (kC ?_)))
 exact uZ rfl (.tmp rfl .nil) ⟨rfl, rfl⟩
theorem qTt (hE : Seat E) {cc : Nat} {c : Cn} {nm t Bs : List UInt8} {a : Option Addr} {cp : Nat} {q : HP} (hnm : okN nm) (hBs : Bs = qAs nm ++ t) (hq : Rdb E.w0 a (byC Bs) q) (hc : Bs.length ≤ cp) (hcl : Bs.length ≤ 1099511627776) :
  Ct E 101 [uPt cc, .slice a Bs.length cp] [cnP cc c, q] (fun v Q => v = .int .i64 ((qAs nm).length : Nat) ∧ Q = [cnP cc ⟨c.G, delN c.N nm⟩, q]) := by
 refine Sl.ct_open (p := cnP cc c) (ps := fun i : CtG => [cells cc [.slice i.rq (c).G.length i.rc, .slice i.lq (c).G.length i.lc, .map (some i.nb)] 87, sl i.rq i.rc 115 5 (c).G.length (rusC (c).G), sl i.lq i.lc 3 1 (c).G.length (idC (lnsL (c).G)), qAb i.nb (nmF (c).N)]) (fun k h => h) ?_
 rintro ⟨rq, rc, lq, lc, nb⟩
 simp only
 refine zP (hE.fn Tryz.func101) rfl rfl rfl (fun R => ?_)
 simp only [qAe, uV, uW]
 refine qL (qJ (uA rfl (qM (qK (qL (qJ (uM rfl (uX (qIv (mx := 32) hE hnm.1 hnm.2 (by omega) hBs hq hc hcl) rfl ?_))))))))
 rintro _ _ ⟨g, rfl, rfl⟩
 simp only [uV, uW]
 refine uM rfl (uB (qV rfl rfl) (uB (qV rfl rfl) (uB (qV rfl rfl) (uA rfl (uA rfl (uA rfl (qM (qK (qL (qL (qJ ?_)))))))))))
 refine uM rfl (uB (qAf rfl (hE.t rfl)) ?_)
 refine uM rfl (kQ rfl rfl (uM rfl (kQ rfl rfl (uB (uBl rfl) ?_))))
 refine kQ rfl rfl (uB (y_eq rfl rfl) ?_)
 refine uB (qZ rfl rfl) ?_
 refine qM (qK ?_)
 refine zF rfl (fun c1 => ?_) (fun c1 => ?_)
 ·exfalso
  have := hnm.1
  omega
 have hqs : Rdb E.w0 (some ⟨g, 0, none⟩) (byC nm) (sl (some ⟨g, 0, none⟩) nm.length 5 1 nm.length (byC nm)) := qCv (qAg _) (fun _ => ⟨g, rfl⟩)
 refine zC (qK (qL ?_))
 refine uH ([cells cc [.slice rq c.G.length rc, .slice lq c.G.length lc, .map (some nb)] 87, sl (some ⟨g, 0, none⟩) nm.length 5 1 nm.length (byC nm)]) ?_
 refine uD 0 rfl (qC rfl) ?_
 refine uD 1 rfl (zB rfl) ?_
 refine uD 2 rfl (uBf rfl) ?_
 refine uD 3 rfl (uY) ?_
 refine uD 4 rfl (qC rfl) ?_
 refine uD 5 rfl (qIo (q := sl (some ⟨g, 0, none⟩) nm.length 5 1 nm.length (byC nm)) (src := 57) (dst := 9) (e := 5) rfl (hE.t rfl) (hE.t rfl) (hE.t rfl) (by assumption) (by ((repeat constructor); done))) ?_
 apply kL 6 rfl (by kernel_rfl) rfl
 apply qJy (kt := 9) (et := 3) (by rw [hE.P]; kernel_rfl) (by rw [hE.P]; kernel_rfl) rfl rfl
 ·exact uK
 refine uE ?_
 refine qCc (by kernel_rfl) ?_
 refine qK ?_
 rw [nmF_del]
 refine qAk (qAm (ps := [cells cc [.slice rq c.G.length rc, .slice lq c.G.length lc, .map (some nb)] 87, sl rq rc 115 5 c.G.length (rusC c.G), sl lq lc 3 1 c.G.length (idC (lnsL c.G)), qAb nb (nmF (delN c.N nm))]) (p := cnP cc ⟨c.G, delN c.N nm⟩) uK (fun k h => ⟨⟨rq, rc, lq, lc, nb⟩, h⟩)) ?_
 refine qL (qJ (uM rfl (uA rfl (qM (qK (kC ?_))))))
 exact uZ rfl (.tmp rfl .nil) ⟨rfl, rfl⟩
end
section
variable {E : Env}
def itsG : Nat → List Rl → List (List UInt8)
 | _, [] => []
 | k, r :: rs => rulB (k + 1) r :: itsG (k + 1) rs
theorem qSq : ∀ (k : Nat) (l : List Rl), (itsG k l).flatten = encG k l
 | _, [] => rfl
 | k, r :: rs => by
  rw [itsG, List.flatten_cons, qSq (k + 1) rs]
  rfl
theorem qLi : ∀ (k : Nat) (l : List Rl), (itsG k l).length = l.length
 | _, [] => rfl
 | k, r :: rs => by rw [itsG, List.length_cons, qLi (k + 1) rs, List.length_cons]
theorem qQc : ∀ (k : Nat) (l : List Rl) (i : Nat), (itsG k l)[i]? = (l[i]?).map fun r => rulB (k + i + 1) r
 | _, [], i => by simp [itsG]
 | k, r :: rs, 0 => by simp [itsG]
 | k, r :: rs, i + 1 => by
  rw [itsG, List.getElem?_cons_succ, qQc (k + 1) rs i, List.getElem?_cons_succ]
  rw [show k + 1 + i + 1 = k + (i + 1) + 1 by omega]
theorem wf_left {A B : List Rl} (hw : Wf (A ++ B)) : Wf A := by
 refine ⟨fun i r h => hw.ok i r ?_, fun i j r h1 h2 => hw.nodup i j r ?_ ?_, fun i => ?_, ?_⟩
 ·rw [List.getElem?_append_left (List.getElem?_eq_some_iff.1 h).1]; exact h
 ·rw [List.getElem?_append_left (List.getElem?_eq_some_iff.1 h1).1]; exact h1
 ·rw [List.getElem?_append_left (List.getElem?_eq_some_iff.1 h2).1]; exact h2
 ·rcases Nat.lt_or_ge A.length i with hi | hi
  ·rw [qUq hi]; exact Nat.zero_le _
  have := hw.short i
  rwa [qDb B hi] at this
 have := hw.room
 rw [List.length_append] at this
 omega
structure Tx49Ok (G : List Rl) (t : Tx49) : Prop where
 wf : Wf (G ++ t.new)
 sets : ∀ p ∈ t.sets, okN p.1 ∧ p.2 ≤ (G ++ t.new).length
 drops : ∀ x ∈ t.drops, okN x
theorem zAg (l : List (List UInt8 × Nat)) : (l.map fun p => qAs p.1 ++ vput p.2).flatten = encM l := by
 unfold encM
 rw [List.flatMap_def]
theorem drB_flat (l : List (List UInt8)) : (l.map qAs).flatten = drB l := by
 unfold drB
 rw [List.flatMap_def]
theorem qRn (l : List UInt8) : 1 ≤ (qAs l).length := by
 unfold qAs
 rw [List.length_append]
 have := qCq l.length
 omega
theorem qWu (hE : Seat E) {cc : Nat} {c : Cn} {t : Tx49} {a : Option Addr} {cp : Nat} {q : HP} (ht : Tx49Ok c.G t) (hq : Rdb E.w0 a (byC (t.body c.G.length)) q) (hc : (t.body c.G.length).length ≤ cp) (hcl : (t.body c.G.length).length ≤ 1000000000) (hs : t.sets.length ≤ 1000000) (hdr : t.drops.length ≤ 1000000) :
  Ct E 68 [uPt cc, .slice a (t.body c.G.length).length cp] [cnP cc c, q] (fun v Q => v = .bool true ∧ Q = [cnP cc (c.app t), q]) := by
 obtain ⟨hw, hsets, hdrops⟩ := ht
 have hmr : qBu = 1048576 := rfl
 have hroom := hw.room
 rw [List.length_append] at hroom
 obtain ⟨B3, hB3⟩ : ∃ B, B = vput t.drops.length ++ drB t.drops := ⟨_, rfl⟩
 obtain ⟨B2, hB2⟩ : ∃ B, B = vput t.sets.length ++ (encM t.sets ++ B3) := ⟨_, rfl⟩
 obtain ⟨B1, hB1⟩ : ∃ B, B = t.body c.G.length := ⟨_, rfl⟩
 have e1 : B1 = vput (itsG c.G.length t.new).length ++ ((itsG c.G.length t.new).flatten ++ B2) := by
  rw [qLi, qSq, hB2, hB3, hB1]
  rfl
 have e2 : B2 = vput (t.sets.map fun p => qAs p.1 ++ vput p.2).length ++ ((t.sets.map fun p => qAs p.1 ++ vput p.2).flatten ++ B3) := by rw [List.length_map, zAg, hB2]
 have e3 : B3 = vput (t.drops.map qAs).length ++ ((t.drops.map qAs).flatten ++ []) := by rw [List.length_map, drB_flat, hB3, List.append_nil]
 rw [← hB1] at hq hc hcl ⊢
 have l12 : B2.length ≤ B1.length := by
  rw [e1]
  simp only [List.length_append]
  omega
 have l23 : B3.length ≤ B2.length := by
  rw [e2]
  simp only [List.length_append]
  omega
 have hf1 : goFn E.P 99 = true := hE.f (by kernel_rfl)
 have hf2 : goFn E.P 100 = true := hE.f (by kernel_rfl)
 have hf3 : goFn E.P 101 = true := hE.f (by kernel_rfl)
 have s1 : ∀ i x r a' c', (itsG c.G.length t.new)[i]? = some x → r = ((itsG c.G.length t.new).drop (i + 1)).flatten ++ B2 → Rdb E.w0 a' (byC (x ++ r)) q → (x ++ r).length ≤ c' → Ct E 99 [uPt cc, .slice a' (x ++ r).length c'] [cnP cc ⟨c.G ++ t.new.take i, c.N⟩, q] (fun v Q => v = .int .i64 (x.length : Nat) ∧ Q = [cnP cc ⟨c.G ++ t.new.take (i + 1), c.N⟩, q]) := by
  intro i x r a' c' hx hr hq' hc'
  rw [qQc] at hx
  obtain ⟨ru, hru, rfl⟩ := Option.map_eq_some_iff.1 hx
  have hil := (List.getElem?_eq_some_iff.1 hru).1
  have hgl : (c.G ++ t.new.take i).length = c.G.length + i := by rw [List.length_append, List.length_take]; omega
  have htk : c.G ++ t.new.take (i + 1) = (c.G ++ t.new.take i) ++ [ru] := by rw [List.take_add_one, hru, List.append_assoc]; rfl
  have hwi : Wf ((c.G ++ t.new.take i) ++ [ru]) := by
   rw [← htk]
   refine wf_left (B := t.new.drop (i + 1)) ?_
   rw [List.append_assoc, List.take_append_drop]
   exact hw
  have hbl : (rulB (c.G.length + i + 1) ru ++ r).length ≤ B1.length := by
   have e : itsG c.G.length t.new = (itsG c.G.length t.new).take i ++ rulB (c.G.length + i + 1) ru :: (itsG c.G.length t.new).drop (i + 1) := by
    rw [← qDy (by rw [qQc, hru]; rfl), List.take_append_drop]
   have e9 := congrArg List.length e1
   rw [e, hr] at *
   simp only [List.length_append, List.flatten_append, List.flatten_cons] at e9 ⊢
   omega
  have := qWt (cc := cc) (c := ⟨c.G ++ t.new.take i, c.N⟩) (r := ru) (t := r) (Bs := rulB (c.G.length + i + 1) ru ++ r) (a := a') (cp := c') (q := q) hE hwi (by simp only; omega) (by simp only [hgl]) hq' hc' (by omega)
  simp only [hgl] at this
  rw [htk]
  exact this
 have s2 : ∀ i x r a' c', (t.sets.map fun p => qAs p.1 ++ vput p.2)[i]? = some x → r = ((t.sets.map fun p => qAs p.1 ++ vput p.2).drop (i + 1)).flatten ++ B3 → Rdb E.w0 a' (byC (x ++ r)) q → (x ++ r).length ≤ c' → Ct E 100 [uPt cc, .slice a' (x ++ r).length c'] [cnP cc ⟨c.G ++ t.new, (t.sets.take i).foldl setN c.N⟩, q] (fun v Q => v = .int .i64 (x.length : Nat) ∧ Q = [cnP cc ⟨c.G ++ t.new, (t.sets.take (i + 1)).foldl setN c.N⟩, q]) := by
  intro i x r a' c' hx hr hq' hc'
  rw [List.getElem?_map] at hx
  obtain ⟨p, hp, rfl⟩ := Option.map_eq_some_iff.1 hx
  obtain ⟨h1, h2⟩ := hsets p (List.mem_of_getElem? hp)
  have hbl : ((qAs p.1 ++ vput p.2) ++ r).length ≤ B2.length := by
   have e : (t.sets.map fun p => qAs p.1 ++ vput p.2) = (t.sets.map fun p => qAs p.1 ++ vput p.2).take i ++ (qAs p.1 ++ vput p.2) :: (t.sets.map fun p => qAs p.1 ++ vput p.2).drop (i + 1) := by
    rw [← qDy (by rw [List.getElem?_map, hp]; rfl), List.take_append_drop]
   have e9 := congrArg List.length e2
   rw [e] at e9
   rw [hr]
   simp only [List.length_append, List.flatten_append, List.flatten_cons] at e9 ⊢
   omega
  have hfl : (t.sets.take (i + 1)).foldl setN c.N = setN ((t.sets.take i).foldl setN c.N) p := by rw [List.take_add_one, hp]; simp
  have := qXe (cc := cc) (k := p.2) (c := ⟨c.G ++ t.new, (t.sets.take i).foldl setN c.N⟩) (nm := p.1) (t := r) (Bs := (qAs p.1 ++ vput p.2) ++ r) (a := a') (cp := c') (q := q) hE h1 h2 (by simp only [List.length_append]; omega) (by rw [List.append_assoc]) hq' hc' (by omega)
  rw [hfl]
  exact this
 have s3 : ∀ i x r a' c', (t.drops.map qAs)[i]? = some x → r = ((t.drops.map qAs).drop (i + 1)).flatten ++ [] → Rdb E.w0 a' (byC (x ++ r)) q → (x ++ r).length ≤ c' → Ct E 101 [uPt cc, .slice a' (x ++ r).length c'] [cnP cc ⟨c.G ++ t.new, (t.drops.take i).foldl delN (t.sets.foldl setN c.N)⟩, q] (fun v Q => v = .int .i64 (x.length : Nat) ∧ Q = [cnP cc ⟨c.G ++ t.new, (t.drops.take (i + 1)).foldl delN (t.sets.foldl setN c.N)⟩, q]) := by
  intro i x r a' c' hx hr hq' hc'
  rw [List.getElem?_map] at hx
  obtain ⟨p, hp, rfl⟩ := Option.map_eq_some_iff.1 hx
  have h1 := hdrops p (List.mem_of_getElem? hp)
  have hbl : (qAs p ++ r).length ≤ B3.length := by
   have e : t.drops.map qAs = (t.drops.map qAs).take i ++ qAs p :: (t.drops.map qAs).drop (i + 1) := by
    rw [← qDy (by rw [List.getElem?_map, hp]; rfl), List.take_append_drop]
   have e9 := congrArg List.length e3
   rw [e] at e9
   rw [hr]
   simp only [List.length_append, List.flatten_append, List.flatten_cons] at e9 ⊢
   omega
  have hfl : (t.drops.take (i + 1)).foldl delN (t.sets.foldl setN c.N) = delN ((t.drops.take i).foldl delN (t.sets.foldl setN c.N)) p := by rw [List.take_add_one, hp]; simp
  have := qTt (cc := cc) (c := ⟨c.G ++ t.new, (t.drops.take i).foldl delN (t.sets.foldl setN c.N)⟩) (nm := p) (t := r) (Bs := qAs p ++ r) (a := a') (cp := c') (q := q) hE h1 rfl hq' hc' (by omega)
  rw [hfl]
  exact this
 have p1 : ∀ x ∈ itsG c.G.length t.new, 1 ≤ x.length := fun x hx => by
  obtain ⟨i, hi⟩ := List.getElem?_of_mem hx
  rw [qQc] at hi
  obtain ⟨ru, _, rfl⟩ := Option.map_eq_some_iff.1 hi
  cases ru <;> simp [rulB]
 have p2 : ∀ x ∈ (t.sets.map fun p => qAs p.1 ++ vput p.2), 1 ≤ x.length := fun x hx => by
  obtain ⟨p, _, rfl⟩ := List.mem_map.1 hx
  have := qRn p.1
  simp only [List.length_append]
  omega
 have p3 : ∀ x ∈ t.drops.map qAs, 1 ≤ x.length := fun x hx => by
  obtain ⟨p, _, rfl⟩ := List.mem_map.1 hx
  exact qRn p
 have z1 : cnP cc c = cnP cc ⟨c.G ++ t.new.take 0, c.N⟩ := by rw [List.take_zero, List.append_nil]
 have z2 : (⟨c.G ++ t.new.take (itsG c.G.length t.new).length, c.N⟩ : Cn) = ⟨c.G ++ t.new, (t.sets.take 0).foldl setN c.N⟩ := by rw [qLi, List.take_length]; rfl
 have z3 : (⟨c.G ++ t.new, (t.sets.take (t.sets.map fun p => qAs p.1 ++ vput p.2).length).foldl setN c.N⟩ : Cn) = ⟨c.G ++ t.new, (t.drops.take 0).foldl delN (t.sets.foldl setN c.N)⟩ := by rw [List.length_map, List.take_length]; rfl
 have z4 : (⟨c.G ++ t.new, (t.drops.take (t.drops.map qAs).length).foldl delN (t.sets.foldl setN c.N)⟩ : Cn) = c.app t := by rw [List.length_map, List.take_length]; rfl
 have nl1 : (itsG c.G.length t.new).length ≤ 1099511627776 := by rw [qLi]; omega
 have nl2 : (t.sets.map fun p => qAs p.1 ++ vput p.2).length ≤ 1099511627776 := by rw [List.length_map]; omega
 have nl3 : (t.drops.map qAs).length ≤ 1099511627776 := by rw [List.length_map]; omega
 rw [z1]
 refine zP (hE.fn Tryz.func68) rfl rfl rfl (fun R => ?_)
 simp only [qAe, uV, uW]
 refine qL (qJ (uA rfl (qM (qK (qL (qJ (uM rfl (uM rfl (uB (qIn rfl) ?_)))))))))
 refine uX (qJq (items := itsG c.G.length t.new) (t := B2) (J := fun i => cnP cc ⟨c.G ++ t.new.take i, c.N⟩) hE hf1 e1 hq hc (by omega) nl1 p1 s1) rfl ?_
 rintro _ _ ⟨a2, cp2, rfl, hq2, hc2, rfl⟩
 rw [z2]
 simp only [uV, uW]
 refine uM rfl (uB (qV rfl rfl) (uB (qV rfl rfl) (uA rfl (uA rfl (qM (qK (qL (qL (qJ (uM rfl (uB (qBm rfl) ?_)))))))))))
 refine qM (qK (zD rfl (zC (qK (qL (qJ (uM rfl (uM rfl (uB (qIn rfl) ?_)))))))))
 refine uX (qJq (items := t.sets.map fun p => qAs p.1 ++ vput p.2) (t := B3) (J := fun i => cnP cc ⟨c.G ++ t.new, (t.sets.take i).foldl setN c.N⟩) hE hf2 e2 hq2 hc2 (by omega) nl2 p2 s2) rfl ?_
 rintro _ _ ⟨a3, cp3, rfl, hq3, hc3, rfl⟩
 rw [z3]
 simp only [uV, uW]
 refine uM rfl (uB (qV rfl rfl) (uB (qV rfl rfl) (uA rfl (uA rfl (qM (qK (qL (qL (qJ (uM rfl (uB (qBm rfl) ?_)))))))))))
 refine qM (qK (zD rfl (zC (qK (qL (qJ (uM rfl (uM rfl (uB (qIn rfl) ?_)))))))))
 refine uX (qJq (items := t.drops.map qAs) (t := []) (J := fun i => cnP cc ⟨c.G ++ t.new, (t.drops.take i).foldl delN (t.sets.foldl setN c.N)⟩) hE hf3 e3 hq3 hc3 (by omega) nl3 p3 s3) rfl ?_
 rintro _ _ ⟨a4, cp4, rfl, hq4, hc4, rfl⟩
 rw [z4]
 simp only [uV, uW]
 refine uM rfl (uB (qV rfl rfl) (uB (qV rfl rfl) (uA rfl (uA rfl (qM (qK (qL (qJ (uM rfl (uM rfl (kQ rfl rfl (uM rfl ?_))))))))))))
 refine kQ rfl rfl (uB (uBl rfl) ?_)
 refine kQ rfl rfl (uB (y_eq rfl rfl) ?_)
 refine uB (qY rfl rfl) ?_
 refine uA rfl (qM (qK (kC ?_)))
 exact uZ rfl (.tmp rfl .nil) ⟨rfl, rfl⟩
end
section
variable {E : Env}
theorem qZa (hE : Seat E) {xs ys : List UInt8} {a b : Option Addr} {c d : Nat} {q r : HP} (hq : Rdb E.w0 a (byC xs) q) (hr : Rdb E.w0 b (byC ys) r) : Ct E 136 [.slice a xs.length c, .slice b ys.length d] [q, r] (fun v Q => v = .bool (decide (xs = ys)) ∧ Q = [q, r]) := by
 refine zP (hE.fn Tryz.func136) rfl rfl rfl (fun R => ?_)
 simp only [qAe, uV, uW]
 refine qL (qJ (uA rfl (qM (qK (qL (qJ (uM rfl ?_)))))))
 refine uB (qIo (q := q) (src := 57) (dst := 9) (e := 5) rfl (hE.t rfl) (hE.t rfl) (hE.t rfl) (by assumption) uK) ?_
 refine uM rfl (uB (qIo (q := r) (src := 57) (dst := 9) (e := 5) rfl (hE.t rfl) (hE.t rfl) (hE.t rfl) (by assumption) uK) ?_)
 refine uB (y_eq_str rfl rfl) ?_
 refine uA rfl (qM (qK (kC ?_)))
 exact uZ rfl (.tmp rfl .nil) ⟨rfl, rfl⟩
theorem qPn (hE : Seat E) {xs ys zs : List UInt8} {a b : Option Addr} {c d : Nat} {q r : HP} (hx : xs = ys ++ zs) (hq : Rdb E.w0 a (byC xs) q) (hr : Rdb E.w0 b (byC ys) r) (hc : xs.length ≤ c) : Ct E 97 [.slice a xs.length c, .slice b ys.length d] [q, r] (fun v Q => v = .bool true ∧ Q = [q, r]) := by
 have hl : xs.length = ys.length + zs.length := by rw [hx, List.length_append]
 have ht : xs.take ys.length = ys := by rw [hx]; exact List.take_left
 have hq0 : Rdb E.w0 (vwA a c 0) (byC ys) q := by
  have := qNg (m := ys.length) (qBz (k := 0) hq hc)
  rwa [List.drop_zero, ht] at this
 refine zP (hE.fn Tryz.func97) rfl rfl rfl (fun R => ?_)
 simp only [qAe, uV, uW]
 refine qL (qJ (uA rfl (qM (qK (qL (qJ (uM rfl (uB (uBl rfl) ?_))))))))
 refine uM rfl (uB (uBl rfl) ?_)
 refine uB (y_ge rfl rfl) ?_
 refine uM rfl ?_
 refine qAl 10 rfl (fun c1 => ?_) (fun c1 => ?_)
 ·skip
  refine kQ rfl rfl (uM rfl (kQ rfl rfl (uM rfl (kQ rfl rfl (uB (uBl rfl) ?_)))))
  refine kQ rfl rfl (uB (qBv (l := 0) (h := ys.length) rfl (hE.t rfl) rfl ⟨_, rfl⟩ (Nat.zero_le _) (by omega)) ?_)
  refine kQ rfl rfl (uM rfl (kQ rfl rfl (uX (qZa (xs := ys) (ys := ys) (a := vwA a c 0) (c := c - 0) hE hq0 hr) rfl ?_)))
  rintro _ _ ⟨rfl, rfl⟩
  simp only [uV, uW]
  refine uB (qY rfl rfl) ?_
  refine uA rfl (qM (qK (kC ?_)))
  exact uZ rfl (.tmp rfl .nil) ⟨congrArg Value.bool (by simp), rfl⟩
 exfalso
 omega
theorem qPm (hE : Seat E) {xs ys zs : List UInt8} {a b : Option Addr} {c d : Nat} {q r : HP} (hx : xs = ys ++ zs) (hq : Rdb E.w0 a (byC xs) q) (hr : Rdb E.w0 b (byC ys) r) (hc : xs.length ≤ c) : Ct E 67 [.slice a xs.length c, .slice b ys.length d] [q, r] (fun v Q => v = .tuple #[.slice (vwA a c ys.length) zs.length (c - ys.length), .bool true] ∧ Q = [q, r]) := by
 have hl : xs.length = ys.length + zs.length := by rw [hx, List.length_append]
 refine zP (hE.fn Tryz.func67) rfl rfl rfl (fun R => ?_)
 simp only [qAe, uV, uW]
 refine qL (qJ (uA rfl (uA rfl (qM (qK (qL (qL (qJ (uM rfl (uM rfl (uX (qPn hE hx hq hr hc) rfl ?_)))))))))))
 rintro _ _ ⟨rfl, rfl⟩
 simp only [uV, uW]
 refine uB (qBm rfl) ?_
 refine qM (qK (zD rfl (zC (qK (qL (qJ (uM rfl (uM rfl (uB (uBl rfl) ?_)))))))))
 refine uB (qBv (l := ys.length) (h := xs.length) rfl (hE.t rfl) ⟨_, rfl⟩ rfl (by omega) (by omega)) ?_
 refine l_eq 14 (.slice (vwA a c ys.length) zs.length (c - ys.length)) rfl (congrArg (fun z => Value.slice _ z _) (by omega)) ?_
 refine uA rfl (uA rfl (qM (qK (kC ?_))))
 exact uZ rfl (.tmp rfl (.tmp rfl .nil)) ⟨rfl, rfl⟩
def Fit : List Rl → List Tx49 → Prop
 | _, [] => True
 | G, t :: ts => Tx49Ok G t ∧ (t.body G.length).length ≤ 1000000000 ∧ t.sets.length ≤ 1000000 ∧ t.drops.length ≤ 1000000 ∧ Fit (G ++ t.new) ts
structure CrG where
 i : Nat
 c : Cn
 ts : List Tx49
theorem zBa (k : Nat) (t : Tx49) (ts : List Tx49) : pays k (t :: ts) = payB (t.body k) :: pays (k + t.new.length) ts := rfl
theorem zBf {w0 : World} {g : Nat} {vs : List Value} : Rdb w0 (some ⟨g, 0, none⟩) vs (ro g vs) := fun _ => ⟨g, 0, rfl, fun k h i v hv => by
 obtain ⟨cur, t, z, h1, h2⟩ := h
 exact .inr ⟨cur, t, z, h1, by rw [Nat.zero_add]; exact h2 i v hv⟩⟩
theorem paC_at {l : List Py} {i : Nat} {y : Py} (h : l[i]? = some y) (o : Nat) (ho : o = i) : (paC l)[o]? = some (.slice y.1 y.2.2.length y.2.1) := by
 subst ho
 unfold paC
 rw [List.getElem?_map, h]
 rfl
theorem payP_pop {l : List Py} {i : Nat} {y : Py} (h : l[i]? = some y) {k : PH} (x : payP (l.drop i) k) : qAd [paA y, payP (l.drop (i + 1))] k := by
 unfold payP at x ⊢
 rw [qDy h, List.map_cons] at x
 exact qCt (l := [paA y]) x
theorem ct_cRead (hE : Seat E) {cc pc : Nat} {pq : Option Addr} {ys : List Py} {ts : List Tx49} (hts : Fit [] ts) (hys : ys.map (fun x => x.2.2) = pays 0 ts) (hn : ys.length ≤ 1000000000) :
  Ct E 37 [uPt cc, .slice pq ys.length pc] [cnP cc Cn.nil, sl pq pc 57 1 ys.length (paC ys), payP ys] (fun v Q => v = .bool true ∧ Q = [cnP cc (qAa Cn.nil ts)]) := by
 refine zP (hE.fn Tryz.func37) rfl rfl rfl (fun R => ?_)
 simp only [qAe, uV, uW]
 refine qL (qJ (uA rfl (qM (qK (qL (qJ (uA rfl (qM (qK (qL (qJ (uA rfl ?_))))))))))))
 refine qM (qK (qL (qL (qJ (uM rfl (uB (uBl rfl) ?_))))))
 refine uM rfl (qM (qK (zL ?_)))
 refine qAj (fun x : CrG => [(0, uPt cc), (11, .slice pq ys.length pc), (12, .int .i64 (ys.length : Nat)), (13, .int .i64 (x.i : Nat))]) (fun x => [cnP cc x.c, sl pq pc 57 1 ys.length (paC ys), payP (ys.drop x.i), R]) (fun x => ys.length - x.i) (fun x => x.i ≤ ys.length ∧ Fit x.c.G x.ts ∧ (ys.drop x.i).map (fun x => x.2.2) = pays x.c.G.length x.ts ∧ qAa x.c x.ts = qAa Cn.nil ts) ⟨0, Cn.nil, ts⟩ ⟨Nat.zero_le _, hts, hys, rfl⟩ ⟨rfl, rfl, rfl, rfl, trivial⟩ uI ?_
 rintro ⟨i, c, ts'⟩ ⟨hi, hft, hpy, hco⟩
 simp only at hi hft hpy hco ⊢
 refine qL (qJ (uB (y_lt rfl rfl) ?_))
 refine qM (qK (qL ?_))
 refine zF rfl (fun h1 => ?_) (fun h1 => ?_)
 ·obtain ⟨y, hy⟩ : ∃ y, ys[i]? = some y := ⟨_, List.getElem?_eq_getElem (by omega)⟩
  rw [qDy hy, List.map_cons] at hpy
  cases ts' with
  | nil => cases hpy
  | cons t ts2 =>
   rw [zBa] at hpy
   obtain ⟨hpy1, hpy2⟩ := List.cons.inj hpy
   obtain ⟨k1, k2, k3, k4, k5⟩ := hft
   obtain ⟨B, hB⟩ : ∃ B, B = t.body c.G.length := ⟨_, rfl⟩
   rw [← hB] at hpy1 k2
   have f0 := paC_at hy (((i : Nat) : Int).toNat) (by omega)
   have hyl : y.2.2.length = B.length + 3 := by rw [hpy1]; rfl
   refine qFa (p := payP (ys.drop i)) (ps := fun _ : Unit => [paA y, payP (ys.drop (i + 1))]) uK (fun k h => ⟨(), payP_pop hy h⟩) ?_
   rintro ⟨⟩
   refine qCw (p := sl pq pc 57 1 ys.length (paC ys)) uK (fun _ h => qAz h (by omega)) ?_
   rintro ⟨gp, rfl⟩
   refine qCw (p := paA y) uK (fun _ h => And.intro (qDt h).1 (qAz h (by omega))) ?_
   rintro ⟨hyc, gy, hgy⟩
   have hqy : Rdb E.w0 y.1 (byC y.2.2) (paA y) := qCv (qAg _) (fun _ => ⟨gy, hgy⟩)
   have hx2 : y.2.2 = [69, 71] ++ (3 :: B) := hpy1
   have hd2 : y.2.2.drop 2 = 3 :: B := by rw [hpy1]; rfl
   have hq2 := qBz (k := 2) hqy hyc
   rw [hd2] at hq2
   obtain ⟨g2, o2, he2, hr2⟩ := hq2 (by simp [byC])
   have f3 : (byC (3 :: B))[0]? = some (.int .u8 3) := rfl
   refine zC (qK (qL (zL (qL (qJ (uB (uAj rfl rfl) ?_))))))
   refine uL ?_
   refine uA rfl (qM (qK (qL (qJ (uM rfl (uU ?_))))))
   refine qW (hE.t rfl) (hE.t rfl) rfl rfl rfl (fun b19 => ?_)
   refine uU ?_
   refine qQd rfl (hE.t rfl) (hE.t rfl) uK ?_
   refine uX (qPm (xs := y.2.2) (ys := [69, 71]) (zs := 3 :: B) (q := paA y) (r := ro b19 [.int .u8 69, .int .u8 71]) hE hx2 hqy zBf hyc) rfl ?_
   rintro _ _ ⟨rfl, rfl⟩
   simp only [uV, uW]
   rw [show ([69, 71] : List UInt8).length = 2 from rfl, he2]
   have hq3 : Rdb E.w0 (some ⟨g2, o2, none⟩) (byC (3 :: B)) (paA y) := fun _ => ⟨g2, o2, rfl, hr2⟩
   have hcc : (3 :: B).length ≤ y.2.1 - 2 := by
    rw [List.length_cons]
    omega
   have hlc : (3 :: B).length = B.length + 1 := rfl
   have hq4 := qBz (k := 1) hq3 hcc
   rw [show (3 :: B).drop 1 = B from rfl] at hq4
   have hb1 : (0 + (byC B).length) * 1 ≤ 140737488355328 := by
    rw [qAg]
    omega
   have hb2 : 0 + (byC B).length ≤ maxLen := by
    rw [qAg]
    unfold maxLen
    omega
   refine uM rfl (uB (qV rfl rfl) (uB (qV rfl rfl) (uA rfl (uA rfl (qM (qK (qL (qL (qJ (uM rfl (uB (qBm rfl) ?_)))))))))))
   refine uM rfl (kQ rfl rfl (uM rfl (kQ rfl rfl (uB (uBl rfl) ?_))))
   refine kQ rfl rfl (uB (y_eq rfl rfl) ?_)
   refine uB (qZ rfl rfl) ?_
   refine uM rfl ?_
   refine qAl 31 rfl (fun g1 => ?_) (fun g1 => ?_)
   ·exfalso
    omega
   refine kQ rfl rfl (uM rfl (kQ rfl rfl (uB (uAi rfl rfl) ?_)))
   refine kQ rfl rfl ?_
   apply qB
   ·(apply zK rfl (hE.t rfl) rfl (by assumption); (focus ((repeat constructor); done)); (first | ((focus exact f0); (focus omega)) | ((focus exact f1); (focus omega)) | ((focus assumption); (focus omega))))
   ·rfl
   refine kQ rfl rfl (uB (y_gt rfl rfl) ?_)
   refine uB (qZ rfl rfl) ?_
   refine qM (qK (zD rfl (zC (qK (qL (qL (qJ (uM rfl (uB (uAi rfl rfl) ?_)))))))))
   apply qB
   ·(apply zK rfl (hE.t rfl) rfl (by assumption); (focus ((repeat constructor); done)); (first | ((focus exact f0); (focus omega)) | ((focus exact f1); (focus omega)) | ((focus assumption); (focus omega))))
   ·rfl
   refine uB (qTk rfl rfl) ?_
   refine l_eq 40 (.int .u8 1) rfl (zX (by decide)) ?_
   refine uB (y_ne rfl rfl) ?_
   refine qM (qK (zG rfl (qL (qJ (uA rfl (qM (qK (qJ (uA rfl (qM (qK (qL (qL (qJ (uM rfl ?_)))))))))))))))
   refine uB (qBm rfl) ?_
   refine qM (qK (zD rfl ?_))
   refine qAk (qCh (t := 5) (sz := 1)) ?_
   refine zC (qK (qL (qJ (uM rfl (uM rfl (uB (qBv (l := 1) (h := (3 :: B).length) rfl (hE.t rfl) ⟨_, rfl⟩ rfl (by omega) hcc) ?_))))))
   refine l_eq 46 (.slice (vwA (some ⟨g2, o2, none⟩) (y.2.1 - 2) 1) B.length (y.2.1 - 2 - 1)) rfl (congrArg (fun z => Value.slice _ z _) (by omega)) ?_
   refine uU ?_
   refine qBp (us := byC B) (q := paA y) (hE.t rfl) (hE.t rfl) rfl rfl rfl (qAg _).symm hq4 uK uK (qBh _) hb1 hb2 (fun pt ct m1 y1 hm1 hy1 => ?_)
   obtain rfl : m1 = B.length := by rw [hm1, qAg, Nat.zero_add]
   obtain rfl : y1 = byC B := hy1
   refine uA rfl (qM (qK (qL (qJ (uM rfl (uB (uAi rfl rfl) ?_))))))
   apply qB
   ·(apply zK rfl (hE.t rfl) rfl (by assumption); (focus ((repeat constructor); done)); (first | ((focus exact f0); (focus omega)) | ((focus exact f1); (focus omega)) | ((focus assumption); (focus omega))))
   ·rfl
   refine uB (qTk rfl rfl) ?_
   refine l_eq 51 (.int .u8 2) rfl (zX (by decide)) ?_
   refine uB (y_ne rfl rfl) ?_
   refine qM (qK (zG rfl ?_))
   refine qCw (p := sl pt ct 5 1 B.length (byC B)) uK (fun _ h => And.intro (qDt h).1 (fun hpos : 0 < B.length => qAz h hpos)) ?_
   rintro ⟨hbc, hbp⟩
   have hqB : Rdb E.w0 pt (byC B) (sl pt ct 5 1 B.length (byC B)) := qCv (qAg _) hbp
   subst hB
   refine qL (qJ (uA rfl (qM (qK (qL (qJ (uM rfl (uM rfl (uX (qWu (c := c) (t := t) hE k1 hqB hbc k2 k3 k4) rfl ?_)))))))))
   rintro _ _ ⟨rfl, rfl⟩
   simp only [uV, uW]
   refine uB (qBm rfl) ?_
   refine qM (qK (zD rfl (zC (zJ (qK (qJ (uB (uAa rfl rfl) ?_)))))))
   refine uM rfl (qM ?_)
   refine zT (ι := CrG) (j := ⟨i + 1, c.app t, ts2⟩) ⟨by simp only; omega, k5, ?_, hco⟩ (by simp only; omega) ⟨rfl, rfl, rfl, congrArg some (zX (by simp only; omega)), trivial⟩ uI
   show _ = pays (c.G ++ t.new).length ts2
   rw [List.length_append]
   exact hpy2
 obtain rfl : i = ys.length := by omega
 rw [List.drop_length] at hpy
 cases ts' with
 | cons t ts2 => cases hpy
 | nil =>
  have hco' : c = qAa Cn.nil ts := hco
  rw [hco']
  refine kJ (qQ (qQ (zI (qK (qL (qJ (uA rfl (qM (qK (kC ?_))))))))))
  exact uZ rfl (.tmp rfl .nil) ⟨rfl, rfl⟩
end
section
variable {E : Env} {Es : List Ent} {s most : Nat}
theorem qDu (hE : Seat E) {p : Pwr} {a : Nat} {n0 n1 : List UInt8} {x0 : Option Fl} (hn : okN n1) (hne : n0 ≠ n1) :
  Ct E 35 [uPt a, .string ⟨⟨n1⟩⟩] [fsP a n0 n1 x0 none p] (fun v Q => v = .nilIface ∧ Q = [fsP a n0 n1 x0 none p]) := by
 refine zP (hE.fn Tryz.func35) rfl rfl rfl (fun R => ?_)
 simp only [qAe, uV, uW]
 refine qL (qJ (uA rfl (qM (qK (qL (qL (qJ (uM rfl (uM rfl ?_)))))))))
 refine qAx (kE (p := fsP a n0 n1 x0 none p) (p' := fsP a n1 n0 none x0 p) uK (fun k h => qCz hne h)) ?_
 refine uX (qWw hE hn) rfl ?_
 rintro _ _ ⟨rfl, rfl⟩
 simp only [uV, uW]
 refine qAx (kE (p := fsP a n1 n0 none x0 p) (p' := fsP a n0 n1 x0 none p) uK (fun k h => qCz (Ne.symm hne) h)) ?_
 refine uM rfl (uB (qV rfl rfl) (uB (qV rfl rfl) (uA rfl (uA rfl (qM (qK (qL (qJ (uM rfl ?_)))))))))
 refine uB (qHd rfl (hE.t rfl) rfl) ?_
 refine uX (qZo hE) rfl ?_
 rintro _ _ ⟨rfl, rfl⟩
 simp only [uV, uW]
 refine qM (qK (zG rfl (qL (qJ (uA rfl (qM (qK (kC (qX ?_)))))))))
 exact uZ rfl (.tmp rfl .nil) ⟨rfl, rfl⟩
theorem qUv {r : Rl} {M : List Ent} {id : Nat} (h1 : 1 ≤ id) (hr : (rls (Es ++ M))[id - 1]? = some r) (hM : M = [] ∨ ∃ x : Ent, M = [x] ∧ x.r = r) (hno : r ∉ rls Es) : id = Es.length + 1 ∧ ∃ x : Ent, M = [x] ∧ x.r = r := by
 rcases hM with rfl | ⟨x, rfl, hx⟩
 ·rw [List.append_nil] at hr
  exact absurd (List.mem_of_getElem? hr) hno
 refine ⟨?_, x, rfl, hx⟩
 rw [kH] at hr
 rcases Nat.lt_or_ge (id - 1) (rls Es).length with h | h
 ·rw [List.getElem?_append_left h] at hr
  exact absurd (List.mem_of_getElem? hr) hno
 have hl := (List.getElem?_eq_some_iff.1 hr).1
 rw [List.length_append] at hl
 rw [zR] at h hl
 have : (rls [x]).length = 1 := rfl
 omega
theorem ct_dAdd (hE : Seat E) {r : Rl} {ids : List Nat} {g c : Nat} (hok : r.ok (Es.length + 1)) (hno : r ∉ rls Es) (hroom : Es.length < most) (hlen : len (rls Es ++ [r]) (Es.length + 1) ≤ kI) (hids : ∀ k, k ≤ Es.length → ids[k]? = some k) :
  Ct E 69 [uPt s, .agg #[.int .i64 (Rl.kind (r) : Nat), .int .u8 (Rl.byte (r) : Nat), .int .i64 (Rl.left (r) : Nat), .int .i64 (Rl.right (r) : Nat), .int .i64 (Rl.times (r) : Nat)], .slice (some ⟨g, 0, none⟩) ids.length c] [zS s most Es, sl (some ⟨g, 0, none⟩) c 40 1 ids.length (idC ids)] (fun v Q => ∃ x : Ent, v = .tuple #[.int .i64 ((Es.length + 1 : Nat) : Int), .nilIface] ∧ x.r = r ∧ Q = [zS s most (Es ++ [x]), sl (some ⟨g, 0, none⟩) c 40 1 ids.length (idC ids)]) := by
 have hLl := zR Es
 have hidl : Es.length < ids.length := (List.getElem?_eq_some_iff.1 (hids Es.length (Nat.le_refl _))).1
 refine qBi (p := zS s most Es) uK (fun _ h => qBs h) (fun hsay => ?_)
 refine zP (hE.fn Tryz.func69) rfl rfl rfl (fun R => ?_)
 simp only [qAe, uV, uW]
 refine qL (qJ (uU ?_))
 refine qBt rfl (fun b4 => ?_)
 refine uA rfl (uA rfl (qM (qK (qL (qL (qJ (uB (uBf rfl) ?_)))))))
 refine uL ?_
 refine qM (qK (zL (qL (qJ (uB (y_eq rfl rfl) ?_)))))
 refine uA rfl (qM (qK ?_))
 cases r with
 | letter b =>
  refine zG rfl (qL (qJ (uM rfl (uB (uBf rfl) ?_))))
  refine uL ?_
  refine uX (qXb hE b hroom) rfl ?_
  rintro _ _ ⟨M, id, rfl, m1, m2, m3, rfl⟩
  obtain ⟨rfl, x, rfl, hx⟩ := qUv m1 m2 m3 hno
  simp only [uV, uW]
  refine uB (qV rfl rfl) (uB (qV rfl rfl) (uA rfl (uA rfl (qM (qK (kC (zO (qX ?_))))))))
  exact uZ rfl (.tmp rfl (.tmp rfl .nil)) ⟨x, rfl, hx, rfl⟩
 | pair x y =>
  obtain ⟨o1, o2, o3, o4⟩ := hok
  have e1 : (Rl.pair x y).left = x := rfl
  have e2 : (Rl.pair x y).right = y := rfl
  rw [← hLl, qQe (l := x) (r := y) (by simp) (by rw [hLl]; exact ⟨o1, o2, o3, o4⟩), qDb _ (by omega), qDb _ (by omega)] at hlen
  obtain ⟨i, rfl⟩ : ∃ i, x = i + 1 := ⟨x - 1, by omega⟩
  obtain ⟨j, rfl⟩ : ∃ j, y = j + 1 := ⟨y - 1, by omega⟩
  obtain ⟨xl, hxl⟩ : ∃ x, Es[i]? = some x := ⟨_, List.getElem?_eq_getElem (by omega)⟩
  obtain ⟨xr, hxr⟩ : ∃ x, Es[j]? = some x := ⟨_, List.getElem?_eq_getElem (by omega)⟩
  have l1 : xl.t.length = len (rls Es) (i + 1) := by rw [hsay.2.1 i xl hxl]; rfl
  have l2 : xr.t.length = len (rls Es) (j + 1) := by rw [hsay.2.1 j xr hxr]; rfl
  have f0 := qDa (hids (i + 1) (by omega)) (((Rl.pair (i + 1) (j + 1)).left : Nat) : Int).toNat (by omega)
  have f1 := qDa (hids (j + 1) (by omega)) (((Rl.pair (i + 1) (j + 1)).right : Nat) : Int).toNat (by omega)
  refine zD rfl (qL (qJ (uB (y_eq rfl rfl) ?_)))
  refine uA rfl (qM (qK (zG rfl (qL ?_))))
  refine uH ([cells b4 [.int .i64 (Rl.kind ((Rl.pair (i + 1) (j + 1))) : Nat), .int .u8 (Rl.byte ((Rl.pair (i + 1) (j + 1))) : Nat), .int .i64 (Rl.left ((Rl.pair (i + 1) (j + 1))) : Nat), .int .i64 (Rl.right ((Rl.pair (i + 1) (j + 1))) : Nat), .int .i64 (Rl.times ((Rl.pair (i + 1) (j + 1))) : Nat)] 115, sl (some ⟨g, 0, none⟩) c 40 1 ids.length (idC ids)]) ?_
  refine uD 0 rfl (qC rfl) ?_
  refine uD 1 rfl (qC rfl) ?_
  refine uD 2 rfl (uBf rfl) ?_
  refine uD 3 rfl (uY) ?_
  refine uD 4 rfl (uAj rfl rfl) ?_
  refine uD 5 rfl (uY) ?_
  refine uD 6 rfl (qC rfl) ?_
  refine uD 7 rfl (uBf rfl) ?_
  refine uD 8 rfl (uY) ?_
  refine uD 9 rfl (uAj rfl rfl) ?_
  refine uD 10 rfl (uY) ?_
  apply kL 11 rfl (by kernel_rfl) rfl
  refine uC (ct_pairx hE hxl hxr (by omega) hroom) rfl ?_
  rintro _ _ ⟨M, id, rfl, m1, m2, m3, rfl⟩
  obtain ⟨rfl, x, rfl, hx⟩ := qUv m1 m2 m3 hno
  simp only [uV, uW]
  refine uE ?_
  refine uD 12 rfl (qV rfl rfl) ?_
  refine uD 13 rfl (qV rfl rfl) ?_
  refine uD 14 rfl (qD rfl) ?_
  refine uD 15 rfl (qD rfl) ?_
  refine qCc (by kernel_rfl) ?_
  refine qK (kC (zO (qX ?_)))
  exact uZ rfl (.tmp rfl (.tmp rfl .nil)) ⟨x, rfl, hx, rfl⟩
 | power x k =>
  obtain ⟨o1, o2, o3⟩ := hok
  have e1 : (Rl.power x k).left = x := rfl
  have e2 : (Rl.power x k).times = k := rfl
  rw [← hLl, qJd (x := x) (k := k) (by simp) (by rw [hLl]; exact ⟨o1, o2, o3⟩), qDb _ (by omega)] at hlen
  obtain ⟨i, rfl⟩ : ∃ i, x = i + 1 := ⟨x - 1, by omega⟩
  obtain ⟨xl, hxl⟩ : ∃ x, Es[i]? = some x := ⟨_, List.getElem?_eq_getElem (by omega)⟩
  have l1 : xl.t.length = len (rls Es) (i + 1) := by rw [hsay.2.1 i xl hxl]; rfl
  have l3 : xl.t.length * k ≤ kI := by rw [l1, Nat.mul_comm]; exact hlen
  have f0 := qDa (hids (i + 1) (by omega)) (((Rl.power (i + 1) k).left : Nat) : Int).toNat (by omega)
  refine zD rfl (qL (qJ (uB (y_eq rfl rfl) ?_)))
  refine uA rfl (qM (qK (zD rfl (zC (zJ (qK (qL ?_)))))))
  refine uH ([cells b4 [.int .i64 (Rl.kind ((Rl.power (i + 1) k)) : Nat), .int .u8 (Rl.byte ((Rl.power (i + 1) k)) : Nat), .int .i64 (Rl.left ((Rl.power (i + 1) k)) : Nat), .int .i64 (Rl.right ((Rl.power (i + 1) k)) : Nat), .int .i64 (Rl.times ((Rl.power (i + 1) k)) : Nat)] 115, sl (some ⟨g, 0, none⟩) c 40 1 ids.length (idC ids)]) ?_
  refine uD 0 rfl (qC rfl) ?_
  refine uD 1 rfl (qC rfl) ?_
  refine uD 2 rfl (uBf rfl) ?_
  refine uD 3 rfl (uY) ?_
  refine uD 4 rfl (uAj rfl rfl) ?_
  refine uD 5 rfl (uY) ?_
  refine uD 6 rfl (uBf rfl) ?_
  refine uD 7 rfl (uY) ?_
  apply kL 8 rfl (by kernel_rfl) rfl
  refine uC (qZu hE hxl o3 l3 hroom) rfl ?_
  rintro _ _ ⟨M, id, rfl, m1, m2, m3, rfl⟩
  obtain ⟨rfl, x, rfl, hx⟩ := qUv m1 m2 m3 hno
  simp only [uV, uW]
  refine uE ?_
  refine uD 9 rfl (qV rfl rfl) ?_
  refine uD 10 rfl (qV rfl rfl) ?_
  refine uD 11 rfl (qD rfl) ?_
  refine uD 12 rfl (qD rfl) ?_
  refine qCc (by kernel_rfl) ?_
  refine qK (kC ?_)
  exact uZ rfl (.tmp rfl (.tmp rfl .nil)) ⟨x, rfl, hx, rfl⟩
end
section
variable {E : Env} {Es : List Ent} {s most : Nat}
theorem zBj {G : List Rl} (hw : Wf G) {i : Nat} {r : Rl} (h : G[i]? = some r) : r ∉ G.take i := fun hm => by
 obtain ⟨j, hj⟩ := List.getElem?_of_mem hm
 rw [List.getElem?_take] at hj
 split at hj
 ·have := hw.nodup i j r h hj
  omega
 cases hj
theorem qTp {cc : Nat} {c : Cn} (h : PH) (x : cnP cc c h) : ∃ i : CtG, qAd [cells cc [.slice i.rq (c).G.length i.rc, .slice i.lq (c).G.length i.lc, .map (some i.nb)] 87, sl i.rq i.rc 115 5 (c).G.length (rusC (c).G), sl i.lq i.lc 3 1 (c).G.length (idC (lnsL (c).G)), qAb i.nb (nmF (c).N)] h := x
def qSh (f : List UInt8 → Option Value) (done : List UInt8 → Bool) : List UInt8 → Option Value := fun x => if done x = true then f x else none
theorem doneF_no (f : List UInt8 → Option Value) : (fun _ => none) = qSh f (fun _ => false) := by
 funext x
 simp [qSh]
theorem zAc {f : List UInt8 → Option Value} {done : List UInt8 → Bool} (h : ∀ k v, f k = some v → done k = true) : qSh f done = f := by
 funext x
 unfold qSh
 split
 ·rfl
 rename_i hd
 cases e : f x with
 | none => rfl
 | some v => exact absurd (h x v e) hd
theorem zAd {f : List UInt8 → Option Value} {done : List UInt8 → Bool} {k : List UInt8} {v : Value} (h : f k = some v) : qIl (qSh f done) k v = qSh f (fun x => x == k || done x) := by
 funext x
 unfold qIl qSh
 by_cases e : x = k
 ·subst e
  simp [h]
 simp [e]
theorem qVk (hE : Seat E) {r : Rl} {ids : List Nat} {g c n : Nat} (hn : ids.length = n) (hok : r.ok (Es.length + 1)) (hno : r ∉ rls Es) (hroom : Es.length < most) (hlen : len (rls Es ++ [r]) (Es.length + 1) ≤ kI) (hids : ∀ k, k ≤ Es.length → ids[k]? = some k) :
  Ct E 69 [uPt s, .agg #[.int .i64 (Rl.kind (r) : Nat), .int .u8 (Rl.byte (r) : Nat), .int .i64 (Rl.left (r) : Nat), .int .i64 (Rl.right (r) : Nat), .int .i64 (Rl.times (r) : Nat)], .slice (some ⟨g, 0, none⟩) n c] [zS s most Es, sl (some ⟨g, 0, none⟩) c 40 1 n (idC ids)] (fun v Q => ∃ x : Ent, v = .tuple #[.int .i64 ((Es.length + 1 : Nat) : Int), .nilIface] ∧ x.r = r ∧ Q = [zS s most (Es ++ [x]), sl (some ⟨g, 0, none⟩) c 40 1 n (idC ids)]) := by
 subst hn
 exact ct_dAdd hE hok hno hroom hlen hids
structure DlG where
 i : Nat
 Es : List Ent
theorem ct_dLoad (hE : Seat E) {a d l nb cb wb mb cnt cc : Nat} {nm : List UInt8} {c : Cn} (hw : Wf c.G) (hm : c.G.length ≤ most) (hN : ∀ x k, c.N x = some k → k ≤ c.G.length) :
  Ct E 39 [uPt d, uPt cc] [cells d [uPt a, .string ⟨⟨nm⟩⟩, uPt s, uPt l, .map (some nb), .map (some cb), uPt wb, .bool false] 97, cells wb [.map (some mb), .int .i64 (cnt : Nat)] 95, zS s most [], qAb nb (fun _ => none), mapF mb .i64 (nuF []), cnP cc c]
   (fun v Q => ∃ Es, v = .nilIface ∧ rls Es = c.G ∧ Q = [cells d [uPt a, .string ⟨⟨nm⟩⟩, uPt s, uPt l, .map (some nb), .map (some cb), uPt wb, .bool false] 97, cells wb [.map (some mb), .int .i64 (cnt : Nat)] 95, zS s most Es, qAb nb (nmF c.N), mapF mb .i64 (nuF (idV c.G.length))]) := by
 have hmr : qBu = 1048576 := rfl
 have hroom := hw.room
 have hml : c.G.length + 1 ≤ maxLen := by unfold maxLen; omega
 have hm1 : E.P.underlying 84 = some (.map 9 3) := by rw [hE.P]; kernel_rfl
 have hm2 : E.P.underlying 90 = some (.map 9 40) := by rw [hE.P]; kernel_rfl
 have hm3 : E.P.underlying 93 = some (.map 40 3) := by rw [hE.P]; kernel_rfl
 have hm4 : E.P.underlying 40 = some (.int .i64) := by rw [hE.P]; kernel_rfl
 have hm5 : E.P.underlying 9 = some .string := by rw [hE.P]; kernel_rfl
 refine zP (hE.fn Tryz.func39) rfl rfl rfl (fun R => ?_)
 simp only [qAe, uV, uW]
 refine qFa (p := cnP cc c) (ps := fun i : CtG => [cells cc [.slice i.rq (c).G.length i.rc, .slice i.lq (c).G.length i.lc, .map (some i.nb)] 87, sl i.rq i.rc 115 5 (c).G.length (rusC (c).G), sl i.lq i.lc 3 1 (c).G.length (idC (lnsL (c).G)), qAb i.nb (nmF (c).N)]) uK qTp ?_
 rintro ⟨rq, rc, lq, lc, kb⟩
 simp only
 refine qCw (p := sl rq rc 115 5 c.G.length (rusC c.G)) uK (fun _ h => fun hpos => qAz h hpos) ?_
 intro hp
 refine qCw (p := qAb kb (nmF c.N)) uK (fun _ h => qEx h) ?_
 rintro ⟨n, hct⟩
 refine qL (qJ (uA rfl (qM (qK (qL (qJ (uM rfl (uB (zB rfl) ?_))))))))
 refine uB (uBf rfl) ?_
 refine uL ?_
 refine uB (uBl rfl) ?_
 refine uB (uAa rfl rfl) ?_
 refine l_eq 17 (.int .i64 ((c.G.length + 1 : Nat) : Int)) rfl (zX (by omega)) ?_
 refine uU ?_
 refine qVs (hE.t rfl) (hE.t rfl) rfl (by omega) hml (fun b18 => ?_)
 rw [qWd (Z := id) rfl]
 refine uA rfl (qM (qK (qL (qL (qJ (uM rfl (uB (zB rfl) ?_)))))))
 refine uB (uBf rfl) ?_
 refine uL ?_
 refine uB (uBl rfl) ?_
 refine uM rfl (qM (qK (zL ?_)))
 refine qAj (fun x : DlG => [(0, uPt d), (1, uPt cc), (5, .slice (some ⟨b18, 0, none⟩) (c.G.length + 1) (c.G.length + 1)), (22, .slice rq c.G.length rc), (23, .int .i64 (c.G.length : Nat)), (24, .int .i64 (x.i : Nat))]) (fun x => [cells d [uPt a, .string ⟨⟨nm⟩⟩, uPt s, uPt l, .map (some nb), .map (some cb), uPt wb, .bool false] 97, cells wb [.map (some mb), .int .i64 (cnt : Nat)] 95, zS s most x.Es, qAb nb (fun _ => none), mapF mb .i64 (nuF ((idV c.G.length).take x.i)), cells cc [.slice (CtG.mk rq rc lq lc kb).rq (c).G.length (CtG.mk rq rc lq lc kb).rc, .slice (CtG.mk rq rc lq lc kb).lq (c).G.length (CtG.mk rq rc lq lc kb).lc, .map (some (CtG.mk rq rc lq lc kb).nb)] 87, sl (CtG.mk rq rc lq lc kb).rq (CtG.mk rq rc lq lc kb).rc 115 5 (c).G.length (rusC (c).G), sl (CtG.mk rq rc lq lc kb).lq (CtG.mk rq rc lq lc kb).lc 3 1 (c).G.length (idC (lnsL (c).G)), qAb kb (nmF c.N), sl (some ⟨b18, 0, none⟩) (c.G.length + 1) 40 1 (c.G.length + 1) (idC (tkL id (c.G.length + 1) x.i)), R]) (fun x => c.G.length - x.i) (fun x => x.i ≤ c.G.length ∧ rls x.Es = c.G.take x.i) ⟨0, []⟩ ⟨Nat.zero_le _, rfl⟩ ⟨rfl, rfl, rfl, rfl, rfl, rfl, trivial⟩ uI ?_
 rintro ⟨i, Es⟩ ⟨hi, hEs⟩
 simp only at hi hEs ⊢
 refine qL (qJ (uB (y_lt rfl rfl) ?_))
 refine qM (qK (qL ?_))
 refine zF rfl (fun h1 => ?_) (fun h1 => ?_)
 ·have hil : i < c.G.length := by omega
  obtain ⟨g, rfl⟩ := hp (by omega)
  obtain ⟨r, hr⟩ : ∃ x, c.G[i]? = some x := ⟨_, List.getElem?_eq_getElem hil⟩
  obtain ⟨f0, f1, f2, f3, f4⟩ := zBk hr (0 + ((i : Nat) : Int).toNat * 5) (by omega)
  have hEl : Es.length = i := by rw [← zR, hEs, List.length_take]; omega
  have htl := qHq id (c.G.length + 1) i
  have hno : r ∉ rls Es := by rw [hEs]; exact zBj hw hr
  have hok : r.ok (Es.length + 1) := by rw [hEl]; exact hw.ok i r hr
  have htk : rls Es ++ [r] = c.G.take (i + 1) := by rw [hEs, List.take_add_one, hr]; rfl
  have hlen : len (rls Es ++ [r]) (Es.length + 1) ≤ kI := by
   rw [htk, hEl]
   have h1 := qDb (L := c.G.take (i + 1)) (c.G.drop (i + 1)) (i := i + 1) (by rw [List.length_take]; omega)
   rw [List.take_append_drop] at h1
   rw [← h1]
   exact hw.short (i + 1)
  have hids : ∀ k, k ≤ Es.length → (tkL id (c.G.length + 1) i)[k]? = some k := fun k hk => zCd (by omega) (by omega)
  refine zC (qK (qL (zL (qL (qJ (uM rfl (uB (uAi rfl rfl) ?_)))))))
  refine uB (uG) ?_
  refine uU (kG (hE.t rfl) (fun b7 => ?_))
  refine uA rfl (uU (uS ?_))
  refine qM (qK (qL ?_))
  refine uH ([cells d [uPt a, .string ⟨⟨nm⟩⟩, uPt s, uPt l, .map (some nb), .map (some cb), uPt wb, .bool false] 97, cells wb [.map (some mb), .int .i64 (cnt : Nat)] 95, sl (some ⟨b18, 0, none⟩) (c.G.length + 1) 40 1 (c.G.length + 1) (idC (tkL id (c.G.length + 1) i)), cells b7 [.int .i64 (Rl.kind (r) : Nat), .int .u8 (Rl.byte (r) : Nat), .int .i64 (Rl.left (r) : Nat), .int .i64 (Rl.right (r) : Nat), .int .i64 (Rl.times (r) : Nat)] 115]) ?_
  refine uD 0 rfl (qC rfl) ?_
  refine uD 1 rfl (zB rfl) ?_
  refine uD 2 rfl (uBf rfl) ?_
  refine uD 3 rfl (uY) ?_
  refine uD 4 rfl (uG) ?_
  refine uD 5 rfl (qC rfl) ?_
  apply kL 6 rfl (by kernel_rfl) rfl
  refine uC (qVk (s := s) (most := most) (r := r) (g := b18) (c := c.G.length + 1) (ids := tkL id (c.G.length + 1) i) hE htl hok hno (by omega) hlen hids) rfl ?_
  rintro _ _ ⟨x, rfl, hxr, rfl⟩
  rw [hEl]
  simp only [uV, uW]
  refine uE ?_
  refine uD 7 rfl (qC rfl) ?_
  refine uD 8 rfl (qV rfl rfl) ?_
  refine uD 9 rfl (qV rfl rfl) ?_
  refine uD 10 rfl (qD rfl) ?_
  refine uD 11 rfl (qD rfl) ?_
  refine qCc (by kernel_rfl) ?_
  refine qK (qL (qL (qJ (uM rfl (uB (qAf rfl (hE.t rfl)) ?_)))))
  refine qM (qK (zD rfl (zC (qK (qL (qJ (uM rfl (uM rfl (uB (uAa rfl rfl) ?_)))))))))
  refine uM rfl (uB (uAj rfl rfl) ?_)
  refine uU (uJ ?_)
  refine qM (qK ?_)
  rw [zCe (Z := id) (n := c.G.length + 1) (k := i) (v := ((i + 1 : Nat) : Int)) (by omega) ((((i : Nat) : Int) + 1).toNat) (by omega) rfl]
  refine qJ (uM rfl (uB (zB rfl) ?_))
  refine uB (uBf rfl) ?_
  refine uL ?_
  refine uB (zB rfl) ?_
  refine uB (uBf rfl) ?_
  refine uL ?_
  refine uM rfl (uM rfl (uB (uAa rfl rfl) ?_))
  refine l_eq 56 (.int .i64 ((i + 1 : Nat) : Int)) rfl (zX (by omega)) ?_
  refine uU ?_
  refine qJc (k := ((i + 1 : Nat) : Int)) hm3 hm4 rfl rfl rfl uK ?_
  rw [zAw (qOq hil) (qMx _)]
  refine qM (zJ (qK (qJ (uB (uAa rfl rfl) ?_))))
  refine uM rfl (qM ?_)
  refine zT (ι := DlG) (j := ⟨i + 1, Es ++ [x]⟩) ⟨by simp only; omega, ?_⟩ (by simp only; omega) ⟨rfl, rfl, rfl, rfl, rfl, congrArg some (zX (by simp only; omega)), trivial⟩ uI
  rw [kH, ← htk]
  exact congrArg _ (by rw [← hxr]; rfl)
 obtain rfl : i = c.G.length := by omega
 rw [List.take_length] at hEs
 have hidt : (idV c.G.length).take c.G.length = idV c.G.length := by rw [List.take_of_length_le (by rw [qMw]; omega)]
 rw [hidt]
 have htl := qHq id (c.G.length + 1) c.G.length
 rw [doneF_no (nmF c.N)]
 refine kJ (qQ (qQ (zI (qK (qL (qL (qJ (uM rfl (uB (zB rfl) ?_)))))))))
 refine uB (uBf rfl) ?_
 refine uL ?_
 refine uU ?_
 apply qFl hm1 rfl uK
 intro br
 refine qM (qK (zL ?_))
 refine qAj (fun x : NmG => [(0, uPt d), (1, uPt cc), (5, .slice (some ⟨b18, 0, none⟩) (c.G.length + 1) (c.G.length + 1)), (62, uPt br)]) (fun x => [qGs br kb (nmF c.N) x.done, cells d [uPt a, .string ⟨⟨nm⟩⟩, uPt s, uPt l, .map (some nb), .map (some cb), uPt wb, .bool false] 97, cells wb [.map (some mb), .int .i64 (cnt : Nat)] 95, zS s most Es, qAb nb (qSh (nmF c.N) x.done), mapF mb .i64 (nuF (idV c.G.length)), sl (some ⟨b18, 0, none⟩) (c.G.length + 1) 40 1 (c.G.length + 1) (idC (tkL id (c.G.length + 1) c.G.length)), R]) (fun x => n + 1 - x.D.length) (fun x => x.D.Nodup ∧ (∀ y, y ∈ x.D ↔ x.done y = true) ∧ ∀ y ∈ x.D, nmF c.N y ≠ none) ⟨[], fun _ => false, none, 0⟩ ⟨.nil, fun y => by simp, fun y h => by simp at h⟩ ⟨rfl, rfl, rfl, rfl, trivial⟩ uI ?_
 rintro ⟨D, done, q, dd⟩ ⟨h1, h2, h3⟩
 simp only at h1 h2 h3 ⊢
 have hDn := qBq hct h1 h3
 refine qL (qJ (uU ?_))
 apply qHk rfl uK
 ·intro hall
  refine uB (qV rfl rfl) (qM (qK (qL (zD rfl ?_))))
  rw [zAc hall]
  refine kJ (qQ (qQ (zI (qK (qL (qJ (uA rfl (qM (qK (kC ?_))))))))))
  exact uZ rfl (.tmp rfl .nil) ⟨Es, rfl, hEs, rfl⟩
 intro k v hk hd
 refine uB (qV rfl rfl) (qM (qK (qL (zG rfl (zC (qK (zL (qL (qJ (uB (qHt rfl uK) ?_))))))))))
 refine qAx (fun _ h => qAp (fun _ x => qKd x) h) ?_
 have hkD : k ∉ D := fun h => by
  have := (h2 k).1 h
  rw [hd] at this
  cases this
 have hkv := hk
 unfold nmF at hkv
 rw [Option.map_eq_some_iff] at hkv
 obtain ⟨m, hcm, rfl⟩ := hkv
 have hmG := hN k m hcm
 have hat : (tkL id (c.G.length + 1) c.G.length)[m]? = some m := zCd (by omega) hmG
 have f5 := qDa hat (((m : Nat) : Int).toNat) (by omega)
 have hnd : (D ++ [k]).Nodup := by
  rw [List.nodup_append]
  exact ⟨h1, by simp, fun a ha b hb e => by simp at hb; subst hb; subst e; exact hkD ha⟩
 have hne : ∀ y ∈ D ++ [k], nmF c.N y ≠ none := fun y hy => by
  rcases List.mem_append.1 hy with hy | hy
  ·exact h3 y hy
  simp at hy; subst hy; rw [hk]; simp
 have hb2 := qBq hct hnd hne
 refine uB (qV rfl rfl) (uB (qV rfl rfl) (uA rfl (uA rfl (qM (qK ?_)))))
 refine uN 9 ([cells d [uPt a, .string ⟨⟨nm⟩⟩, uPt s, uPt l, .map (some nb), .map (some cb), uPt wb, .bool false] 97, cells wb [.map (some mb), .int .i64 (cnt : Nat)] 95, sl (some ⟨b18, 0, none⟩) (c.G.length + 1) 40 1 (c.G.length + 1) (idC (tkL id (c.G.length + 1) c.G.length))]) ?_
 refine uT 0 rfl (qC rfl) ?_
 refine uT 1 rfl (zB rfl) ?_
 refine uT 2 rfl (uBf rfl) ?_
 refine uT 3 rfl (uY) ?_
 refine uT 4 rfl (qC rfl) ?_
 refine uT 5 rfl (qC rfl) ?_
 apply kK 6 rfl (by kernel_rfl)
 ·exact qC rfl
 ·rfl
 apply kK 7 rfl (by kernel_rfl)
 ·exact uAj rfl rfl
 ·rfl
 apply kK 8 rfl (by kernel_rfl)
 ·(apply qO rfl (hE.t rfl) rfl; (repeat (first | rfl | assumption | constructor)); done)
 ·rfl
 apply qGg rfl (by kernel_rfl) (by kernel_rfl) rfl
 apply qFm (kt := 9) (et := 40) (by rw [hE.P]; kernel_rfl) (by rw [hE.P]; kernel_rfl) rfl rfl rfl
 ·exact uK
 refine zJ ?_
 rw [zAd hk]
 refine zT (ι := NmG) (j := ⟨D ++ [k], fun x => x == k || done x, none, 0⟩) ⟨hnd, fun y => ?_, hne⟩ (by simp only [List.length_append, List.length_singleton] at hb2 ⊢; omega) ⟨rfl, rfl, rfl, rfl, trivial⟩ uI
 simp only [List.mem_append, List.mem_singleton, Bool.or_eq_true, beq_iff_eq]
 rw [h2 y]
 exact or_comm
end
section
variable {E : Env} {Es : List Ent} {s most : Nat}
theorem qXa (hE : Seat E) (b : UInt8) (hz : idOf (rls Es) (.letter b) = 0) (hf : Es.length = most) : Ct E 85 [uPt s, .int .u8 (b.toNat : Nat)] [zS s most Es] (fun u Q => u = .tuple #[.int .i64 0, .iface 31 (.int .i64 3)] ∧ Q = [zS s most Es]) :=
 qCa hE fun w _ _ h => qKi w b h hz hf
theorem ct_pairF (hE : Seat E) {i j : Nat} {xl xr : Ent} (hi : Es[i]? = some xl) (hj : Es[j]? = some xr) (hlen : xl.t.length + xr.t.length ≤ kI) (hz : idOf (rls Es) (.pair (i + 1) (j + 1)) = 0) (hf : Es.length = most) : Ct E 86 [uPt s, .int .i64 ((i + 1 : Nat) : Int), .int .i64 ((j + 1 : Nat) : Int)] [zS s most Es] (fun u Q => u = .tuple #[.int .i64 0, .iface 31 (.int .i64 3)] ∧ Q = [zS s most Es]) :=
 qCa hE fun w _ _ h => qNo w i j xl xr h hi hj hlen hz hf
theorem qZt (hE : Seat E) {i k : Nat} {xl : Ent} (hi : Es[i]? = some xl) (hk : 2 ≤ k) (hlen : xl.t.length * k ≤ kI) (hz : idOf (rls Es) (.power (i + 1) k) = 0) (hf : Es.length = most) : Ct E 30 [uPt s, .int .i64 ((i + 1 : Nat) : Int), .int .i64 (k : Nat)] [zS s most Es] (fun u Q => u = .tuple #[.int .i64 0, .iface 31 (.int .i64 3)] ∧ Q = [zS s most Es]) :=
 qCa hE fun w _ _ h => qLh w i k xl h hi hk hlen hz hf
theorem ct_dAddF (hE : Seat E) {r : Rl} {ids : List Nat} {g c : Nat} (hok : r.ok (Es.length + 1)) (hno : r ∉ rls Es) (hroom : Es.length = most) (hlen : len (rls Es ++ [r]) (Es.length + 1) ≤ kI) (hids : ∀ k, k ≤ Es.length → ids[k]? = some k) :
  Ct E 69 [uPt s, .agg #[.int .i64 (Rl.kind (r) : Nat), .int .u8 (Rl.byte (r) : Nat), .int .i64 (Rl.left (r) : Nat), .int .i64 (Rl.right (r) : Nat), .int .i64 (Rl.times (r) : Nat)], .slice (some ⟨g, 0, none⟩) ids.length c] [zS s most Es, sl (some ⟨g, 0, none⟩) c 40 1 ids.length (idC ids)] (fun v Q => v = .tuple #[.int .i64 0, .iface 31 (.int .i64 3)] ∧ Q = [zS s most Es, sl (some ⟨g, 0, none⟩) c 40 1 ids.length (idC ids)]) := by
 have hLl := zR Es
 have hidl : Es.length < ids.length := (List.getElem?_eq_some_iff.1 (hids Es.length (Nat.le_refl _))).1
 refine qBi (p := zS s most Es) uK (fun _ h => qBs h) (fun hsay => ?_)
 refine zP (hE.fn Tryz.func69) rfl rfl rfl (fun R => ?_)
 simp only [qAe, uV, uW]
 refine qL (qJ (uU ?_))
 refine qBt rfl (fun b4 => ?_)
 refine uA rfl (uA rfl (qM (qK (qL (qL (qJ (uB (uBf rfl) ?_)))))))
 refine uL ?_
 refine qM (qK (zL (qL (qJ (uB (y_eq rfl rfl) ?_)))))
 refine uA rfl (qM (qK ?_))
 cases r with
 | letter b =>
  refine zG rfl (qL (qJ (uM rfl (uB (uBf rfl) ?_))))
  refine uL ?_
  refine uX (qXa hE b (qCr.2 hno) hroom) rfl ?_
  rintro _ _ ⟨rfl, rfl⟩
  simp only [uV, uW]
  refine uB (qV rfl rfl) (uB (qV rfl rfl) (uA rfl (uA rfl (qM (qK (kC (zO (qX ?_))))))))
  exact uZ rfl (.tmp rfl (.tmp rfl .nil)) ⟨rfl, rfl⟩
 | pair x y =>
  obtain ⟨o1, o2, o3, o4⟩ := hok
  have e1 : (Rl.pair x y).left = x := rfl
  have e2 : (Rl.pair x y).right = y := rfl
  rw [← hLl, qQe (l := x) (r := y) (by simp) (by rw [hLl]; exact ⟨o1, o2, o3, o4⟩), qDb _ (by omega), qDb _ (by omega)] at hlen
  obtain ⟨i, rfl⟩ : ∃ i, x = i + 1 := ⟨x - 1, by omega⟩
  obtain ⟨j, rfl⟩ : ∃ j, y = j + 1 := ⟨y - 1, by omega⟩
  obtain ⟨xl, hxl⟩ : ∃ x, Es[i]? = some x := ⟨_, List.getElem?_eq_getElem (by omega)⟩
  obtain ⟨xr, hxr⟩ : ∃ x, Es[j]? = some x := ⟨_, List.getElem?_eq_getElem (by omega)⟩
  have l1 : xl.t.length = len (rls Es) (i + 1) := by rw [hsay.2.1 i xl hxl]; rfl
  have l2 : xr.t.length = len (rls Es) (j + 1) := by rw [hsay.2.1 j xr hxr]; rfl
  have f0 := qDa (hids (i + 1) (by omega)) (((Rl.pair (i + 1) (j + 1)).left : Nat) : Int).toNat (by omega)
  have f1 := qDa (hids (j + 1) (by omega)) (((Rl.pair (i + 1) (j + 1)).right : Nat) : Int).toNat (by omega)
  refine zD rfl (qL (qJ (uB (y_eq rfl rfl) ?_)))
  refine uA rfl (qM (qK (zG rfl (qL ?_))))
  refine uH ([cells b4 [.int .i64 (Rl.kind ((Rl.pair (i + 1) (j + 1))) : Nat), .int .u8 (Rl.byte ((Rl.pair (i + 1) (j + 1))) : Nat), .int .i64 (Rl.left ((Rl.pair (i + 1) (j + 1))) : Nat), .int .i64 (Rl.right ((Rl.pair (i + 1) (j + 1))) : Nat), .int .i64 (Rl.times ((Rl.pair (i + 1) (j + 1))) : Nat)] 115, sl (some ⟨g, 0, none⟩) c 40 1 ids.length (idC ids)]) ?_
  refine uD 0 rfl (qC rfl) ?_
  refine uD 1 rfl (qC rfl) ?_
  refine uD 2 rfl (uBf rfl) ?_
  refine uD 3 rfl (uY) ?_
  refine uD 4 rfl (uAj rfl rfl) ?_
  refine uD 5 rfl (uY) ?_
  refine uD 6 rfl (qC rfl) ?_
  refine uD 7 rfl (uBf rfl) ?_
  refine uD 8 rfl (uY) ?_
  refine uD 9 rfl (uAj rfl rfl) ?_
  refine uD 10 rfl (uY) ?_
  apply kL 11 rfl (by kernel_rfl) rfl
  refine uC (ct_pairF hE hxl hxr (by omega) (qCr.2 hno) hroom) rfl ?_
  rintro _ _ ⟨rfl, rfl⟩
  simp only [uV, uW]
  refine uE ?_
  refine uD 12 rfl (qV rfl rfl) ?_
  refine uD 13 rfl (qV rfl rfl) ?_
  refine uD 14 rfl (qD rfl) ?_
  refine uD 15 rfl (qD rfl) ?_
  refine qCc (by kernel_rfl) ?_
  refine qK (kC (zO (qX ?_)))
  exact uZ rfl (.tmp rfl (.tmp rfl .nil)) ⟨rfl, rfl⟩
 | power x k =>
  obtain ⟨o1, o2, o3⟩ := hok
  have e1 : (Rl.power x k).left = x := rfl
  have e2 : (Rl.power x k).times = k := rfl
  rw [← hLl, qJd (x := x) (k := k) (by simp) (by rw [hLl]; exact ⟨o1, o2, o3⟩), qDb _ (by omega)] at hlen
  obtain ⟨i, rfl⟩ : ∃ i, x = i + 1 := ⟨x - 1, by omega⟩
  obtain ⟨xl, hxl⟩ : ∃ x, Es[i]? = some x := ⟨_, List.getElem?_eq_getElem (by omega)⟩
  have l1 : xl.t.length = len (rls Es) (i + 1) := by rw [hsay.2.1 i xl hxl]; rfl
  have l3 : xl.t.length * k ≤ kI := by rw [l1, Nat.mul_comm]; exact hlen
  have f0 := qDa (hids (i + 1) (by omega)) (((Rl.power (i + 1) k).left : Nat) : Int).toNat (by omega)
  refine zD rfl (qL (qJ (uB (y_eq rfl rfl) ?_)))
  refine uA rfl (qM (qK (zD rfl (zC (zJ (qK (qL ?_)))))))
  refine uH ([cells b4 [.int .i64 (Rl.kind ((Rl.power (i + 1) k)) : Nat), .int .u8 (Rl.byte ((Rl.power (i + 1) k)) : Nat), .int .i64 (Rl.left ((Rl.power (i + 1) k)) : Nat), .int .i64 (Rl.right ((Rl.power (i + 1) k)) : Nat), .int .i64 (Rl.times ((Rl.power (i + 1) k)) : Nat)] 115, sl (some ⟨g, 0, none⟩) c 40 1 ids.length (idC ids)]) ?_
  refine uD 0 rfl (qC rfl) ?_
  refine uD 1 rfl (qC rfl) ?_
  refine uD 2 rfl (uBf rfl) ?_
  refine uD 3 rfl (uY) ?_
  refine uD 4 rfl (uAj rfl rfl) ?_
  refine uD 5 rfl (uY) ?_
  refine uD 6 rfl (uBf rfl) ?_
  refine uD 7 rfl (uY) ?_
  apply kL 8 rfl (by kernel_rfl) rfl
  refine uC (qZt hE hxl o3 l3 (qCr.2 hno) hroom) rfl ?_
  rintro _ _ ⟨rfl, rfl⟩
  simp only [uV, uW]
  refine uE ?_
  refine uD 9 rfl (qV rfl rfl) ?_
  refine uD 10 rfl (qV rfl rfl) ?_
  refine uD 11 rfl (qD rfl) ?_
  refine uD 12 rfl (qD rfl) ?_
  refine qCc (by kernel_rfl) ?_
  refine qK (kC ?_)
  exact uZ rfl (.tmp rfl (.tmp rfl .nil)) ⟨rfl, rfl⟩
theorem qZd (hE : Seat E) {r : Rl} {ids : List Nat} {g c n : Nat} (hn : ids.length = n) (hok : r.ok (Es.length + 1)) (hno : r ∉ rls Es) (hroom : Es.length = most) (hlen : len (rls Es ++ [r]) (Es.length + 1) ≤ kI) (hids : ∀ k, k ≤ Es.length → ids[k]? = some k) :
  Ct E 69 [uPt s, .agg #[.int .i64 (Rl.kind (r) : Nat), .int .u8 (Rl.byte (r) : Nat), .int .i64 (Rl.left (r) : Nat), .int .i64 (Rl.right (r) : Nat), .int .i64 (Rl.times (r) : Nat)], .slice (some ⟨g, 0, none⟩) n c] [zS s most Es, sl (some ⟨g, 0, none⟩) c 40 1 n (idC ids)] (fun v Q => v = .tuple #[.int .i64 0, .iface 31 (.int .i64 3)] ∧ Q = [zS s most Es, sl (some ⟨g, 0, none⟩) c 40 1 n (idC ids)]) := by
 subst hn
 exact ct_dAddF hE hok hno hroom hlen hids
theorem qZe (hE : Seat E) {a d l nb cb wb mb cnt cc : Nat} {nm : List UInt8} {c : Cn} (hw : Wf c.G) (hm : most < c.G.length) (hN : ∀ x k, c.N x = some k → k ≤ c.G.length) :
  Ct E 39 [uPt d, uPt cc] [cells d [uPt a, .string ⟨⟨nm⟩⟩, uPt s, uPt l, .map (some nb), .map (some cb), uPt wb, .bool false] 97, cells wb [.map (some mb), .int .i64 (cnt : Nat)] 95, zS s most [], qAb nb (fun _ => none), mapF mb .i64 (nuF []), cnP cc c]
   (fun v Q => v = .iface 31 (.int .i64 3) ∧ Q = []) := by
 have hmr : qBu = 1048576 := rfl
 have hroom := hw.room
 have hml : c.G.length + 1 ≤ maxLen := by unfold maxLen; omega
 have hm1 : E.P.underlying 84 = some (.map 9 3) := by rw [hE.P]; kernel_rfl
 have hm2 : E.P.underlying 90 = some (.map 9 40) := by rw [hE.P]; kernel_rfl
 have hm3 : E.P.underlying 93 = some (.map 40 3) := by rw [hE.P]; kernel_rfl
 have hm4 : E.P.underlying 40 = some (.int .i64) := by rw [hE.P]; kernel_rfl
 have hm5 : E.P.underlying 9 = some .string := by rw [hE.P]; kernel_rfl
 refine zP (hE.fn Tryz.func39) rfl rfl rfl (fun R => ?_)
 simp only [qAe, uV, uW]
 refine qFa (p := cnP cc c) (ps := fun i : CtG => [cells cc [.slice i.rq (c).G.length i.rc, .slice i.lq (c).G.length i.lc, .map (some i.nb)] 87, sl i.rq i.rc 115 5 (c).G.length (rusC (c).G), sl i.lq i.lc 3 1 (c).G.length (idC (lnsL (c).G)), qAb i.nb (nmF (c).N)]) uK qTp ?_
 rintro ⟨rq, rc, lq, lc, kb⟩
 simp only
 refine qCw (p := sl rq rc 115 5 c.G.length (rusC c.G)) uK (fun _ h => fun hpos => qAz h hpos) ?_
 intro hp
 refine qCw (p := qAb kb (nmF c.N)) uK (fun _ h => qEx h) ?_
 rintro ⟨n, hct⟩
 refine qL (qJ (uA rfl (qM (qK (qL (qJ (uM rfl (uB (zB rfl) ?_))))))))
 refine uB (uBf rfl) ?_
 refine uL ?_
 refine uB (uBl rfl) ?_
 refine uB (uAa rfl rfl) ?_
 refine l_eq 17 (.int .i64 ((c.G.length + 1 : Nat) : Int)) rfl (zX (by omega)) ?_
 refine uU ?_
 refine qVs (hE.t rfl) (hE.t rfl) rfl (by omega) hml (fun b18 => ?_)
 rw [qWd (Z := id) rfl]
 refine uA rfl (qM (qK (qL (qL (qJ (uM rfl (uB (zB rfl) ?_)))))))
 refine uB (uBf rfl) ?_
 refine uL ?_
 refine uB (uBl rfl) ?_
 refine uM rfl (qM (qK (zL ?_)))
 refine qAj (fun x : DlG => [(0, uPt d), (1, uPt cc), (5, .slice (some ⟨b18, 0, none⟩) (c.G.length + 1) (c.G.length + 1)), (22, .slice rq c.G.length rc), (23, .int .i64 (c.G.length : Nat)), (24, .int .i64 (x.i : Nat))]) (fun x => [cells d [uPt a, .string ⟨⟨nm⟩⟩, uPt s, uPt l, .map (some nb), .map (some cb), uPt wb, .bool false] 97, cells wb [.map (some mb), .int .i64 (cnt : Nat)] 95, zS s most x.Es, qAb nb (fun _ => none), mapF mb .i64 (nuF ((idV c.G.length).take x.i)), cells cc [.slice (CtG.mk rq rc lq lc kb).rq (c).G.length (CtG.mk rq rc lq lc kb).rc, .slice (CtG.mk rq rc lq lc kb).lq (c).G.length (CtG.mk rq rc lq lc kb).lc, .map (some (CtG.mk rq rc lq lc kb).nb)] 87, sl (CtG.mk rq rc lq lc kb).rq (CtG.mk rq rc lq lc kb).rc 115 5 (c).G.length (rusC (c).G), sl (CtG.mk rq rc lq lc kb).lq (CtG.mk rq rc lq lc kb).lc 3 1 (c).G.length (idC (lnsL (c).G)), qAb kb (nmF c.N), sl (some ⟨b18, 0, none⟩) (c.G.length + 1) 40 1 (c.G.length + 1) (idC (tkL id (c.G.length + 1) x.i)), R]) (fun x => c.G.length - x.i) (fun x => x.i ≤ c.G.length ∧ x.i ≤ most ∧ rls x.Es = c.G.take x.i) ⟨0, []⟩ ⟨Nat.zero_le _, Nat.zero_le _, rfl⟩ ⟨rfl, rfl, rfl, rfl, rfl, rfl, trivial⟩ uI ?_
 rintro ⟨i, Es⟩ ⟨hi, him, hEs⟩
 simp only at hi him hEs ⊢
 refine qL (qJ (uB (y_lt rfl rfl) ?_))
 refine qM (qK (qL ?_))
 refine zF rfl (fun h1 => ?_) (fun h1 => ?_)
 ·have hil : i < c.G.length := by omega
  obtain ⟨g, rfl⟩ := hp (by omega)
  obtain ⟨r, hr⟩ : ∃ x, c.G[i]? = some x := ⟨_, List.getElem?_eq_getElem hil⟩
  obtain ⟨f0, f1, f2, f3, f4⟩ := zBk hr (0 + ((i : Nat) : Int).toNat * 5) (by omega)
  have hEl : Es.length = i := by rw [← zR, hEs, List.length_take]; omega
  have htl := qHq id (c.G.length + 1) i
  have hno : r ∉ rls Es := by rw [hEs]; exact zBj hw hr
  have hok : r.ok (Es.length + 1) := by rw [hEl]; exact hw.ok i r hr
  have htk : rls Es ++ [r] = c.G.take (i + 1) := by rw [hEs, List.take_add_one, hr]; rfl
  have hlen : len (rls Es ++ [r]) (Es.length + 1) ≤ kI := by
   rw [htk, hEl]
   have h1 := qDb (L := c.G.take (i + 1)) (c.G.drop (i + 1)) (i := i + 1) (by rw [List.length_take]; omega)
   rw [List.take_append_drop] at h1
   rw [← h1]
   exact hw.short (i + 1)
  have hids : ∀ k, k ≤ Es.length → (tkL id (c.G.length + 1) i)[k]? = some k := fun k hk => zCd (by omega) (by omega)
  refine zC (qK (qL (zL (qL (qJ (uM rfl (uB (uAi rfl rfl) ?_)))))))
  refine uB (uG) ?_
  refine uU (kG (hE.t rfl) (fun b7 => ?_))
  refine uA rfl (uU (uS ?_))
  refine qM (qK (qL ?_))
  refine uH ([cells d [uPt a, .string ⟨⟨nm⟩⟩, uPt s, uPt l, .map (some nb), .map (some cb), uPt wb, .bool false] 97, cells wb [.map (some mb), .int .i64 (cnt : Nat)] 95, sl (some ⟨b18, 0, none⟩) (c.G.length + 1) 40 1 (c.G.length + 1) (idC (tkL id (c.G.length + 1) i)), cells b7 [.int .i64 (Rl.kind (r) : Nat), .int .u8 (Rl.byte (r) : Nat), .int .i64 (Rl.left (r) : Nat), .int .i64 (Rl.right (r) : Nat), .int .i64 (Rl.times (r) : Nat)] 115]) ?_
  refine uD 0 rfl (qC rfl) ?_
  refine uD 1 rfl (zB rfl) ?_
  refine uD 2 rfl (uBf rfl) ?_
  refine uD 3 rfl (uY) ?_
  refine uD 4 rfl (uG) ?_
  refine uD 5 rfl (qC rfl) ?_
  apply kL 6 rfl (by kernel_rfl) rfl
  rcases Nat.lt_or_ge i most with him2 | him2
  ·apply zA (qVk (s := s) (most := most) (r := r) (g := b18) (c := c.G.length + 1) (ids := tkL id (c.G.length + 1) i) hE htl hok hno (by omega) hlen hids) rfl (hE.f (by kernel_rfl))
   ·exact uK
   rintro _ _ ⟨x, rfl, hxr, rfl⟩
   rw [hEl]
   simp only [uV, uW]
   refine uE ?_
   refine uD 7 rfl (qC rfl) ?_
   refine uD 8 rfl (qV rfl rfl) ?_
   refine uD 9 rfl (qV rfl rfl) ?_
   refine uD 10 rfl (qD rfl) ?_
   refine uD 11 rfl (qD rfl) ?_
   refine qCc (by kernel_rfl) ?_
   refine qK (qL (qL (qJ (uM rfl (uB (qAf rfl (hE.t rfl)) ?_)))))
   refine qM (qK (zD rfl (zC (qK (qL (qJ (uM rfl (uM rfl (uB (uAa rfl rfl) ?_)))))))))
   refine uM rfl (uB (uAj rfl rfl) ?_)
   refine uU (uJ ?_)
   refine qM (qK ?_)
   rw [zCe (Z := id) (n := c.G.length + 1) (k := i) (v := ((i + 1 : Nat) : Int)) (by omega) ((((i : Nat) : Int) + 1).toNat) (by omega) rfl]
   refine qJ (uM rfl (uB (zB rfl) ?_))
   refine uB (uBf rfl) ?_
   refine uL ?_
   refine uB (zB rfl) ?_
   refine uB (uBf rfl) ?_
   refine uL ?_
   refine uM rfl (uM rfl (uB (uAa rfl rfl) ?_))
   refine l_eq 56 (.int .i64 ((i + 1 : Nat) : Int)) rfl (zX (by omega)) ?_
   refine uU ?_
   refine qJc (k := ((i + 1 : Nat) : Int)) hm3 hm4 rfl rfl rfl uK ?_
   rw [zAw (qOq hil) (qMx _)]
   refine qM (zJ (qK (qJ (uB (uAa rfl rfl) ?_))))
   refine uM rfl (qM ?_)
   refine zT (ι := DlG) (j := ⟨i + 1, Es ++ [x]⟩) ⟨by simp only; omega, by simp only; omega, ?_⟩ (by simp only; omega) ⟨rfl, rfl, rfl, rfl, rfl, congrArg some (zX (by simp only; omega)), trivial⟩ uI
   rw [kH, ← htk]
   exact congrArg _ (by rw [← hxr]; rfl)
  obtain rfl : i = most := by omega
  refine uC (qZd (s := s) (most := i) (r := r) (g := b18) (c := c.G.length + 1) (ids := tkL id (c.G.length + 1) i) hE htl hok hno hEl hlen hids) rfl ?_
  rintro _ _ ⟨rfl, rfl⟩
  simp only [uV, uW]
  refine uE ?_
  refine uD 7 rfl (qC rfl) ?_
  refine uD 8 rfl (qV rfl rfl) ?_
  refine uD 9 rfl (qV rfl rfl) ?_
  refine uD 10 rfl (qD rfl) ?_
  refine uD 11 rfl (qD rfl) ?_
  refine qCc (by kernel_rfl) ?_
  refine qK (qL (qL (qJ (uM rfl (uB (qCi rfl (hE.t rfl)) ?_)))))
  refine qM (qK (zG rfl (qL (qJ (uM rfl (uA rfl ?_))))))
  refine qM (qK (kC (qX (zO (qX (qX (zO (qX ?_))))))))
  exact uZ rfl (.tmp rfl .nil) ⟨rfl, rfl⟩
 exfalso
 omega
end
end Go.Proofs.YtddfnkijolfhbaaGreat
