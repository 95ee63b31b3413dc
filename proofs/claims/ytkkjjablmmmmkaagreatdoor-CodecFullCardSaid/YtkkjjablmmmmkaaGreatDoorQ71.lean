import Derived.Test.YtkkjjablmmmmkaaGreatDoorQ69
import Derived.Test.YtkkjjablmmmmkaaGreatDoorQ70
set_option linter.all false
namespace Go.Proofs.YtkkjjablmmmmkaaGreatDoor
open Go Go.RowKit Sl Eg
set_option maxRecDepth 10000
variable {E : Env}
def qOj (r : Rl) : Ent := ⟨r, [], 0, true⟩
theorem qFj (L : List Rl) : rls ([] ++ L.map qOj) = L := by
 rw [List.nil_append]
 unfold rls
 rw [List.map_map]
 exact List.map_id L
def OrI (bs : List UInt8) (lv : Nat) (L : List Rl) (sq : List Nat) : Prop := OfI [] bs ⟨lv, L.map qOj, sq⟩
theorem OrI.inv {bs : List UInt8} {lv : Nat} {L : List Rl} {sq : List Nat} (h : OrI bs lv L sq) : Inv L lv sq := by have := OfI.inv h; rwa [qFj] at this
theorem OrI.text {bs : List UInt8} {lv : Nat} {L : List Rl} {sq : List Nat} (h : OrI bs lv L sq) : rowT L sq = bs := by have := OfI.text h; rwa [qFj] at this
theorem OrI.rch {bs : List UInt8} {lv : Nat} {L : List Rl} {sq : List Nat} (h : OrI bs lv L sq) : Rch L bs lv sq := by have := OfI.rch h; rwa [qFj] at this
theorem OrI.end_ {bs : List UInt8} {lv : Nat} {L : List Rl} {sq : List Nat} (h : OrI bs lv L sq) : lv + meas L lv sq ≤ 1000 * bs.length + 501 := by have := OfI.end_ h; rwa [qFj] at this
theorem OrI.room {bs : List UInt8} {lv : Nat} {L : List Rl} {sq : List Nat} (h : OrI bs lv L sq) : L.length + sq.length ≤ 2 * bs.length := by have := OfI.room h; simpa using this
theorem OrI.pos {bs : List UInt8} {lv : Nat} {L : List Rl} {sq : List Nat} (h : OrI bs lv L sq) : 1 ≤ sq.length ∧ 1 ≤ lv := OfI.pos h
theorem OrI.start {bs : List UInt8} {L : List Rl} {sq : List Nat} (hw : Wf L) (hl : Lts L sq bs) (hL : L.length ≤ bs.length) (hb : bs ≠ []) : OrI bs 1 L sq := by
 have hil := hl.le.1
 have hi := hl.inv hw
 have hm := qXa hi
 have hb1 : 1 ≤ bs.length := by
  rcases Nat.eq_zero_or_pos bs.length with e | e
  ·exact absurd (List.eq_nil_of_length_eq_zero e) hb
  exact e
 refine ⟨⟨by show 1 ≤ sq.length; omega, Nat.le_refl _⟩, by show sq.length ≤ _; omega, by show (L.map qOj).length + sq.length ≤ _; rw [List.length_map]; omega, ?_, ?_, ?_, ?_⟩
 ·show Inv (rls ([] ++ L.map qOj)) 1 sq; rw [qFj]; exact hi
 ·show rowT (rls ([] ++ L.map qOj)) sq = bs; rw [qFj]; exact hl.text
 ·show Rch (rls ([] ++ L.map qOj)) bs 1 sq; rw [qFj]; exact .start hl
 show 1 + meas (rls ([] ++ L.map qOj)) 1 sq ≤ _; rw [qFj]; omega
theorem OrI.step {bs : List UInt8} {lv : Nat} {L M : List Rl} {sq out : List Nat} (h : OrI bs lv L sq) (h2 : 2 ≤ sq.length) (hw : Wf (L ++ M)) (hl : M.length + out.length ≤ sq.length) (hs : Sq (L ++ M) lv sq out) : OrI bs (lv + 1) (L ++ M) out ∧ meas (L ++ M) (lv + 1) out < meas L lv sq := by
 have e1 : rls ([] ++ (L.map qOj ++ M.map qOj)) = L ++ M := by rw [← List.map_append, qFj]
 have hle : ∀ y ∈ sq, y ≤ L.length := fun y hy => (h.inv.ok y hy).2.1
 have key := OfI.step (x := ⟨lv, L.map qOj, sq⟩) h (M2 := M.map qOj) (out := out) h2 (by rw [e1]; exact hw) (by rw [List.length_map]; exact hl) (by
  show (lv % 2 = 1 ∧ _) ∨ (lv % 2 = 0 ∧ _)
  rw [e1, qFj]
  rcases hs.stp with ⟨ho, hr⟩ | ⟨he, a, o, hp, e⟩
  ·exact .inl ⟨ho, hr⟩
  rw [qHz M hle] at hp
  exact .inr ⟨he, o, a, e, hp⟩)
 simp only [e1, qFj] at key
 refine ⟨?_, key.2⟩
 unfold OrI
 rw [List.map_append]
 exact key.1
theorem OrI.runs {bs : List UInt8} {lv : Nat} {L : List Rl} {sq : List Nat} (h : OrI bs lv L sq) (hb : bs.length ≤ 1000) : ∀ x t, (x, t) ∈ kL sq → len L x * t ≤ kJ := fun x t hx => by
 obtain ⟨a, b, e⟩ := List.append_of_mem hx
 have e2 : sq = flat a ++ List.replicate t x ++ flat b := by
  rw [← qCp sq, e, qBc, List.append_assoc]
  rfl
 have := qYw (L := L) (A := flat a) (B := flat b) (x := x) (t := t)
 rw [← e2, h.text] at this
 have hmx : kJ = 1152921504606846976 := rfl
 unfold len
 omega
theorem OrI.pairs {bs : List UInt8} {lv : Nat} {L : List Rl} {sq : List Nat} (h : OrI bs lv L sq) (hb : bs.length ≤ 1000) : ∀ i x y, sq[i]? = some x → sq[i + 1]? = some y → len L x + len L y ≤ kJ := fun i x y hx hy => by
 have := qXo (L := L) hx hy
 rw [h.text] at this
 have hmx : kJ = 1152921504606846976 := rfl
 unfold len
 omega
structure OrG where
 R : List Rl
 p : Option Addr
 c : Nat
 sq : List Nat
 ps : Option Addr
 cs : Nat
 lv : Nat
theorem ct_r22Of (hE : Seat E) {a : Option Addr} {ca : Nat} {bs : List UInt8} {q : HP} (hq : Rdb E.w0 a (byC bs) q) (hb : bs ≠ []) (hn : bs.length ≤ 1000) : Ct E 45 [.slice a bs.length ca] [q]
  (fun v Q => ∃ pq R p c id ps cs lv k, v = uPt pq ∧ Wf R ∧ Rch R bs k [id] ∧ R.length ≤ 2 * bs.length ∧ Q = [q, cells pq [.slice p (R.length + 1) c, .slice ps [id].length cs, .int .i64 ((lv : Nat) : Int)] 99, sl p c 82 5 (R.length + 1) (ruC R), sl ps cs 37 1 [id].length (idC [id])]) := by
 refine zQ (hE.fn Tryz.func45) rfl rfl rfl (fun R => ?_)
 simp only [qAa, uV, uW]
 refine qK (qI (uA rfl (qL (qJ (qK (qI (uM rfl (uX (qWj hE hq (by omega)) rfl ?_))))))))
 rintro _ _ ⟨pq, R0, p0, c0, sq0, ps0, cs0, rfl, hw0, hl0, hL0, rfl⟩
 simp only [uV, uW]
 refine uA rfl (qL (qJ (qK (zM ?_))))
 refine qAc (fun x : OrG => [(3, uPt pq)]) (fun x => [q, cells pq [.slice x.p (x.R.length + 1) x.c, .slice x.ps x.sq.length x.cs, .int .i64 ((x.lv : Nat) : Int)] 99, sl x.p x.c 82 5 (x.R.length + 1) (ruC x.R), sl x.ps x.cs 37 1 x.sq.length (idC x.sq), R]) (fun x => meas x.R (x.lv + 1) x.sq) (fun x => Wf x.R ∧ OrI bs (x.lv + 1) x.R x.sq) ⟨R0, p0, c0, sq0, ps0, cs0, 0⟩ ⟨hw0, OrI.start hw0 hl0 hL0 hb⟩ ⟨rfl, trivial⟩ uI ?_
 rintro ⟨L, p, c, sq, ps, cs, lv⟩ ⟨hw, hI⟩
 simp only at hw hI ⊢
 have hrm := hI.room
 have hps := hI.pos
 have hen := hI.end_
 refine qK (qK (qI (uM rfl (uB (zB rfl) ?_))))
 refine uB (uBf rfl) ?_
 refine uL ?_
 refine uB (uBl rfl) ?_
 refine uB (y_gt rfl rfl) ?_
 refine qL (qJ ?_)
 refine zG rfl (fun h => ?_) (fun h => ?_)
 ·refine zD (qJ (zM (qI ?_)))
  refine uM rfl ?_
  refine uX (zAi (L := L) (c := c) (p := p) (ps := ps) (cs := cs) (sq := sq) (lv := lv) hE hw (by omega) (by omega) (fun x hx => ⟨(hI.inv.ok x hx).1, (hI.inv.ok x hx).2.1⟩) (hI.runs hn) (hI.pairs hn)) rfl ?_
  rintro _ _ ⟨M, p', c', out, po, co, rfl, hwM, hsq, hlen, rfl⟩
  simp only [uV, uW]
  obtain ⟨hI2, hm2⟩ := hI.step (by omega) hwM hlen hsq
  refine qL (zK ?_)
  refine zU (ι := OrG) (j := ⟨L ++ M, p', c', out, po, co, lv + 1⟩) ⟨hwM, hI2⟩ hm2 ⟨rfl, trivial⟩ ?_
  exact uI
 obtain ⟨id, rfl⟩ : ∃ id, sq = [id] := List.length_eq_one_iff.1 (by omega)
 refine kM (qP (qP (zJ (qJ (qK (qI (uM rfl (uA rfl (qL (qJ (kD ?_)))))))))))
 exact uZ rfl (.tmp rfl .nil) ⟨pq, L, p, c, id, ps, cs, lv, lv + 1, rfl, hw, hI.rch, by omega, rfl⟩
end Go.Proofs.YtkkjjablmmmmkaaGreatDoor
namespace Sl
open Go Go.RowKit
variable {E : Env} {n : Nat} {L : Fr} {H : List HP} {ty : TypeId} {pos : String} {af : Array Edge} {d : Option Nat} {gd : Option (Nat × Bool)} {K : Value → List HP → Prop}
theorem qMp {x : Operand} {t e : TypeId} {c by_ sz sz' : Nat} {zs : List Value} {v0 : Value} {kk : TK} (ht : E.tab t = some ⟨.slice e 1 by_, sz, zs⟩) (he : E.tab e = some ⟨kk, sz', [v0]⟩)
  (hx : ev L x = some (.int .i64 (c : Nat))) (hb : by_ * c ≤ 281474976710656) (hc : c ≤ maxLen)
  (hk : ∀ b, K (.slice (some ⟨b, 0, none⟩) c c) (sl (some ⟨b, 0, none⟩) c e 1 c (List.replicate c v0) :: H)) : Ld E n L H ⟨d, .makeSlice t x x, ty, pos, af, gd⟩ K := fun Q next a w G hn => by
 obtain ⟨hu, j, hj, hs, hby⟩ := qBe ht
 obtain ⟨i, z, hi, hi2, hiz, hzc, _⟩ := qAy he
 obtain rfl : i = j := by rw [hi] at hj; simpa using hj
 subst hby
 have hz1 : z.cells = #[v0] := by
  apply Array.toList_inj.1
  rw [hzc]
 have h63 : (c : Int) ≤ 9223372036854775807 := by have h := hc; simp [maxLen] at h; omega
 have hr := run_make (P := E.P) w t e i z hu hi hiz .i64 .i64 (c : Int) (c : Int) (Int.natCast_nonneg c) (Int.le_refl _) (by rw [← Int.natCast_mul]; omega) h63
 have hrun : (execOp a.eval ⟨d, .makeSlice t x x, ty, pos, af, gd⟩).run E.P w = .ok (.value (.slice (some ⟨w.heap.size, 0, none⟩) c c)) (w.alloc (.cells (madeCells z.cells (c * i.size)) e)) := by
  simp [execOp, G.f.ev hx, hr]
 unfold Oper.wp
 rw [hrun, Oper.upon_value]
 have hM : (madeCells z.cells (c * i.size)).toList = List.replicate c v0 := by
  rw [hz1, hs, Nat.mul_one]
  apply List.ext_getElem?
  intro k
  rcases Nat.lt_or_ge k c with hk | hk
  ·rw [List.getElem?_replicate, if_pos hk]
   simp [madeCells, hk, Nat.mod_one]
  rw [List.getElem?_eq_none (by simpa [size_madeCells] using hk), List.getElem?_eq_none (by simpa using hk)]
 have hz : (madeCells z.cells (c * i.size)).size = c * 1 := by rw [size_madeCells, hs]
 generalize madeCells z.cells (c * i.size) = M at *
 refine hn _ _ _ (hk _) ?_
 have := G.hp.new (.cells M e)
 exact this.imp fun _ => qBk fun _ h => by
  have := qAd (us := M.toList) (sz := 1) (by simpa using hz) hc _ h
  rwa [hM] at this
end Sl
namespace Go.Proofs.YtkkjjablmmmmkaaGreatDoor
open Go Go.RowKit Sl Eg
set_option maxRecDepth 10000
section
variable {E : Env} {L : List Rl}
def dnC (n : Nat) (acc : List Nat) : List Value := (List.range n).map fun i => .bool (decide (i ∈ acc))
theorem qKm (n : Nat) (acc : List Nat) : (dnC n acc).length = n := by simp [dnC]
theorem dnC_nil (n : Nat) : List.replicate n (Value.bool false) = dnC n [] := by
 apply List.ext_getElem?
 intro i
 unfold dnC
 rw [List.getElem?_map, List.getElem?_replicate]
 rcases Nat.lt_or_ge i n with h | h
 ·rw [if_pos h, List.getElem?_range h]; simp
 rw [if_neg (by omega), List.getElem?_eq_none (by simpa using h)]; rfl
theorem qYa {n x : Nat} (acc : List Nat) (h : x < n) (o : Nat) (ho : o = x) : (dnC n acc)[o]? = some (.bool (decide (x ∈ acc))) := by
 subst ho
 unfold dnC
 rw [List.getElem?_map, List.getElem?_range h]
 rfl
theorem qVm {n x : Nat} (acc : List Nat) (h : x < n) (o : Nat) (ho : o = x) : zZ (dnC n acc) o [.bool true] = dnC n (acc ++ [x]) := by
 subst ho
 apply List.ext_getElem?
 intro i
 simp only [zZ]
 rw [List.getElem?_set, qKm]
 rcases Nat.lt_or_ge i n with hi | hi
 ·rw [qYa _ hi i rfl, qYa _ hi i rfl]
  by_cases e : o = i
  ·subst e; simp [h]
  rw [if_neg e]
  have : ¬ i = o := fun e' => e e'.symm
  simp [this]
 rw [if_neg (by omega), List.getElem?_eq_none (by rw [qKm]; exact hi), List.getElem?_eq_none (by rw [qKm]; exact hi)]
theorem AccOk.visit (hw : Wf L) {acc : List Nat} (h : AccOk L acc) (x : Nat) : AccOk L (Go.Proofs.YtkkjjablmmmmkaaGreatDoor.visit L x acc) := by
 obtain ⟨h1, _, h3⟩ := qJz hw x acc
 refine ⟨h3 h.1, fun y hy => ?_⟩
 rcases h1 y hy with hy | hy
 ·exact h.2 y hy
 exact ⟨hy.1, hy.2.2⟩
theorem qVk (hE : Seat E) (hw : Wf L) {g c gd po : Nat} (hL : L.length ≤ 100000) : ∀ (id : Nat), id ≤ L.length → ∀ (acc : List Nat), AccOk L acc → ∀ (p : Option Addr) (cc : Nat),
  Ct E 106 [.slice (some ⟨g, 0, none⟩) (L.length + 1) c, .int .i64 (id : Nat), .slice (some ⟨gd, 0, none⟩) (L.length + 1) (L.length + 1), uPt po] [sl (some ⟨g, 0, none⟩) c 82 5 (L.length + 1) (ruC L), sl (some ⟨gd, 0, none⟩) (L.length + 1) 4 1 (L.length + 1) (dnC (L.length + 1) acc), cells po [.slice p acc.length cc] 74, sl p cc 37 1 acc.length (idC acc)]
   (fun v Q => ∃ p' cc', v = .tuple #[] ∧ Q = [sl (some ⟨g, 0, none⟩) c 82 5 (L.length + 1) (ruC L), sl (some ⟨gd, 0, none⟩) (L.length + 1) 4 1 (L.length + 1) (dnC (L.length + 1) (visit L id acc)), cells po [.slice p' (visit L id acc).length cc'] 74, sl p' cc' 37 1 (visit L id acc).length (idC (visit L id acc))]) := by
 intro id
 induction id using Nat.strongRecOn with
 | ind id ih =>
  intro hid acc hacc p cc
  have hal0 := hacc.len
  refine zQ (hE.fn Tryz.func106) rfl rfl rfl (fun R => ?_)
  simp only [qAa, uV, uW]
  refine qK (qK (qI (uM rfl (uB (y_eq rfl rfl) ?_))))
  refine uM rfl ?_
  refine qAf 11 rfl (fun h0 => ?_) (fun h0 => ?_)
  ·obtain rfl : id = 0 := by omega
   refine zV rfl rfl rfl rfl (zV rfl rfl rfl rfl (zV rfl rfl rfl rfl (zV rfl rfl rfl rfl ?_)))
   refine uB (qX rfl rfl) ?_
   refine qL (qJ (zH rfl (kD (qW ?_))))
   apply qWq
   ·rfl
   ·(exact Rs.nil)
   ·exact ⟨p, cc, rfl, rfl⟩
   rw [qCm]
   exact uI
  obtain ⟨n, rfl⟩ : ∃ n, id = n + 1 := ⟨id - 1, by omega⟩
  obtain ⟨r, hr⟩ : ∃ r, L[n]? = some r := ⟨_, List.getElem?_eq_getElem (by omega)⟩
  have hkl := qCn (hw.ok n r hr)
  have f9 := qYa acc (n := L.length + 1) (x := n + 1) (by omega) (0 + ((n + 1 : Nat) : Int).toNat) (by omega)
  have f8 := qYa acc (n := L.length + 1) (x := n + 1) (by omega) (((n + 1 : Nat) : Int).toNat) (by omega)
  obtain ⟨f0, f1, f2, f3, f4⟩ := qIl hr (0 + ((n + 1 : Nat) : Int).toNat * 5) (by omega)
  refine kU rfl rfl (uM rfl (kU rfl rfl (uM rfl (kU rfl rfl (uB (uAj rfl rfl) ?_)))))
  refine kU rfl rfl (uL ?_)
  refine uB (qY rfl rfl) ?_
  refine qL (qJ ?_)
  refine zG rfl (fun h1 => ?_) (fun h1 => ?_)
  ·refine kD (qW ?_)
   apply qWq
   ·rfl
   ·(exact Rs.nil)
   ·exact ⟨p, cc, rfl, rfl⟩
   rw [qCw h1]
   exact uI
  have hv := qBg hw hr h1
  refine zD (qJ (qK (qI (uM rfl (uM rfl (uB (uAi rfl rfl) ?_))))))
  refine uB (uG) ?_
  refine uU (kH (hE.t rfl) (fun b8 => ?_))
  refine uU (uS ?_)
  refine qL (qJ (qK (qK (qI (uB (uBf rfl) ?_)))))
  refine uL ?_
  refine uB (y_ne rfl rfl) ?_
  refine qL (qJ ?_)
  cases r with
  | letter b =>
   obtain ⟨A, hAe⟩ : ∃ A, A = acc := ⟨_, rfl⟩
   have hA : AccOk L A := by rw [hAe]; exact hacc
   have hvis : visit L (n + 1) acc = A ++ [n + 1] := by rw [hv, hAe]; rfl
   clear hv
   rw [← hAe] at hvis ⊢
   simp only [Rl.kind, Rl.byte, Rl.left, Rl.right, Rl.times]
   refine zF rfl (zD (qJ (qK (qK (qI (uB (uBf rfl) ?_))))))
   refine uL ?_
   refine uB (y_eq rfl rfl) ?_
   refine qL (qJ (zF rfl ?_))
   have hal := hA.len
   refine zD (qJ (qK (qI (uM rfl (uM rfl (uB (uAj rfl rfl) ?_))))))
   refine uU (uJ ?_)
   refine qL (qJ ?_)
   have hst : zZ (dnC (L.length + 1) A) (((n + 1 : Nat) : Int).toNat) (zR (.bool true)) = dnC (L.length + 1) (A ++ [n + 1]) := qVm A (by omega) _ (by omega)
   rw [hst]
   refine qI (uM rfl (uM rfl (uB (zB rfl) ?_)))
   refine uL ?_
   refine uM rfl (uU ?_)
   refine qV (hE.t rfl) (hE.t rfl) rfl rfl rfl (fun b47 => ?_)
   refine uU ?_
   apply zW (hE.t rfl) (hE.t rfl) rfl rfl rfl
   ·exact uK
   ·exact uK
   ·rfl
   ·rfl
   ·omega
   ·omega
   ·(unfold maxLen; omega)
   intro g48 c48 n48 x48 hn48 hx48
   refine uB (zB rfl) ?_
   refine uU (uS ?_)
   refine qL ?_
   subst hn48 hx48
   apply qWq
   ·rfl
   ·(exact Rs.nil)
   ·refine ⟨some ⟨g48, 0, none⟩, c48, rfl, rfl⟩
   rw [hvis]
   simp only [List.length_append, List.length_singleton]
   rw [qBa]
   exact uI
  | pair a b =>
   simp only [Rl.kind, Rl.byte, Rl.left, Rl.right, Rl.times]
   have ha := hkl a (by simp [kids])
   have hb := hkl b (by simp [kids])
   have hA1 := hacc.visit hw a
   obtain ⟨A, hAe⟩ : ∃ A, A = visit L b (visit L a acc) := ⟨_, rfl⟩
   have hA : AccOk L A := by rw [hAe]; exact hA1.visit hw b
   have hvis : visit L (n + 1) acc = A ++ [n + 1] := by rw [hv, hAe]; rfl
   clear hv
   refine zH rfl (qI (uM rfl (uB (uBf rfl) ?_)))
   refine uL ?_
   refine uM rfl (uM rfl (uX (ih a ha.2 (by omega) acc hacc p cc) rfl ?_))
   rintro _ _ ⟨p1, cc1, rfl, rfl⟩
   simp only [uV, uW]
   refine qL (qJ (qK (qK (qI (uB (uBf rfl) ?_)))))
   refine uL ?_
   refine uB (y_eq rfl rfl) ?_
   refine qL (qJ (zH rfl (qI (uM rfl (uB (uBf rfl) ?_)))))
   refine uL ?_
   refine uM rfl (uM rfl (uX (ih b hb.2 (by omega) (visit L a acc) hA1 p1 cc1) rfl ?_))
   rintro _ _ ⟨p2, cc2, rfl, rfl⟩
   simp only [uV, uW]
   rw [← hAe]
   have hal := hA.len
   refine qL (qJ (qK (qI (uM rfl (uM rfl (uB (uAj rfl rfl) ?_))))))
   refine uU (uJ ?_)
   refine qL (qJ ?_)
   have hst : zZ (dnC (L.length + 1) A) (((n + 1 : Nat) : Int).toNat) (zR (.bool true)) = dnC (L.length + 1) (A ++ [n + 1]) := qVm A (by omega) _ (by omega)
   rw [hst]
   refine qI (uM rfl (uM rfl (uB (zB rfl) ?_)))
   refine uL ?_
   refine uM rfl (uU ?_)
   refine qV (hE.t rfl) (hE.t rfl) rfl rfl rfl (fun b47 => ?_)
   refine uU ?_
   apply zW (hE.t rfl) (hE.t rfl) rfl rfl rfl
   ·exact uK
   ·exact uK
   ·rfl
   ·rfl
   ·omega
   ·omega
   ·(unfold maxLen; omega)
   intro g48 c48 n48 x48 hn48 hx48
   refine uB (zB rfl) ?_
   refine uU (uS ?_)
   refine qL ?_
   subst hn48 hx48
   apply qWq
   ·rfl
   ·(exact Rs.nil)
   ·refine ⟨some ⟨g48, 0, none⟩, c48, rfl, rfl⟩
   rw [hvis]
   simp only [List.length_append, List.length_singleton]
   rw [qBa]
   exact uI
  | power a t =>
   simp only [Rl.kind, Rl.byte, Rl.left, Rl.right, Rl.times]
   have ha := hkl a (by simp [kids])
   obtain ⟨A, hAe⟩ : ∃ A, A = visit L a acc := ⟨_, rfl⟩
   have hA : AccOk L A := by rw [hAe]; exact hacc.visit hw a
   have hvis : visit L (n + 1) acc = A ++ [n + 1] := by rw [hv, hAe]; rfl
   clear hv
   refine zH rfl (qI (uM rfl (uB (uBf rfl) ?_)))
   refine uL ?_
   refine uM rfl (uM rfl (uX (ih a ha.2 (by omega) acc hacc p cc) rfl ?_))
   rintro _ _ ⟨p1, cc1, rfl, rfl⟩
   simp only [uV, uW]
   rw [← hAe]
   refine qL (qJ (qK (qK (qI (uB (uBf rfl) ?_)))))
   refine uL ?_
   refine uB (y_eq rfl rfl) ?_
   refine qL (qJ (zF rfl ?_))
   have hal := hA.len
   refine zD (qJ (qK (qI (uM rfl (uM rfl (uB (uAj rfl rfl) ?_))))))
   refine uU (uJ ?_)
   refine qL (qJ ?_)
   have hst : zZ (dnC (L.length + 1) A) (((n + 1 : Nat) : Int).toNat) (zR (.bool true)) = dnC (L.length + 1) (A ++ [n + 1]) := qVm A (by omega) _ (by omega)
   rw [hst]
   refine qI (uM rfl (uM rfl (uB (zB rfl) ?_)))
   refine uL ?_
   refine uM rfl (uU ?_)
   refine qV (hE.t rfl) (hE.t rfl) rfl rfl rfl (fun b47 => ?_)
   refine uU ?_
   apply zW (hE.t rfl) (hE.t rfl) rfl rfl rfl
   ·exact uK
   ·exact uK
   ·rfl
   ·rfl
   ·omega
   ·omega
   ·(unfold maxLen; omega)
   intro g48 c48 n48 x48 hn48 hx48
   refine uB (zB rfl) ?_
   refine uU (uS ?_)
   refine qL ?_
   subst hn48 hx48
   apply qWq
   ·rfl
   ·(exact Rs.nil)
   ·refine ⟨some ⟨g48, 0, none⟩, c48, rfl, rfl⟩
   rw [hvis]
   simp only [List.length_append, List.length_singleton]
   rw [qBa]
   exact uI
theorem qVj (hE : Seat E) (hw : Wf L) {g c id : Nat} (hL : L.length ≤ 100000) (hid : id ≤ L.length) : Ct E 81 [.slice (some ⟨g, 0, none⟩) (L.length + 1) c, .int .i64 (id : Nat)] [sl (some ⟨g, 0, none⟩) c 82 5 (L.length + 1) (ruC L)]
  (fun v Q => ∃ p cc, v = .slice p (visit L id []).length cc ∧ Q = [sl (some ⟨g, 0, none⟩) c 82 5 (L.length + 1) (ruC L), sl p cc 37 1 (visit L id []).length (idC (visit L id []))]) := by
 have hml : L.length + 1 ≤ maxLen := by unfold maxLen; omega
 refine zQ (hE.fn Tryz.func81) rfl rfl rfl (fun R => ?_)
 simp only [qAa, uV, uW]
 refine qK (qI (uA rfl (qL (qJ (qK (qI (uM rfl (uB (uBl rfl) ?_))))))))
 refine uU ?_
 refine qMp (hE.t rfl) (hE.t rfl) rfl (by omega) hml (fun b9 => ?_)
 rw [dnC_nil]
 refine uA rfl (qL (qJ (qK (qI (uU (kH (hE.t rfl) (fun b6 => ?_)))))))
 refine qL (qJ (qK (qI (uM rfl (uM rfl (uM rfl ?_))))))
 refine qMa (qBw (t := 37) (sz := 1)) ?_
 refine uX (qVk (g := g) (c := c) (gd := b9) (po := b6) hE hw hL id hid [] ⟨List.nodup_nil, fun y hy => by simp at hy⟩ none 0) rfl ?_
 rintro _ _ ⟨p', cc', rfl, rfl⟩
 simp only [uV, uW]
 refine qL (qJ (qK (qI (uL ?_))))
 refine uA rfl (qL (qJ (kD ?_)))
 exact uZ rfl (.tmp rfl .nil) ⟨p', cc', rfl, rfl⟩
end
section
variable {E : Env} {L : List Rl}
def toC (n : Nat) (T : List Nat) : List Value := (List.range n).map fun x => .int .i64 (numb T x : Nat)
theorem qKl (n : Nat) (T : List Nat) : (toC n T).length = n := by simp [toC]
theorem toC_nil (n : Nat) : List.replicate n (Value.int .i64 0) = toC n [] := by
 apply List.ext_getElem?
 intro i
 unfold toC
 rw [List.getElem?_map, List.getElem?_replicate]
 rcases Nat.lt_or_ge i n with h | h
 ·rw [if_pos h, List.getElem?_range h]; rfl
 rw [if_neg (by omega), List.getElem?_eq_none (by simpa using h)]; rfl
theorem qSz {n x : Nat} (T : List Nat) (h : x < n) (o : Nat) (ho : o = x) : (toC n T)[o]? = some (.int .i64 (numb T x : Nat)) := by
 subst ho
 unfold toC
 rw [List.getElem?_map, List.getElem?_range h]
 rfl
theorem qWu {n x : Nat} {T : List Nat} (hx : x ∉ T) (h : x < n) (o : Nat) (ho : o = x) {v : Int} (hv : v = (T.length + 1 : Nat)) : zZ (toC n T) o (zR (.int .i64 v)) = toC n (T ++ [x]) := by
 subst ho hv
 apply List.ext_getElem?
 intro i
 simp only [zZ, zR]
 rw [List.getElem?_set, qKl]
 rcases Nat.lt_or_ge i n with hi | hi
 ·rw [qSz _ hi i rfl, qSz _ hi i rfl]
  by_cases e : o = i
  ·subst e; rw [if_pos rfl, if_pos h, qUo hx]
  rw [if_neg e, qQn (fun e' => e e'.symm)]
 rw [if_neg (by omega), List.getElem?_eq_none (by rw [qKl]; exact hi), List.getElem?_eq_none (by rw [qKl]; exact hi)]
theorem qQb {V : List Nat} {k : Nat} {r : Rl} (h : ∀ x ∈ kids r, x ∈ V.take k) : qAz (V.take k) r = qAz V r := by
 have e : ∀ x ∈ kids r, numb (V.take k) x = numb V x := fun x hx => by
  have := qJy (m := V.drop k) (h x hx)
  rw [List.take_append_drop] at this
  exact this.symm
 cases r with
 | letter b => rfl
 | pair a b => simp only [qAz]; rw [e a (by simp [kids]), e b (by simp [kids])]
 | power a t => simp only [qAz]; rw [e a (by simp [kids])]
theorem qJx {V : List Nat} {k n : Nat} {r : Rl} (hV : V[k]? = some (n + 1)) (hr : L[n]? = some r) : rusC ((gram L V).take (k + 1)) = rusC ((gram L V).take k) ++ rlC (qAz V r) := by
 rw [List.take_add_one, qFx hV hr, ← qMt]
 rfl
structure CaG where
 k : Nat
 p : Option Addr
 c : Nat
theorem qVz (hE : Seat E) (hw : Wf L) {g c id : Nat} (hL : L.length ≤ 100000) (hid : id ≤ L.length) : Ct E 46 [.slice (some ⟨g, 0, none⟩) (L.length + 1) c, .int .i64 (id : Nat)] [sl (some ⟨g, 0, none⟩) c 82 5 (L.length + 1) (ruC L)]
  (fun v Q => ∃ p cc, v = .slice p (gram L (visit L id [])).length cc ∧ Q = [sl (some ⟨g, 0, none⟩) c 82 5 (L.length + 1) (ruC L), sl p cc 82 5 (gram L (visit L id [])).length (rusC (gram L (visit L id [])))]) := by
 have hml : L.length + 1 ≤ maxLen := by unfold maxLen; omega
 refine zQ (hE.fn Tryz.func46) rfl rfl rfl (fun R => ?_)
 simp only [qAa, uV, uW]
 refine qK (qI (uA rfl (qL (qJ (qK (qI (uM rfl (uM rfl (uX (qVj (g := g) (c := c) (id := id) hE hw hL hid) rfl ?_)))))))))
 rintro _ _ ⟨pv, cv, rfl, rfl⟩
 simp only [uV, uW]
 have hacc : AccOk L (visit L id []) := AccOk.visit hw ⟨List.nodup_nil, fun y hy => by simp at hy⟩ id
 have hord : Odr L (visit L id []) := qNt hw id [] (qRx L)
 obtain ⟨V, hV⟩ : ∃ V, V = visit L id [] := ⟨_, rfl⟩
 rw [← hV] at hacc hord ⊢
 have hVl := hacc.len
 have hgl : (gram L V).length = V.length := qDe
 refine uA rfl (qL (qJ (qK (qI (uM rfl (uB (uBl rfl) ?_))))))
 refine uU ?_
 refine qMp (hE.t rfl) (hE.t rfl) rfl (by omega) hml (fun b15 => ?_)
 rw [toC_nil]
 refine uA rfl (qL (qJ (qK (qI (uA rfl (qL (qJ (qK (qK (qI (uA rfl (qL (qJ (zM ?_))))))))))))))
 refine qCy (p := sl pv cv 37 1 V.length (idC V)) uK (fun _ h => fun hpos => qAi h hpos) (fun hpv => ?_)
 refine qAc (fun x : CaG => [(0, .slice (some ⟨g, 0, none⟩) (L.length + 1) c), (5, .slice pv V.length cv), (6, .slice (some ⟨b15, 0, none⟩) (L.length + 1) (L.length + 1)), (7, .slice x.p x.k x.c), (8, .int .i64 (x.k : Nat))]) (fun x => [sl (some ⟨g, 0, none⟩) c 82 5 (L.length + 1) (ruC L), sl pv cv 37 1 V.length (idC V), sl (some ⟨b15, 0, none⟩) (L.length + 1) 37 1 (L.length + 1) (toC (L.length + 1) (V.take x.k)), sl x.p x.c 82 5 x.k (rusC ((gram L V).take x.k)), R]) (fun x => V.length - x.k) (fun x => x.k ≤ V.length) ⟨0, none, 0⟩ (Nat.zero_le _) ⟨rfl, rfl, rfl, rfl, rfl, trivial⟩ ?_ ?_
 ·apply kG (qBw (t := 82) (sz := 5))
  exact uI
 rintro ⟨k, p1, c1⟩ hkl
 simp only at hkl ⊢
 refine qK (qK (qI (uM rfl (uM rfl (uB (uBl rfl) ?_)))))
 refine uB (y_lt rfl rfl) ?_
 refine qL (qJ ?_)
 refine zG rfl (fun h => ?_) (fun h => ?_)
 ·have hkn : k < V.length := by omega
  obtain ⟨gv, rfl⟩ := hpv (by omega)
  obtain ⟨x, hx⟩ : ∃ x, V[k]? = some x := ⟨_, List.getElem?_eq_getElem hkn⟩
  have hxb := hacc.2 x (List.mem_of_getElem? hx)
  obtain ⟨n, rfl⟩ : ∃ n, x = n + 1 := ⟨x - 1, by omega⟩
  have hk := hx
  obtain ⟨r, hr⟩ : ∃ r, L[n]? = some r := ⟨_, List.getElem?_eq_getElem (by omega)⟩
  have hkb := qCn (hw.ok n r hr)
  have hsplit : V = V.take k ++ (n + 1) :: V.drop (k + 1) := by
   have := List.take_append_drop k V
   rw [qEu hx] at this
   exact this.symm
  have hki := hord _ _ _ _ hsplit hr
  have htk : (V.take k).length = k := by rw [List.length_take]; omega
  have htk1 : V.take (k + 1) = V.take k ++ [n + 1] := by rw [List.take_add_one, hx]; rfl
  have hnk : n + 1 ∉ V.take k := fun hm => by
   have hnd := hacc.1
   rw [hsplit] at hnd
   exact (List.nodup_append.1 hnd).2.2 _ hm _ (by simp) rfl
  have hren := qQb hki
  have f9 := qAl hx (0 + ((k : Nat) : Int).toNat) (by omega)
  have f8 := qAl hx (((k : Nat) : Int).toNat) (by omega)
  obtain ⟨f0, f1, f2, f3, f4⟩ := qIl hr (0 + ((n + 1 : Nat) : Int).toNat * 5) (by omega)
  refine zD (qJ (qK (zM (qK (qI (uM rfl (uM rfl (uM rfl (uB (uAj rfl rfl) ?_)))))))))
  refine uL ?_
  refine uB (uAi rfl rfl) ?_
  refine uB (uG) ?_
  refine uU (kH (hE.t rfl) (fun b9 => ?_))
  refine uU (uS ?_)
  refine qL (qJ (qK (qK (qI (uB (uBf rfl) ?_)))))
  refine uL ?_
  refine uB (y_ne rfl rfl) ?_
  refine qL (qJ ?_)
  cases r with
  | letter b =>
   simp only [Rl.kind, Rl.byte, Rl.left, Rl.right, Rl.times]
   refine zF rfl (zD (qJ (qK (qK (qI (uB (uBf rfl) ?_))))))
   refine uL ?_
   refine uB (y_eq rfl rfl) ?_
   refine qL (qJ (zF rfl ?_))
   refine qBz (kF (p := cells b9 [.int .i64 ((1 : Nat) : Int), .int .u8 (b.toNat : Nat), .int .i64 ((0 : Nat) : Int), .int .i64 ((0 : Nat) : Int), .int .i64 ((0 : Nat) : Int)] 82) (p' := cells b9 [.int .i64 (Rl.kind ((Rl.letter b)) : Nat), .int .u8 (Rl.byte ((Rl.letter b)) : Nat), .int .i64 (Rl.left ((Rl.letter b)) : Nat), .int .i64 (Rl.right ((Rl.letter b)) : Nat), .int .i64 (Rl.times ((Rl.letter b)) : Nat)] 82) uK (fun _ h => h)) ?_
   refine zD (qJ (qK (qI (uM rfl (uM rfl (uM rfl (uB (uAj rfl rfl) ?_)))))))
   refine uL ?_
   refine uM rfl (uB (uAa rfl rfl) ?_)
   refine uB (uAj rfl rfl) ?_
   refine uU (uJ ?_)
   refine qL (qJ ?_)
   rw [qWu hnk (by omega) _ (by omega) (by rw [htk]; omega), ← htk1]
   refine qI (uM rfl (uB (uG) ?_))
   refine uU ?_
   refine qV (hE.t rfl) (hE.t rfl) rfl rfl rfl (fun b57 => ?_)
   refine uU ?_
   apply zW (hE.t rfl) (hE.t rfl) rfl rfl rfl
   ·exact uK
   ·exact uK
   ·rfl
   ·rfl
   ·omega
   ·omega
   ·(unfold maxLen; omega)
   intro g58 c58 n58 x58 hn58 hx58
   refine uA rfl (qL (zK (qJ (qI (uM rfl (uB (uAa rfl rfl) ?_))))))
   refine uA rfl (qL ?_)
   subst hn58 hx58
   refine zU (ι := CaG) (j := ⟨k + 1, some ⟨g58, 0, none⟩, c58⟩) (by simp only; omega) (by simp only; omega) ⟨rfl, rfl, rfl, rfl, congrArg some (zY (by simp only; omega)), trivial⟩ ?_
   simp only
   have eg := qJx hk hr
   rw [← hren] at eg
   rw [eg]
   exact uI
  | pair a b =>
   simp only [Rl.kind, Rl.byte, Rl.left, Rl.right, Rl.times]
   have ha := hkb a (by simp [kids])
   have hb := hkb b (by simp [kids])
   have f5 := qSz (V.take k) (n := L.length + 1) (x := a) (by omega) (((a : Nat) : Int).toNat) (by omega)
   have f6 := qSz (V.take k) (n := L.length + 1) (x := b) (by omega) (((b : Nat) : Int).toNat) (by omega)
   refine zH rfl (qI (uM rfl (uB (uBf rfl) ?_)))
   refine uL ?_
   refine uB (uAj rfl rfl) ?_
   refine uL ?_
   refine uB (uBf rfl) ?_
   refine uU (uS ?_)
   refine qL (qJ (qK (qK (qI (uB (uBf rfl) ?_)))))
   refine uL ?_
   refine uB (y_eq rfl rfl) ?_
   refine qL (qJ (zH rfl (qI (uM rfl (uB (uBf rfl) ?_)))))
   refine uL ?_
   refine uB (uAj rfl rfl) ?_
   refine uL ?_
   refine uB (uBf rfl) ?_
   refine uU (uS ?_)
   refine qL (qJ ?_)
   refine qBz (kF (p := cells b9 [.int .i64 ((2 : Nat) : Int), .int .u8 ((0 : Nat) : Int), .int .i64 (numb (V.take k) a : Nat), .int .i64 (numb (V.take k) b : Nat), .int .i64 ((0 : Nat) : Int)] 82) (p' := cells b9 [.int .i64 (Rl.kind ((Rl.pair (numb (V.take k) a) (numb (V.take k) b))) : Nat), .int .u8 (Rl.byte ((Rl.pair (numb (V.take k) a) (numb (V.take k) b))) : Nat), .int .i64 (Rl.left ((Rl.pair (numb (V.take k) a) (numb (V.take k) b))) : Nat), .int .i64 (Rl.right ((Rl.pair (numb (V.take k) a) (numb (V.take k) b))) : Nat), .int .i64 (Rl.times ((Rl.pair (numb (V.take k) a) (numb (V.take k) b))) : Nat)] 82) uK (fun _ h => h)) ?_
   refine qK (qI (uM rfl (uM rfl (uM rfl (uB (uAj rfl rfl) ?_)))))
   refine uL ?_
   refine uM rfl (uB (uAa rfl rfl) ?_)
   refine uB (uAj rfl rfl) ?_
   refine uU (uJ ?_)
   refine qL (qJ ?_)
   rw [qWu hnk (by omega) _ (by omega) (by rw [htk]; omega), ← htk1]
   refine qI (uM rfl (uB (uG) ?_))
   refine uU ?_
   refine qV (hE.t rfl) (hE.t rfl) rfl rfl rfl (fun b57 => ?_)
   refine uU ?_
   apply zW (hE.t rfl) (hE.t rfl) rfl rfl rfl
   ·exact uK
   ·exact uK
   ·rfl
   ·rfl
   ·omega
   ·omega
   ·(unfold maxLen; omega)
   intro g58 c58 n58 x58 hn58 hx58
   refine uA rfl (qL (zK (qJ (qI (uM rfl (uB (uAa rfl rfl) ?_))))))
   refine uA rfl (qL ?_)
   subst hn58 hx58
   refine zU (ι := CaG) (j := ⟨k + 1, some ⟨g58, 0, none⟩, c58⟩) (by simp only; omega) (by simp only; omega) ⟨rfl, rfl, rfl, rfl, congrArg some (zY (by simp only; omega)), trivial⟩ ?_
   simp only
   have eg := qJx hk hr
   rw [← hren] at eg
   rw [eg]
   exact uI
  | power a t =>
   simp only [Rl.kind, Rl.byte, Rl.left, Rl.right, Rl.times]
   have ha := hkb a (by simp [kids])
   have f5 := qSz (V.take k) (n := L.length + 1) (x := a) (by omega) (((a : Nat) : Int).toNat) (by omega)
   refine zH rfl (qI (uM rfl (uB (uBf rfl) ?_)))
   refine uL ?_
   refine uB (uAj rfl rfl) ?_
   refine uL ?_
   refine uB (uBf rfl) ?_
   refine uU (uS ?_)
   refine qL (qJ (qK (qK (qI (uB (uBf rfl) ?_)))))
   refine uL ?_
   refine uB (y_eq rfl rfl) ?_
   refine qL (qJ (zF rfl ?_))
   refine qBz (kF (p := cells b9 [.int .i64 ((3 : Nat) : Int), .int .u8 ((0 : Nat) : Int), .int .i64 (numb (V.take k) a : Nat), .int .i64 ((0 : Nat) : Int), .int .i64 (t : Nat)] 82) (p' := cells b9 [.int .i64 (Rl.kind ((Rl.power (numb (V.take k) a) t)) : Nat), .int .u8 (Rl.byte ((Rl.power (numb (V.take k) a) t)) : Nat), .int .i64 (Rl.left ((Rl.power (numb (V.take k) a) t)) : Nat), .int .i64 (Rl.right ((Rl.power (numb (V.take k) a) t)) : Nat), .int .i64 (Rl.times ((Rl.power (numb (V.take k) a) t)) : Nat)] 82) uK (fun _ h => h)) ?_
   refine zD (qJ (qK (qI (uM rfl (uM rfl (uM rfl (uB (uAj rfl rfl) ?_)))))))
   refine uL ?_
   refine uM rfl (uB (uAa rfl rfl) ?_)
   refine uB (uAj rfl rfl) ?_
   refine uU (uJ ?_)
   refine qL (qJ ?_)
   rw [qWu hnk (by omega) _ (by omega) (by rw [htk]; omega), ← htk1]
   refine qI (uM rfl (uB (uG) ?_))
   refine uU ?_
   refine qV (hE.t rfl) (hE.t rfl) rfl rfl rfl (fun b57 => ?_)
   refine uU ?_
   apply zW (hE.t rfl) (hE.t rfl) rfl rfl rfl
   ·exact uK
   ·exact uK
   ·rfl
   ·rfl
   ·omega
   ·omega
   ·(unfold maxLen; omega)
   intro g58 c58 n58 x58 hn58 hx58
   refine uA rfl (qL (zK (qJ (qI (uM rfl (uB (uAa rfl rfl) ?_))))))
   refine uA rfl (qL ?_)
   subst hn58 hx58
   refine zU (ι := CaG) (j := ⟨k + 1, some ⟨g58, 0, none⟩, c58⟩) (by simp only; omega) (by simp only; omega) ⟨rfl, rfl, rfl, rfl, congrArg some (zY (by simp only; omega)), trivial⟩ ?_
   simp only
   have eg := qJx hk hr
   rw [← hren] at eg
   rw [eg]
   exact uI
 obtain rfl : k = V.length := by omega
 refine kM (qP (qP (zJ (qJ (qK (qI (uM rfl (uA rfl (qL (qJ (kD ?_)))))))))))
 apply kE
 ·rfl
 ·(apply Rs.tmp rfl; exact Rs.nil)
 ·exact ⟨p1, c1, by rw [hgl]; rfl, rfl⟩
 rw [hgl]
 rw [List.take_of_length_le (l := gram L V) (by omega)]
 exact uI
end
end Go.Proofs.YtkkjjablmmmmkaaGreatDoor
