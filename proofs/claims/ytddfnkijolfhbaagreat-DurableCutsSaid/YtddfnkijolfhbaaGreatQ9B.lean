import Derived.Test.YtddfnkijolfhbaaGreatQ97
import Derived.Test.YtddfnkijolfhbaaGreatQ98
import Derived.Test.YtddfnkijolfhbaaGreatQ9A
set_option linter.all false
set_option maxHeartbeats 1000000
namespace Go.Proofs.YtddfnkijolfhbaaGreat
open Go Go.RowKit Sl Eg
set_option maxRecDepth 10000
variable {E : Env}
structure Fl where
 data : List UInt8
 synced : Nat
def flP (c : Nat) (x : Fl) : HP := fun h => ∃ i : Option Addr × Nat, qAd [cells c [.slice i.1 (x).data.length i.2, .int .i64 ((x).synced : Nat)] 126, sl i.1 i.2 5 1 (x).data.length (byC (x).data)] h
def oflP : Option Nat → Option Fl → HP
 | none, none => qAd []
 | some c, some x => flP c x
 | _, _ => fun _ => False
def ptV (c : Nat) : Value := uPt c
def fmF (n0 n1 : List UInt8) (p0 p1 : Option Nat) : List UInt8 → Option Value := fun k => if k = n0 then p0.map ptV else if k = n1 then p1.map ptV else none
structure Pwr where
 off : Bool
 lim : Bool
 left : Nat
def Pwr.up (p : Pwr) : Prop := p.off = false ∧ (p.lim = true → 1 ≤ p.left ∧ p.left ≤ 1000000)
def Pwr.fin (p : Pwr) : Pwr := if p.lim then { p with left := p.left - 1 } else p
def Pwr.on : Pwr := ⟨false, false, 0⟩
theorem Pwr.on_up : Pwr.on.up := ⟨rfl, fun h => by cases h⟩
theorem Pwr.on_fin : Pwr.on.fin = Pwr.on := rfl
structure FsG where
 b : Nat
 p0 : Option Nat
 p1 : Option Nat
def fsP (a : Nat) (n0 n1 : List UInt8) (x0 x1 : Option Fl) (p : Pwr) : HP := fun h => ∃ i : FsG, qAd [cells a [.map (some i.b), .bool p.off, .bool p.lim, .int .i64 (p.left : Nat)] 77, qAb i.b (fmF n0 n1 i.p0 i.p1), oflP i.p0 x0, oflP i.p1 x1] h
theorem fmF_nil (n0 n1 : List UInt8) : fmF n0 n1 none none = fun _ => none := by funext k; unfold fmF; simp
theorem qCy (n0 n1 : List UInt8) (p0 p1 : Option Nat) : fmF n0 n1 p0 p1 n0 = p0.map ptV := by unfold fmF; simp
theorem qUn (n0 n1 : List UInt8) (p0 p1 : Option Nat) (c : Nat) : qIl (fmF n0 n1 p0 p1) n0 (ptV c) = fmF n0 n1 (some c) p1 := by
 funext k
 unfold qIl fmF
 by_cases h : k = n0
 ·rw [if_pos h, if_pos h]; rfl
 rw [if_neg h, if_neg h, if_neg h]
theorem zAn (n0 n1 : List UInt8) (p0 p1 : Option Nat) : qPw (fmF n0 n1 p0 p1) n0 = fmF n0 n1 none p1 := by
 funext k
 unfold qPw fmF
 by_cases h : k = n0
 ·rw [if_pos h, if_pos h]; rfl
 rw [if_neg h, if_neg h, if_neg h]
theorem qJa {n0 n1 : List UInt8} (h : n0 ≠ n1) (p0 p1 : Option Nat) : fmF n0 n1 p0 p1 = fmF n1 n0 p1 p0 := by
 funext k
 unfold fmF
 by_cases h0 : k = n0
 ·subst h0
  rw [if_pos rfl, if_neg h, if_pos rfl]
 rw [if_neg h0]
 by_cases h1 : k = n1
 ·rw [if_pos h1, if_pos h1]
 rw [if_neg h1, if_neg h1, if_neg h0]
theorem qCz {a : Nat} {n0 n1 : List UInt8} {x0 x1 : Option Fl} {p : Pwr} (hn : n0 ≠ n1) {h : PH} (x : fsP a n0 n1 x0 x1 p h) : fsP a n1 n0 x1 x0 p h := by
 obtain ⟨⟨b, p0, p1⟩, hs⟩ := x
 refine ⟨⟨b, p1, p0⟩, ?_⟩
 simp only at hs ⊢
 rw [← qJa hn]
 exact qAq (fun _ => qAq (fun _ => qCd)) hs
theorem qJf {l : List (List UInt8)} {i : Nat} {x : List UInt8} (h : l[i]? = some x) (o : Nat) (ho : o = i) : (nmC l)[o]? = some (.string ⟨⟨x⟩⟩) := by
 subst ho
 unfold nmC
 rw [List.getElem?_map, h]
 rfl
theorem qGx {H : List HP} : ∀ k, qAd H k → qAd (qAd [] :: H) k := fun k x => ⟨fun _ => none, k, fun _ => .inl rfl, by funext b; simp [join], trivial, x⟩
theorem ct_fsNew (hE : Seat E) {n0 n1 : List UInt8} : Ct E 9 [] [] (fun v Q => ∃ a, v = uPt a ∧ Q = [fsP a n0 n1 none none Pwr.on]) := by
 refine zP (hE.fn Tryz.func9) rfl rfl rfl (fun R => ?_)
 simp only [qAe, uV, uW]
 refine qL (qJ (uA rfl (qM (qK (qL (qJ (uU ?_)))))))
 refine qAn (fun b1 => ?_)
 refine uB (qBc (hE.t rfl) rfl rfl) ?_
 refine uU ?_
 refine qBt rfl (fun b3 => ?_)
 refine uA rfl (qM (qK (kC ?_)))
 apply kD
 ·rfl
 ·(apply Rs.tmp rfl; exact Rs.nil)
 ·exact ⟨b3, rfl, rfl⟩
 refine qAm (ps := [cells b3 [.map (some b1), .bool Pwr.on.off, .bool Pwr.on.lim, .int .i64 (Pwr.on.left : Nat)] 77, qAb b1 (fun _ => none)]) uK (fun k h => ⟨⟨b1, none, none⟩, ?_⟩)
 rw [fmF_nil]
 exact qAq (fun k h => qAq (fun k h => qGx k (qGx k h)) h) h
def okN (x : List UInt8) : Prop := 1 ≤ x.length ∧ x.length ≤ 32
theorem qOi (hE : Seat E) {x : List UInt8} (hx : okN x) : Ct E 135 [.string ⟨⟨x⟩⟩] [] (fun v Q => v = .bool true ∧ Q = []) := by
 obtain ⟨h1, h2⟩ := hx
 have hs : (⟨⟨x⟩⟩ : ByteArray).size = x.length := rfl
 refine zP (hE.fn Tryz.func135) rfl rfl rfl (fun R => ?_)
 simp only [qAe, uV, uW]
 refine qL (qJ (uA rfl (qM (qK (qL (qJ (uM rfl (uB (qBy rfl (hE.t rfl)) ?_))))))))
 refine uB (y_ge rfl rfl) ?_
 refine uM rfl ?_
 refine qAl 6 rfl (fun c1 => ?_) (fun c1 => ?_)
 ·refine kQ rfl rfl ?_
  refine uM rfl (kQ rfl rfl (uB (qBy rfl (hE.t rfl)) ?_))
  refine kQ rfl rfl (uB (y_le rfl rfl) ?_)
  refine uB (qY rfl rfl) ?_
  refine uA rfl (qM (qK (kC ?_)))
  exact uZ rfl (.tmp rfl .nil) ⟨congrArg Value.bool (decide_eq_true (by omega)), rfl⟩
 exfalso
 omega
theorem qFi (hE : Seat E) {p : Pwr} {a b g c : Nat} {ns : List (List UInt8)} (hn : ns.length ≤ 1000) (hv : ∀ x ∈ ns, okN x) (hp : p.up) : Ct E 92 [uPt a, .slice (some ⟨g, 0, none⟩) ns.length c] [cells a [.map (some b), .bool p.off, .bool p.lim, .int .i64 (p.left : Nat)] 77, sl (some ⟨g, 0, none⟩) c 9 1 ns.length (nmC ns)]
  (fun v Q => v = .nilIface ∧ Q = [cells a [.map (some b), .bool p.off, .bool p.lim, .int .i64 (p.left : Nat)] 77, sl (some ⟨g, 0, none⟩) c 9 1 ns.length (nmC ns)]) := by
 obtain ⟨off, lim, left⟩ := p
 obtain ⟨h1, h2⟩ := hp
 simp only at h1 h2 ⊢
 subst h1
 refine zP (hE.fn Tryz.func92) rfl rfl rfl (fun R => ?_)
 simp only [qAe, uV, uW]
 refine qL (qJ (uA rfl (qM (qK (qL (qL (qJ (uM rfl (uB (qAy rfl (hE.t rfl)) ?_)))))))))
 refine qM (qK (zD rfl (zC (qK (qL (qL (qJ (uM rfl (uB (uBl rfl) ?_)))))))))
 refine uM rfl (qM (qK (zL ?_)))
 refine qAj (fun i : Nat => [(0, uPt a), (10, .slice (some ⟨g, 0, none⟩) ns.length c), (11, .int .i64 (ns.length : Nat)), (12, .int .i64 (i : Nat))]) (fun i => [cells a [.map (some b), .bool (⟨false, lim, left⟩ : Pwr).off, .bool (⟨false, lim, left⟩ : Pwr).lim, .int .i64 ((⟨false, lim, left⟩ : Pwr).left : Nat)] 77, sl (some ⟨g, 0, none⟩) c 9 1 ns.length (nmC ns), R]) (fun i => ns.length - i) (fun i => i ≤ ns.length) 0 (Nat.zero_le _) ⟨rfl, rfl, rfl, rfl, trivial⟩ uI ?_
 rintro i hi
 refine qL (qJ (uB (y_lt rfl rfl) ?_))
 refine qM (qK (qL ?_))
 refine zF rfl (fun c1 => ?_) (fun c1 => ?_)
 ·obtain ⟨x, hx⟩ : ∃ x, ns[i]? = some x := ⟨_, List.getElem?_eq_getElem (by omega)⟩
  have f0 := qJf hx (((i : Nat) : Int).toNat) (by omega)
  refine zC (qK (qL (zL (qL (qJ (uB (uAj rfl rfl) ?_))))))
  refine uL ?_
  refine uA rfl (qM (qK (qL (qJ (uM rfl (uX (qOi hE (hv x (List.mem_of_getElem? hx))) rfl ?_))))))
  rintro _ _ ⟨rfl, rfl⟩
  simp only [uV, uW]
  refine uB (qBm rfl) ?_
  refine qM (qK (zD rfl (zC (zJ (qK (qJ (uB (uAa rfl rfl) ?_)))))))
  refine uM rfl (qM ?_)
  refine zT (ι := Nat) (j := i + 1) (by omega) (by omega) ⟨rfl, rfl, rfl, congrArg some (zX (by omega)), trivial⟩ uI
 refine kJ (qQ (qQ (zI (qK (qL (qL (qJ ?_)))))))
 refine uM rfl (uB (zB rfl) ?_)
 refine uB (uBf rfl) ?_
 refine uL ?_
 refine uM rfl ?_
 cases lim with
 | false =>
  refine zU rfl rfl rfl rfl (zU rfl rfl rfl rfl (zU rfl rfl rfl rfl (zU rfl rfl rfl rfl (zU rfl rfl rfl rfl ?_))))
  refine uB (qZ rfl rfl) ?_
  refine qM (qK (zD rfl (zC (qK (qL (qL (qJ (uM rfl (uB (zB rfl) ?_)))))))))
  refine uB (uBf rfl) ?_
  refine uL ?_
  refine qM (qK (zD rfl (zC (qK (qL (qJ (uA rfl (qM (qK (kC ?_))))))))))
  exact uZ rfl (.tmp rfl .nil) ⟨rfl, rfl⟩
 | true =>
  obtain ⟨h3, h4⟩ := h2 rfl
  refine kQ rfl rfl (uM rfl (kQ rfl rfl (uB (zB rfl) ?_)))
  refine kQ rfl rfl (uB (uBf rfl) ?_)
  refine kQ rfl rfl (uL ?_)
  refine kQ rfl rfl (uB (y_eq rfl rfl) ?_)
  refine uB (qY rfl rfl) ?_
  refine qM (qK ?_)
  refine zF rfl (fun c2 => ?_) (fun c2 => ?_)
  ·exfalso
   simp at c2
   omega
  refine zC (qK (qL (qL (qJ ?_))))
  refine uM rfl (uB (zB rfl) ?_)
  refine uB (uBf rfl) ?_
  refine uL ?_
  refine qM (qK (zD rfl (zC (qK (qL (qJ (uA rfl (qM (qK (kC ?_))))))))))
  exact uZ rfl (.tmp rfl .nil) ⟨rfl, rfl⟩
theorem qFj (hE : Seat E) {p : Pwr} {a b : Nat} (hp : p.up) : Ct E 93 [uPt a] [cells a [.map (some b), .bool p.off, .bool p.lim, .int .i64 (p.left : Nat)] 77] (fun v Q => v = .tuple #[] ∧ Q = [cells a [.map (some b), .bool p.fin.off, .bool p.fin.lim, .int .i64 (p.fin.left : Nat)] 77]) := by
 obtain ⟨off, lim, left⟩ := p
 obtain ⟨h1, h2⟩ := hp
 simp only at h1 h2 ⊢
 subst h1
 refine zP (hE.fn Tryz.func93) rfl rfl rfl (fun R => ?_)
 simp only [qAe, uV, uW]
 refine qL (qJ (uM rfl (uB (zB rfl) ?_)))
 refine uB (uBf rfl) ?_
 refine uL ?_
 refine qM (qK ?_)
 cases lim with
 | false =>
  refine zD rfl (zC ?_)
  exact uZe rfl .nil ⟨rfl, rfl⟩
 | true =>
  obtain ⟨h3, h4⟩ := h2 rfl
  refine zG rfl (qJ (uM rfl (uB (zB rfl) ?_)))
  refine uB (uBf rfl) ?_
  refine uL ?_
  refine uB (uAs rfl rfl) ?_
  refine l_eq 10 (.int .i64 ((left - 1 : Nat) : Int)) rfl (zX (by omega)) ?_
  refine uB (zB rfl) ?_
  refine uB (uBf rfl) ?_
  refine uU (uS ?_)
  refine qM ?_
  exact uZe rfl .nil ⟨rfl, rfl⟩
end Go.Proofs.YtddfnkijolfhbaaGreat
namespace Sl
open Go Go.RowKit
variable {E : Env} {n : Nat} {L : Fr} {S : List HP} {ty : TypeId} {pos : String} {af : Array Edge} {d : Option Nat} {gd : Option (Nat × Bool)}
theorem zAl {P : Program} {t k e : TypeId} (hu : P.underlying t = some (.map k e)) (p : Option Nat) (w : World) : (Op.equal t (.map p) (.map none)).run P w = .ok p.isNone w := by
 unfold Op.equal
 rw [show Op.maxDepth = 9999 + 1 from rfl, Op.equalIn]
 cases p <;> simp [underlying, program, Sem.run, hu]
theorem y_eq_map {x : Operand} {t yt k e : TypeId} {p : Option Nat} (hx : ev L x = some (.map p)) (ht : E.P.underlying t = some (.map k e)) :
  Yl E n L S ⟨d, .binOp .eql t x (.const (.map none)) yt, ty, pos, af, gd⟩ (.bool p.isNone) := fun ac w g _ => by
 have hy : ac.eval (.const (.map none)) = .map none := rfl
 have h1 : ∀ w, (eqGuard .eql t x (.const (.map none)) (.map p) (.map none)).run E.P w = .ok () w := fun w => by unfold eqGuard; split <;> simp
 simp [execOp, h1, binOp, zAl ht, g.ev hx, hy]
end Sl
namespace Go.Proofs.YtddfnkijolfhbaaGreat
open Go Go.RowKit Sl Eg
set_option maxRecDepth 10000
section
variable {E : Env}
theorem qLv (hE : Seat E) {bs : List UInt8} {a : Option Addr} {c : Nat} {q : HP} (hq : Rdb E.w0 a (byC bs) q) (hn : bs.length ≤ 1099511627776) : Ct E 94 [.slice a bs.length c] [q] (fun v Q => ∃ p c', v = .slice p bs.length c' ∧ Q = [sl p c' 5 1 bs.length (byC bs), q]) := by
 have hb1 : (0 + (byC bs).length) * 1 ≤ 140737488355328 := by rw [qAg]; omega
 have hb2 : 0 + (byC bs).length ≤ maxLen := by rw [qAg]; unfold maxLen; omega
 refine zP (hE.fn Tryz.func94) rfl rfl rfl (fun R => ?_)
 simp only [qAe, uV, uW]
 refine qL (qJ (uA rfl (qM (qK (qL (qL (qJ (uM rfl (uB (y_eq_sl rfl (hE.t rfl)) ?_)))))))))
 refine qM (qK ?_)
 cases a with
 | none =>
  have h0 : bs = [] := by
   rcases List.eq_nil_or_concat bs with h | ⟨x, y, h⟩
   ·exact h
   obtain ⟨g, o, e, _⟩ := hq (qKp (by rw [h]; simp))
   cases e
  subst h0
  refine zG rfl ?_
  refine qAk (qCh (t := 5) (sz := 1)) ?_
  refine qL (qJ (uA rfl (qM (qK (kC (qX ?_))))))
  exact uZ rfl (.tmp rfl .nil) ⟨none, 0, rfl, rfl⟩
 | some a =>
  refine zD rfl (zC (qK (qL (qJ (uU ?_)))))
  refine qNy (hE.t rfl) (fun b5 => ?_)
  refine uM rfl (uU ?_)
  refine qBp (us := byC bs) (q := q) (hE.t rfl) (hE.t rfl) rfl rfl rfl (qAg _).symm hq uK uK (qBh _) hb1 hb2 (fun pt ct m1 x1 hm1 hx1 => ?_)
  obtain rfl : m1 = bs.length := by rw [hm1, qAg, Nat.zero_add]
  obtain rfl : x1 = byC bs := hx1
  refine uA rfl (qM (qK (kC ?_)))
  exact uZ rfl (.tmp rfl .nil) ⟨pt, ct, rfl, rfl⟩
theorem qPo (hE : Seat E) {p : Pwr} {a b c : Nat} {nm : List UInt8} {f : List UInt8 → Option Value} : Ct E 117 [uPt a, .string ⟨⟨nm⟩⟩, uPt c] [cells a [.map (some b), .bool p.off, .bool p.lim, .int .i64 (p.left : Nat)] 77, qAb b f] (fun v Q => v = .tuple #[] ∧ Q = [cells a [.map (some b), .bool p.off, .bool p.lim, .int .i64 (p.left : Nat)] 77, qAb b (qIl f nm (ptV c))]) := by
 refine zP (hE.fn Tryz.func117) rfl rfl rfl (fun R => ?_)
 simp only [qAe, uV, uW]
 refine qL (qL (qJ (uM rfl (uB (zB rfl) ?_))))
 refine uB (uBf rfl) ?_
 refine uL ?_
 refine uB (y_eq_map (k := 9) (e := 124) rfl (by rw [hE.P]; kernel_rfl)) ?_
 refine qM (qK (zD rfl (zC (qK (qJ (uM rfl (uB (zB rfl) ?_)))))))
 refine uB (uBf rfl) ?_
 refine uL ?_
 refine uM rfl (uM rfl (uU ?_))
 apply qFm (kt := 9) (et := 124) (by rw [hE.P]; kernel_rfl) (by rw [hE.P]; kernel_rfl) rfl rfl rfl
 ·exact uK
 refine qM ?_
 exact uZe rfl .nil ⟨rfl, rfl⟩
def apF (x : Option Fl) (bs : List UInt8) : Fl := match x with
 | none => ⟨bs, 0⟩
 | some x => ⟨x.data ++ bs, x.synced⟩
def flen : Option Fl → Nat
 | none => 0
 | some x => x.data.length
theorem qDc {i : Option Nat} {x : Option Fl} {h : PH} (y : oflP i x h) : (i = none ∧ x = none) ∨ ∃ c f, i = some c ∧ x = some f := by
 cases i with
 | none => cases x with
  | none => exact .inl ⟨rfl, rfl⟩
  | some f => exact absurd y id
 | some c => cases x with
  | none => exact absurd y id
  | some f => exact .inr ⟨c, f, rfl, rfl⟩
theorem qHj {a b c : Nat} {n0 n1 : List UInt8} {fl : Fl} {x1 : Option Fl} {p : Pwr} {q : Option Addr} {cap : Nat} {iq : Option Nat} {k : PH} (h : qAd [cells a [.map (some b), .bool p.off, .bool p.lim, .int .i64 (p.left : Nat)] 77, qAb b (fmF n0 n1 (some c) iq), cells c [.slice q (fl).data.length cap, .int .i64 ((fl).synced : Nat)] 126, sl q cap 5 1 (fl).data.length (byC (fl).data), oflP iq x1] k) : fsP a n0 n1 (some fl) x1 p k :=
 ⟨⟨b, some c, iq⟩, qAq (fun k h => qAq (fun k h => qCl (ps := [cells c [.slice q (fl).data.length cap, .int .i64 ((fl).synced : Nat)] 126, sl q cap 5 1 (fl).data.length (byC (fl).data)]) (p := flP c fl) (fun k h => ⟨(q, cap), h⟩) h) h) h⟩
theorem qTu (hE : Seat E) {p : Pwr} {a c : Nat} {n0 n1 bs : List UInt8} {x0 x1 : Option Fl} {e : Option Addr} {q : HP} (hp : p.up) (hn : okN n0) (hq : Rdb E.w0 e (byC bs) q) (hl : flen x0 + bs.length ≤ 16777216) :
  Ct E 114 [uPt a, .string ⟨⟨n0⟩⟩, .slice e bs.length c] [fsP a n0 n1 x0 x1 p, q] (fun v Q => v = .nilIface ∧ Q = [fsP a n0 n1 (some (apF x0 bs)) x1 p.fin, q]) := by
 have hv : ∀ x ∈ [n0], okN x := fun x h => by simp at h; subst h; exact hn
 refine Sl.ct_open (p := fsP a n0 n1 x0 x1 p) (ps := fun i : FsG => [cells a [.map (some i.b), .bool p.off, .bool p.lim, .int .i64 (p.left : Nat)] 77, qAb i.b (fmF n0 n1 i.p0 i.p1), oflP i.p0 x0, oflP i.p1 x1]) (fun k h => h) ?_
 rintro ⟨ib, ip, iq⟩
 simp only
 refine qBi (p := oflP ip x0) uK (fun _ h => qDc h) (fun hsh => ?_)
 refine zP (hE.fn Tryz.func114) rfl rfl rfl (fun R => ?_)
 simp only [qAe, uV, uW]
 refine qL (qJ (uA rfl (qM (qK (qL (qL (qJ (uM rfl (uM rfl (uU ?_))))))))))
 refine qW (hE.t rfl) (hE.t rfl) rfl rfl rfl (fun b12 => ?_)
 refine qAx (kE (p := cells b12 [.string ⟨⟨n0⟩⟩] 9) (p' := sl (some ⟨b12, 0, none⟩) 1 9 1 1 (nmC [n0])) uK (qAr rfl (by unfold maxLen; omega))) ?_
 refine uX (qFi (ns := [n0]) hE (by simp) hv hp) rfl ?_
 rintro _ _ ⟨rfl, rfl⟩
 simp only [uV, uW]
 refine uA rfl (qM (qK (qL (qJ (uM rfl (uB (qAf rfl (hE.t rfl)) ?_))))))
 refine qM (qK (zD rfl ?_))
 rcases hsh with ⟨rfl, rfl⟩ | ⟨c0, x, rfl, rfl⟩
 ·have hlk : fmF n0 n1 none iq n0 = none := qCy n0 n1 none iq
  refine zC (qK (qL (qJ (uM rfl (uB (zB rfl) ?_)))))
  refine uB (uBf rfl) ?_
  refine uL ?_
  refine uM rfl ?_
  refine uB (qCj (kt := 9) (et := 124) (z := .pointer none) (by rw [hE.P]; kernel_rfl) (by rw [hE.P]; kernel_rfl) (fun w => by rw [hE.P]; kernel_rfl) rfl rfl uK (by assumption)) ?_
  refine uM rfl (uB (qV rfl rfl) (uB (qV rfl rfl) (uA rfl (uA rfl (qM (qK (qL (qL (qJ (uM rfl (uB (qBm rfl) ?_)))))))))))
  refine qM (qK (zG rfl (qJ (uB (qBc (hE.t rfl) rfl rfl) ?_))))
  refine uU ?_
  refine qBt rfl (fun b29 => ?_)
  refine uA rfl (qM (qK (qL (qL (qJ (uM rfl (uB (uBl rfl) ?_)))))))
  refine uM rfl (uB (zB rfl) ?_)
  refine uB (uBf rfl) ?_
  refine uL ?_
  refine uB (uBl rfl) ?_
  refine uB (uAs rfl rfl) ?_
  refine uB (y_gt rfl rfl) ?_
  refine qM (qK ?_)
  have hl' : bs.length ≤ 16777216 := by have : flen none = 0 := rfl; omega
  refine zF rfl (fun c2 => ?_) (fun c2 => ?_)
  ·exfalso
   omega
  refine qAk (qCh (t := 5) (sz := 1)) ?_
  have hb1 : (0 + (byC bs).length) * 1 ≤ 140737488355328 := by
   rw [qAg]
   omega
  have hb2 : 0 + (byC bs).length ≤ maxLen := by
   rw [qAg]
   unfold maxLen
   omega
  refine zC (qK (qL (qJ (uM rfl (uM rfl (uB (zB rfl) ?_))))))
  refine uB (uBf rfl) ?_
  refine uL ?_
  refine uM rfl (uU ?_)
  refine qBp (us := byC bs) (q := q) (hE.t rfl) (hE.t rfl) rfl rfl rfl (qAg _).symm hq uK uK (qBh _) hb1 hb2 (fun pt ct m1 y1 hm1 hy1 => ?_)
  obtain rfl : m1 = bs.length := by rw [hm1, qAg, Nat.zero_add]
  obtain rfl : y1 = byC bs := hy1
  refine uB (zB rfl) ?_
  refine uB (uBf rfl) ?_
  refine uU (uS ?_)
  refine qM (qK (qL (qJ (uM rfl (uM rfl (uM rfl (uX (qPo hE) rfl ?_)))))))
  rintro _ _ ⟨rfl, rfl⟩
  simp only [uV, uW]
  rw [qUn]
  refine qM (qK (qL (qJ (uM rfl (uX (qFj hE hp) rfl ?_)))))
  rintro _ _ ⟨rfl, rfl⟩
  simp only [uV, uW]
  refine qAx (qAm (ps := [cells a [.map (some ib), .bool p.fin.off, .bool p.fin.lim, .int .i64 (p.fin.left : Nat)] 77, qAb ib (fmF n0 n1 (some b29) iq), cells b29 [.slice pt ((⟨bs, 0⟩ : Fl)).data.length ct, .int .i64 (((⟨bs, 0⟩ : Fl)).synced : Nat)] 126, sl pt ct 5 1 ((⟨bs, 0⟩ : Fl)).data.length (byC ((⟨bs, 0⟩ : Fl)).data), oflP iq x1]) uK (fun k h => qHj h)) ?_
  refine qM (qK (qL (qJ (uA rfl (qM (qK (kC ?_)))))))
  exact uZ rfl (.tmp rfl .nil) ⟨rfl, rfl⟩
 have hlk : fmF n0 n1 (some c0) iq n0 = some (ptV c0) := qCy n0 n1 (some c0) iq
 have hfl : flen (some x) = x.data.length := rfl
 refine qFa (p := flP c0 x) (ps := fun i : Option Addr × Nat => [cells c0 [.slice i.1 (x).data.length i.2, .int .i64 ((x).synced : Nat)] 126, sl i.1 i.2 5 1 (x).data.length (byC (x).data)]) uK (fun k h => h) ?_
 rintro ⟨fq, fc⟩
 simp only
 refine zC (qK (qL (qJ (uM rfl (uB (zB rfl) ?_)))))
 refine uB (uBf rfl) ?_
 refine uL ?_
 refine uM rfl ?_
 refine uB (qCj (kt := 9) (et := 124) (z := .pointer none) (by rw [hE.P]; kernel_rfl) (by rw [hE.P]; kernel_rfl) (fun w => by rw [hE.P]; kernel_rfl) rfl rfl uK (by assumption)) ?_
 refine uM rfl (uB (qV rfl rfl) (uB (qV rfl rfl) (uA rfl (uA rfl (qM (qK (qL (qL (qJ (uM rfl (uB (qBm rfl) ?_)))))))))))
 refine qM (qK (zD rfl (zC (qK (qL (qL (qJ (uM rfl (uB (uBl rfl) ?_)))))))))
 refine uM rfl (uB (zB rfl) ?_)
 refine uB (uBf rfl) ?_
 refine uL ?_
 refine uB (uBl rfl) ?_
 refine uB (uAs rfl rfl) ?_
 refine uB (y_gt rfl rfl) ?_
 refine qM (qK ?_)
 refine zF rfl (fun c2 => ?_) (fun c2 => ?_)
 ·exfalso
  omega
 have hb1 : (x.data.length + (byC bs).length) * 1 ≤ 140737488355328 := by
  rw [qAg]
  omega
 have hb2 : x.data.length + (byC bs).length ≤ maxLen := by
  rw [qAg]
  unfold maxLen
  omega
 refine zC (qK (qL (qJ (uM rfl (uM rfl (uB (zB rfl) ?_))))))
 refine uB (uBf rfl) ?_
 refine uL ?_
 refine uM rfl (uU ?_)
 refine qBp (us := byC bs) (q := q) (hE.t rfl) (hE.t rfl) rfl rfl rfl (qAg _).symm hq uK uK (qBh _) hb1 hb2 (fun pt ct m1 y1 hm1 hy1 => ?_)
 obtain rfl : m1 = (x.data ++ bs).length := by rw [hm1, qAg, List.length_append]
 obtain rfl : y1 = byC (x.data ++ bs) := by rw [hy1, qBf]
 refine uB (zB rfl) ?_
 refine uB (uBf rfl) ?_
 refine uU (uS ?_)
 refine qM (qK (qL (qJ (uM rfl (uM rfl (uM rfl (uX (qPo hE) rfl ?_)))))))
 rintro _ _ ⟨rfl, rfl⟩
 simp only [uV, uW]
 rw [qUn]
 refine qM (qK (qL (qJ (uM rfl (uX (qFj hE hp) rfl ?_)))))
 rintro _ _ ⟨rfl, rfl⟩
 simp only [uV, uW]
 refine qAx (qAm (ps := [cells a [.map (some ib), .bool p.fin.off, .bool p.fin.lim, .int .i64 (p.fin.left : Nat)] 77, qAb ib (fmF n0 n1 (some c0) iq), cells c0 [.slice pt ((⟨x.data ++ bs, x.synced⟩ : Fl)).data.length ct, .int .i64 (((⟨x.data ++ bs, x.synced⟩ : Fl)).synced : Nat)] 126, sl pt ct 5 1 ((⟨x.data ++ bs, x.synced⟩ : Fl)).data.length (byC ((⟨x.data ++ bs, x.synced⟩ : Fl)).data), oflP iq x1]) uK (fun k h => qHj h)) ?_
 refine qM (qK (qL (qJ (uA rfl (qM (qK (kC ?_)))))))
 exact uZ rfl (.tmp rfl .nil) ⟨rfl, rfl⟩
end
section
variable {E : Env}
theorem qZh (hE : Seat E) {p : Pwr} {a : Nat} {n0 n1 : List UInt8} {x : Fl} {x1 : Option Fl} (hp : p.up) (hn : okN n0) :
  Ct E 115 [uPt a, .string ⟨⟨n0⟩⟩] [fsP a n0 n1 (some x) x1 p] (fun v Q => v = .nilIface ∧ Q = [fsP a n0 n1 (some ⟨x.data, x.data.length⟩) x1 p.fin]) := by
 have hv : ∀ x ∈ [n0], okN x := fun x h => by simp at h; subst h; exact hn
 refine Sl.ct_open (p := fsP a n0 n1 (some x) x1 p) (ps := fun i : FsG => [cells a [.map (some i.b), .bool p.off, .bool p.lim, .int .i64 (p.left : Nat)] 77, qAb i.b (fmF n0 n1 i.p0 i.p1), oflP i.p0 ((some x)), oflP i.p1 x1]) (fun k h => h) ?_
 rintro ⟨ib, ip, iq⟩
 simp only
 refine qBi (p := oflP ip ((some x))) uK (fun _ h => qDc h) (fun hsh => ?_)
 rcases hsh with ⟨_, h⟩ | ⟨c0, x', rfl, h⟩
 ·cases h
 obtain rfl := Option.some.inj h
 have hlk : fmF n0 n1 (some c0) iq n0 = some (ptV c0) := qCy n0 n1 (some c0) iq
 refine zP (hE.fn Tryz.func115) rfl rfl rfl (fun R => ?_)
 simp only [qAe, uV, uW]
 refine qL (qJ (uA rfl (qM (qK (qL (qL (qJ (uM rfl (uM rfl (uU ?_))))))))))
 refine qW (hE.t rfl) (hE.t rfl) rfl rfl rfl (fun b10 => ?_)
 refine qAx (kE (p := cells b10 [.string ⟨⟨n0⟩⟩] 9) (p' := sl (some ⟨b10, 0, none⟩) 1 9 1 1 (nmC [n0])) uK (qAr rfl (by unfold maxLen; omega))) ?_
 refine uX (qFi (ns := [n0]) hE (by simp) hv hp) rfl ?_
 rintro _ _ ⟨rfl, rfl⟩
 simp only [uV, uW]
 refine uA rfl (qM (qK (qL (qJ (uM rfl (uB (qAf rfl (hE.t rfl)) ?_))))))
 refine qM (qK (zD rfl ?_))
 refine qFa (p := flP c0 x) (ps := fun i : Option Addr × Nat => [cells c0 [.slice i.1 (x).data.length i.2, .int .i64 ((x).synced : Nat)] 126, sl i.1 i.2 5 1 (x).data.length (byC (x).data)]) uK (fun k h => h) ?_
 rintro ⟨fq, fc⟩
 simp only
 refine zC (qK (qL (qJ (uM rfl (uB (zB rfl) ?_)))))
 refine uB (uBf rfl) ?_
 refine uL ?_
 refine uM rfl ?_
 refine uB (qCj (kt := 9) (et := 124) (z := .pointer none) (by rw [hE.P]; kernel_rfl) (by rw [hE.P]; kernel_rfl) (fun w => by rw [hE.P]; kernel_rfl) rfl rfl uK (by assumption)) ?_
 refine uM rfl (uB (qV rfl rfl) (uB (qV rfl rfl) (uA rfl (uA rfl (qM (qK (qL (qL (qJ (uM rfl (uB (qBm rfl) ?_)))))))))))
 refine qM (qK (zD rfl (zC (qK (qL (qJ (uM rfl (uM rfl (uB (zB rfl) ?_)))))))))
 refine uB (uBf rfl) ?_
 refine uL ?_
 refine uB (uBl rfl) ?_
 refine uB (zB rfl) ?_
 refine uB (uBf rfl) ?_
 refine uU (uS ?_)
 refine qM (qK (qL (qJ (uM rfl (uX (qFj hE hp) rfl ?_)))))
 rintro _ _ ⟨rfl, rfl⟩
 simp only [uV, uW]
 refine qAx (qAm (ps := [cells a [.map (some ib), .bool p.fin.off, .bool p.fin.lim, .int .i64 (p.fin.left : Nat)] 77, qAb ib (fmF n0 n1 (some c0) iq), cells c0 [.slice fq ((⟨x.data, x.data.length⟩ : Fl)).data.length fc, .int .i64 (((⟨x.data, x.data.length⟩ : Fl)).synced : Nat)] 126, sl fq fc 5 1 ((⟨x.data, x.data.length⟩ : Fl)).data.length (byC ((⟨x.data, x.data.length⟩ : Fl)).data), oflP iq x1]) uK (fun k h => qHj h)) ?_
 refine qM (qK (qL (qJ (uA rfl (qM (qK (kC ?_)))))))
 exact uZ rfl (.tmp rfl .nil) ⟨rfl, rfl⟩
theorem qWw (hE : Seat E) {p : Pwr} {a : Nat} {n0 n1 : List UInt8} {x1 : Option Fl} (hn : okN n0) :
  Ct E 62 [uPt a, .string ⟨⟨n0⟩⟩] [fsP a n0 n1 none x1 p] (fun v Q => v = .tuple #[.int .i64 0, .iface 31 (.int .i64 5)] ∧ Q = [fsP a n0 n1 none x1 p]) := by
 have hv : ∀ x ∈ [n0], okN x := fun x h => by simp at h; subst h; exact hn
 refine Sl.ct_open (p := fsP a n0 n1 none x1 p) (ps := fun i : FsG => [cells a [.map (some i.b), .bool p.off, .bool p.lim, .int .i64 (p.left : Nat)] 77, qAb i.b (fmF n0 n1 i.p0 i.p1), oflP i.p0 (none), oflP i.p1 x1]) (fun k h => h) ?_
 rintro ⟨ib, ip, iq⟩
 simp only
 refine qBi (p := oflP ip (none)) uK (fun _ h => qDc h) (fun hsh => ?_)
 rcases hsh with ⟨rfl, _⟩ | ⟨c0, x', rfl, h⟩
 ·have hlk : fmF n0 n1 none iq n0 = none := qCy n0 n1 none iq
  refine zP (hE.fn Tryz.func62) rfl rfl rfl (fun R => ?_)
  simp only [qAe, uV, uW]
  refine qL (qJ (uA rfl (uA rfl (qM (qK (qL (qL (qJ (uM rfl (uB (qAy rfl (hE.t rfl)) ?_))))))))))
  refine qM (qK (zD rfl (zC (qK (qL (qJ (uM rfl (uB (zB rfl) ?_))))))))
  refine uB (uBf rfl) ?_
  refine uL ?_
  refine uM rfl ?_
  refine uB (qCj (kt := 9) (et := 124) (z := .pointer none) (by rw [hE.P]; kernel_rfl) (by rw [hE.P]; kernel_rfl) (fun w => by rw [hE.P]; kernel_rfl) rfl rfl uK (by assumption)) ?_
  refine uM rfl (uB (qV rfl rfl) (uB (qV rfl rfl) (uA rfl (uA rfl (qM (qK (qL (qL (qJ (uM rfl (uB (qBm rfl) ?_)))))))))))
  refine qM (qK (zG rfl ?_))
  refine qAk (qAm (ps := [cells a [.map (some ib), .bool p.off, .bool p.lim, .int .i64 (p.left : Nat)] 77, qAb ib (fmF n0 n1 none iq), oflP none none, oflP iq x1]) (p := fsP a n0 n1 none x1 p) uK (fun k h => ⟨⟨ib, none, iq⟩, h⟩)) ?_
  refine qL (qJ (uB (qHd rfl (hE.t rfl) rfl) ?_))
  refine uA rfl (uA rfl (qM (qK (kC (qX ?_)))))
  exact uZ rfl (.tmp rfl (.tmp rfl .nil)) ⟨rfl, rfl⟩
 cases h
theorem qOh (hE : Seat E) {p : Pwr} {a : Nat} {n0 n1 : List UInt8} {x1 : Option Fl} (hn : okN n0) :
  Ct E 64 [uPt a, .string ⟨⟨n0⟩⟩] [fsP a n0 n1 none x1 p] (fun v Q => v = .tuple #[.slice none 0 0, .iface 31 (.int .i64 5)] ∧ Q = [fsP a n0 n1 none x1 p]) := by
 have hv : ∀ x ∈ [n0], okN x := fun x h => by simp at h; subst h; exact hn
 refine Sl.ct_open (p := fsP a n0 n1 none x1 p) (ps := fun i : FsG => [cells a [.map (some i.b), .bool p.off, .bool p.lim, .int .i64 (p.left : Nat)] 77, qAb i.b (fmF n0 n1 i.p0 i.p1), oflP i.p0 (none), oflP i.p1 x1]) (fun k h => h) ?_
 rintro ⟨ib, ip, iq⟩
 simp only
 refine qBi (p := oflP ip (none)) uK (fun _ h => qDc h) (fun hsh => ?_)
 rcases hsh with ⟨rfl, _⟩ | ⟨c0, x', rfl, h⟩
 ·have hlk : fmF n0 n1 none iq n0 = none := qCy n0 n1 none iq
  refine zP (hE.fn Tryz.func64) rfl rfl rfl (fun R => ?_)
  simp only [qAe, uV, uW]
  refine qL (qJ (uA rfl (uA rfl (qM (qK (qL (qL (qJ (uM rfl (uB (qAy rfl (hE.t rfl)) ?_))))))))))
  refine qM (qK (zD rfl (zC (qK (qL (qJ (uM rfl (uB (zB rfl) ?_))))))))
  refine uB (uBf rfl) ?_
  refine uL ?_
  refine uM rfl ?_
  refine uB (qCj (kt := 9) (et := 124) (z := .pointer none) (by rw [hE.P]; kernel_rfl) (by rw [hE.P]; kernel_rfl) (fun w => by rw [hE.P]; kernel_rfl) rfl rfl uK (by assumption)) ?_
  refine uM rfl (uB (qV rfl rfl) (uB (qV rfl rfl) (uA rfl (uA rfl (qM (qK (qL (qL (qJ (uM rfl (uB (qBm rfl) ?_)))))))))))
  refine qM (qK (zG rfl ?_))
  refine qAk (qAm (ps := [cells a [.map (some ib), .bool p.off, .bool p.lim, .int .i64 (p.left : Nat)] 77, qAb ib (fmF n0 n1 none iq), oflP none none, oflP iq x1]) (p := fsP a n0 n1 none x1 p) uK (fun k h => ⟨⟨ib, none, iq⟩, h⟩)) ?_
  refine qL (qJ (uB (qHd rfl (hE.t rfl) rfl) ?_))
  refine uA rfl (uA rfl (qM (qK (kC (qX ?_)))))
  exact uZ rfl (.tmp rfl (.tmp rfl .nil)) ⟨rfl, rfl⟩
 cases h
theorem qRu (hE : Seat E) {p : Pwr} {a : Nat} {n0 n1 : List UInt8} {x : Fl} {x1 : Option Fl} (hn : okN n0) (hl : x.data.length ≤ 1099511627776) :
  Ct E 64 [uPt a, .string ⟨⟨n0⟩⟩] [fsP a n0 n1 (some x) x1 p] (fun v Q => ∃ q c, v = .tuple #[.slice q x.data.length c, .nilIface] ∧ Q = [fsP a n0 n1 (some x) x1 p, sl q c 5 1 x.data.length (byC x.data)]) := by
 have hv : ∀ x ∈ [n0], okN x := fun x h => by simp at h; subst h; exact hn
 refine Sl.ct_open (p := fsP a n0 n1 (some x) x1 p) (ps := fun i : FsG => [cells a [.map (some i.b), .bool p.off, .bool p.lim, .int .i64 (p.left : Nat)] 77, qAb i.b (fmF n0 n1 i.p0 i.p1), oflP i.p0 ((some x)), oflP i.p1 x1]) (fun k h => h) ?_
 rintro ⟨ib, ip, iq⟩
 simp only
 refine qBi (p := oflP ip ((some x))) uK (fun _ h => qDc h) (fun hsh => ?_)
 rcases hsh with ⟨_, h⟩ | ⟨c0, x', rfl, h⟩
 ·cases h
 obtain rfl := Option.some.inj h
 have hlk : fmF n0 n1 (some c0) iq n0 = some (ptV c0) := qCy n0 n1 (some c0) iq
 refine zP (hE.fn Tryz.func64) rfl rfl rfl (fun R => ?_)
 simp only [qAe, uV, uW]
 refine qL (qJ (uA rfl (uA rfl (qM (qK (qL (qL (qJ (uM rfl (uB (qAy rfl (hE.t rfl)) ?_))))))))))
 refine qM (qK (zD rfl ?_))
 refine qFa (p := flP c0 x) (ps := fun i : Option Addr × Nat => [cells c0 [.slice i.1 (x).data.length i.2, .int .i64 ((x).synced : Nat)] 126, sl i.1 i.2 5 1 (x).data.length (byC (x).data)]) uK (fun k h => h) ?_
 rintro ⟨fq, fc⟩
 simp only
 refine zC (qK (qL (qJ (uM rfl (uB (zB rfl) ?_)))))
 refine uB (uBf rfl) ?_
 refine uL ?_
 refine uM rfl ?_
 refine uB (qCj (kt := 9) (et := 124) (z := .pointer none) (by rw [hE.P]; kernel_rfl) (by rw [hE.P]; kernel_rfl) (fun w => by rw [hE.P]; kernel_rfl) rfl rfl uK (by assumption)) ?_
 refine uM rfl (uB (qV rfl rfl) (uB (qV rfl rfl) (uA rfl (uA rfl (qM (qK (qL (qL (qJ (uM rfl (uB (qBm rfl) ?_)))))))))))
 refine qM (qK (zD rfl ?_))
 refine qCw (p := sl fq fc 5 1 x.data.length (byC x.data)) uK (fun _ h => fun hpos => qAz h hpos) ?_
 intro hpt
 have hqs : Rdb E.w0 fq (byC x.data) (sl fq fc 5 1 x.data.length (byC x.data)) := qCv (qAg _) hpt
 refine zC (qK (qL (qJ (uM rfl (uB (zB rfl) ?_)))))
 refine uB (uBf rfl) ?_
 refine uL ?_
 refine uX (qLv hE hqs hl) rfl ?_
 rintro _ _ ⟨q, c, rfl, rfl⟩
 simp only [uV, uW]
 refine qAx (qAm (ps := [cells a [.map (some ib), .bool p.off, .bool p.lim, .int .i64 (p.left : Nat)] 77, qAb ib (fmF n0 n1 (some c0) iq), cells c0 [.slice fq (x).data.length fc, .int .i64 ((x).synced : Nat)] 126, sl fq fc 5 1 (x).data.length (byC (x).data), oflP iq x1]) uK (fun k h => qHj h)) ?_
 refine uA rfl (uA rfl (qM (qK (kC ?_))))
 exact uZ rfl (.tmp rfl (.tmp rfl .nil)) ⟨q, c, rfl, rfl⟩
theorem qTx (hE : Seat E) {p : Pwr} {a : Nat} {n0 n1 : List UInt8} {x : Fl} {x0 : Option Fl} (hp : p.up) (h0 : okN n0) (hn : okN n1) (hne : n0 ≠ n1) :
  Ct E 80 [uPt a, .string ⟨⟨n1⟩⟩, .string ⟨⟨n0⟩⟩] [fsP a n0 n1 x0 (some x) p] (fun v Q => v = .nilIface ∧ Q = [fsP a n0 n1 (some x) none p.fin]) := by
 have hv : ∀ x ∈ [n1, n0], okN x := fun x h => by
  simp at h
  rcases h with rfl | rfl
  ·exact hn
  exact h0
 refine Sl.ct_open (p := fsP a n0 n1 x0 (some x) p) (ps := fun i : FsG => [cells a [.map (some i.b), .bool p.off, .bool p.lim, .int .i64 (p.left : Nat)] 77, qAb i.b (fmF n0 n1 i.p0 i.p1), oflP i.p0 x0, oflP i.p1 (some x)]) (fun k h => h) ?_
 rintro ⟨ib, ip, iq⟩
 simp only
 refine qBi (p := oflP iq (some x)) uK (fun _ h => qDc h) (fun hsh => ?_)
 rcases hsh with ⟨_, h⟩ | ⟨c0, x', rfl, h⟩
 ·cases h
 obtain rfl := Option.some.inj h
 have hlk : fmF n0 n1 ip (some c0) n1 = some (ptV c0) := by
  rw [qJa hne]
  exact qCy n1 n0 (some c0) ip
 have hdl : qPw (fmF n0 n1 ip (some c0)) n1 = fmF n0 n1 ip none := by rw [qJa hne, zAn, ← qJa hne]
 refine zP (hE.fn Tryz.func80) rfl rfl rfl (fun R => ?_)
 simp only [qAe, uV, uW]
 refine qL (qJ (uA rfl (qM (qK (qL (qL (qJ (uM rfl (uM rfl (uM rfl (uU ?_)))))))))))
 refine qW (hE.t rfl) (hE.t rfl) rfl rfl rfl (fun b13 => ?_)
 refine qAx (kE (p := cells b13 [.string ⟨⟨n1⟩⟩, .string ⟨⟨n0⟩⟩] 9) (p' := sl (some ⟨b13, 0, none⟩) 2 9 1 2 (nmC [n1, n0])) uK (qAr rfl (by unfold maxLen; omega))) ?_
 refine uX (qFi (ns := [n1, n0]) hE (by simp) hv hp) rfl ?_
 rintro _ _ ⟨rfl, rfl⟩
 simp only [uV, uW]
 refine uA rfl (qM (qK (qL (qJ (uM rfl (uB (qAf rfl (hE.t rfl)) ?_))))))
 refine qM (qK (zD rfl (zC (qK (qL (qJ (uM rfl (uB (zB rfl) ?_))))))))
 refine uB (uBf rfl) ?_
 refine uL ?_
 refine uM rfl ?_
 refine uB (qCj (kt := 9) (et := 124) (z := .pointer none) (by rw [hE.P]; kernel_rfl) (by rw [hE.P]; kernel_rfl) (fun w => by rw [hE.P]; kernel_rfl) rfl rfl uK (by assumption)) ?_
 refine uM rfl (uB (qV rfl rfl) (uB (qV rfl rfl) (uA rfl (uA rfl (qM (qK (qL (qL (qJ (uM rfl (uB (qBm rfl) ?_)))))))))))
 refine qM (qK (zD rfl (zC (qK (qL (qJ (uM rfl (uB (zB rfl) ?_))))))))
 refine uB (uBf rfl) ?_
 refine uL ?_
 refine uM rfl (uU ?_)
 apply qJy (kt := 9) (et := 124) (by rw [hE.P]; kernel_rfl) (by rw [hE.P]; kernel_rfl) rfl rfl
 ·exact uK
 refine qM (qK (qL (qJ (uM rfl (uM rfl (uM rfl ?_))))))
 rw [hdl]
 refine uX (qPo hE) rfl ?_
 rintro _ _ ⟨rfl, rfl⟩
 simp only [uV, uW]
 rw [qUn]
 refine qM (qK (qL (qJ (uM rfl (uX (qFj hE hp) rfl ?_)))))
 rintro _ _ ⟨rfl, rfl⟩
 simp only [uV, uW]
 refine qAx (qAm (ps := [cells a [.map (some ib), .bool p.fin.off, .bool p.fin.lim, .int .i64 (p.fin.left : Nat)] 77, qAb ib (fmF n0 n1 (some c0) none), oflP (some c0) (some x)]) (p := fsP a n0 n1 (some x) none p.fin) uK (fun k h => ⟨⟨ib, some c0, none⟩, qAq (fun k h => qAq (fun k h => qAq (fun k h => qGx k h) h) h) h⟩)) ?_
 refine qM (qK (qL (qJ (uA rfl (qM (qK (kC ?_)))))))
 exact uZ rfl (.tmp rfl .nil) ⟨rfl, rfl⟩
end
section
variable {E : Env}
theorem qTz (hE : Seat E) {q : Option Addr} {d : Nat} : Ct E 102 [.slice q 0 d, .int .i64 0, .int .i64 0] [] (fun v Q => v = .tuple #[] ∧ Q = []) := by
 refine zP (hE.fn Tryz.func102) rfl rfl rfl (fun R => ?_)
 simp only [qAe, uV, uW]
 refine qL (qJ (uM rfl (uB (uAa rfl rfl) ?_)))
 refine uA rfl (qM (qK (zL ?_)))
 refine qFb 1 ?_
 refine qGr ?_
 refine qL (qL (qJ (uM rfl (uM rfl (uB (y_lt rfl rfl) ?_)))))
 refine qM (qK (zD rfl (kJ (qQ (qQ (zI ?_))))))
 exact uZe rfl .nil ⟨rfl, rfl⟩
theorem qUe (hE : Seat E) {q : Option Addr} {d : Nat} {l : Int} : Ct E 72 [.slice q 0 d, .int .i64 0, .int .i64 0, .int .i64 l] [] (fun v Q => v = .tuple #[] ∧ Q = []) := by
 refine zP (hE.fn Tryz.func72) rfl rfl rfl (fun R => ?_)
 simp only [qAe, uV, uW]
 refine qL (qJ (uA rfl (qM (qK (qL (qJ (uA rfl (qM (qK (zL ?_))))))))))
 refine qFb 1 ?_
 refine qGr ?_
 refine zL (qL (qJ (uM rfl (uM rfl (uB (uAs rfl rfl) ?_)))))
 refine uA rfl (qM (qK (qL (qL (qJ (uM rfl (uB (y_le rfl rfl) ?_)))))))
 refine qM (qK (zG rfl (qL (qJ (uM rfl (uM rfl (uM rfl (uX (qTz hE) rfl ?_))))))))
 rintro _ _ ⟨rfl, rfl⟩
 simp only [uV, uW]
 refine qM (qK (kC (qX (zO (qX (zO ?_))))))
 exact uZ rfl .nil ⟨rfl, rfl⟩
theorem qGk (hE : Seat E) {q : Option Addr} {d : Nat} : Ct E 42 [.slice q 0 d] [] (fun v Q => v = .tuple #[] ∧ Q = []) := by
 have hb := qFt (k := 0) (by omega)
 refine zP (hE.fn Tryz.func42) rfl rfl rfl (fun R => ?_)
 simp only [qAe, uV, uW]
 refine qL (qJ (uM rfl (uB (uBl rfl) ?_)))
 refine uA rfl (qM (qK (qJ (uM rfl (uM rfl (uM rfl (uB (uAc rfl) ?_)))))))
 refine uX (qIa hE (k := 0) (by omega)) rfl ?_
 rintro _ _ ⟨rfl, rfl⟩
 simp only [uV, uW]
 refine uX (qUe hE) rfl ?_
 rintro _ _ ⟨rfl, rfl⟩
 simp only [uV, uW]
 refine qM ?_
 exact uZe rfl .nil ⟨rfl, rfl⟩
structure Kys (f : List UInt8 → Option Value) (l : List (List UInt8)) : Prop where
 nd : l.Nodup
 mem : ∀ x, x ∈ l ↔ f x ≠ none
 srt : l.Pairwise fun a b => cmpT a b ≤ 0
theorem qDp {α : Type} [DecidableEq α] : ∀ {A B : List α}, A.Nodup → (∀ x ∈ A, x ∈ B) → A.length ≤ B.length
 | [], B, _, _ => Nat.zero_le _
 | a :: A, B, hn, h => by
  have hn' := List.nodup_cons.1 hn
  have ha := h a List.mem_cons_self
  have := qDp (B := B.erase a) hn'.2 fun x hx => (List.mem_erase_of_ne (fun e => hn'.1 (by rw [← e]; exact hx))).2 (h x (List.mem_cons_of_mem _ hx))
  rw [List.length_erase_of_mem ha] at this
  have := List.length_pos_of_mem ha
  rw [List.length_cons]
  omega
theorem qBq {f : List UInt8 → Option Value} {n : Nat} (h : cntS f n) {D : List (List UInt8)} (hd : D.Nodup) (hf : ∀ x ∈ D, f x ≠ none) : D.length ≤ n := by
 obtain ⟨M, h1, h2, rfl⟩ := h
 have := qDp hd (B := M.map (·.1)) fun x hx => qEj.2 (by rw [h2]; exact hf x hx)
 rwa [List.length_map] at this
structure NmG where
 D : List (List UInt8)
 done : List UInt8 → Bool
 q : Option Addr
 d : Nat
theorem qOg (hE : Seat E) {p : Pwr} {a b n : Nat} {f : List UInt8 → Option Value} (hc : cntS f n) (hn : n ≤ 60000) : Ct E 55 [uPt a] [cells a [.map (some b), .bool p.off, .bool p.lim, .int .i64 (p.left : Nat)] 77, qAb b f]
  (fun v Q => ∃ l q c, v = .slice q l.length c ∧ Kys f l ∧ Q = [cells a [.map (some b), .bool p.off, .bool p.lim, .int .i64 (p.left : Nat)] 77, qAb b f, sl q c 9 1 l.length (nmC l)]) := by
 have hm1 : E.P.underlying 75 = some (.map 9 124) := by rw [hE.P]; kernel_rfl
 refine zP (hE.fn Tryz.func55) rfl rfl rfl (fun R => ?_)
 simp only [qAe, uV, uW]
 refine qL (qJ (uA rfl (qM (qK (qL (qL (qJ (uM rfl (uB (qAy rfl (hE.t rfl)) ?_)))))))))
 refine qM (qK (zD rfl (zC (qK (qL (qJ (uA rfl (qM (qK (qL (qL (qJ (uM rfl (uB (zB rfl) ?_))))))))))))))
 refine uB (uBf rfl) ?_
 refine uL ?_
 refine qAx (qCh (t := 9) (sz := 1)) ?_
 refine uU ?_
 apply qFl hm1 rfl uK
 intro br
 refine qM (qK (zL ?_))
 refine qAj (fun x : NmG => [(0, uPt a), (3, .slice x.q x.D.length x.d), (11, uPt br)]) (fun x => [qGs br b f x.done, cells a [.map (some b), .bool p.off, .bool p.lim, .int .i64 (p.left : Nat)] 77, sl x.q x.d 9 1 x.D.length (nmC x.D), R]) (fun x => n + 1 - x.D.length) (fun x => x.D.Nodup ∧ (∀ y, y ∈ x.D ↔ x.done y = true) ∧ ∀ y ∈ x.D, f y ≠ none) ⟨[], fun _ => false, none, 0⟩ ⟨.nil, fun y => by simp, fun y h => by simp at h⟩ ⟨rfl, rfl, rfl, trivial⟩ uI ?_
 rintro ⟨D, done, q, d⟩ ⟨h1, h2, h3⟩
 simp only at h1 h2 h3 ⊢
 have hDn := qBq hc h1 h3
 refine qL (qJ (uU ?_))
 apply qHk rfl uK
 ·intro hall
  refine uB (qV rfl rfl) (qM (qK (qL (zD rfl ?_))))
  refine qAk (kE (p := qGs br b f done) (p' := qAb b f) uK (fun k h => qJh h)) ?_
  have hmem : ∀ x, x ∈ D ↔ f x ≠ none := fun x => ⟨h3 x, fun hx => by
   cases e : f x with
   | none => exact absurd e hx
   | some v => exact (h2 x).2 (hall x v e)⟩
  refine kJ (qQ (qQ (zI (qK (qL (qJ (uM rfl ?_)))))))
  rcases Nat.eq_zero_or_pos D.length with h0 | h0
  ·obtain rfl := List.length_eq_zero_iff.1 h0
   refine uX (qGk hE) rfl ?_
   rintro _ _ ⟨rfl, rfl⟩
   simp only [uV, uW]
   refine qM (qK (qL (qJ (uM rfl (uA rfl (qM (qK (kC ?_))))))))
   exact uZ rfl (.tmp rfl .nil) ⟨[], q, d, rfl, ⟨.nil, hmem, .nil⟩, rfl⟩
  refine qGh (p := sl q d 9 1 D.length (nmC D)) uK (fun _ h => qAz h h0) ?_
  rintro ⟨g, rfl⟩
  refine uX (qEo hE (by omega)) rfl ?_
  rintro _ _ ⟨l, rfl, hp, hs, rfl⟩
  rw [← hp.length_eq]
  simp only [uV, uW]
  refine qM (qK (qL (qJ (uM rfl (uA rfl (qM (qK (kC ?_))))))))
  exact uZ rfl (.tmp rfl .nil) ⟨l, _, d, rfl, ⟨hp.nodup_iff.2 h1, fun x => (hp.mem_iff).trans (hmem x), hs⟩, rfl⟩
 intro k v hk hd
 refine uB (qV rfl rfl) (qM (qK (qL (zG rfl (zC (qK (zL (qL (qJ (uB (qHt rfl uK) ?_))))))))))
 refine qAx (fun _ h => qAp (fun _ x => qKd x) h) ?_
 have hkD : k ∉ D := fun h => by
  have := (h2 k).1 h
  rw [hd] at this
  cases this
 refine uB (qV rfl rfl) (uA rfl (qM (qK (qJ (uM rfl (uM rfl (uU ?_)))))))
 refine qW (hE.t rfl) (hE.t rfl) rfl rfl rfl (fun b18 => ?_)
 refine uU ?_
 apply zV (hE.t rfl) (hE.t rfl) rfl rfl rfl
 ·exact uK
 ·exact uK
 ·rfl
 ·rfl
 ·omega
 ·omega
 ·(unfold maxLen; omega)
 intro g19 c19 n19 x19 hn19 hx19
 refine uA rfl (qM (zJ ?_))
 obtain rfl : x19 = nmC (D ++ [k]) := by rw [hx19]; unfold nmC; rw [List.map_append]; rfl
 obtain rfl : n19 = (D ++ [k]).length := by rw [hn19, List.length_append]; rfl
 have hnd : (D ++ [k]).Nodup := by
  rw [List.nodup_append]
  exact ⟨h1, by simp, fun a ha b hb e => by simp at hb; subst hb; subst e; exact hkD ha⟩
 have hne : ∀ y ∈ D ++ [k], f y ≠ none := fun y hy => by
  rcases List.mem_append.1 hy with hy | hy
  ·exact h3 y hy
  simp at hy; subst hy; rw [hk]; simp
 have hb2 := qBq hc hnd hne
 refine zT (ι := NmG) (j := ⟨D ++ [k], fun x => x == k || done x, some ⟨g19, 0, none⟩, c19⟩) ⟨hnd, fun y => ?_, hne⟩ (by simp only [List.length_append, List.length_singleton] at hb2 ⊢; omega) ⟨rfl, rfl, rfl, trivial⟩ uI
 simp only [List.mem_append, List.mem_singleton, Bool.or_eq_true, beq_iff_eq]
 rw [h2 y]
 exact Or.comm
end
section
variable {E : Env}
def allS (x : Option Fl) : Prop := ∀ y, x = some y → y.synced = y.data.length
theorem zAm (n0 n1 : List UInt8) (p0 p1 : Option Nat) {n : Nat} (h : cntS (fmF n0 n1 p0 p1) n) : n ≤ 2 := by
 obtain ⟨M, h1, h2, rfl⟩ := h
 have := qDp h1 (B := [n0, n1]) fun x hx => by
  have := qEj.1 hx
  rw [h2] at this
  unfold fmF at this
  by_cases e0 : x = n0
  ·simp [e0]
  rw [if_neg e0] at this
  by_cases e1 : x = n1
  ·simp [e1]
  rw [if_neg e1] at this
  exact absurd rfl this
 rwa [List.length_map] at this
theorem fmF_some {n0 n1 x : List UInt8} {p0 p1 : Option Nat} (h : fmF n0 n1 p0 p1 x ≠ none) : (∃ c, p0 = some c ∧ fmF n0 n1 p0 p1 x = some (ptV c)) ∨ (∃ c, p1 = some c ∧ fmF n0 n1 p0 p1 x = some (ptV c)) := by
 unfold fmF at h ⊢
 by_cases e0 : x = n0
 ·rw [if_pos e0] at h ⊢
  cases p0 with
  | none => exact absurd rfl h
  | some c => exact .inl ⟨c, rfl, rfl⟩
 rw [if_neg e0] at h ⊢
 by_cases e1 : x = n1
 ·rw [if_pos e1] at h ⊢
  cases p1 with
  | none => exact absurd rfl h
  | some c => exact .inr ⟨c, rfl, rfl⟩
 rw [if_neg e1] at h
 exact absurd rfl h
theorem qTv (hE : Seat E) {p : Pwr} {a kn kc : Nat} {kq : Option Addr} {n0 n1 : List UInt8} {x0 x1 : Option Fl} (h0 : allS x0) (h1 : allS x1) :
  Ct E 32 [uPt a, .slice kq kn kc] [fsP a n0 n1 x0 x1 p] (fun v Q => v = .tuple #[] ∧ Q = [fsP a n0 n1 x0 x1 Pwr.on]) := by
 refine Sl.ct_open (p := fsP a n0 n1 x0 x1 p) (ps := fun i : FsG => [cells a [.map (some i.b), .bool p.off, .bool p.lim, .int .i64 (p.left : Nat)] 77, qAb i.b (fmF n0 n1 i.p0 i.p1), oflP i.p0 x0, oflP i.p1 x1]) (fun k h => h) ?_
 rintro ⟨ib, ip, iq⟩
 simp only
 refine qBi (p := qAb ib (fmF n0 n1 ip iq)) uK (fun _ h => qEx h) ?_
 rintro ⟨n, hcn⟩
 have hn2 := zAm n0 n1 ip iq hcn
 refine zP (hE.fn Tryz.func32) rfl rfl rfl (fun R => ?_)
 simp only [qAe, uV, uW]
 refine qL (qL (qJ (uM rfl (uB (qAy rfl (hE.t rfl)) ?_))))
 refine qM (qK (zD rfl (zC (qK (qL (qL (qJ (uM rfl (uX (qOg hE hcn (by omega)) rfl ?_)))))))))
 rintro _ _ ⟨l, q, c0, rfl, hl, rfl⟩
 have hll := qBq hcn hl.nd (fun x hx => (hl.mem x).1 hx)
 simp only [uV, uW]
 refine uB (uBl rfl) ?_
 refine uM rfl (qM (qK (zL ?_)))
 refine qAj (fun i : Nat => [(0, uPt a), (12, .slice q l.length c0), (13, .int .i64 (l.length : Nat)), (14, .int .i64 (i : Nat))]) (fun i => [cells a [.map (some ib), .bool p.off, .bool p.lim, .int .i64 (p.left : Nat)] 77, qAb ib (fmF n0 n1 ip iq), oflP ip x0, oflP iq x1, sl q c0 9 1 l.length (nmC l), R]) (fun i => l.length - i) (fun i => i ≤ l.length) 0 (Nat.zero_le _) ⟨rfl, rfl, rfl, rfl, trivial⟩ uI ?_
 rintro i hi
 refine qL (qJ (uB (y_lt rfl rfl) ?_))
 refine qM (qK (qL ?_))
 refine zF rfl (fun c1 => ?_) (fun c1 => ?_)
 ·obtain ⟨x, hx⟩ : ∃ x, l[i]? = some x := ⟨_, List.getElem?_eq_getElem (by omega)⟩
  have f0 := qJf hx (((i : Nat) : Int).toNat) (by omega)
  have hfx := (hl.mem x).1 (List.mem_of_getElem? hx)
  refine qCw (p := sl q c0 9 1 l.length (nmC l)) uK (fun _ h => qAz h (by omega)) ?_
  rintro ⟨g, rfl⟩
  rcases fmF_some hfx with ⟨c, rfl, hlk⟩ | ⟨c, rfl, hlk⟩
  ·refine qCw (p := oflP (some c) x0) uK (fun _ h => qDc h) (fun hsh => ?_)
   rcases hsh with ⟨h, _⟩ | ⟨c', x, h, rfl⟩
   ·cases h
   obtain rfl := Option.some.inj h
   have hxs := h0 x rfl
   refine qFa (p := flP c x) (ps := fun i : Option Addr × Nat => [cells c [.slice i.1 (x).data.length i.2, .int .i64 ((x).synced : Nat)] 126, sl i.1 i.2 5 1 (x).data.length (byC (x).data)]) uK (fun k h => h) ?_
   rintro ⟨fq, fc⟩
   simp only
   refine zC (qK (qL (zL (qL (qJ (uB (uAj rfl rfl) ?_))))))
   refine uL ?_
   refine uA rfl (qM (qK (qL (qJ (uM rfl (uB (zB rfl) ?_))))))
   refine uB (uBf rfl) ?_
   refine uL ?_
   refine uM rfl ?_
   refine uB (qCj (kt := 9) (et := 124) (z := .pointer none) (by rw [hE.P]; kernel_rfl) (by rw [hE.P]; kernel_rfl) (fun w => by rw [hE.P]; kernel_rfl) rfl rfl uK (by assumption)) ?_
   refine uA rfl (qM (qK (qL ?_)))
   refine uH ([cells c [.slice fq x.data.length fc, .int .i64 (x.synced : Nat)] 126]) ?_
   refine uD 0 rfl (qC rfl) ?_
   refine uD 1 rfl (zB rfl) ?_
   refine uD 2 rfl (uBf rfl) ?_
   refine uD 3 rfl (uY) ?_
   refine uD 4 rfl (uBl rfl) ?_
   refine uD 5 rfl (qC rfl) ?_
   refine uD 6 rfl (zB rfl) ?_
   refine uD 7 rfl (uBf rfl) ?_
   refine uD 8 rfl (uY) ?_
   refine uD 9 rfl (uAs rfl rfl) ?_
   refine uD 10 rfl (qD rfl) ?_
   refine qCc (by kernel_rfl) ?_
   refine qK (qL (qL (qJ (uM rfl (uB (y_eq rfl rfl) ?_)))))
   refine qM (qK ?_)
   refine zF rfl (fun c2 => ?_) (fun c2 => ?_)
   ·refine qAk (qAm (ps := [cells c [.slice fq (x).data.length fc, .int .i64 ((x).synced : Nat)] 126, sl fq fc 5 1 (x).data.length (byC (x).data)]) (p := oflP (some c) (some x)) uK (fun k h => ⟨(fq, fc), h⟩)) ?_
    refine kJ (qQ (zI (qK (qJ (uB (uAa rfl rfl) ?_)))))
    refine uM rfl (qM ?_)
    refine zT (ι := Nat) (j := i + 1) (by omega) (by omega) ⟨rfl, rfl, rfl, congrArg some (zX (by omega)), trivial⟩ uI
   exfalso
   omega
  refine qCw (p := oflP (some c) x1) uK (fun _ h => qDc h) (fun hsh => ?_)
  rcases hsh with ⟨h, _⟩ | ⟨c', x, h, rfl⟩
  ·cases h
  obtain rfl := Option.some.inj h
  have hxs := h1 x rfl
  refine qFa (p := flP c x) (ps := fun i : Option Addr × Nat => [cells c [.slice i.1 (x).data.length i.2, .int .i64 ((x).synced : Nat)] 126, sl i.1 i.2 5 1 (x).data.length (byC (x).data)]) uK (fun k h => h) ?_
  rintro ⟨fq, fc⟩
  simp only
  refine zC (qK (qL (zL (qL (qJ (uB (uAj rfl rfl) ?_))))))
  refine uL ?_
  refine uA rfl (qM (qK (qL (qJ (uM rfl (uB (zB rfl) ?_))))))
  refine uB (uBf rfl) ?_
  refine uL ?_
  refine uM rfl ?_
  refine uB (qCj (kt := 9) (et := 124) (z := .pointer none) (by rw [hE.P]; kernel_rfl) (by rw [hE.P]; kernel_rfl) (fun w => by rw [hE.P]; kernel_rfl) rfl rfl uK (by assumption)) ?_
  refine uA rfl (qM (qK (qL ?_)))
  refine uH ([cells c [.slice fq x.data.length fc, .int .i64 (x.synced : Nat)] 126]) ?_
  refine uD 0 rfl (qC rfl) ?_
  refine uD 1 rfl (zB rfl) ?_
  refine uD 2 rfl (uBf rfl) ?_
  refine uD 3 rfl (uY) ?_
  refine uD 4 rfl (uBl rfl) ?_
  refine uD 5 rfl (qC rfl) ?_
  refine uD 6 rfl (zB rfl) ?_
  refine uD 7 rfl (uBf rfl) ?_
  refine uD 8 rfl (uY) ?_
  refine uD 9 rfl (uAs rfl rfl) ?_
  refine uD 10 rfl (qD rfl) ?_
  refine qCc (by kernel_rfl) ?_
  refine qK (qL (qL (qJ (uM rfl (uB (y_eq rfl rfl) ?_)))))
  refine qM (qK ?_)
  refine zF rfl (fun c2 => ?_) (fun c2 => ?_)
  ·refine qAk (qAm (ps := [cells c [.slice fq (x).data.length fc, .int .i64 ((x).synced : Nat)] 126, sl fq fc 5 1 (x).data.length (byC (x).data)]) (p := oflP (some c) (some x)) uK (fun k h => ⟨(fq, fc), h⟩)) ?_
   refine kJ (qQ (zI (qK (qJ (uB (uAa rfl rfl) ?_)))))
   refine uM rfl (qM ?_)
   refine zT (ι := Nat) (j := i + 1) (by omega) (by omega) ⟨rfl, rfl, rfl, congrArg some (zX (by omega)), trivial⟩ uI
  exfalso
  omega
 refine kJ (qQ (qQ (zI (qK (qL (qJ ?_))))))
 refine uM rfl (uB (zB rfl) ?_)
 refine uB (uBf rfl) ?_
 refine uU (uS ?_)
 refine qM (qK (qL (qJ (uM rfl (uB (zB rfl) ?_)))))
 refine uB (uBf rfl) ?_
 refine uU (uS ?_)
 refine qM (qK (qJ (uM rfl (uB (zB rfl) ?_))))
 refine uB (uBf rfl) ?_
 refine uU (uS ?_)
 refine qM ?_
 apply qYl
 ·rfl
 ·(exact Rs.nil)
 ·exact ⟨rfl, rfl⟩
 refine kF uI (fun _ s => qCl (ps := [cells a [.map (some ib), .bool Pwr.on.off, .bool Pwr.on.lim, .int .i64 (Pwr.on.left : Nat)] 77, qAb ib (fmF n0 n1 ip iq), oflP ip x0, oflP iq x1]) (r := [R]) (p := fsP a n0 n1 x0 x1 Pwr.on) (fun k h => ⟨⟨ib, ip, iq⟩, h⟩) s)
end
section
variable {E : Env}
def itS : Nat → Nat → Nat
 | 0, x => x
 | j + 1, x => crS (itS j x)
theorem itS_lt {x : Nat} (h : x < 4294967296) : ∀ j, itS j x < 4294967296
 | 0 => h
 | j + 1 => qRp (itS_lt h j)
def crC (k : Nat) : List Value := (List.range 16).map fun i => .int .u32 ((if i < k then crT i else 0 : Nat) : Int)
theorem crC_at {i : Nat} (h : i < 16) (o : Nat) (ho : o = i) : (crC 16)[o]? = some (.int .u32 (crT i : Nat)) := by
 subst ho
 unfold crC
 rw [List.getElem?_map, List.getElem?_range h]
 simp [h]
theorem qYv (k : Nat) : (crC k).length = 16 := by simp [crC]
theorem crC_set {k : Nat} (h : k < 16) (o : Nat) (ho : o = k) : zY (crC k) o (zQ (.int .u32 (crT k : Nat))) = crC (k + 1) := by
 subst ho
 simp only [zY, zQ]
 unfold crC
 apply List.ext_getElem?
 intro i
 rw [List.getElem?_set]
 by_cases e : o = i
 ·subst e
  rw [if_pos rfl, if_pos (by simpa using h), List.getElem?_map, List.getElem?_range h]
  simp
 rw [if_neg e, List.getElem?_map, List.getElem?_map]
 by_cases hi : i < 16
 ·rw [List.getElem?_range hi]
  simp only [Option.map_some]
  have : (i < o) = (i < o + 1) := propext ⟨fun h => by omega, fun h => by omega⟩
  simp only [this]
 rw [List.getElem?_eq_none_iff.2 (by simpa using hi)]
 rfl
theorem qMl (hE : Seat E) {bs : List UInt8} {a : Option Addr} {c : Nat} {q : HP} (hq : Rdb E.w0 a (byC bs) q) (hn : bs.length ≤ 1099511627776) : Ct E 96 [.slice a bs.length c] [q] (fun v Q => v = .int .u32 (crc bs : Nat) ∧ Q = [q]) := by
 refine zP (hE.fn Tryz.func96) rfl rfl rfl (fun R => ?_)
 simp only [qAe, uV, uW]
 refine qL (qJ (uA rfl (qM (qK (qL (qJ (uU (kG (hE.t rfl) (fun b3 => ?_)))))))))
 refine qM (qK (qL (qL (qJ (uM rfl (qM (qK (zL ?_))))))))
 refine qAj (fun k : Nat => [(0, .slice a bs.length c), (3, uPt b3), (9, .int .i64 (k : Nat))]) (fun k => [cells b3 (crC k) 222, q, R]) (fun k => 16 - k) (fun k => k ≤ 16) 0 (Nat.zero_le _) ⟨rfl, rfl, rfl, trivial⟩ uI ?_
 rintro k hk
 refine qL (qJ (uB (y_lt rfl rfl) ?_))
 refine qM (qK (qL ?_))
 refine zF rfl (fun h1 => ?_) (fun h1 => ?_)
 ·refine zC (qK (qL (zL (qL (qJ ?_)))))
  refine uM rfl (uA rfl (qM (qK (qL (qJ (uM rfl (uB (qEt rfl (hE.t rfl) (hE.t rfl) (wr32 (by omega) (by omega))) ?_)))))))
  refine uA rfl (qM (qK (qL (qL (qJ (uM rfl (qM (qK (zL ?_)))))))))
  refine qAj (fun j : Nat => [(0, .slice a bs.length c), (3, uPt b3), (4, .int .i64 (k : Nat)), (5, .int .u32 (itS j k : Nat)), (9, .int .i64 (k : Nat)), (14, .int .i64 (j : Nat))]) (fun j => [cells b3 (crC k) 222, q, R]) (fun j => 4 - j) (fun j => j ≤ 4) 0 (Nat.zero_le _) ⟨rfl, rfl, rfl, rfl, rfl, rfl, trivial⟩ uI ?_
  rintro j hj
  have hjl := itS_lt (show k < 4294967296 by omega) j
  refine qL (qJ (uB (y_lt rfl rfl) ?_))
  refine qM (qK (qL ?_))
  refine zF rfl (fun h2 => ?_) (fun h2 => ?_)
  ·refine zC (qK (qL (zL (qL (qJ ?_)))))
   refine uM rfl (uB (qRa 1 1 2 rfl rfl (by omega) rfl rfl (by omega)) ?_)
   refine uB (y_eq rfl rfl) ?_
   refine qM (qK ?_)
   refine zF rfl (fun h3 => ?_) (fun h3 => ?_)
   ·have e9 : (itS j k / 2) ^^^ 2197175160 = itS (j + 1) k := by
     show _ = crS (itS j k)
     unfold crS
     rw [if_pos (by omega)]
    refine qJ (uM rfl (uB (qGf 1 2 rfl rfl (by omega) rfl) ?_))
    refine uB (qRg (j := 2197175160) rfl rfl (by omega) (by omega)) ?_
    refine uA rfl (qM (zJ (qK (qJ (uB (uAa rfl rfl) ?_)))))
    refine uM rfl (qM ?_)
    refine zT (ι := Nat) (j := j + 1) (by omega) (by omega) ⟨rfl, rfl, rfl, congrArg (fun n : Nat => some (Value.int .u32 (n : Int))) e9, rfl, congrArg some (zX (by omega)), trivial⟩ uI
   have e9 : itS j k / 2 = itS (j + 1) k := by
    show _ = crS (itS j k)
    unfold crS
    rw [if_neg (by omega)]
   refine qJ (uM rfl (uB (qGf 1 2 rfl rfl (by omega) rfl) ?_))
   refine uA rfl (qM (zJ (qK (qJ (uB (uAa rfl rfl) ?_)))))
   refine uM rfl (qM ?_)
   refine zT (ι := Nat) (j := j + 1) (by omega) (by omega) ⟨rfl, rfl, rfl, congrArg (fun n : Nat => some (Value.int .u32 (n : Int))) e9, rfl, congrArg some (zX (by omega)), trivial⟩ uI
  obtain rfl : j = 4 := by omega
  have hcl := qYv k
  refine kJ (qQ (qQ (zI (qK (qJ (uM rfl (uM rfl (uB (qKn rfl rfl (hE.t rfl) (by omega) (by omega)) ?_))))))))
  refine uU ?_
  apply zM rfl rfl (hE.t rfl) rfl
  ·exact uK
  ·rfl
  ·have hc9 : (zQ (Value.int .u32 ((itS 4 k : Nat) : Int))).length = 1 := rfl
   rw [hcl]
   omega
  rw [show (Value.int IntKind.u32 ((itS 4 k : Nat) : Int)) = .int .u32 ((crT k : Nat) : Int) from rfl, crC_set (k := k) (by omega) _ (by omega)]
  refine qM (zJ (qK (qJ (uB (uAa rfl rfl) ?_))))
  refine uM rfl (qM ?_)
  refine zT (ι := Nat) (j := k + 1) (by omega) (by omega) ⟨rfl, rfl, congrArg some (zX (by omega)), trivial⟩ uI
 obtain rfl : k = 16 := by omega
 refine kJ (qQ (qQ (zI (qK (qL (qJ (uA rfl (qM (qK (qL (qL (qJ (uM rfl ?_)))))))))))))
 refine uB (uBl rfl) ?_
 refine uM rfl (qM (qK (zL ?_)))
 refine qAj (fun i : Nat => [(3, uPt b3), (6, .int .u32 (crF (bs.take i) : Nat)), (29, .slice a bs.length c), (30, .int .i64 (bs.length : Nat)), (31, .int .i64 (i : Nat))]) (fun i => [cells b3 (crC 16) 222, q, R]) (fun i => bs.length - i) (fun i => i ≤ bs.length) 0 (Nat.zero_le _) ⟨rfl, rfl, rfl, rfl, rfl, trivial⟩ uI ?_
 rintro i hi
 have hsl := qYw (bs.take i)
 refine qL (qJ (uB (y_lt rfl rfl) ?_))
 refine qM (qK (qL ?_))
 refine zF rfl (fun h4 => ?_) (fun h4 => ?_)
 ·obtain ⟨x, hx⟩ : ∃ x, bs[i]? = some x := ⟨_, List.getElem?_eq_getElem (by omega)⟩
  obtain ⟨g, o, rfl, hq'⟩ := hq (qKp (by intro e; rw [e] at hx; simp at hx))
  have f0 := byC_get hx (((i : Nat) : Int).toNat) (by omega)
  have hxl := x.toNat_lt
  have e1 : crF (bs.take (i + 1)) = crH (crH (crF (bs.take i) ^^^ x.toNat)) := crF_take hx
  have hs1 := qTj hsl (show x.toNat < 4294967296 by omega)
  obtain ⟨s1, hs1e⟩ : ∃ s1, s1 = crF (bs.take i) ^^^ x.toNat := ⟨_, rfl⟩
  rw [← hs1e] at hs1 e1
  have hs2 := qYx hs1
  refine zC (qK (qL (zL (qL (qJ (uB (uAi rfl rfl) ?_))))))
  apply qB
  ·(apply zK rfl (hE.t rfl) rfl (by assumption); (focus ((repeat constructor); done)); (first | ((focus exact f0); (focus omega)) | ((focus exact f1); (focus omega)) | ((focus assumption); (focus omega))))
  ·rfl
  refine uA rfl (qM (qK (qL (qJ (uM rfl (uM rfl (uB (qEt rfl (hE.t rfl) (hE.t rfl) (wr32 (by omega) (by omega))) ?_)))))))
  refine uB (qRg rfl rfl (by omega) (by omega)) ?_
  rw [← hs1e]
  refine uA rfl (qM (qK ?_))
  have f1 := crC_at (i := s1 % 16) (by omega) (0 + ((s1 % 16 : Nat) : Int).toNat * 1) (by omega)
  have ht1 := qYy (show s1 % 16 < 4294967296 by omega)
  have hc1 := qYv 16
  refine qL (qJ (uM rfl (uB (qGf 4 16 rfl rfl (by omega) rfl) ?_)))
  refine uM rfl (uB (qRa 15 4 16 rfl rfl (by omega) rfl rfl (by omega)) ?_)
  refine uB (qKn rfl rfl (hE.t rfl) (by omega) (by omega)) ?_
  refine uL ?_
  refine uB (qRg rfl rfl (by omega) (by omega)) ?_
  refine uA rfl (qM (qK ?_))
  refine w_eq 6 (.int .u32 ((crH s1 : Nat) : Int)) rfl rfl ?_
  obtain ⟨s2, hs2e⟩ : ∃ s2, s2 = crH s1 := ⟨_, rfl⟩
  rw [← hs2e] at hs2 e1 ⊢
  have f2 := crC_at (i := s2 % 16) (by omega) (0 + ((s2 % 16 : Nat) : Int).toNat * 1) (by omega)
  have ht2 := qYy (show s2 % 16 < 4294967296 by omega)
  refine qJ (uM rfl (uB (qGf 4 16 rfl rfl (by omega) rfl) ?_))
  refine uM rfl (uB (qRa 15 4 16 rfl rfl (by omega) rfl rfl (by omega)) ?_)
  refine uB (qKn rfl rfl (hE.t rfl) (by omega) (by omega)) ?_
  refine uL ?_
  refine uB (qRg rfl rfl (by omega) (by omega)) ?_
  refine uA rfl (qM (zJ (qK (qJ (uB (uAa rfl rfl) ?_)))))
  refine uM rfl (qM ?_)
  refine zT (ι := Nat) (j := i + 1) (by omega) (by omega) ⟨rfl, congrArg (fun n : Nat => some (Value.int .u32 (n : Int))) e1.symm, rfl, rfl, congrArg some (zX (by omega)), trivial⟩ uI
 obtain rfl : i = bs.length := by omega
 rw [List.take_length]
 have hsl2 := qYw bs
 refine kJ (qQ (qQ (zI (qK (qL (qJ (uM rfl (uB (y_not32 rfl hsl2) ?_))))))))
 refine uA rfl (qM (qK (kC ?_)))
 exact uZ rfl (.tmp rfl .nil) ⟨rfl, rfl⟩
end
end Go.Proofs.YtddfnkijolfhbaaGreat
--F23
namespace Go.Proofs.YtddfnkijolfhbaaGreat
open Go Go.RowKit Sl Eg
set_option maxRecDepth 10000
section
variable {E : Env}
theorem qNn {p : Option Addr} {c n m sz : Nat} {t : TypeId} {xs : List Value} {k : PH} (h : sl p c t sz n xs k) (hm : m ≤ n) : sl p c t sz m (xs.take (m * sz)) k := by
 obtain ⟨h1, h2⟩ := h
 have hms : m * sz ≤ n * sz := Nat.mul_le_mul_right _ hm
 refine ⟨by rw [List.length_take]; omega, ?_⟩
 rcases h2 with ⟨rfl, rfl, rfl⟩ | ⟨g, cur, rfl, h3, h4, h5, h6, h7⟩
 ·exact .inl ⟨rfl, by omega, rfl⟩
 exact .inr ⟨g, cur, rfl, h3, by omega, h5, h6, by rw [← h7, List.take_take, Nat.min_eq_left hms]⟩
theorem qSe (hE : Seat E) {n c : Nat} {xs : List UInt8} {p : Option Addr} (hn : n < 4294967296) (hl : xs.length ≤ 1099511627776) : Ct E 146 [.slice p xs.length c, .int .u32 (n : Nat)] [sl p c 5 1 xs.length (byC xs)]
  (fun v Q => ∃ g c', v = .slice (some ⟨g, 0, none⟩) (xs ++ be4 n).length c' ∧ Q = [sl (some ⟨g, 0, none⟩) c' 5 1 (xs ++ be4 n).length (byC (xs ++ be4 n))]) := by
 refine zP (hE.fn Tryz.func146) rfl rfl rfl (fun R => ?_)
 simp only [qAe, uV, uW]
 refine qL (qJ (uA rfl (qM (qK (qL (qJ (uM rfl (uM rfl (uB (qGf 24 16777216 rfl rfl (by omega) rfl) ?_)))))))))
 refine uB (qEt rfl (hE.t rfl) (hE.t rfl) (qHs _)) ?_
 refine uM rfl (uB (qGf 16 65536 rfl rfl (by omega) rfl) ?_)
 refine uB (qEt rfl (hE.t rfl) (hE.t rfl) (qHs _)) ?_
 refine uM rfl (uB (qGf 8 256 rfl rfl (by omega) rfl) ?_)
 refine uB (qEt rfl (hE.t rfl) (hE.t rfl) (qHs _)) ?_
 refine uM rfl (uB (qEt rfl (hE.t rfl) (hE.t rfl) (qHs _)) ?_)
 refine uU ?_
 refine qW (hE.t rfl) (hE.t rfl) rfl rfl rfl (fun b17 => ?_)
 refine uU ?_
 apply zV (hE.t rfl) (hE.t rfl) rfl rfl rfl
 ·exact uK
 ·exact uK
 ·rfl
 ·rfl
 ·omega
 ·omega
 ·(unfold maxLen; omega)
 intro g18 c18 n18 x18 hn18 hx18
 refine uA rfl (qM (qK (kC ?_)))
 obtain rfl : x18 = byC (xs ++ be4 n) := by rw [hx18, qBf]; rfl
 obtain rfl : n18 = (xs ++ be4 n).length := by rw [hn18, List.length_append]; rfl
 exact uZ rfl (.tmp rfl .nil) ⟨g18, c18, rfl, rfl⟩
theorem zAz (x y j : Nat) (h : y < 2 ^ j) : x * 2 ^ j ||| y = x * 2 ^ j + y := by
 rw [Nat.mul_comm x, Nat.two_pow_add_eq_or_of_lt h]
theorem or_tk (a b c d : Nat) (ha : a < 256) (hb : b < 256) (hc : c < 256) (hd : d < 256) : (a * 16777216 ||| b * 65536) < 4294967296 ∧ ((a * 16777216 ||| b * 65536) ||| c * 256) < 4294967296 ∧ ((a * 16777216 ||| b * 65536) ||| c * 256) ||| d = a * 16777216 + b * 65536 + c * 256 + d := by
 have e1 : a * 16777216 ||| b * 65536 = (a * 256 + b) * 65536 := by
  have := zAz a (b * 65536) 24 (by omega)
  rw [show (2 : Nat) ^ 24 = 16777216 from rfl] at this
  rw [this]
  omega
 have e2 : (a * 256 + b) * 65536 ||| c * 256 = ((a * 256 + b) * 256 + c) * 256 := by
  have := zAz (a * 256 + b) (c * 256) 16 (by omega)
  rw [show (2 : Nat) ^ 16 = 65536 from rfl] at this
  rw [this]
  omega
 have e3 := zAz ((a * 256 + b) * 256 + c) d 8 (by omega)
 rw [show (2 : Nat) ^ 8 = 256 from rfl] at e3
 rw [e1, e2, e3]
 omega
theorem qFk (hE : Seat E) {b0 b1 b2 b3 : UInt8} {t : List UInt8} {a : Option Addr} {n c : Nat} {q : HP} (hn : n = t.length + 4) (hq : Rdb E.w0 a (byC (b0 :: b1 :: b2 :: b3 :: t)) q) : Ct E 95 [.slice a n c] [q] (fun v Q => v = .int .u32 (tk4 b0 b1 b2 b3 : Nat) ∧ Q = [q]) := by
 obtain ⟨g, o, rfl, hq'⟩ := hq (by simp [byC])
 have h0 := b0.toNat_lt
 have h1 := b1.toNat_lt
 have h2 := b2.toNat_lt
 have h3 := b3.toNat_lt
 have f0 : (byC (b0 :: b1 :: b2 :: b3 :: t))[0]? = some (.int .u8 (b0.toNat : Nat)) := rfl
 have f1 : (byC (b0 :: b1 :: b2 :: b3 :: t))[1]? = some (.int .u8 (b1.toNat : Nat)) := rfl
 have f2 : (byC (b0 :: b1 :: b2 :: b3 :: t))[2]? = some (.int .u8 (b2.toNat : Nat)) := rfl
 have f3 : (byC (b0 :: b1 :: b2 :: b3 :: t))[3]? = some (.int .u8 (b3.toNat : Nat)) := rfl
 obtain ⟨o1, o2, o3⟩ := or_tk b0.toNat b1.toNat b2.toNat b3.toNat (by omega) (by omega) (by omega) (by omega)
 refine zP (hE.fn Tryz.func95) rfl rfl rfl (fun R => ?_)
 simp only [qAe, uV, uW]
 refine qL (qJ (uA rfl (qM (qK (qL ?_)))))
 refine uH ([q]) ?_
 refine uD 0 rfl (qC rfl) ?_
 refine uD 1 rfl (uAi rfl rfl) ?_
 apply zH 2 rfl
 ·(apply zK rfl (hE.t rfl) rfl (by assumption); (focus ((repeat constructor); done)); (first | ((focus exact f0); (focus omega)) | ((focus exact f1); (focus omega)) | ((focus exact f2); (focus omega)) | ((focus exact f3); (focus omega)) | ((focus assumption); (focus omega))))
 ·with_reducible (repeat (first | exact qF | apply qG | apply qH))
 ·kernel_rfl
 ·rfl
 refine uD 3 rfl (kM rfl (hE.t rfl) (hE.t rfl) (by first | exact kN (by omega) (by omega) | exact kP (by omega) (by omega) | exact wr32 (by omega) (by omega))) ?_
 refine uD 4 rfl (qRd 24 16777216 rfl rfl (by omega) rfl (by omega)) ?_
 refine uD 5 rfl (qC rfl) ?_
 refine uD 6 rfl (uAi rfl rfl) ?_
 apply zH 7 rfl
 ·(apply zK rfl (hE.t rfl) rfl (by assumption); (focus ((repeat constructor); done)); (first | ((focus exact f0); (focus omega)) | ((focus exact f1); (focus omega)) | ((focus exact f2); (focus omega)) | ((focus exact f3); (focus omega)) | ((focus assumption); (focus omega))))
 ·with_reducible (repeat (first | exact qF | apply qG | apply qH))
 ·kernel_rfl
 ·rfl
 refine uD 8 rfl (kM rfl (hE.t rfl) (hE.t rfl) (by first | exact kN (by omega) (by omega) | exact kP (by omega) (by omega) | exact wr32 (by omega) (by omega))) ?_
 refine uD 9 rfl (qRd 16 65536 rfl rfl (by omega) rfl (by omega)) ?_
 refine uD 10 rfl (zCp rfl rfl (by omega) (by omega)) ?_
 refine uD 11 rfl (qC rfl) ?_
 refine uD 12 rfl (uAi rfl rfl) ?_
 apply zH 13 rfl
 ·(apply zK rfl (hE.t rfl) rfl (by assumption); (focus ((repeat constructor); done)); (first | ((focus exact f0); (focus omega)) | ((focus exact f1); (focus omega)) | ((focus exact f2); (focus omega)) | ((focus exact f3); (focus omega)) | ((focus assumption); (focus omega))))
 ·with_reducible (repeat (first | exact qF | apply qG | apply qH))
 ·kernel_rfl
 ·rfl
 refine uD 14 rfl (kM rfl (hE.t rfl) (hE.t rfl) (by first | exact kN (by omega) (by omega) | exact kP (by omega) (by omega) | exact wr32 (by omega) (by omega))) ?_
 refine uD 15 rfl (qRd 8 256 rfl rfl (by omega) rfl (by omega)) ?_
 refine uD 16 rfl (zCp rfl rfl (by omega) (by omega)) ?_
 refine uD 17 rfl (qC rfl) ?_
 refine uD 18 rfl (uAi rfl rfl) ?_
 apply zH 19 rfl
 ·(apply zK rfl (hE.t rfl) rfl (by assumption); (focus ((repeat constructor); done)); (first | ((focus exact f0); (focus omega)) | ((focus exact f1); (focus omega)) | ((focus exact f2); (focus omega)) | ((focus exact f3); (focus omega)) | ((focus assumption); (focus omega))))
 ·with_reducible (repeat (first | exact qF | apply qG | apply qH))
 ·kernel_rfl
 ·rfl
 refine uD 20 rfl (kM rfl (hE.t rfl) (hE.t rfl) (by first | exact kN (by omega) (by omega) | exact kP (by omega) (by omega) | exact wr32 (by omega) (by omega))) ?_
 refine uD 21 rfl (zCp rfl rfl (by omega) (by omega)) ?_
 refine uD 22 rfl (qD rfl) ?_
 refine qCc (by kernel_rfl) ?_
 refine qK (kC ?_)
 exact uZ rfl (.tmp rfl .nil) ⟨congrArg (fun n : Nat => Value.int .u32 (n : Int)) o3, rfl⟩
theorem qMj (hE : Seat E) {bs : List UInt8} {a : Option Addr} {c : Nat} {q : HP} (hq : Rdb E.w0 a (byC bs) q) (h1 : 1 ≤ bs.length) (hn : bs.length ≤ 1048576) : Ct E 113 [.slice a bs.length c] [q]
  (fun v Q => ∃ g c', v = .tuple #[.slice (some ⟨g, 0, none⟩) (frm bs).length c', .nilIface] ∧ Q = [sl (some ⟨g, 0, none⟩) c' 5 1 (frm bs).length (byC (frm bs)), q]) := by
 have hcl := qYz bs
 refine zP (hE.fn Tryz.func113) rfl rfl rfl (fun R => ?_)
 simp only [qAe, uV, uW]
 refine qL (qJ (uA rfl (uA rfl (qM (qK (qL (qL (qJ (uM rfl (uB (uBl rfl) ?_))))))))))
 refine uB (y_eq rfl rfl) ?_
 refine qM (qK ?_)
 refine zF rfl (fun c1 => ?_) (fun c1 => ?_)
 ·exfalso
  omega
 refine zC (qK (qL (qL (qJ (uM rfl (uB (uBl rfl) ?_))))))
 refine uB (y_gt rfl rfl) ?_
 refine qM (qK ?_)
 refine zF rfl (fun c2 => ?_) (fun c2 => ?_)
 ·exfalso
  omega
 have hq1 : 1 * (8 + bs.length) ≤ 281474976710656 := by omega
 have hq2 : 8 + bs.length ≤ maxLen := by
  unfold maxLen
  omega
 refine zC (qK (qL (qJ (uM rfl (uB (uBl rfl) ?_)))))
 refine uB (uAa rfl rfl) ?_
 refine uU ?_
 refine qLk (c := 8 + bs.length) (hE.t rfl) (hE.t rfl) rfl rfl hq1 hq2 (fun b16 us16 hu16 => ?_)
 refine uA rfl (qM (qK (qL (qJ (uM rfl (uM rfl (uB (uBl rfl) ?_)))))))
 refine uB (kM rfl (hE.t rfl) (hE.t rfl) (by first | exact kN (by omega) (by omega) | exact kP (by omega) (by omega) | exact wr32 (by omega) (by omega))) ?_
 refine qAx (kE (p := sl (some ⟨b16, 0, none⟩) (8 + bs.length) 5 1 (8 + bs.length) us16) (p' := sl (some ⟨b16, 0, none⟩) (8 + bs.length) 5 1 0 (us16.take (0 * 1))) uK (fun _ h => qNn h (Nat.zero_le _))) ?_
 have hbl4 : (be4 bs.length).length ≤ 1099511627776 := by
  rw [qFc]
  omega
 refine uX (qSe (n := bs.length) (xs := []) hE (by omega) (by simp)) rfl ?_
 rintro _ _ ⟨g1, d1, rfl, rfl⟩
 rw [List.nil_append]
 simp only [uV, uW]
 refine uA rfl (qM (qK (qL (qJ (uM rfl (uM rfl (uX (qMl hE hq (by omega)) rfl ?_)))))))
 rintro _ _ ⟨rfl, rfl⟩
 simp only [uV, uW]
 refine uX (qSe (n := crc bs) (xs := be4 bs.length) hE hcl hbl4) rfl ?_
 rintro _ _ ⟨g2, d2, rfl, rfl⟩
 simp only [uV, uW]
 have hb1 : ((be4 bs.length ++ be4 (crc bs)).length + (byC bs).length) * 1 ≤ 140737488355328 := by
  rw [qAg, List.length_append, qFc, qFc]
  omega
 have hb2 : (be4 bs.length ++ be4 (crc bs)).length + (byC bs).length ≤ maxLen := by
  rw [qAg, List.length_append, qFc, qFc]
  unfold maxLen
  omega
 have hfr : frm bs = be4 bs.length ++ be4 (crc bs) ++ bs := by
  unfold frm
  rw [List.append_assoc]
 refine uA rfl (qM (qK (qL (qJ (uM rfl (uM rfl (uU ?_)))))))
 refine qBp (us := byC bs) (q := q) (hE.t rfl) (hE.t rfl) rfl rfl rfl (qAg _).symm hq uK uK (qBh _) hb1 hb2 (fun pt ct m1 y1 hm1 hy1 => ?_)
 obtain rfl : m1 = (frm bs).length := by rw [hm1, hfr, qAg, List.length_append (bs := bs)]
 obtain rfl : y1 = byC (frm bs) := by rw [hy1, hfr, qBf _ bs]
 refine qGh (p := sl pt ct 5 1 (frm bs).length (byC (frm bs))) uK (fun _ h => qAz h (by rw [qCp]; omega)) ?_
 rintro ⟨g3, rfl⟩
 refine uA rfl (uA rfl (qM (qK (kC ?_))))
 exact uZ rfl (.tmp rfl (.tmp rfl .nil)) ⟨g3, ct, rfl, rfl⟩
end
section
variable {E : Env}
theorem qNg {w0 : World} {a : Option Addr} {Bs : List UInt8} {q : HP} {m : Nat} (h : Rdb w0 a (byC Bs) q) : Rdb w0 a (byC (Bs.take m)) q := fun hne => by
 obtain ⟨g, o, e, hr⟩ := h (qKp (by
  intro e
  rw [e] at hne
  exact hne (by simp [byC])))
 refine ⟨g, o, e, fun u hu i v hv => hr u hu i v ?_⟩
 have e2 : byC (Bs.take m) = (byC Bs).take m := by simp [byC, List.map_take]
 rw [e2, List.getElem?_take] at hv
 split at hv
 ·exact hv
 cases hv
abbrev Py := Option Addr × Nat × List UInt8
abbrev paA (x : Py) : HP := sl x.1 x.2.1 5 1 x.2.2.length (byC x.2.2)
def payP (l : List Py) : HP := qAd (l.map paA)
def paC (l : List Py) : List Value := l.map fun x => .slice x.1 x.2.2.length x.2.1
theorem qSv {l : List Py} {x : Py} {k : PH} (h : qAd [payP l, paA x] k) : payP (l ++ [x]) k := by
 obtain ⟨h1, h2, d, e, hl, hx⟩ := h
 unfold payP
 rw [List.map_append, e]
 exact qDx hl hx d
theorem qOw (a b : List Py) : paC (a ++ b) = paC a ++ paC b := List.map_append
theorem qQh {H : List HP} (k : PH) (h : qAd H k) : qAd (payP [] :: H) k := qGx k h
structure FrG where
 i : Nat
 l : List Py
 a : Option Addr
 c : Nat
 q : Option Addr
 d : Nat
theorem qVo {ps : List (List UInt8)} {i : Nat} {p : List UInt8} (h : ps[i]? = some p) : frs (ps.drop i) = frm p ++ frs (ps.drop (i + 1)) := by
 rw [qDy h]
 unfold frs
 rw [List.flatMap_cons]
theorem qJb : ∀ (ps : List (List UInt8)), 8 * ps.length ≤ (frs ps).length
 | [] => Nat.zero_le _
 | p :: ps => by
  have := qJb ps
  have e : frs (p :: ps) = frm p ++ frs ps := by unfold frs; rw [List.flatMap_cons]
  rw [e, List.length_append, qCp, List.length_cons]
  omega
theorem qVp {ps : List (List UInt8)} {i : Nat} {p : List UInt8} (h : ps[i]? = some p) : (frs (ps.take (i + 1))).length = (frs (ps.take i)).length + (8 + p.length) := by
 rw [List.take_add_one, h]
 simp only [Option.toList_some]
 rw [qDd, qGl, List.length_append, qCp]
 omega
theorem qSd (hE : Seat E) {ps : List (List UInt8)} (hps : ∀ p ∈ ps, 1 ≤ p.length ∧ p.length ≤ 1048576) {a : Option Addr} {c : Nat} {q : HP} (hq : Rdb E.w0 a (byC (frs ps)) q) (hc : (frs ps).length ≤ c) (hl : (frs ps).length ≤ 1000000000) :
  Ct E 65 [.slice a (frs ps).length c] [q]
   (fun v Q => ∃ l p' c', v = .tuple #[.slice p' l.length c', .int .i64 ((frs ps).length : Nat)] ∧ l.map (fun x : Py => x.2.2) = ps ∧ Q = [sl p' c' 57 1 l.length (paC l), payP l, q]) := by
 have hcnt := qJb ps
 refine zP (hE.fn Tryz.func65) rfl rfl rfl (fun R => ?_)
 simp only [qAe, uV, uW]
 refine qL (qJ (uA rfl (uA rfl (qM (qK (qL (qJ (uA rfl (qM (qK (qL (qJ (uA rfl ?_)))))))))))))
 refine qM (qK (qL (zL ?_)))
 refine qAk (qCh (t := 57) (sz := 1)) ?_
 refine qAk qQh ?_
 refine qAj (fun x : FrG => [(0, .slice x.a (frs (ps.drop x.i)).length x.c), (4, .slice x.q x.l.length x.d), (5, .int .i64 ((frs (ps.take x.i)).length : Nat))]) (fun x => [payP x.l, sl x.q x.d 57 1 x.l.length (paC x.l), q, R]) (fun x => ps.length - x.i) (fun x => x.i ≤ ps.length ∧ x.l.map (fun x : Py => x.2.2) = ps.take x.i ∧ Rdb E.w0 x.a (byC (frs (ps.drop x.i))) q ∧ (frs (ps.drop x.i)).length ≤ x.c) ⟨0, [], a, c, none, 0⟩ ⟨Nat.zero_le _, rfl, hq, hc⟩ ⟨rfl, rfl, rfl, trivial⟩ uI ?_
 rintro ⟨i, l, a1, c1, q1, d1⟩ ⟨hi, hlm, hq1, hc1⟩
 simp only at hi hlm hq1 hc1 ⊢
 have hil : l.length = i := by
  have := congrArg List.length hlm
  rw [List.length_map, List.length_take] at this
  omega
 refine qL (qL (qJ (uM rfl (uB (uBl rfl) ?_))))
 refine uB (y_ge rfl rfl) ?_
 refine qM (qK ?_)
 rcases Nat.lt_or_ge i ps.length with hlt | hge
 ·obtain ⟨p, hp⟩ : ∃ p, ps[i]? = some p := ⟨_, List.getElem?_eq_getElem hlt⟩
  obtain ⟨hp1, hp2⟩ := hps p (List.mem_of_getElem? hp)
  have hfr := qVo hp
  have hfl := qCp p
  have hdl : (frs (ps.drop i)).length = p.length + 8 + (frs (ps.drop (i + 1))).length := by rw [hfr, List.length_append, hfl]
  have hft := qVp hp
  have htl : (frs (ps.take (i + 1))).length ≤ (frs ps).length := by
   have e : frs ps = frs (ps.take (i + 1)) ++ frs (ps.drop (i + 1)) := by rw [← qDd, List.take_append_drop]
   rw [e, List.length_append]
   omega
  refine zF rfl (fun h1 => ?_) (fun h1 => ?_)
  ·obtain ⟨X, hX⟩ : ∃ X, X = frs (ps.drop (i + 1)) := ⟨_, rfl⟩
   rw [← hX] at hfr hdl
   obtain ⟨Z, hZ⟩ : ∃ Z, Z = frs (ps.drop i) := ⟨_, rfl⟩
   rw [← hZ] at hfr hdl hq1 hc1 h1
   rw [← hZ]
   have e4 : Z = UInt8.ofNat (p.length / 16777216) :: UInt8.ofNat (p.length / 65536) :: UInt8.ofNat (p.length / 256) :: UInt8.ofNat p.length :: ((be4 (crc p) ++ p) ++ X) := hfr
   have e5 : Z.drop 4 = UInt8.ofNat (crc p / 16777216) :: UInt8.ofNat (crc p / 65536) :: UInt8.ofNat (crc p / 256) :: UInt8.ofNat (crc p) :: (p ++ X) := by rw [hfr]; rfl
   have e8 : (Z.drop 8).take p.length = p := by
    have : Z.drop 8 = p ++ X := by rw [hfr]; rfl
    rw [this, List.take_left']
    rfl
   have hq4 := hq1
   rw [e4] at hq4
   have hq5 := qBz (k := 4) hq1 hc1
   rw [e5] at hq5
   have hqp := qNg (m := p.length) (qBz (k := 8) hq1 hc1)
   rw [e8] at hqp
   have hn4 : Z.length = ((be4 (crc p) ++ p) ++ X).length + 4 := by
    rw [List.length_append, List.length_append, qFc]
    omega
   have hn5 : Z.length - 4 = (p ++ X).length + 4 := by
    rw [List.length_append]
    omega
   have hcl := qYz p
   have hZl : Z.length ≤ (frs ps).length := by
    have e : frs ps = frs (ps.take i) ++ Z := by rw [hZ, ← qDd, List.take_append_drop]
    rw [e, List.length_append]
    omega
   refine zC (qK (zL (qL (qJ (uM rfl (uX (qFk hE hn4 hq4) rfl ?_))))))
   rintro _ _ ⟨rfl, rfl⟩
   simp only [uV, uW]
   rw [qRk (by omega)]
   refine uB (uAc rfl) ?_
   refine uA rfl (qM (qK (qL (qL (qJ (uM rfl (uB (y_lt rfl rfl) ?_)))))))
   refine uM rfl ?_
   refine qAl 16 rfl (fun g1 => ?_) (fun g1 => ?_)
   ·exfalso
    omega
   refine kQ rfl rfl (uM rfl (kQ rfl rfl (uB (y_gt rfl rfl) ?_)))
   refine uB (qZ rfl rfl) ?_
   refine uM rfl ?_
   refine qAl 20 rfl (fun g2 => ?_) (fun g2 => ?_)
   ·exfalso
    omega
   refine kQ rfl rfl (uM rfl (kQ rfl rfl (uM rfl (kQ rfl rfl (uB (uBl rfl) ?_)))))
   refine kQ rfl rfl (uB (uAs rfl rfl) ?_)
   refine kQ rfl rfl (uB (y_gt rfl rfl) ?_)
   refine uB (qZ rfl rfl) ?_
   refine qM (qK ?_)
   refine zF rfl (fun g3 => ?_) (fun g3 => ?_)
   ·exfalso
    omega
   refine zC (qK (qL (qJ (uM rfl (uM rfl (uB (uAa rfl rfl) ?_))))))
   refine uB (qBv (l := 8) (h := 8 + p.length) rfl (hE.t rfl) ⟨_, rfl⟩ ⟨_, rfl⟩ (by omega) (by omega)) ?_
   refine l_eq 30 (.slice (vwA a1 c1 8) p.length (c1 - 8)) rfl (congrArg (fun z => Value.slice _ z _) (by omega)) ?_
   refine uA rfl (qM (qK (qL (qL ?_))))
   refine uH ([q]) ?_
   refine uD 0 rfl (qC rfl) ?_
   refine uD 2 rfl (qC rfl) ?_
   refine uD 3 rfl (qBv (l := 4) (h := Z.length) rfl (hE.t rfl) ⟨_, rfl⟩ rfl (by omega) (by omega)) ?_
   apply kL 1 rfl (by kernel_rfl) rfl
   refine uC (qMl hE hqp (by omega)) rfl ?_
   rintro _ _ ⟨rfl, rfl⟩
   simp only [uV, uW]
   refine uE ?_
   apply kL 4 rfl (by kernel_rfl) rfl
   refine uC (qFk (a := vwA a1 c1 4) (c := c1 - 4) hE hn5 hq5) rfl ?_
   rintro _ _ ⟨rfl, rfl⟩
   simp only [uV, uW]
   rw [qRk hcl]
   refine uE ?_
   refine uD 5 rfl (y_ne rfl rfl) ?_
   refine qCc (by kernel_rfl) ?_
   refine qK ?_
   refine zF rfl (fun g4 => ?_) (fun g4 => ?_)
   ·exfalso
    exact g4 rfl
   have e9 : Z.drop (8 + p.length) = X := by
    rw [hfr]
    exact List.drop_left' (by rw [hfl]; omega)
   have hq9 := qBz (k := 8 + p.length) hq1 hc1
   rw [e9] at hq9
   have hXl : X.length = Z.length - (8 + p.length) := by omega
   refine zC (qK (qL (qJ (uM rfl (uM rfl (uX (qLv hE hqp (by omega)) rfl ?_))))))
   rintro _ _ ⟨cp, cc, rfl, rfl⟩
   simp only [uV, uW]
   refine qAx (qAm (ps := [payP l, paA (cp, cc, p)]) (p := payP (l ++ [(cp, cc, p)])) uK (fun k h => qSv h)) ?_
   refine uU ?_
   refine qW (hE.t rfl) (hE.t rfl) rfl rfl rfl (fun b40 => ?_)
   refine uU ?_
   apply zV (hE.t rfl) (hE.t rfl) rfl rfl rfl
   ·exact uK
   ·exact uK
   ·rfl
   ·rfl
   ·omega
   ·omega
   ·(unfold maxLen; omega)
   intro g41 c41 n41 x41 hn41 hx41
   refine uA rfl (qM (qK ?_))
   obtain rfl : x41 = paC (l ++ [(cp, cc, p)]) := by rw [hx41, qOw]; rfl
   obtain rfl : n41 = (l ++ [((cp, cc, p) : Py)]).length := by rw [hn41, List.length_append]; rfl
   refine qL (qJ (uM rfl (uM rfl (uB (uAa rfl rfl) ?_))))
   refine uB (qBv (l := 8 + p.length) (h := Z.length) rfl (hE.t rfl) ⟨_, rfl⟩ rfl (by omega) (by omega)) ?_
   refine l_eq 45 (.slice (vwA a1 c1 (8 + p.length)) X.length (c1 - (8 + p.length))) rfl (congrArg (fun z => Value.slice _ z _) (by omega)) ?_
   refine uA rfl (qM (qK (qJ (uM rfl (uM rfl (uB (uAa rfl rfl) ?_))))))
   refine uB (uAa rfl rfl) ?_
   refine uA rfl (qM (zJ ?_))
   refine zT (ι := FrG) (j := ⟨i + 1, l ++ [(cp, cc, p)], vwA a1 c1 (8 + p.length), c1 - (8 + p.length), some ⟨g41, 0, none⟩, c41⟩) ⟨by simp only; omega, ?_, by simp only; rw [← hX]; exact hq9, by simp only; rw [← hX]; omega⟩ (by simp only; omega) ⟨?_, rfl, congrArg some (zX (by simp only; omega)), trivial⟩ uI
   ·simp only
    rw [List.map_append, hlm, List.take_add_one, hp]
    rfl
   simp only
   rw [← hX]
   rfl
  exfalso
  omega
 obtain rfl : i = ps.length := by omega
 have e0 : frs (ps.drop ps.length) = [] := by rw [List.drop_length]; rfl
 refine zF rfl (fun h1 => ?_) (fun h1 => ?_)
 ·exfalso
  rw [e0] at h1
  simp at h1
 rw [List.take_length] at hlm ⊢
 refine kJ (qQ (qQ (zI (qK (qL (qJ (uM rfl (uM rfl (uA rfl (uA rfl (qM (qK (kC ?_)))))))))))))
 exact uZ rfl (.tmp rfl (.tmp rfl .nil)) ⟨l, q1, d1, rfl, hlm, rfl⟩
end
section
variable {E : Env}
theorem qFw (hE : Seat E) {p : Pwr} {a : Nat} {n0 n1 : List UInt8} {x1 : Option Fl} (hn : okN n0) :
  Ct E 36 [uPt a, .string ⟨⟨n0⟩⟩] [fsP a n0 n1 none x1 p] (fun v Q => ∃ l, v = .tuple #[uPt l, .slice none 0 0, .nilIface] ∧ Q = [fsP a n0 n1 none x1 p, cells l [uPt a, .string ⟨⟨n0⟩⟩, .int .i64 (0 : Nat), .int .i64 (0 : Nat), .bool false] 137]) := by
 have hs : (⟨⟨n0⟩⟩ : ByteArray).size = n0.length := rfl
 obtain ⟨h1, h2⟩ := hn
 refine zP (hE.fn Tryz.func36) rfl rfl rfl (fun R => ?_)
 simp only [qAe, uV, uW]
 refine qL (qJ (uA rfl (uA rfl (uA rfl (qM (qK (qL (qL (qJ (uM rfl (uB (qAy rfl (hE.t rfl)) ?_)))))))))))
 refine qM (qK (zD rfl (zC (qK (qL (qL (qJ (uM rfl (uB (qBy rfl (hE.t rfl)) ?_)))))))))
 refine uB (y_lt rfl rfl) ?_
 refine uM rfl ?_
 refine qAl 19 rfl (fun c1 => ?_) (fun c1 => ?_)
 ·exfalso
  omega
 refine kQ rfl rfl (uM rfl (kQ rfl rfl (uB (qBy rfl (hE.t rfl)) ?_)))
 refine kQ rfl rfl (uB (y_gt rfl rfl) ?_)
 refine uB (qZ rfl rfl) ?_
 refine qM (qK ?_)
 refine zF rfl (fun c2 => ?_) (fun c2 => ?_)
 ·exfalso
  omega
 refine zC (qK (qL (qJ (uM rfl (uM rfl (uB (qBc (hE.t rfl) rfl rfl) ?_))))))
 refine uU ?_
 refine qBt rfl (fun b28 => ?_)
 refine uA rfl (qM (qK (qL (qJ (uM rfl (uM rfl (uX (qOh hE ⟨h1, h2⟩) rfl ?_)))))))
 rintro _ _ ⟨rfl, rfl⟩
 simp only [uV, uW]
 refine uM rfl (uB (qV rfl rfl) (uB (qV rfl rfl) (uA rfl (uA rfl (qM (qK (qL (qL (qJ (uM rfl ?_))))))))))
 refine uB (qCi rfl (hE.t rfl)) ?_
 refine qM (qK (zG rfl (qL (qJ (uM rfl (uA rfl (uA rfl (uA rfl (qM (qK (kC (qX ?_))))))))))))
 exact uZ rfl (.tmp rfl (.tmp rfl (.tmp rfl .nil))) ⟨b28, rfl, rfl⟩
theorem qMk (hE : Seat E) {p : Pwr} {a : Nat} {n0 n1 : List UInt8} {x : Fl} {x1 : Option Fl} {ps : List (List UInt8)} (hn : okN n0) (hps : ∀ p ∈ ps, 1 ≤ p.length ∧ p.length ≤ 1048576) (hx : x.data = frs ps) (hl : (frs ps).length ≤ 1000000000) :
  Ct E 36 [uPt a, .string ⟨⟨n0⟩⟩] [fsP a n0 n1 (some x) x1 p] (fun v Q => ∃ l ys q c, v = .tuple #[uPt l, .slice q ys.length c, .nilIface] ∧ ys.map (fun x : Py => x.2.2) = ps ∧ Q = [fsP a n0 n1 (some x) x1 p, cells l [uPt a, .string ⟨⟨n0⟩⟩, .int .i64 (ys.length : Nat), .int .i64 ((frs ps).length : Nat), .bool false] 137, sl q c 57 1 ys.length (paC ys), payP ys]) := by
 have hs : (⟨⟨n0⟩⟩ : ByteArray).size = n0.length := rfl
 obtain ⟨h1, h2⟩ := hn
 have hxl : x.data.length ≤ 1099511627776 := by
  rw [hx]
  omega
 refine zP (hE.fn Tryz.func36) rfl rfl rfl (fun R => ?_)
 simp only [qAe, uV, uW]
 refine qL (qJ (uA rfl (uA rfl (uA rfl (qM (qK (qL (qL (qJ (uM rfl (uB (qAy rfl (hE.t rfl)) ?_)))))))))))
 refine qM (qK (zD rfl (zC (qK (qL (qL (qJ (uM rfl (uB (qBy rfl (hE.t rfl)) ?_)))))))))
 refine uB (y_lt rfl rfl) ?_
 refine uM rfl ?_
 refine qAl 19 rfl (fun c1 => ?_) (fun c1 => ?_)
 ·exfalso
  omega
 refine kQ rfl rfl (uM rfl (kQ rfl rfl (uB (qBy rfl (hE.t rfl)) ?_)))
 refine kQ rfl rfl (uB (y_gt rfl rfl) ?_)
 refine uB (qZ rfl rfl) ?_
 refine qM (qK ?_)
 refine zF rfl (fun c2 => ?_) (fun c2 => ?_)
 ·exfalso
  omega
 refine zC (qK (qL (qJ (uM rfl (uM rfl (uB (qBc (hE.t rfl) rfl rfl) ?_))))))
 refine uU ?_
 refine qBt rfl (fun b28 => ?_)
 refine uA rfl (qM (qK (qL (qJ (uM rfl (uM rfl (uX (qRu hE ⟨h1, h2⟩ hxl) rfl ?_)))))))
 rintro _ _ ⟨q, c, rfl, rfl⟩
 rw [hx]
 simp only [uV, uW]
 refine uM rfl (uB (qV rfl rfl) (uB (qV rfl rfl) (uA rfl (uA rfl (qM (qK (qL (qL (qJ (uM rfl ?_))))))))))
 refine uB (qAf rfl (hE.t rfl)) ?_
 refine qM (qK (zD rfl ?_))
 refine qCw (p := sl q c 5 1 (frs ps).length (byC (frs ps))) uK (fun _ h => (qDt h).1) ?_
 intro hcap
 refine qCw (p := sl q c 5 1 (frs ps).length (byC (frs ps))) uK (fun _ h => fun hpos => qAz h hpos) ?_
 intro hpt
 have hqs : Rdb E.w0 q (byC (frs ps)) (sl q c 5 1 (frs ps).length (byC (frs ps))) := qCv (qAg _) hpt
 refine zC (qK (qL (qJ (uM rfl (uX (qSd hE hps hqs hcap hl) rfl ?_)))))
 rintro _ _ ⟨ys, q2, c2', rfl, hys, rfl⟩
 simp only [uV, uW]
 refine uM rfl (uB (qV rfl rfl) (uB (qV rfl rfl) (uA rfl (uA rfl (qM (qK (qL (qL (qJ (uM rfl (uM rfl (uB (uBl rfl) ?_))))))))))))
 refine uB (y_lt rfl rfl) ?_
 refine qM (qK ?_)
 refine zF rfl (fun c3 => ?_) (fun c3 => ?_)
 ·exfalso
  omega
 refine zC (qK (qL (qJ (uM rfl (uM rfl (uB (uBl rfl) ?_))))))
 refine uB (zB rfl) ?_
 refine uB (uBf rfl) ?_
 refine uU (uS ?_)
 refine qM (qK (qL (qJ (uM rfl (uM rfl (uB (zB rfl) ?_))))))
 refine uB (uBf rfl) ?_
 refine uU (uS ?_)
 refine qM (qK (qL (qJ (uM rfl (uM rfl (uA rfl (uA rfl (uA rfl (qM (qK (kC ?_)))))))))))
 exact uZ rfl (.tmp rfl (.tmp rfl (.tmp rfl .nil))) ⟨b28, ys, q2, c2', rfl, hys, rfl⟩
theorem qKs (hE : Seat E) {p : Pwr} {a l ct sz c : Nat} {n0 n1 bs : List UInt8} {x0 x1 : Option Fl} {e : Option Addr} {q : HP} (hp : p.up) (hn : okN n0) (hq : Rdb E.w0 e (byC bs) q) (h1 : 1 ≤ bs.length) (h2 : bs.length ≤ 1048576) (hl : flen x0 + bs.length + 8 ≤ 16777216) (hct : ct ≤ 1000000000) (hsz : sz ≤ 1000000000) :
  Ct E 74 [uPt l, .slice e bs.length c] [cells l [uPt a, .string ⟨⟨n0⟩⟩, .int .i64 (ct : Nat), .int .i64 (sz : Nat), .bool false] 137, fsP a n0 n1 x0 x1 p, q] (fun v Q => v = .nilIface ∧ Q = [cells l [uPt a, .string ⟨⟨n0⟩⟩, .int .i64 ((ct + 1) : Nat), .int .i64 ((sz + (frm bs).length) : Nat), .bool false] 137, fsP a n0 n1 (some (apF x0 (frm bs))) x1 p.fin, q]) := by
 have hfl := qCp bs
 refine zP (hE.fn Tryz.func74) rfl rfl rfl (fun R => ?_)
 simp only [qAe, uV, uW]
 refine qL (qJ (uA rfl (qM (qK (qL (qL (qJ (uM rfl (uB (qAy rfl (hE.t rfl)) ?_)))))))))
 refine uM rfl (kQ rfl rfl (uM rfl (kQ rfl rfl (uB (zB rfl) ?_))))
 refine kQ rfl rfl (uB (uBf rfl) ?_)
 refine kQ rfl rfl (uL ?_)
 refine kQ rfl rfl (uB (qAy rfl (hE.t rfl)) ?_)
 refine uB (qZ rfl rfl) ?_
 refine qM (qK (zD rfl (zC (qK (qL (qL (qJ (uM rfl (uB (zB rfl) ?_)))))))))
 refine uB (uBf rfl) ?_
 refine uL ?_
 refine qM (qK (zD rfl (zC (qK (qL (qJ (uM rfl (uX (qMj hE hq h1 h2) rfl ?_))))))))
 rintro _ _ ⟨g, c', rfl, rfl⟩
 simp only [uV, uW]
 refine uM rfl (uB (qV rfl rfl) (uB (qV rfl rfl) (uA rfl (uA rfl (qM (qK (qL (qL (qJ (uM rfl ?_))))))))))
 refine uB (qAf rfl (hE.t rfl)) ?_
 refine qM (qK (zD rfl ?_))
 have hqf : Rdb E.w0 (some ⟨g, 0, none⟩) (byC (frm bs)) (sl (some ⟨g, 0, none⟩) c' 5 1 (frm bs).length (byC (frm bs))) := qCv (qAg _) (fun _ => ⟨g, rfl⟩)
 have hfa : flen x0 + (frm bs).length ≤ 16777216 := by omega
 refine zC (qK (qL (qL ?_)))
 refine uH ([cells l [uPt a, .string ⟨⟨n0⟩⟩, .int .i64 (ct : Nat), .int .i64 (sz : Nat), .bool false] 137]) ?_
 refine uD 0 rfl (qC rfl) ?_
 refine uD 1 rfl (zB rfl) ?_
 refine uD 2 rfl (uBf rfl) ?_
 refine uD 3 rfl (uY) ?_
 refine uD 4 rfl (qC rfl) ?_
 refine uD 5 rfl (zB rfl) ?_
 refine uD 6 rfl (uBf rfl) ?_
 refine uD 7 rfl (uY) ?_
 refine uD 8 rfl (qC rfl) ?_
 apply kL 9 rfl (by kernel_rfl) rfl
 refine uC (qTu (bs := frm bs) hE hp hn hqf hfa) rfl ?_
 rintro _ _ ⟨rfl, rfl⟩
 simp only [uV, uW]
 refine uE ?_
 refine uD 10 rfl (qD rfl) ?_
 refine qCc (by kernel_rfl) ?_
 refine qK (qL (qJ (uM rfl (uB (qAf rfl (hE.t rfl)) ?_))))
 refine qM (qK (zD rfl (zC (qK (qL (qJ (uM rfl (uB (zB rfl) ?_))))))))
 refine uB (uBf rfl) ?_
 refine uL ?_
 refine uB (uAa rfl rfl) ?_
 refine l_eq 51 (.int .i64 ((ct + 1 : Nat) : Int)) rfl (zX (by omega)) ?_
 refine uB (zB rfl) ?_
 refine uB (uBf rfl) ?_
 refine uU (uS ?_)
 refine qM (qK (qL (qJ (uM rfl (uB (zB rfl) ?_)))))
 refine uB (uBf rfl) ?_
 refine uL ?_
 refine uM rfl (uB (uBl rfl) ?_)
 refine uB (uAa rfl rfl) ?_
 refine l_eq 60 (.int .i64 ((sz + (frm bs).length : Nat) : Int)) rfl (zX (by omega)) ?_
 refine uB (zB rfl) ?_
 refine uB (uBf rfl) ?_
 refine uU (uS ?_)
 refine qM (qK (qL (qJ (uA rfl (qM (qK (kC ?_)))))))
 exact uZ rfl (.tmp rfl .nil) ⟨rfl, rfl⟩
theorem qXh (hE : Seat E) {p : Pwr} {a l ct sz : Nat} {n0 n1 : List UInt8} {x : Fl} {x1 : Option Fl} (hp : p.up) (hn : okN n0) (hct : 1 ≤ ct) :
  Ct E 75 [uPt l] [cells l [uPt a, .string ⟨⟨n0⟩⟩, .int .i64 (ct : Nat), .int .i64 (sz : Nat), .bool false] 137, fsP a n0 n1 (some x) x1 p] (fun v Q => v = .nilIface ∧ Q = [cells l [uPt a, .string ⟨⟨n0⟩⟩, .int .i64 (ct : Nat), .int .i64 (sz : Nat), .bool false] 137, fsP a n0 n1 (some ⟨x.data, x.data.length⟩) x1 p.fin]) := by
 refine zP (hE.fn Tryz.func75) rfl rfl rfl (fun R => ?_)
 simp only [qAe, uV, uW]
 refine qL (qJ (uA rfl (qM (qK (qL (qL (qJ (uM rfl (uB (qAy rfl (hE.t rfl)) ?_)))))))))
 refine uM rfl (kQ rfl rfl (uM rfl (kQ rfl rfl (uB (zB rfl) ?_))))
 refine kQ rfl rfl (uB (uBf rfl) ?_)
 refine kQ rfl rfl (uL ?_)
 refine kQ rfl rfl (uB (qAy rfl (hE.t rfl)) ?_)
 refine uB (qZ rfl rfl) ?_
 refine qM (qK (zD rfl (zC (qK (qL (qL (qJ (uM rfl (uB (zB rfl) ?_)))))))))
 refine uB (uBf rfl) ?_
 refine uL ?_
 refine qM (qK (zD rfl (zC (qK (qL (qL (qJ (uM rfl (uB (zB rfl) ?_)))))))))
 refine uB (uBf rfl) ?_
 refine uL ?_
 refine uB (y_eq rfl rfl) ?_
 refine qM (qK ?_)
 refine zF rfl (fun c1 => ?_) (fun c1 => ?_)
 ·exfalso
  omega
 refine zC (qK (qL (qL ?_)))
 refine uH ([cells l [uPt a, .string ⟨⟨n0⟩⟩, .int .i64 (ct : Nat), .int .i64 (sz : Nat), .bool false] 137]) ?_
 refine uD 0 rfl (qC rfl) ?_
 refine uD 1 rfl (zB rfl) ?_
 refine uD 2 rfl (uBf rfl) ?_
 refine uD 3 rfl (uY) ?_
 refine uD 4 rfl (qC rfl) ?_
 refine uD 5 rfl (zB rfl) ?_
 refine uD 6 rfl (uBf rfl) ?_
 refine uD 7 rfl (uY) ?_
 apply kL 8 rfl (by kernel_rfl) rfl
 refine uC (qZh hE hp hn) rfl ?_
 rintro _ _ ⟨rfl, rfl⟩
 simp only [uV, uW]
 refine uE ?_
 refine uD 9 rfl (qD rfl) ?_
 refine qCc (by kernel_rfl) ?_
 refine qK (qL (qJ (uM rfl (uB (qAf rfl (hE.t rfl)) ?_))))
 refine qM (qK (zD rfl (zC (qK (qL (qJ (uA rfl (qM (qK (kC ?_))))))))))
 exact uZ rfl (.tmp rfl .nil) ⟨rfl, rfl⟩
end
end Go.Proofs.YtddfnkijolfhbaaGreat
