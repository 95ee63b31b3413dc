import Derived.Test.YtddfnkijolfhbaaGreatQ9G
set_option linter.all false
set_option maxHeartbeats 1000000
namespace Go.Proofs.YtddfnkijolfhbaaGreat
open Go Go.RowKit Sl Eg
set_option maxRecDepth 10000
section
variable {E : Env}
def Pwr.out : Pwr := ⟨false, true, 0⟩
def Pwr.dead : Pwr := ⟨true, true, 0⟩
def Pwr.lft (n : Nat) : Pwr := ⟨false, true, n⟩
theorem Pwr.lft_up {n : Nat} (h : 1 ≤ n) (h2 : n ≤ 1000000) : (Pwr.lft n).up := ⟨rfl, fun _ => ⟨h, h2⟩⟩
theorem Pwr.lft_fin (n : Nat) : (Pwr.lft (n + 1)).fin = Pwr.lft n := rfl
theorem qIb (hE : Seat E) {a b g c : Nat} {ns : List (List UInt8)} (hn : ns.length ≤ 1000) (hv : ∀ x ∈ ns, okN x) : Ct E 92 [uPt a, .slice (some ⟨g, 0, none⟩) ns.length c] [cells a [.map (some b), .bool Pwr.out.off, .bool Pwr.out.lim, .int .i64 (Pwr.out.left : Nat)] 77, sl (some ⟨g, 0, none⟩) c 9 1 ns.length (nmC ns)]
  (fun v Q => v = .iface 31 (.int .i64 8) ∧ Q = [cells a [.map (some b), .bool Pwr.dead.off, .bool Pwr.dead.lim, .int .i64 (Pwr.dead.left : Nat)] 77, sl (some ⟨g, 0, none⟩) c 9 1 ns.length (nmC ns)]) := by
 show Ct E 92 [uPt a, .slice (some ⟨g, 0, none⟩) ns.length c] [cells a [.map (some b), .bool false, .bool true, .int .i64 ((0 : Nat) : Int)] 77, sl (some ⟨g, 0, none⟩) c 9 1 ns.length (nmC ns)]
  (fun v Q => v = .iface 31 (.int .i64 8) ∧ Q = [cells a [.map (some b), .bool true, .bool true, .int .i64 ((0 : Nat) : Int)] 77, sl (some ⟨g, 0, none⟩) c 9 1 ns.length (nmC ns)])
 refine zP (hE.fn Tryz.func92) rfl rfl rfl (fun R => ?_)
 simp only [qAe, uV, uW]
 refine qL (qJ (uA rfl (qM (qK (qL (qL (qJ (uM rfl (uB (qAy rfl (hE.t rfl)) ?_)))))))))
 refine qM (qK (zD rfl (zC (qK (qL (qL (qJ (uM rfl (uB (uBl rfl) ?_)))))))))
 refine uM rfl (qM (qK (zL ?_)))
 refine qAj (fun i : Nat => [(0, uPt a), (10, .slice (some ⟨g, 0, none⟩) ns.length c), (11, .int .i64 (ns.length : Nat)), (12, .int .i64 (i : Nat))]) (fun i => [cells a [.map (some b), .bool false, .bool true, .int .i64 ((0 : Nat) : Int)] 77, sl (some ⟨g, 0, none⟩) c 9 1 ns.length (nmC ns), R]) (fun i => ns.length - i) (fun i => i ≤ ns.length) 0 (Nat.zero_le _) ⟨rfl, rfl, rfl, rfl, trivial⟩ uI ?_
 rintro i hi
 refine qL (qJ (uB (y_lt rfl rfl) ?_))
 refine qM (qK (qL ?_))
 refine zF rfl (fun c1 => ?_) (fun c1 => ?_)
 ·obtain ⟨x, hx⟩ : ∃ x, ns[i]? = some x := ⟨_, List.getElem?_eq_getElem (by omega)⟩
  have f0 := qJf hx (((i : Nat) : Int).toNat) (by omega)
  refine zC (qK (qL (zL (qL (qJ (uB (uAj rfl rfl) ?_))))))
  refine uL ?_
  refine uA rfl (qM (qK (qL (qJ (uM rfl (uX (qOi hE (hv x (List.mem_of_getElem? hx))) rfl ?_))))))
  rintro _ _ ⟨rfl, rfl⟩
  simp only [uV, uW]
  refine uB (qBm rfl) ?_
  refine qM (qK (zD rfl (zC (zJ (qK (qJ (uB (uAa rfl rfl) ?_)))))))
  refine uM rfl (qM ?_)
  refine zT (ι := Nat) (j := i + 1) (by omega) (by omega) ⟨rfl, rfl, rfl, congrArg some (zX (by omega)), trivial⟩ uI
 refine kJ (qQ (qQ (zI (qK (qL (qL (qJ ?_)))))))
 refine uM rfl (uB (zB rfl) ?_)
 refine uB (uBf rfl) ?_
 refine uL ?_
 refine uM rfl (kQ rfl rfl (uM rfl (kQ rfl rfl (uB (zB rfl) ?_))))
 refine kQ rfl rfl (uB (uBf rfl) ?_)
 refine kQ rfl rfl (uL ?_)
 refine kQ rfl rfl (uB (y_eq rfl rfl) ?_)
 refine uB (qY rfl rfl) ?_
 refine qM (qK ?_)
 refine zF rfl (fun c2 => ?_) (fun c2 => ?_)
 ·refine qJ ?_
  refine uM rfl (uB (zB rfl) ?_)
  refine uB (uBf rfl) ?_
  refine uU (uS ?_)
  refine qM (qK (qL (qL (qJ (uM rfl (uB (zB rfl) ?_))))))
  refine uB (uBf rfl) ?_
  refine uL ?_
  refine qM (qK (zG rfl (qL (qJ (uB (qHd rfl (hE.t rfl) rfl) ?_)))))
  refine uA rfl (qM (qK (kC (qX ?_))))
  exact uZ rfl (.tmp rfl .nil) ⟨rfl, rfl⟩
 exact absurd rfl c2
theorem qRt (hE : Seat E) {a c : Nat} {n0 n1 bs : List UInt8} {x0 x1 : Option Fl} {e : Option Addr} (hn : okN n0) :
  Ct E 114 [uPt a, .string ⟨⟨n0⟩⟩, .slice e bs.length c] [fsP a n0 n1 x0 x1 Pwr.out] (fun v Q => v = .iface 31 (.int .i64 8) ∧ Q = [fsP a n0 n1 x0 x1 Pwr.dead]) := by
 have hv : ∀ x ∈ [n0], okN x := fun x h => by simp at h; subst h; exact hn
 refine Sl.ct_open (p := fsP a n0 n1 x0 x1 Pwr.out) (ps := fun i : FsG => [cells a [.map (some i.b), .bool Pwr.out.off, .bool Pwr.out.lim, .int .i64 (Pwr.out.left : Nat)] 77, qAb i.b (fmF n0 n1 i.p0 i.p1), oflP i.p0 x0, oflP i.p1 x1]) (fun k h => h) ?_
 rintro ⟨ib, ip, iq⟩
 simp only
 refine zP (hE.fn Tryz.func114) rfl rfl rfl (fun R => ?_)
 simp only [qAe, uV, uW]
 refine qL (qJ (uA rfl (qM (qK (qL (qL (qJ (uM rfl (uM rfl (uU ?_))))))))))
 refine qW (hE.t rfl) (hE.t rfl) rfl rfl rfl (fun b12 => ?_)
 refine qAx (kE (p := cells b12 [.string ⟨⟨n0⟩⟩] 9) (p' := sl (some ⟨b12, 0, none⟩) 1 9 1 1 (nmC [n0])) uK (qAr rfl (by unfold maxLen; omega))) ?_
 refine uX (qIb (ns := [n0]) hE (by simp) hv) rfl ?_
 rintro _ _ ⟨rfl, rfl⟩
 simp only [uV, uW]
 refine qAx (qAm (ps := [cells a [.map (some ib), .bool Pwr.dead.off, .bool Pwr.dead.lim, .int .i64 (Pwr.dead.left : Nat)] 77, qAb ib (fmF n0 n1 ip iq), oflP ip x0, oflP iq x1]) (p := fsP a n0 n1 x0 x1 Pwr.dead) uK (fun k h => ⟨⟨ib, ip, iq⟩, h⟩)) ?_
 refine uA rfl (qM (qK (qL (qJ (uM rfl (uB (qCi rfl (hE.t rfl)) ?_))))))
 refine qM (qK (zG rfl (qL (qJ (uM rfl (uA rfl (qM (qK (kC (qX ?_))))))))))
 exact uZ rfl (.tmp rfl .nil) ⟨rfl, rfl⟩
theorem qWy (hE : Seat E) {a : Nat} {n0 n1 : List UInt8} {x0 x1 : Option Fl} (hn : okN n0) :
  Ct E 115 [uPt a, .string ⟨⟨n0⟩⟩] [fsP a n0 n1 x0 x1 Pwr.out] (fun v Q => v = .iface 31 (.int .i64 8) ∧ Q = [fsP a n0 n1 x0 x1 Pwr.dead]) := by
 have hv : ∀ x ∈ [n0], okN x := fun x h => by simp at h; subst h; exact hn
 refine Sl.ct_open (p := fsP a n0 n1 x0 x1 Pwr.out) (ps := fun i : FsG => [cells a [.map (some i.b), .bool Pwr.out.off, .bool Pwr.out.lim, .int .i64 (Pwr.out.left : Nat)] 77, qAb i.b (fmF n0 n1 i.p0 i.p1), oflP i.p0 x0, oflP i.p1 x1]) (fun k h => h) ?_
 rintro ⟨ib, ip, iq⟩
 simp only
 refine zP (hE.fn Tryz.func115) rfl rfl rfl (fun R => ?_)
 simp only [qAe, uV, uW]
 refine qL (qJ (uA rfl (qM (qK (qL (qL (qJ (uM rfl (uM rfl (uU ?_))))))))))
 refine qW (hE.t rfl) (hE.t rfl) rfl rfl rfl (fun b10 => ?_)
 refine qAx (kE (p := cells b10 [.string ⟨⟨n0⟩⟩] 9) (p' := sl (some ⟨b10, 0, none⟩) 1 9 1 1 (nmC [n0])) uK (qAr rfl (by unfold maxLen; omega))) ?_
 refine uX (qIb (ns := [n0]) hE (by simp) hv) rfl ?_
 rintro _ _ ⟨rfl, rfl⟩
 simp only [uV, uW]
 refine qAx (qAm (ps := [cells a [.map (some ib), .bool Pwr.dead.off, .bool Pwr.dead.lim, .int .i64 (Pwr.dead.left : Nat)] 77, qAb ib (fmF n0 n1 ip iq), oflP ip x0, oflP iq x1]) (p := fsP a n0 n1 x0 x1 Pwr.dead) uK (fun k h => ⟨⟨ib, ip, iq⟩, h⟩)) ?_
 refine uA rfl (qM (qK (qL (qJ (uM rfl (uB (qCi rfl (hE.t rfl)) ?_))))))
 refine qM (qK (zG rfl (qL (qJ (uM rfl (uA rfl (qM (qK (kC (qX ?_))))))))))
 exact uZ rfl (.tmp rfl .nil) ⟨rfl, rfl⟩
theorem qRv (hE : Seat E) {a : Nat} {n0 n1 : List UInt8} {x0 x1 : Option Fl} (hn : okN n0) (hn1 : okN n1) :
  Ct E 80 [uPt a, .string ⟨⟨n1⟩⟩, .string ⟨⟨n0⟩⟩] [fsP a n0 n1 x0 x1 Pwr.out] (fun v Q => v = .iface 31 (.int .i64 8) ∧ Q = [fsP a n0 n1 x0 x1 Pwr.dead]) := by
 have hv2 : ∀ x ∈ [n1, n0], okN x := fun x h => by
  simp at h
  rcases h with rfl | rfl
  ·exact hn1
  exact hn
 have hv : ∀ x ∈ [n0], okN x := fun x h => by simp at h; subst h; exact hn
 refine Sl.ct_open (p := fsP a n0 n1 x0 x1 Pwr.out) (ps := fun i : FsG => [cells a [.map (some i.b), .bool Pwr.out.off, .bool Pwr.out.lim, .int .i64 (Pwr.out.left : Nat)] 77, qAb i.b (fmF n0 n1 i.p0 i.p1), oflP i.p0 x0, oflP i.p1 x1]) (fun k h => h) ?_
 rintro ⟨ib, ip, iq⟩
 simp only
 refine zP (hE.fn Tryz.func80) rfl rfl rfl (fun R => ?_)
 simp only [qAe, uV, uW]
 refine qL (qJ (uA rfl (qM (qK (qL (qL (qJ (uM rfl (uM rfl (uM rfl (uU ?_)))))))))))
 refine qW (hE.t rfl) (hE.t rfl) rfl rfl rfl (fun b13 => ?_)
 refine qAx (kE (p := cells b13 [.string ⟨⟨n1⟩⟩, .string ⟨⟨n0⟩⟩] 9) (p' := sl (some ⟨b13, 0, none⟩) 2 9 1 2 (nmC [n1, n0])) uK (qAr rfl (by unfold maxLen; omega))) ?_
 refine uX (qIb (ns := [n1, n0]) hE (by simp) hv2) rfl ?_
 rintro _ _ ⟨rfl, rfl⟩
 simp only [uV, uW]
 refine qAx (qAm (ps := [cells a [.map (some ib), .bool Pwr.dead.off, .bool Pwr.dead.lim, .int .i64 (Pwr.dead.left : Nat)] 77, qAb ib (fmF n0 n1 ip iq), oflP ip x0, oflP iq x1]) (p := fsP a n0 n1 x0 x1 Pwr.dead) uK (fun k h => ⟨⟨ib, ip, iq⟩, h⟩)) ?_
 refine uA rfl (qM (qK (qL (qJ (uM rfl (uB (qCi rfl (hE.t rfl)) ?_))))))
 refine qM (qK (zG rfl (qL (qJ (uM rfl (uA rfl (qM (qK (kC (qX ?_))))))))))
 exact uZ rfl (.tmp rfl .nil) ⟨rfl, rfl⟩
theorem qTw (hE : Seat E) {p : Pwr} {a : Nat} {n0 n1 : List UInt8} {x : Fl} {x1 : Option Fl} (hp : p.up) (hn : okN n0) :
  Ct E 63 [uPt a, .string ⟨⟨n0⟩⟩] [fsP a n0 n1 (some x) x1 p] (fun v Q => v = .nilIface ∧ Q = [fsP a n0 n1 none x1 p.fin]) := by
 have hv : ∀ x ∈ [n0], okN x := fun x h => by simp at h; subst h; exact hn
 refine Sl.ct_open (p := fsP a n0 n1 (some x) x1 p) (ps := fun i : FsG => [cells a [.map (some i.b), .bool p.off, .bool p.lim, .int .i64 (p.left : Nat)] 77, qAb i.b (fmF n0 n1 i.p0 i.p1), oflP i.p0 (some x), oflP i.p1 x1]) (fun k h => h) ?_
 rintro ⟨ib, ip, iq⟩
 simp only
 refine qBi (p := oflP ip (some x)) uK (fun _ h => qDc h) (fun hsh => ?_)
 rcases hsh with ⟨_, h⟩ | ⟨c0, x', rfl, h⟩
 ·cases h
 obtain rfl := Option.some.inj h
 have hlk : fmF n0 n1 (some c0) iq n0 = some (ptV c0) := qCy n0 n1 (some c0) iq
 refine zP (hE.fn Tryz.func63) rfl rfl rfl (fun R => ?_)
 simp only [qAe, uV, uW]
 refine qL (qJ (uA rfl (qM (qK (qL (qL (qJ (uM rfl (uM rfl (uU ?_))))))))))
 refine qW (hE.t rfl) (hE.t rfl) rfl rfl rfl (fun b10 => ?_)
 refine qAx (kE (p := cells b10 [.string ⟨⟨n0⟩⟩] 9) (p' := sl (some ⟨b10, 0, none⟩) 1 9 1 1 (nmC [n0])) uK (qAr rfl (by unfold maxLen; omega))) ?_
 refine uX (qFi (ns := [n0]) hE (by simp) hv hp) rfl ?_
 rintro _ _ ⟨rfl, rfl⟩
 simp only [uV, uW]
 refine uA rfl (qM (qK (qL (qJ (uM rfl (uB (qAf rfl (hE.t rfl)) ?_))))))
 refine qM (qK (zD rfl (zC (qK (qL (qL (qJ (uM rfl (uB (zB rfl) ?_)))))))))
 refine uB (uBf rfl) ?_
 refine uL ?_
 refine uM rfl ?_
 refine uB (qCj (kt := 9) (et := 124) (z := .pointer none) (by rw [hE.P]; kernel_rfl) (by rw [hE.P]; kernel_rfl) (fun w => by rw [hE.P]; kernel_rfl) rfl rfl uK (by assumption)) ?_
 refine uM rfl (uB (qV rfl rfl) (uB (qV rfl rfl) (uA rfl (uA rfl (qM (qK (qL (qJ (uM rfl (uB (qBm rfl) ?_))))))))))
 refine qM (qK (zD rfl (zC (qK (qL (qJ (uM rfl (uB (zB rfl) ?_))))))))
 refine uB (uBf rfl) ?_
 refine uL ?_
 refine uM rfl (uU ?_)
 apply qJy (kt := 9) (et := 124) (by rw [hE.P]; kernel_rfl) (by rw [hE.P]; kernel_rfl) rfl rfl
 ·exact uK
 refine qM (qK (qL (qJ (uM rfl ?_))))
 rw [zAn]
 refine uX (qFj hE hp) rfl ?_
 rintro _ _ ⟨rfl, rfl⟩
 simp only [uV, uW]
 refine qAx (qAm (ps := [cells a [.map (some ib), .bool p.fin.off, .bool p.fin.lim, .int .i64 (p.fin.left : Nat)] 77, qAb ib (fmF n0 n1 none iq), oflP iq x1]) (p := fsP a n0 n1 none x1 p.fin) uK (fun k h => ⟨⟨ib, none, iq⟩, qAq (fun k h => qAq (fun k h => qGx k h) h) h⟩)) ?_
 refine qM (qK (qL (qJ (uA rfl (qM (qK (kC ?_)))))))
 exact uZ rfl (.tmp rfl .nil) ⟨rfl, rfl⟩
theorem qWx (hE : Seat E) {p : Pwr} {a : Nat} {n0 n1 : List UInt8} {x : Fl} {x1 : Option Fl} (hn : okN n0) :
  Ct E 62 [uPt a, .string ⟨⟨n0⟩⟩] [fsP a n0 n1 (some x) x1 p] (fun v Q => v = .tuple #[.int .i64 (x.data.length : Nat), .nilIface] ∧ Q = [fsP a n0 n1 (some x) x1 p]) := by
 have hv : ∀ x ∈ [n0], okN x := fun x h => by simp at h; subst h; exact hn
 refine Sl.ct_open (p := fsP a n0 n1 (some x) x1 p) (ps := fun i : FsG => [cells a [.map (some i.b), .bool p.off, .bool p.lim, .int .i64 (p.left : Nat)] 77, qAb i.b (fmF n0 n1 i.p0 i.p1), oflP i.p0 (some x), oflP i.p1 x1]) (fun k h => h) ?_
 rintro ⟨ib, ip, iq⟩
 simp only
 refine qBi (p := oflP ip (some x)) uK (fun _ h => qDc h) (fun hsh => ?_)
 rcases hsh with ⟨_, h⟩ | ⟨c0, x', rfl, h⟩
 ·cases h
 obtain rfl := Option.some.inj h
 have hlk : fmF n0 n1 (some c0) iq n0 = some (ptV c0) := qCy n0 n1 (some c0) iq
 refine zP (hE.fn Tryz.func62) rfl rfl rfl (fun R => ?_)
 simp only [qAe, uV, uW]
 refine qL (qJ (uA rfl (uA rfl (qM (qK (qL (qL (qJ (uM rfl (uB (qAy rfl (hE.t rfl)) ?_))))))))))
 refine qM (qK (zD rfl ?_))
 refine qFa (p := flP c0 x) (ps := fun i : Option Addr × Nat => [cells c0 [.slice i.1 (x).data.length i.2, .int .i64 ((x).synced : Nat)] 126, sl i.1 i.2 5 1 (x).data.length (byC (x).data)]) uK (fun k h => h) ?_
 rintro ⟨fq, fc⟩
 simp only
 refine zC (qK (qL (qJ (uM rfl (uB (zB rfl) ?_)))))
 refine uB (uBf rfl) ?_
 refine uL ?_
 refine uM rfl ?_
 refine uB (qCj (kt := 9) (et := 124) (z := .pointer none) (by rw [hE.P]; kernel_rfl) (by rw [hE.P]; kernel_rfl) (fun w => by rw [hE.P]; kernel_rfl) rfl rfl uK (by assumption)) ?_
 refine uM rfl (uB (qV rfl rfl) (uB (qV rfl rfl) (uA rfl (uA rfl (qM (qK (qL (qL (qJ (uM rfl (uB (qBm rfl) ?_)))))))))))
 refine qM (qK (zD rfl (zC (qK (qL (qJ (uM rfl (uB (zB rfl) ?_))))))))
 refine uB (uBf rfl) ?_
 refine uL ?_
 refine uB (uBl rfl) ?_
 refine uA rfl (uA rfl (qM (qK (kC ?_))))
 apply kD
 ·rfl
 ·(apply Rs.tmp rfl; apply Rs.tmp rfl; exact Rs.nil)
 ·exact ⟨rfl, rfl⟩
 exact qAm (ps := [cells a [.map (some ib), .bool p.off, .bool p.lim, .int .i64 (p.left : Nat)] 77, qAb ib (fmF n0 n1 (some c0) iq), cells c0 [.slice fq (x).data.length fc, .int .i64 ((x).synced : Nat)] 126, sl fq fc 5 1 (x).data.length (byC (x).data), oflP iq x1]) uK (fun k h => qHj h)
theorem qPp (hE : Seat E) {p : Pwr} {a n : Nat} {n0 n1 : List UInt8} {x : Fl} {x1 : Option Fl} (hp : p.up) (hn : okN n0) (h1 : x.synced ≤ x.data.length) (h2 : n ≤ x.data.length) (h3 : x.data.length ≤ 1099511627776) :
  Ct E 66 [uPt a, .string ⟨⟨n0⟩⟩, .int .i64 (n : Nat)] [fsP a n0 n1 (some x) x1 p] (fun v Q => v = .nilIface ∧ Q = [fsP a n0 n1 (some ⟨x.data.take n, min x.synced n⟩) x1 p.fin]) := by
 have hv : ∀ x ∈ [n0], okN x := fun x h => by simp at h; subst h; exact hn
 refine Sl.ct_open (p := fsP a n0 n1 (some x) x1 p) (ps := fun i : FsG => [cells a [.map (some i.b), .bool p.off, .bool p.lim, .int .i64 (p.left : Nat)] 77, qAb i.b (fmF n0 n1 i.p0 i.p1), oflP i.p0 (some x), oflP i.p1 x1]) (fun k h => h) ?_
 rintro ⟨ib, ip, iq⟩
 simp only
 refine qBi (p := oflP ip (some x)) uK (fun _ h => qDc h) (fun hsh => ?_)
 rcases hsh with ⟨_, h⟩ | ⟨c0, x', rfl, h⟩
 ·cases h
 obtain rfl := Option.some.inj h
 have hlk : fmF n0 n1 (some c0) iq n0 = some (ptV c0) := qCy n0 n1 (some c0) iq
 refine zP (hE.fn Tryz.func66) rfl rfl rfl (fun R => ?_)
 simp only [qAe, uV, uW]
 refine qL (qJ (uA rfl (qM (qK (qL (qL (qJ (uM rfl (uM rfl (uU ?_))))))))))
 refine qW (hE.t rfl) (hE.t rfl) rfl rfl rfl (fun b12 => ?_)
 refine qAx (kE (p := cells b12 [.string ⟨⟨n0⟩⟩] 9) (p' := sl (some ⟨b12, 0, none⟩) 1 9 1 1 (nmC [n0])) uK (qAr rfl (by unfold maxLen; omega))) ?_
 refine uX (qFi (ns := [n0]) hE (by simp) hv hp) rfl ?_
 rintro _ _ ⟨rfl, rfl⟩
 simp only [uV, uW]
 refine uA rfl (qM (qK (qL (qJ (uM rfl (uB (qAf rfl (hE.t rfl)) ?_))))))
 refine qM (qK (zD rfl ?_))
 refine qFa (p := flP c0 x) (ps := fun i : Option Addr × Nat => [cells c0 [.slice i.1 (x).data.length i.2, .int .i64 ((x).synced : Nat)] 126, sl i.1 i.2 5 1 (x).data.length (byC (x).data)]) uK (fun k h => h) ?_
 rintro ⟨fq, fc⟩
 simp only
 refine zC (qK (qL (qJ (uM rfl (uB (zB rfl) ?_)))))
 refine uB (uBf rfl) ?_
 refine uL ?_
 refine uM rfl ?_
 refine uB (qCj (kt := 9) (et := 124) (z := .pointer none) (by rw [hE.P]; kernel_rfl) (by rw [hE.P]; kernel_rfl) (fun w => by rw [hE.P]; kernel_rfl) rfl rfl uK (by assumption)) ?_
 refine uM rfl (uB (qV rfl rfl) (uB (qV rfl rfl) (uA rfl (uA rfl (qM (qK (qL (qL (qJ (uM rfl (uB (qBm rfl) ?_)))))))))))
 refine qM (qK (zD rfl (zC (qK (qL (qL (qJ (uM rfl (uB (y_lt rfl rfl) ?_)))))))))
 refine uM rfl ?_
 refine qAl 31 rfl (fun c1 => ?_) (fun c1 => ?_)
 ·exfalso
  omega
 refine kQ rfl rfl (uM rfl (kQ rfl rfl (uM rfl (kQ rfl rfl (uB (zB rfl) ?_)))))
 refine kQ rfl rfl (uB (uBf rfl) ?_)
 refine kQ rfl rfl (uL ?_)
 refine kQ rfl rfl (uB (uBl rfl) ?_)
 refine kQ rfl rfl (uB (y_gt rfl rfl) ?_)
 refine uB (qZ rfl rfl) ?_
 refine qM (qK ?_)
 refine zF rfl (fun c2 => ?_) (fun c2 => ?_)
 ·exfalso
  omega
 refine qCw (p := sl fq fc 5 1 x.data.length (byC x.data)) uK (fun _ h => (qDt h).1) ?_
 intro hcap
 refine zC (qK (qL (qJ (uM rfl (uM rfl (uB (zB rfl) ?_))))))
 refine uB (uBf rfl) ?_
 refine uL ?_
 refine uM rfl (uB (qDg n rfl rfl (hE.t rfl) rfl (by omega)) ?_)
 refine uB (zB rfl) ?_
 refine uB (uBf rfl) ?_
 refine uU (uS ?_)
 refine qM (qK (qL (qJ (uM rfl (uM rfl (uB (zB rfl) ?_))))))
 refine uB (uBf rfl) ?_
 refine uL ?_
 refine uM rfl (uB (y_min rfl rfl) ?_)
 refine l_eq 56 (.int .i64 ((min x.synced n : Nat) : Int)) rfl (zX (by split <;> omega)) ?_
 refine uB (zB rfl) ?_
 refine uB (uBf rfl) ?_
 refine uU (uS ?_)
 refine qM (qK (qL (qJ (uM rfl (uX (qFj hE hp) rfl ?_)))))
 rintro _ _ ⟨rfl, rfl⟩
 simp only [uV, uW]
 have hbt : (byC x.data).take (n * 1) = byC (x.data.take n) := by rw [Nat.mul_one]; unfold byC; rw [List.map_take]
 have htl : (x.data.take n).length = n := by rw [List.length_take]; omega
 refine qAx (kE (p := sl fq fc 5 1 x.data.length (byC x.data)) (p' := sl fq fc 5 1 (x.data.take n).length (byC (x.data.take n))) uK (fun k h => by rw [htl, ← hbt]; exact qNn h h2)) ?_
 refine qAx (qAm (ps := [cells a [.map (some ib), .bool p.fin.off, .bool p.fin.lim, .int .i64 (p.fin.left : Nat)] 77, qAb ib (fmF n0 n1 (some c0) iq), cells c0 [.slice fq n fc, .int .i64 ((min x.synced n : Nat) : Int)] 126, sl fq fc 5 1 (x.data.take n).length (byC (x.data.take n)), oflP iq x1]) (p := fsP a n0 n1 (some ⟨x.data.take n, min x.synced n⟩) x1 p.fin) uK (fun k h => qHj (fl := ⟨x.data.take n, min x.synced n⟩) (q := fq) (cap := fc) (by rw [← htl] at h; simpa only [htl] using h))) ?_
 refine qM (qK (qL (qJ (uA rfl (qM (qK (kC ?_)))))))
 exact uZ rfl (.tmp rfl .nil) ⟨rfl, rfl⟩
theorem qZg (hE : Seat E) {a n : Nat} {n0 n1 : List UInt8} {x0 x1 : Option Fl} (hn : n ≤ 1000000) :
  Ct E 34 [uPt a, .int .i64 (n : Nat)] [fsP a n0 n1 x0 x1 Pwr.on] (fun v Q => v = .tuple #[] ∧ Q = [fsP a n0 n1 x0 x1 (Pwr.lft n)]) := by
 refine Sl.ct_open (p := fsP a n0 n1 x0 x1 Pwr.on) (ps := fun i : FsG => [cells a [.map (some i.b), .bool Pwr.on.off, .bool Pwr.on.lim, .int .i64 (Pwr.on.left : Nat)] 77, qAb i.b (fmF n0 n1 i.p0 i.p1), oflP i.p0 x0, oflP i.p1 x1]) (fun k h => h) ?_
 rintro ⟨ib, ip, iq⟩
 show Ct E 34 [uPt a, .int .i64 (n : Nat)] [cells a [.map (some ib), .bool false, .bool false, .int .i64 (0 : Nat)] 77, qAb ib (fmF n0 n1 ip iq), oflP ip x0, oflP iq x1] (fun v Q => v = .tuple #[] ∧ Q = [fsP a n0 n1 x0 x1 (Pwr.lft n)])
 refine zP (hE.fn Tryz.func34) rfl rfl rfl (fun R => ?_)
 simp only [qAe, uV, uW]
 refine qL (qL (qJ (uM rfl (uB (qAy rfl (hE.t rfl)) ?_))))
 refine qM (qK (zD rfl (zC (qK (qL (qJ (uM rfl (uM rfl (uB (y_ge rfl rfl) ?_)))))))))
 refine l_eq 8 (.bool true) rfl (congrArg Value.bool (decide_eq_true (by omega))) ?_
 refine uB (zB rfl) ?_
 refine uB (uBf rfl) ?_
 refine uU (uS ?_)
 refine qM (qK (qJ (uM rfl (uM rfl (uB (y_max rfl rfl) ?_)))))
 refine l_eq 13 (.int .i64 (n : Nat)) rfl (congrArg (Value.int .i64) (if_neg (by omega))) ?_
 refine uB (zB rfl) ?_
 refine uB (uBf rfl) ?_
 refine uU (uS ?_)
 refine qM ?_
 apply qYl
 ·rfl
 ·(exact Rs.nil)
 ·exact ⟨rfl, rfl⟩
 exact qAm (ps := [cells a [.map (some ib), .bool false, .bool true, .int .i64 (n : Nat)] 77, qAb ib (fmF n0 n1 ip iq), oflP ip x0, oflP iq x1]) (p := fsP a n0 n1 x0 x1 (Pwr.lft n)) uK (fun k h => ⟨⟨ib, ip, iq⟩, h⟩)
end
section
variable {E : Env}
def crD (x y : Option Fl) : Prop := (x = none ∧ y = none) ∨ ∃ f n, x = some f ∧ f.synced ≤ n ∧ n ≤ f.data.length ∧ y = some ⟨f.data.take n, n⟩
def CrJ (x y : Option Fl) : Prop := y = x ∨ crD x y
def qOb (x : Option Fl) : Prop := ∀ y, x = some y → y.synced ≤ y.data.length ∧ y.data.length ≤ 1099511627776
theorem crD.end_ {x : Option Fl} {f : Fl} (h : crD x (some f)) : f.synced = f.data.length := by
 rcases h with ⟨_, h⟩ | ⟨g, n, _, h1, h2, h⟩
 ·cases h
 cases h
 show n = (g.data.take n).length
 rw [List.length_take]
 omega
theorem CrJ.wf {x : Option Fl} {f : Fl} (h : CrJ x (some f)) (hs : qOb x) : f.synced ≤ f.data.length ∧ f.data.length ≤ 1099511627776 := by
 rcases h with h | h
 ·exact hs f h.symm
 have h1 := h.end_
 rcases h with ⟨_, h⟩ | ⟨g, n, rfl, h2, h3, h⟩
 ·cases h
 cases h
 have := hs g rfl
 rw [List.length_take]
 simp only
 omega
theorem CrJ.full {x : Option Fl} {f : Fl} (h : CrJ x (some f)) (hf : f.synced = f.data.length) : crD x (some f) := by
 rcases h with rfl | h
 ·refine .inr ⟨f, f.data.length, rfl, by omega, Nat.le_refl _, ?_⟩
  rw [List.take_length, ← hf]
 exact h
theorem CrJ.gone {x : Option Fl} (h : CrJ x none) : crD x none := by
 rcases h with rfl | h
 ·exact .inl ⟨rfl, rfl⟩
 exact h
theorem CrJ.cut {x : Option Fl} {f : Fl} {n : Nat} (h : CrJ x (some f)) (hf : f.synced ≠ f.data.length) (h1 : f.synced ≤ n) (h2 : n ≤ f.data.length) : crD x (some ⟨f.data.take n, n⟩) := by
 rcases h with rfl | h
 ·exact .inr ⟨f, n, rfl, h1, h2, rfl⟩
 exact absurd h.end_ hf
theorem qVv {w0 : World} {a : Option Addr} {vs : List Value} {q : HP} {c k : Nat} (h : Rdb w0 a vs q) (hc : vs.length ≤ c) : Rdb w0 (vwA a c k) (vs.drop k) q := fun hne => by
 have hk : k < vs.length := by
  apply Classical.byContradiction
  intro hn
  rw [List.drop_eq_nil_of_le (by omega)] at hne
  exact hne rfl
 obtain ⟨g, o, rfl, hq⟩ := h fun e => by
  rw [e] at hk
  simp at hk
 refine ⟨g, o + k, ?_, fun s hs i v hv => ?_⟩
 ·unfold vwA
  rw [if_neg (by omega)]
  simp [Addr.add]
 rw [List.getElem?_drop] at hv
 have := hq s hs _ _ hv
 rw [show o + k + i = o + (k + i) by omega]
 exact this
theorem qVj (hE : Seat E) {m : Int} {n : Nat} : Ct E 56 [.int .i64 m, .int .i64 0, .int .i64 (n : Nat)] [] (fun v Q => ∃ k : Nat, v = .int .i64 (k : Nat) ∧ k ≤ n ∧ Q = []) := by
 have key : Ct E 56 [.int .i64 m, .int .i64 0, .int .i64 (n : Nat)] [] (fun v Q => v = .int .i64 (if m < 0 then 0 else if (n : Int) < m then (n : Int) else m) ∧ Q = []) := by
  apply qIc
  intro w
  rw [hE.P]
  refine (qMy m 0 n w).mono ?_
  rintro e w' ⟨e1, e2⟩
  exact ⟨e1, e2⟩
 refine key.mono fun v Q ⟨h1, h2⟩ => ?_
 by_cases c1 : m < 0
 ·rw [if_pos c1] at h1
  exact ⟨0, h1, Nat.zero_le _, h2⟩
 rw [if_neg c1] at h1
 by_cases c2 : (n : Int) < m
 ·rw [if_pos c2] at h1
  exact ⟨n, h1, Nat.le_refl _, h2⟩
 rw [if_neg c2] at h1
 exact ⟨m.toNat, by rw [h1]; exact zX (by omega), by omega, h2⟩
theorem fmF_key {n0 n1 x : List UInt8} {p0 p1 : Option Nat} (h : fmF n0 n1 p0 p1 x ≠ none) : (x = n0 ∧ ∃ c, p0 = some c ∧ fmF n0 n1 p0 p1 x = some (ptV c)) ∨ (x = n1 ∧ x ≠ n0 ∧ ∃ c, p1 = some c ∧ fmF n0 n1 p0 p1 x = some (ptV c)) := by
 unfold fmF at h ⊢
 by_cases e0 : x = n0
 ·rw [if_pos e0] at h ⊢
  cases p0 with
  | none => exact absurd rfl h
  | some c => exact .inl ⟨e0, c, rfl, rfl⟩
 rw [if_neg e0] at h ⊢
 by_cases e1 : x = n1
 ·rw [if_pos e1] at h ⊢
  cases p1 with
  | none => exact absurd rfl h
  | some c => exact .inr ⟨e1, e0, c, rfl, rfl⟩
 rw [if_neg e1] at h
 exact absurd rfl h
structure CrG9 where
 i : Nat
 y0 : Option Fl
 y1 : Option Fl
 kq : Option Addr
 ks : List Int
 kc : Nat
structure KpG9 where
 k : Nat
 kq : Option Addr
 ks : List Int
 kc : Nat
structure CrOk9 (x0 x1 : Option Fl) (n0 n1 : List UInt8) (E : Env) (l : List (List UInt8)) (x : CrG9) : Prop where
 i : x.i ≤ l.length
 rd : Rdb E.w0 x.kq (intC x.ks) old
 cp : x.ks.length ≤ x.kc
 c0 : CrJ x0 x.y0
 c1 : CrJ x1 x.y1
 d0 : n0 ∈ l.take x.i → crD x0 x.y0
 d1 : n1 ∈ l.take x.i → crD x1 x.y1
theorem CrOk9.next0 {x0 x1 : Option Fl} {n0 n1 x : List UInt8} {E : Env} {l : List (List UInt8)} {i kc kc' : Nat} {y0 y1 z : Option Fl} {kq kq' : Option Addr} {ks ks' : List Int} (h : CrOk9 x0 x1 n0 n1 E l ⟨i, y0, y1, kq, ks, kc⟩) (hx : l[i]? = some x) (hxe : x = n0) (hne : n0 ≠ n1) (hz : crD x0 z) (hk : Rdb E.w0 kq' (intC ks') old) (hc : ks'.length ≤ kc') :
  CrOk9 x0 x1 n0 n1 E l ⟨i + 1, z, y1, kq', ks', kc'⟩ := by
 have hi := (List.getElem?_eq_some_iff.1 hx).1
 refine ⟨hi, hk, hc, .inr hz, h.c1, fun _ => hz, fun hm => h.d1 ?_⟩
 simp only at hm ⊢
 rw [List.take_add_one, hx] at hm
 rcases List.mem_append.1 hm with e | e
 ·exact e
 simp at e
 exact absurd (e.trans hxe).symm hne
theorem CrOk9.next1 {x0 x1 : Option Fl} {n0 n1 x : List UInt8} {E : Env} {l : List (List UInt8)} {i kc kc' : Nat} {y0 y1 z : Option Fl} {kq kq' : Option Addr} {ks ks' : List Int} (h : CrOk9 x0 x1 n0 n1 E l ⟨i, y0, y1, kq, ks, kc⟩) (hx : l[i]? = some x) (hxe : x = n1) (hne : n0 ≠ n1) (hz : crD x1 z) (hk : Rdb E.w0 kq' (intC ks') old) (hc : ks'.length ≤ kc') :
  CrOk9 x0 x1 n0 n1 E l ⟨i + 1, y0, z, kq', ks', kc'⟩ := by
 have hi := (List.getElem?_eq_some_iff.1 hx).1
 refine ⟨hi, hk, hc, h.c0, .inr hz, fun hm => h.d0 ?_, fun _ => hz⟩
 simp only at hm ⊢
 rw [List.take_add_one, hx] at hm
 rcases List.mem_append.1 hm with e | e
 ·exact e
 simp at e
 exact absurd (e.trans hxe) hne
theorem qMf (hE : Seat E) {p : Pwr} {a kc : Nat} {kq : Option Addr} {ks : List Int} {n0 n1 : List UInt8} {x0 x1 : Option Fl} (hne : n0 ≠ n1) (h0 : qOb x0) (h1 : qOb x1) (hk : Rdb E.w0 kq (intC ks) old) (hkc : ks.length ≤ kc) :
  Ct E 32 [uPt a, .slice kq ks.length kc] [fsP a n0 n1 x0 x1 p, old] (fun v Q => ∃ y0 y1, v = .tuple #[] ∧ (crD x0 y0 ∧ crD x1 y1) ∧ Q = [fsP a n0 n1 y0 y1 Pwr.on, old]) := by
 refine Sl.ct_open (p := fsP a n0 n1 x0 x1 p) (ps := fun i : FsG => [cells a [.map (some i.b), .bool p.off, .bool p.lim, .int .i64 (p.left : Nat)] 77, qAb i.b (fmF n0 n1 i.p0 i.p1), oflP i.p0 x0, oflP i.p1 x1]) (fun k h => h) ?_
 rintro ⟨ib, ip, iq⟩
 simp only
 refine qBi (p := qAb ib (fmF n0 n1 ip iq)) uK (fun _ h => qEx h) ?_
 rintro ⟨n, hcn⟩
 have hn2 := zAm n0 n1 ip iq hcn
 refine zP (hE.fn Tryz.func32) rfl rfl rfl (fun R => ?_)
 simp only [qAe, uV, uW]
 refine qL (qL (qJ (uM rfl (uB (qAy rfl (hE.t rfl)) ?_))))
 refine qM (qK (zD rfl (zC (qK (qL (qL (qJ (uM rfl (uX (qOg hE hcn (by omega)) rfl ?_)))))))))
 rintro _ _ ⟨l, q, c0, rfl, hl, rfl⟩
 have hll := qBq hcn hl.nd (fun x hx => (hl.mem x).1 hx)
 simp only [uV, uW]
 refine uB (uBl rfl) ?_
 refine uM rfl (qM (qK (zL ?_)))
 refine qAj (fun x : CrG9 => [(0, uPt a), (1, .slice x.kq x.ks.length x.kc), (12, .slice q l.length c0), (13, .int .i64 (l.length : Nat)), (14, .int .i64 (x.i : Nat))]) (fun x => [cells a [.map (some ib), .bool p.off, .bool p.lim, .int .i64 (p.left : Nat)] 77, qAb ib (fmF n0 n1 ip iq), oflP ip x.y0, oflP iq x.y1, sl q c0 9 1 l.length (nmC l), old, R]) (fun x => l.length - x.i) (CrOk9 x0 x1 n0 n1 E l) ⟨0, x0, x1, kq, ks, kc⟩ ⟨Nat.zero_le _, hk, hkc, .inl rfl, .inl rfl, fun h => by simp at h, fun h => by simp at h⟩ ⟨rfl, rfl, rfl, rfl, rfl, trivial⟩ uI ?_
 clear hk hkc
 rintro ⟨i, y0, y1, kq, ks, kc⟩ hok
 obtain ⟨hi, hk, hkc, g0, g1, e0, e1⟩ := id hok
 simp only at hi hk hkc g0 g1 e0 e1 ⊢
 refine qL (qJ (uB (y_lt rfl rfl) ?_))
 refine qM (qK (qL ?_))
 refine zF rfl (fun c1 => ?_) (fun c1 => ?_)
 ·obtain ⟨x, hx⟩ : ∃ x, l[i]? = some x := ⟨_, List.getElem?_eq_getElem (by omega)⟩
  have f0 := qJf hx (((i : Nat) : Int).toNat) (by omega)
  have hfx := (hl.mem x).1 (List.mem_of_getElem? hx)
  refine qCw (p := sl q c0 9 1 l.length (nmC l)) uK (fun _ h => qAz h (by omega)) ?_
  rintro ⟨g, rfl⟩
  rcases fmF_key hfx with ⟨hxe, c, rfl, hlk⟩ | ⟨hxe, hx0, c, rfl, hlk⟩
  ·refine qCw (p := oflP (some c) y0) uK (fun _ h => qDc h) (fun hsh => ?_)
   rcases hsh with ⟨h, _⟩ | ⟨c', f, h, rfl⟩
   ·cases h
   obtain rfl := Option.some.inj h
   obtain ⟨w1, w2⟩ := g0.wf h0
   refine qFa (p := flP c f) (ps := fun i : Option Addr × Nat => [cells c [.slice i.1 f.data.length i.2, .int .i64 (f.synced : Nat)] 126, sl i.1 i.2 5 1 f.data.length (byC f.data)]) uK (fun k h => h) ?_
   rintro ⟨fq, fc⟩
   simp only
   refine zC (qK (qL (zL (qL (qJ (uB (uAj rfl rfl) ?_))))))
   refine uL ?_
   refine uA rfl (qM (qK (qL (qJ (uM rfl (uB (zB rfl) ?_))))))
   refine uB (uBf rfl) ?_
   refine uL ?_
   refine uM rfl ?_
   refine uB (qCj (kt := 9) (et := 124) (z := .pointer none) (by rw [hE.P]; kernel_rfl) (by rw [hE.P]; kernel_rfl) (fun w => by rw [hE.P]; kernel_rfl) rfl rfl uK (by assumption)) ?_
   refine uA rfl (qM (qK (qL ?_)))
   refine uH ([cells c [.slice fq f.data.length fc, .int .i64 (f.synced : Nat)] 126]) ?_
   refine uD 0 rfl (qC rfl) ?_
   refine uD 1 rfl (zB rfl) ?_
   refine uD 2 rfl (uBf rfl) ?_
   refine uD 3 rfl (uY) ?_
   refine uD 4 rfl (uBl rfl) ?_
   refine uD 5 rfl (qC rfl) ?_
   refine uD 6 rfl (zB rfl) ?_
   refine uD 7 rfl (uBf rfl) ?_
   refine uD 8 rfl (uY) ?_
   refine uD 9 rfl (uAs rfl rfl) ?_
   refine uD 10 rfl (qD rfl) ?_
   refine qCc (by kernel_rfl) ?_
   refine qK (qL (qL (qJ (uM rfl (uB (y_eq rfl rfl) ?_)))))
   refine qM (qK ?_)
   refine zF rfl (fun c2 => ?_) (fun c2 => ?_)
   ·refine qAk (qAm (ps := [cells c [.slice fq f.data.length fc, .int .i64 (f.synced : Nat)] 126, sl fq fc 5 1 f.data.length (byC f.data)]) (p := oflP (some c) (some f)) uK (fun k h => ⟨(fq, fc), h⟩)) ?_
    refine kJ (qQ (zI (qK (qJ (uB (uAa rfl rfl) ?_)))))
    refine uM rfl (qM ?_)
    refine zT (ι := CrG9) (j := ⟨i + 1, some f, y1, kq, ks, kc⟩) (hok.next0 hx hxe hne (g0.full (by omega)) hk hkc) (by simp only; omega) ⟨rfl, rfl, rfl, rfl, congrArg some (zX (by simp only; omega)), trivial⟩ uI
   refine qCw (p := sl fq fc 5 1 f.data.length (byC f.data)) uK (fun _ h => (qDt h).1) ?_
   intro hcap
   refine zC (qK (qL (qJ (uA rfl (qM (qK ?_))))))
   refine qDs (fun z : KpG9 => [(0, uPt a), (1, .slice z.kq z.ks.length z.kc), (6, ptV c), (8, .int .i64 (z.k : Nat)), (12, .slice (some ⟨g, 0, none⟩) l.length c0), (13, .int .i64 (l.length : Nat)), (14, .int .i64 (i : Nat))]) (fun z => [cells a [.map (some ib), .bool p.off, .bool p.lim, .int .i64 (p.left : Nat)] 77, qAb ib (fmF n0 n1 (some c) iq), cells c [.slice fq f.data.length fc, .int .i64 (f.synced : Nat)] 126, sl fq fc 5 1 f.data.length (byC f.data), oflP iq y1, sl (some ⟨g, 0, none⟩) c0 9 1 l.length (nmC l), old, R]) (fun z => z.k ≤ f.data.length - f.synced ∧ Rdb E.w0 z.kq (intC z.ks) old ∧ z.ks.length ≤ z.kc) ?_ ?_
   ·refine qL (qJ ?_)
    refine uM rfl (uB (uBl rfl) ?_)
    refine uB (y_gt rfl rfl) ?_
    refine qM (qK ?_)
    refine zF rfl (fun c3 => ?_) (fun c3 => ?_)
    ·obtain ⟨z, hz⟩ : ∃ z, ks[0]? = some z := ⟨_, List.getElem?_eq_getElem (by omega)⟩
     have hdr := qVv (k := 1) hk (by unfold intC; rw [List.length_map]; exact hkc)
     obtain ⟨gk, ok, rfl, hq'⟩ := hk (by intro e; have := congrArg List.length e; simp [intC] at this; subst this; simp at hz)
     have f0 := zAq hz ((0 : Int).toNat) rfl
     refine qL (qJ (uM rfl (uB (uAi rfl rfl) ?_)))
     apply qB
     ·(apply zK rfl (hE.t rfl) rfl (by assumption); (focus ((repeat constructor); done)); (first | ((focus exact f0); (focus omega)) | ((focus exact f1); (focus omega)) | ((focus assumption); (focus omega))))
     ·rfl
     refine uM rfl ?_
     refine l_eq 42 (.int .i64 ((f.data.length - f.synced : Nat) : Int)) rfl (zX (by omega)) ?_
     refine uX (qVj hE) rfl ?_
     rintro _ _ ⟨k, rfl, hkk, rfl⟩
     simp only [uV, uW]
     refine uA rfl (qM (qK (qJ (uM rfl (uB (qBv (l := 1) (h := ks.length) rfl (hE.t rfl) ⟨_, rfl⟩ rfl (by omega) hkc) ?_)))))
     refine l_eq 45 (.slice (vwA (some ⟨gk, ok, none⟩) kc 1) (ks.drop 1).length (kc - 1)) rfl (congrArg (fun z => Value.slice _ z _) (by rw [List.length_drop])) ?_
     refine uA rfl (qM ?_)
     refine qBd (ι := KpG9) ⟨k, vwA (some ⟨gk, ok, none⟩) kc 1, ks.drop 1, kc - 1⟩ ⟨hkk, ?_, by simp only [List.length_drop]; omega⟩ ⟨rfl, rfl, rfl, rfl, rfl, rfl, rfl, trivial⟩ ?_
     ·simp only
      unfold intC at hdr ⊢
      rw [List.map_drop]
      exact hdr
     exact uI
    refine zC ?_
    refine qBd (ι := KpG9) ⟨0, kq, ks, kc⟩ ⟨Nat.zero_le _, hk, hkc⟩ ⟨rfl, rfl, rfl, rfl, rfl, rfl, rfl, trivial⟩ ?_
    exact uI
   rintro ⟨k, kq, ks, kc⟩ ⟨hkk, hk2, hkc2⟩
   simp only at hkk hk2 hkc2 ⊢
   have hnl : f.synced + k ≤ f.data.length := by omega
   refine qL ?_
   refine uN 14 ([cells c [.slice fq f.data.length fc, .int .i64 (f.synced : Nat)] 126]) ?_
   refine uT 0 rfl (qC rfl) ?_
   refine uT 1 rfl (qC rfl) ?_
   refine uT 2 rfl (zB rfl) ?_
   refine uT 3 rfl (uBf rfl) ?_
   refine uT 4 rfl (uY) ?_
   refine uT 5 rfl (qC rfl) ?_
   refine uT 6 rfl (zB rfl) ?_
   refine uT 7 rfl (uBf rfl) ?_
   refine uT 8 rfl (uY) ?_
   apply kK 9 rfl (by kernel_rfl)
   ·exact qC rfl
   ·rfl
   apply kK 10 rfl (by kernel_rfl)
   ·exact uAa rfl rfl
   ·rfl
   apply kK 11 rfl (by kernel_rfl)
   ·exact qDg (f.synced + k) rfl rfl (hE.t rfl) (by omega) (by omega)
   ·rfl
   apply kK 12 rfl (by kernel_rfl)
   ·exact zB rfl
   ·rfl
   apply kK 13 rfl (by kernel_rfl)
   ·exact uBf rfl
   ·rfl
   apply qGg rfl (by kernel_rfl) (by kernel_rfl) rfl
   refine uS ?_
   refine qK ?_
   have hbt : (byC f.data).take ((f.synced + k) * 1) = byC (f.data.take (f.synced + k)) := by rw [Nat.mul_one]; unfold byC; rw [List.map_take]
   have htl : (f.data.take (f.synced + k)).length = f.synced + k := by rw [List.length_take]; omega
   refine qJ (uM rfl (uM rfl (uB (zB rfl) ?_)))
   refine uB (uBf rfl) ?_
   refine uL ?_
   refine uB (uBl rfl) ?_
   refine uB (zB rfl) ?_
   refine uB (uBf rfl) ?_
   refine uU (uS ?_)
   refine qM (zJ (qK ?_))
   refine qAk (kE (p := sl fq fc 5 1 f.data.length (byC f.data)) (p' := sl fq fc 5 1 (f.data.take (f.synced + k)).length (byC (f.data.take (f.synced + k)))) uK (fun u h => by rw [htl, ← hbt]; exact qNn h hnl)) ?_
   refine qAk (qAm (ps := [cells c [.slice fq (f.synced + k) fc, .int .i64 ((f.synced + k : Nat) : Int)] 126, sl fq fc 5 1 (f.data.take (f.synced + k)).length (byC (f.data.take (f.synced + k)))]) (p := oflP (some c) (some ⟨f.data.take (f.synced + k), f.synced + k⟩)) uK (fun u h => ⟨(fq, fc), by simpa only [htl] using h⟩)) ?_
   refine qJ (uB (uAa rfl rfl) ?_)
   refine uM rfl (qM ?_)
   refine zT (ι := CrG9) (j := ⟨i + 1, some ⟨f.data.take (f.synced + k), f.synced + k⟩, y1, kq, ks, kc⟩) (hok.next0 hx hxe hne (g0.cut (by omega) (by omega) hnl) hk2 hkc2) (by simp only; omega) ⟨rfl, rfl, rfl, rfl, congrArg some (zX (by simp only; omega)), trivial⟩ uI
  refine qCw (p := oflP (some c) y1) uK (fun _ h => qDc h) (fun hsh => ?_)
  rcases hsh with ⟨h, _⟩ | ⟨c', f, h, rfl⟩
  ·cases h
  obtain rfl := Option.some.inj h
  obtain ⟨w1, w2⟩ := g1.wf h1
  refine qFa (p := flP c f) (ps := fun i : Option Addr × Nat => [cells c [.slice i.1 f.data.length i.2, .int .i64 (f.synced : Nat)] 126, sl i.1 i.2 5 1 f.data.length (byC f.data)]) uK (fun k h => h) ?_
  rintro ⟨fq, fc⟩
  simp only
  refine zC (qK (qL (zL (qL (qJ (uB (uAj rfl rfl) ?_))))))
  refine uL ?_
  refine uA rfl (qM (qK (qL (qJ (uM rfl (uB (zB rfl) ?_))))))
  refine uB (uBf rfl) ?_
  refine uL ?_
  refine uM rfl ?_
  refine uB (qCj (kt := 9) (et := 124) (z := .pointer none) (by rw [hE.P]; kernel_rfl) (by rw [hE.P]; kernel_rfl) (fun w => by rw [hE.P]; kernel_rfl) rfl rfl uK (by assumption)) ?_
  refine uA rfl (qM (qK (qL ?_)))
  refine uH ([cells c [.slice fq f.data.length fc, .int .i64 (f.synced : Nat)] 126]) ?_
  refine uD 0 rfl (qC rfl) ?_
  refine uD 1 rfl (zB rfl) ?_
  refine uD 2 rfl (uBf rfl) ?_
  refine uD 3 rfl (uY) ?_
  refine uD 4 rfl (uBl rfl) ?_
  refine uD 5 rfl (qC rfl) ?_
  refine uD 6 rfl (zB rfl) ?_
  refine uD 7 rfl (uBf rfl) ?_
  refine uD 8 rfl (uY) ?_
  refine uD 9 rfl (uAs rfl rfl) ?_
  refine uD 10 rfl (qD rfl) ?_
  refine qCc (by kernel_rfl) ?_
  refine qK (qL (qL (qJ (uM rfl (uB (y_eq rfl rfl) ?_)))))
  refine qM (qK ?_)
  refine zF rfl (fun c2 => ?_) (fun c2 => ?_)
  ·refine qAk (qAm (ps := [cells c [.slice fq f.data.length fc, .int .i64 (f.synced : Nat)] 126, sl fq fc 5 1 f.data.length (byC f.data)]) (p := oflP (some c) (some f)) uK (fun k h => ⟨(fq, fc), h⟩)) ?_
   refine kJ (qQ (zI (qK (qJ (uB (uAa rfl rfl) ?_)))))
   refine uM rfl (qM ?_)
   refine zT (ι := CrG9) (j := ⟨i + 1, y0, some f, kq, ks, kc⟩) (hok.next1 hx hxe hne (g1.full (by omega)) hk hkc) (by simp only; omega) ⟨rfl, rfl, rfl, rfl, congrArg some (zX (by simp only; omega)), trivial⟩ uI
  refine qCw (p := sl fq fc 5 1 f.data.length (byC f.data)) uK (fun _ h => (qDt h).1) ?_
  intro hcap
  refine zC (qK (qL (qJ (uA rfl (qM (qK ?_))))))
  refine qDs (fun z : KpG9 => [(0, uPt a), (1, .slice z.kq z.ks.length z.kc), (6, ptV c), (8, .int .i64 (z.k : Nat)), (12, .slice (some ⟨g, 0, none⟩) l.length c0), (13, .int .i64 (l.length : Nat)), (14, .int .i64 (i : Nat))]) (fun z => [cells a [.map (some ib), .bool p.off, .bool p.lim, .int .i64 (p.left : Nat)] 77, qAb ib (fmF n0 n1 ip (some c)), cells c [.slice fq f.data.length fc, .int .i64 (f.synced : Nat)] 126, sl fq fc 5 1 f.data.length (byC f.data), oflP ip y0, sl (some ⟨g, 0, none⟩) c0 9 1 l.length (nmC l), old, R]) (fun z => z.k ≤ f.data.length - f.synced ∧ Rdb E.w0 z.kq (intC z.ks) old ∧ z.ks.length ≤ z.kc) ?_ ?_
  ·refine qL (qJ ?_)
   refine uM rfl (uB (uBl rfl) ?_)
   refine uB (y_gt rfl rfl) ?_
   refine qM (qK ?_)
   refine zF rfl (fun c3 => ?_) (fun c3 => ?_)
   ·obtain ⟨z, hz⟩ : ∃ z, ks[0]? = some z := ⟨_, List.getElem?_eq_getElem (by omega)⟩
    have hdr := qVv (k := 1) hk (by unfold intC; rw [List.length_map]; exact hkc)
    obtain ⟨gk, ok, rfl, hq'⟩ := hk (by intro e; have := congrArg List.length e; simp [intC] at this; subst this; simp at hz)
    have f0 := zAq hz ((0 : Int).toNat) rfl
    refine qL (qJ (uM rfl (uB (uAi rfl rfl) ?_)))
    apply qB
    ·(apply zK rfl (hE.t rfl) rfl (by assumption); (focus ((repeat constructor); done)); (first | ((focus exact f0); (focus omega)) | ((focus exact f1); (focus omega)) | ((focus assumption); (focus omega))))
    ·rfl
    refine uM rfl ?_
    refine l_eq 42 (.int .i64 ((f.data.length - f.synced : Nat) : Int)) rfl (zX (by omega)) ?_
    refine uX (qVj hE) rfl ?_
    rintro _ _ ⟨k, rfl, hkk, rfl⟩
    simp only [uV, uW]
    refine uA rfl (qM (qK (qJ (uM rfl (uB (qBv (l := 1) (h := ks.length) rfl (hE.t rfl) ⟨_, rfl⟩ rfl (by omega) hkc) ?_)))))
    refine l_eq 45 (.slice (vwA (some ⟨gk, ok, none⟩) kc 1) (ks.drop 1).length (kc - 1)) rfl (congrArg (fun z => Value.slice _ z _) (by rw [List.length_drop])) ?_
    refine uA rfl (qM ?_)
    refine qBd (ι := KpG9) ⟨k, vwA (some ⟨gk, ok, none⟩) kc 1, ks.drop 1, kc - 1⟩ ⟨hkk, ?_, by simp only [List.length_drop]; omega⟩ ⟨rfl, rfl, rfl, rfl, rfl, rfl, rfl, trivial⟩ ?_
    ·simp only
     unfold intC at hdr ⊢
     rw [List.map_drop]
     exact hdr
    exact uI
   refine zC ?_
   refine qBd (ι := KpG9) ⟨0, kq, ks, kc⟩ ⟨Nat.zero_le _, hk, hkc⟩ ⟨rfl, rfl, rfl, rfl, rfl, rfl, rfl, trivial⟩ ?_
   exact uI
  rintro ⟨k, kq, ks, kc⟩ ⟨hkk, hk2, hkc2⟩
  simp only at hkk hk2 hkc2 ⊢
  have hnl : f.synced + k ≤ f.data.length := by omega
  refine qL ?_
  refine uN 14 ([cells c [.slice fq f.data.length fc, .int .i64 (f.synced : Nat)] 126]) ?_
  refine uT 0 rfl (qC rfl) ?_
  refine uT 1 rfl (qC rfl) ?_
  refine uT 2 rfl (zB rfl) ?_
  refine uT 3 rfl (uBf rfl) ?_
  refine uT 4 rfl (uY) ?_
  refine uT 5 rfl (qC rfl) ?_
  refine uT 6 rfl (zB rfl) ?_
  refine uT 7 rfl (uBf rfl) ?_
  refine uT 8 rfl (uY) ?_
  apply kK 9 rfl (by kernel_rfl)
  ·exact qC rfl
  ·rfl
  apply kK 10 rfl (by kernel_rfl)
  ·exact uAa rfl rfl
  ·rfl
  apply kK 11 rfl (by kernel_rfl)
  ·exact qDg (f.synced + k) rfl rfl (hE.t rfl) (by omega) (by omega)
  ·rfl
  apply kK 12 rfl (by kernel_rfl)
  ·exact zB rfl
  ·rfl
  apply kK 13 rfl (by kernel_rfl)
  ·exact uBf rfl
  ·rfl
  apply qGg rfl (by kernel_rfl) (by kernel_rfl) rfl
  refine uS ?_
  refine qK ?_
  have hbt : (byC f.data).take ((f.synced + k) * 1) = byC (f.data.take (f.synced + k)) := by rw [Nat.mul_one]; unfold byC; rw [List.map_take]
  have htl : (f.data.take (f.synced + k)).length = f.synced + k := by rw [List.length_take]; omega
  refine qJ (uM rfl (uM rfl (uB (zB rfl) ?_)))
  refine uB (uBf rfl) ?_
  refine uL ?_
  refine uB (uBl rfl) ?_
  refine uB (zB rfl) ?_
  refine uB (uBf rfl) ?_
  refine uU (uS ?_)
  refine qM (zJ (qK ?_))
  refine qAk (kE (p := sl fq fc 5 1 f.data.length (byC f.data)) (p' := sl fq fc 5 1 (f.data.take (f.synced + k)).length (byC (f.data.take (f.synced + k)))) uK (fun u h => by rw [htl, ← hbt]; exact qNn h hnl)) ?_
  refine qAk (qAm (ps := [cells c [.slice fq (f.synced + k) fc, .int .i64 ((f.synced + k : Nat) : Int)] 126, sl fq fc 5 1 (f.data.take (f.synced + k)).length (byC (f.data.take (f.synced + k)))]) (p := oflP (some c) (some ⟨f.data.take (f.synced + k), f.synced + k⟩)) uK (fun u h => ⟨(fq, fc), by simpa only [htl] using h⟩)) ?_
  refine qJ (uB (uAa rfl rfl) ?_)
  refine uM rfl (qM ?_)
  refine zT (ι := CrG9) (j := ⟨i + 1, y0, some ⟨f.data.take (f.synced + k), f.synced + k⟩, kq, ks, kc⟩) (hok.next1 hx hxe hne (g1.cut (by omega) (by omega) hnl) hk2 hkc2) (by simp only; omega) ⟨rfl, rfl, rfl, rfl, congrArg some (zX (by simp only; omega)), trivial⟩ uI
 obtain rfl : i = l.length := by omega
 rw [List.take_length] at e0 e1
 refine qCw (p := oflP ip y0) uK (fun _ h => qDc h) (fun sh0 => ?_)
 refine qCw (p := oflP iq y1) uK (fun _ h => qDc h) (fun sh1 => ?_)
 refine kJ (qQ (qQ (zI (qK (qL (qJ (uM rfl (uB (zB rfl) ?_))))))))
 refine uB (uBf rfl) ?_
 refine uU (uS ?_)
 refine qM (qK (qL (qJ (uM rfl (uB (zB rfl) ?_)))))
 refine uB (uBf rfl) ?_
 refine uU (uS ?_)
 refine qM (qK (qJ (uM rfl (uB (zB rfl) ?_))))
 refine uB (uBf rfl) ?_
 refine uU (uS ?_)
 refine qM ?_
 apply qYl
 ·rfl
 ·(exact Rs.nil)
 ·refine ⟨y0, y1, rfl, ⟨?_, ?_⟩, rfl⟩
  ·rcases sh0 with ⟨_, rfl⟩ | ⟨c, f, rfl, rfl⟩
   ·exact g0.gone
   exact e0 ((hl.mem n0).2 (by rw [qCy]; simp))
  rcases sh1 with ⟨_, rfl⟩ | ⟨c, f, rfl, rfl⟩
  ·exact g1.gone
  exact e1 ((hl.mem n1).2 (by rw [qJa hne, qCy]; simp))
 refine kF uI (fun _ s => qCl (ps := [cells a [.map (some ib), .bool Pwr.on.off, .bool Pwr.on.lim, .int .i64 (Pwr.on.left : Nat)] 77, qAb ib (fmF n0 n1 ip iq), oflP ip y0, oflP iq y1]) (r := [old, R]) (p := fsP a n0 n1 y0 y1 Pwr.on) (fun k h => ⟨⟨ib, ip, iq⟩, h⟩) s)
end
section
variable {E : Env}
def Part (t : List UInt8) : Prop := ∃ (p : List UInt8) (m : Nat), t = (frm p).take m ∧ m < p.length + 8 ∧ 1 ≤ p.length ∧ p.length ≤ 1048576
theorem Part.nil : Part [] := ⟨[0], 0, rfl, by decide, by decide, by decide⟩
theorem qPv (hE : Seat E) {ps : List (List UInt8)} {t : List UInt8} (hpt : Part t) (hps : ∀ p ∈ ps, 1 ≤ p.length ∧ p.length ≤ 1048576) {a : Option Addr} {c : Nat} {q : HP} (hq : Rdb E.w0 a (byC (frs ps ++ t)) q) (hc : (frs ps ++ t).length ≤ c) (hl : (frs ps).length ≤ 1000000000) (htt : t.length ≤ 2000000) :
  Ct E 65 [.slice a (frs ps ++ t).length c] [q]
   (fun v Q => ∃ l p' c', v = .tuple #[.slice p' l.length c', .int .i64 ((frs ps).length : Nat)] ∧ l.map (fun x : Py => x.2.2) = ps ∧ Q = [sl p' c' 57 1 l.length (paC l), payP l, q]) := by
 have hcnt := qJb ps
 refine zP (hE.fn Tryz.func65) rfl rfl rfl (fun R => ?_)
 simp only [qAe, uV, uW]
 refine qL (qJ (uA rfl (uA rfl (qM (qK (qL (qJ (uA rfl (qM (qK (qL (qJ (uA rfl ?_)))))))))))))
 refine qM (qK (qL (zL ?_)))
 refine qAk (qCh (t := 57) (sz := 1)) ?_
 refine qAk qQh ?_
 refine qAj (fun x : FrG => [(0, .slice x.a (frs (ps.drop x.i) ++ t).length x.c), (4, .slice x.q x.l.length x.d), (5, .int .i64 ((frs (ps.take x.i)).length : Nat))]) (fun x => [payP x.l, sl x.q x.d 57 1 x.l.length (paC x.l), q, R]) (fun x => ps.length - x.i) (fun x => x.i ≤ ps.length ∧ x.l.map (fun x : Py => x.2.2) = ps.take x.i ∧ Rdb E.w0 x.a (byC (frs (ps.drop x.i) ++ t)) q ∧ (frs (ps.drop x.i) ++ t).length ≤ x.c) ⟨0, [], a, c, none, 0⟩ ⟨Nat.zero_le _, rfl, hq, hc⟩ ⟨rfl, rfl, rfl, trivial⟩ uI ?_
 rintro ⟨i, l, a1, c1, q1, d1⟩ ⟨hi, hlm, hq1, hc1⟩
 simp only at hi hlm hq1 hc1 ⊢
 have hil : l.length = i := by
  have := congrArg List.length hlm
  rw [List.length_map, List.length_take] at this
  omega
 refine qL (qL (qJ (uM rfl (uB (uBl rfl) ?_))))
 refine uB (y_ge rfl rfl) ?_
 refine qM (qK ?_)
 rcases Nat.lt_or_ge i ps.length with hlt | hge
 ·obtain ⟨p, hp⟩ : ∃ p, ps[i]? = some p := ⟨_, List.getElem?_eq_getElem hlt⟩
  obtain ⟨hp1, hp2⟩ := hps p (List.mem_of_getElem? hp)
  have hfr : frs (ps.drop i) ++ t = frm p ++ (frs (ps.drop (i + 1)) ++ t) := by rw [qVo hp, List.append_assoc]
  have hfl := qCp p
  have hdl : (frs (ps.drop i) ++ t).length = p.length + 8 + (frs (ps.drop (i + 1)) ++ t).length := by rw [hfr, List.length_append, hfl]
  have hft := qVp hp
  have htl : (frs (ps.take (i + 1))).length ≤ (frs ps).length := by
   have e : frs ps = frs (ps.take (i + 1)) ++ frs (ps.drop (i + 1)) := by rw [← qDd, List.take_append_drop]
   rw [e, List.length_append]
   omega
  refine zF rfl (fun h1 => ?_) (fun h1 => ?_)
  ·obtain ⟨X, hX⟩ : ∃ X, X = frs (ps.drop (i + 1)) ++ t := ⟨_, rfl⟩
   rw [← hX] at hfr hdl
   obtain ⟨Z, hZ⟩ : ∃ Z, Z = frs (ps.drop i) ++ t := ⟨_, rfl⟩
   rw [← hZ] at hfr hdl hq1 hc1 h1
   rw [← hZ]
   have e4 : Z = UInt8.ofNat (p.length / 16777216) :: UInt8.ofNat (p.length / 65536) :: UInt8.ofNat (p.length / 256) :: UInt8.ofNat p.length :: ((be4 (crc p) ++ p) ++ X) := hfr
   have e5 : Z.drop 4 = UInt8.ofNat (crc p / 16777216) :: UInt8.ofNat (crc p / 65536) :: UInt8.ofNat (crc p / 256) :: UInt8.ofNat (crc p) :: (p ++ X) := by rw [hfr]; rfl
   have e8 : (Z.drop 8).take p.length = p := by
    have : Z.drop 8 = p ++ X := by rw [hfr]; rfl
    rw [this, List.take_left']
    rfl
   have hq4 := hq1
   rw [e4] at hq4
   have hq5 := qBz (k := 4) hq1 hc1
   rw [e5] at hq5
   have hqp := qNg (m := p.length) (qBz (k := 8) hq1 hc1)
   rw [e8] at hqp
   have hn4 : Z.length = ((be4 (crc p) ++ p) ++ X).length + 4 := by
    rw [List.length_append, List.length_append, qFc]
    omega
   have hn5 : Z.length - 4 = (p ++ X).length + 4 := by
    rw [List.length_append]
    omega
   have hcl := qYz p
   have hZl : Z.length ≤ (frs ps).length + t.length := by
    have e : frs ps = frs (ps.take i) ++ frs (ps.drop i) := by rw [← qDd, List.take_append_drop]
    rw [hZ, e, List.length_append, List.length_append]
    omega
   refine zC (qK (zL (qL (qJ (uM rfl (uX (qFk hE hn4 hq4) rfl ?_))))))
   rintro _ _ ⟨rfl, rfl⟩
   simp only [uV, uW]
   rw [qRk (by omega)]
   refine uB (uAc rfl) ?_
   refine uA rfl (qM (qK (qL (qL (qJ (uM rfl (uB (y_lt rfl rfl) ?_)))))))
   refine uM rfl ?_
   refine qAl 16 rfl (fun g1 => ?_) (fun g1 => ?_)
   ·exfalso
    omega
   refine kQ rfl rfl (uM rfl (kQ rfl rfl (uB (y_gt rfl rfl) ?_)))
   refine uB (qZ rfl rfl) ?_
   refine uM rfl ?_
   refine qAl 20 rfl (fun g2 => ?_) (fun g2 => ?_)
   ·exfalso
    omega
   refine kQ rfl rfl (uM rfl (kQ rfl rfl (uM rfl (kQ rfl rfl (uB (uBl rfl) ?_)))))
   refine kQ rfl rfl (uB (uAs rfl rfl) ?_)
   refine kQ rfl rfl (uB (y_gt rfl rfl) ?_)
   refine uB (qZ rfl rfl) ?_
   refine qM (qK ?_)
   refine zF rfl (fun g3 => ?_) (fun g3 => ?_)
   ·exfalso
    omega
   refine zC (qK (qL (qJ (uM rfl (uM rfl (uB (uAa rfl rfl) ?_))))))
   refine uB (qBv (l := 8) (h := 8 + p.length) rfl (hE.t rfl) ⟨_, rfl⟩ ⟨_, rfl⟩ (by omega) (by omega)) ?_
   refine l_eq 30 (.slice (vwA a1 c1 8) p.length (c1 - 8)) rfl (congrArg (fun z => Value.slice _ z _) (by omega)) ?_
   refine uA rfl (qM (qK (qL (qL ?_))))
   refine uH ([q]) ?_
   refine uD 0 rfl (qC rfl) ?_
   refine uD 2 rfl (qC rfl) ?_
   refine uD 3 rfl (qBv (l := 4) (h := Z.length) rfl (hE.t rfl) ⟨_, rfl⟩ rfl (by omega) (by omega)) ?_
   apply kL 1 rfl (by kernel_rfl) rfl
   refine uC (qMl hE hqp (by omega)) rfl ?_
   rintro _ _ ⟨rfl, rfl⟩
   simp only [uV, uW]
   refine uE ?_
   apply kL 4 rfl (by kernel_rfl) rfl
   refine uC (qFk (a := vwA a1 c1 4) (c := c1 - 4) hE hn5 hq5) rfl ?_
   rintro _ _ ⟨rfl, rfl⟩
   simp only [uV, uW]
   rw [qRk hcl]
   refine uE ?_
   refine uD 5 rfl (y_ne rfl rfl) ?_
   refine qCc (by kernel_rfl) ?_
   refine qK ?_
   refine zF rfl (fun g4 => ?_) (fun g4 => ?_)
   ·exfalso
    exact g4 rfl
   have e9 : Z.drop (8 + p.length) = X := by
    rw [hfr]
    exact List.drop_left' (by rw [hfl]; omega)
   have hq9 := qBz (k := 8 + p.length) hq1 hc1
   rw [e9] at hq9
   have hXl : X.length = Z.length - (8 + p.length) := by omega
   refine zC (qK (qL (qJ (uM rfl (uM rfl (uX (qLv hE hqp (by omega)) rfl ?_))))))
   rintro _ _ ⟨cp, cc, rfl, rfl⟩
   simp only [uV, uW]
   refine qAx (qAm (ps := [payP l, paA (cp, cc, p)]) (p := payP (l ++ [(cp, cc, p)])) uK (fun k h => qSv h)) ?_
   refine uU ?_
   refine qW (hE.t rfl) (hE.t rfl) rfl rfl rfl (fun b40 => ?_)
   refine uU ?_
   apply zV (hE.t rfl) (hE.t rfl) rfl rfl rfl
   ·exact uK
   ·exact uK
   ·rfl
   ·rfl
   ·omega
   ·omega
   ·(unfold maxLen; omega)
   intro g41 c41 n41 x41 hn41 hx41
   refine uA rfl (qM (qK ?_))
   obtain rfl : x41 = paC (l ++ [(cp, cc, p)]) := by rw [hx41, qOw]; rfl
   obtain rfl : n41 = (l ++ [((cp, cc, p) : Py)]).length := by rw [hn41, List.length_append]; rfl
   refine qL (qJ (uM rfl (uM rfl (uB (uAa rfl rfl) ?_))))
   refine uB (qBv (l := 8 + p.length) (h := Z.length) rfl (hE.t rfl) ⟨_, rfl⟩ rfl (by omega) (by omega)) ?_
   refine l_eq 45 (.slice (vwA a1 c1 (8 + p.length)) X.length (c1 - (8 + p.length))) rfl (congrArg (fun z => Value.slice _ z _) (by omega)) ?_
   refine uA rfl (qM (qK (qJ (uM rfl (uM rfl (uB (uAa rfl rfl) ?_))))))
   refine uB (uAa rfl rfl) ?_
   refine uA rfl (qM (zJ ?_))
   refine zT (ι := FrG) (j := ⟨i + 1, l ++ [(cp, cc, p)], vwA a1 c1 (8 + p.length), c1 - (8 + p.length), some ⟨g41, 0, none⟩, c41⟩) ⟨by simp only; omega, ?_, by simp only; rw [← hX]; exact hq9, by simp only; rw [← hX]; omega⟩ (by simp only; omega) ⟨?_, rfl, congrArg some (zX (by simp only; omega)), trivial⟩ uI
   ·simp only
    rw [List.map_append, hlm, List.take_add_one, hp]
    rfl
   simp only
   rw [← hX]
   rfl
  exfalso
  omega
 obtain rfl : i = ps.length := by omega
 have e0 : frs (ps.drop ps.length) ++ t = t := by rw [List.drop_length]; rfl
 rw [e0] at hq1 hc1 ⊢
 rw [List.take_length] at hlm ⊢
 obtain ⟨pl, m, ht, hm, hp1, hp2⟩ := hpt
 have htl : t.length = m := by rw [ht, List.length_take, qCp]; omega
 refine zF rfl (fun h1 => ?_) (fun h1 => ?_)
 ·have e4 : t = UInt8.ofNat (pl.length / 16777216) :: UInt8.ofNat (pl.length / 65536) :: UInt8.ofNat (pl.length / 256) :: UInt8.ofNat pl.length :: t.drop 4 := by
   have h4 : t.take 4 = be4 pl.length := by
    rw [ht, List.take_take, Nat.min_eq_left (by omega)]
    exact List.take_left' (qFc _)
   have := List.take_append_drop 4 t
   rw [h4] at this
   exact this.symm
  have hn4 : t.length = (t.drop 4).length + 4 := by rw [List.length_drop]; omega
  have hq4 := hq1
  rw [e4] at hq4
  refine zC (qK (zL (qL (qJ (uM rfl (uX (qFk hE hn4 hq4) rfl ?_))))))
  rintro _ _ ⟨rfl, rfl⟩
  simp only [uV, uW]
  rw [qRk (by omega)]
  refine uB (uAc rfl) ?_
  refine uA rfl (qM (qK (qL (qL (qJ (uM rfl (uB (y_lt rfl rfl) ?_)))))))
  refine uM rfl ?_
  refine qAl 16 rfl (fun g1 => ?_) (fun g1 => ?_)
  ·exfalso
   omega
  refine kQ rfl rfl (uM rfl (kQ rfl rfl (uB (y_gt rfl rfl) ?_)))
  refine uB (qZ rfl rfl) ?_
  refine uM rfl ?_
  refine qAl 20 rfl (fun g2 => ?_) (fun g2 => ?_)
  ·exfalso
   omega
  refine kQ rfl rfl (uM rfl (kQ rfl rfl (uM rfl (kQ rfl rfl (uB (uBl rfl) ?_)))))
  refine kQ rfl rfl (uB (uAs rfl rfl) ?_)
  refine kQ rfl rfl (uB (y_gt rfl rfl) ?_)
  refine uB (qZ rfl rfl) ?_
  refine qM (qK ?_)
  refine zF rfl (fun g3 => ?_) (fun g3 => ?_)
  ·refine kJ (qQ (qBx rfl (qQ (zI (qK (qL (qJ ?_)))))))
   refine uM rfl (uM rfl (uA rfl (uA rfl (qM (qK (kC ?_))))))
   exact uZ rfl (.tmp rfl (.tmp rfl .nil)) ⟨l, q1, d1, rfl, hlm, rfl⟩
  exfalso
  omega
 refine kJ (qQ (qQ (zI (qK (qL (qJ ?_))))))
 refine uM rfl (uM rfl (uA rfl (uA rfl (qM (qK (kC ?_))))))
 exact uZ rfl (.tmp rfl (.tmp rfl .nil)) ⟨l, q1, d1, rfl, hlm, rfl⟩
end
section
variable {E : Env}
theorem qUg (hE : Seat E) {a : Nat} {n0 n1 : List UInt8} {x : Fl} {x1 : Option Fl} {ps : List (List UInt8)} {t : List UInt8} (hpr : Part t) (ht0 : 1 ≤ t.length) (htt : t.length ≤ 2000000) (hsy : x.synced = x.data.length) (hn : okN n0) (hps : ∀ p ∈ ps, 1 ≤ p.length ∧ p.length ≤ 1048576) (hx : x.data = frs ps ++ t) (hl : (frs ps).length ≤ 1000000000) :
  Ct E 36 [uPt a, .string ⟨⟨n0⟩⟩] [fsP a n0 n1 (some x) x1 Pwr.on] (fun v Q => ∃ l ys q c, v = .tuple #[uPt l, .slice q ys.length c, .nilIface] ∧ ys.map (fun x : Py => x.2.2) = ps ∧ Q = [fsP a n0 n1 (some ⟨frs ps, (frs ps).length⟩) x1 Pwr.on, cells l [uPt a, .string ⟨⟨n0⟩⟩, .int .i64 (ys.length : Nat), .int .i64 ((frs ps).length : Nat), .bool false] 137, sl q c 57 1 ys.length (paC ys), payP ys]) := by
 have hs : (⟨⟨n0⟩⟩ : ByteArray).size = n0.length := rfl
 obtain ⟨h1, h2⟩ := hn
 have hxl : x.data.length ≤ 1099511627776 := by
  rw [hx, List.length_append]
  omega
 refine zP (hE.fn Tryz.func36) rfl rfl rfl (fun R => ?_)
 simp only [qAe, uV, uW]
 refine qL (qJ (uA rfl (uA rfl (uA rfl (qM (qK (qL (qL (qJ (uM rfl (uB (qAy rfl (hE.t rfl)) ?_)))))))))))
 refine qM (qK (zD rfl (zC (qK (qL (qL (qJ (uM rfl (uB (qBy rfl (hE.t rfl)) ?_)))))))))
 refine uB (y_lt rfl rfl) ?_
 refine uM rfl ?_
 refine qAl 19 rfl (fun c1 => ?_) (fun c1 => ?_)
 ·exfalso
  omega
 refine kQ rfl rfl (uM rfl (kQ rfl rfl (uB (qBy rfl (hE.t rfl)) ?_)))
 refine kQ rfl rfl (uB (y_gt rfl rfl) ?_)
 refine uB (qZ rfl rfl) ?_
 refine qM (qK ?_)
 refine zF rfl (fun c2 => ?_) (fun c2 => ?_)
 ·exfalso
  omega
 refine zC (qK (qL (qJ (uM rfl (uM rfl (uB (qBc (hE.t rfl) rfl rfl) ?_))))))
 refine uU ?_
 refine qBt rfl (fun b28 => ?_)
 refine uA rfl (qM (qK (qL (qJ (uM rfl (uM rfl (uX (qRu hE ⟨h1, h2⟩ hxl) rfl ?_)))))))
 rintro _ _ ⟨q, c, rfl, rfl⟩
 rw [hx]
 simp only [uV, uW]
 refine uM rfl (uB (qV rfl rfl) (uB (qV rfl rfl) (uA rfl (uA rfl (qM (qK (qL (qL (qJ (uM rfl ?_))))))))))
 refine uB (qAf rfl (hE.t rfl)) ?_
 refine qM (qK (zD rfl ?_))
 refine qCw (p := sl q c 5 1 (frs ps ++ t).length (byC (frs ps ++ t))) uK (fun _ h => (qDt h).1) ?_
 intro hcap
 refine qCw (p := sl q c 5 1 (frs ps ++ t).length (byC (frs ps ++ t))) uK (fun _ h => fun hpos => qAz h hpos) ?_
 intro hpt
 have hqs : Rdb E.w0 q (byC (frs ps ++ t)) (sl q c 5 1 (frs ps ++ t).length (byC (frs ps ++ t))) := qCv (qAg _) hpt
 refine zC (qK (qL (qJ (uM rfl (uX (qPv hE hpr hps hqs hcap hl htt) rfl ?_)))))
 rintro _ _ ⟨ys, q2, c2', rfl, hys, rfl⟩
 simp only [uV, uW]
 refine uM rfl (uB (qV rfl rfl) (uB (qV rfl rfl) (uA rfl (uA rfl (qM (qK (qL (qL (qJ (uM rfl (uM rfl (uB (uBl rfl) ?_))))))))))))
 refine uB (y_lt rfl rfl) ?_
 refine qM (qK ?_)
 have hxl2 : x.data.length = (frs ps).length + t.length := by rw [hx, List.length_append]
 have hal : (frs ps ++ t).length = (frs ps).length + t.length := List.length_append
 refine zF rfl (fun c3 => ?_) (fun c3 => ?_)
 ·refine qL (qJ ?_)
  refine uM rfl (uM rfl (uM rfl (uX (qPp (n := (frs ps).length) (x := x) hE Pwr.on_up ⟨h1, h2⟩ (by omega) (by omega) (by omega)) rfl ?_)))
  have hxt : (⟨x.data.take (frs ps).length, min x.synced (frs ps).length⟩ : Fl) = ⟨frs ps, (frs ps).length⟩ := by
   rw [hsy, hxl2, hx, List.take_left' rfl, Nat.min_eq_right (by omega)]
  rw [hxt]
  rintro _ _ ⟨rfl, rfl⟩
  simp only [uV, uW]
  refine uA rfl (qM (qK (qL (qJ (uM rfl (uB (qAf rfl (hE.t rfl)) ?_))))))
  refine qM (qK (zD rfl (zC (qK (qL (qJ (uM rfl (uM rfl (uB (uBl rfl) ?_)))))))))
  refine uB (zB rfl) ?_
  refine uB (uBf rfl) ?_
  refine uU (uS ?_)
  refine qM (qK (qL (qJ (uM rfl (uM rfl (uB (zB rfl) ?_))))))
  refine uB (uBf rfl) ?_
  refine uU (uS ?_)
  refine qM (qK (qL (qJ (uM rfl (uM rfl (uA rfl (uA rfl (uA rfl (qM (qK (kC ?_)))))))))))
  exact uZ rfl (.tmp rfl (.tmp rfl (.tmp rfl .nil))) ⟨b28, ys, q2, c2', rfl, hys, rfl⟩
 exfalso
 omega
theorem qPu (hE : Seat E) {a l ct sz c : Nat} {n0 n1 bs : List UInt8} {x0 x1 : Option Fl} {e : Option Addr} {q : HP} (hn : okN n0) (hq : Rdb E.w0 e (byC bs) q) (h1 : 1 ≤ bs.length) (h2 : bs.length ≤ 1048576) :
  Ct E 74 [uPt l, .slice e bs.length c] [cells l [uPt a, .string ⟨⟨n0⟩⟩, .int .i64 (ct : Nat), .int .i64 (sz : Nat), .bool false] 137, fsP a n0 n1 x0 x1 Pwr.out, q] (fun v Q => v = .iface 31 (.int .i64 8) ∧ Q = [fsP a n0 n1 x0 x1 Pwr.dead, q]) := by
 have hfl := qCp bs
 refine zP (hE.fn Tryz.func74) rfl rfl rfl (fun R => ?_)
 simp only [qAe, uV, uW]
 refine qL (qJ (uA rfl (qM (qK (qL (qL (qJ (uM rfl (uB (qAy rfl (hE.t rfl)) ?_)))))))))
 refine uM rfl (kQ rfl rfl (uM rfl (kQ rfl rfl (uB (zB rfl) ?_))))
 refine kQ rfl rfl (uB (uBf rfl) ?_)
 refine kQ rfl rfl (uL ?_)
 refine kQ rfl rfl (uB (qAy rfl (hE.t rfl)) ?_)
 refine uB (qZ rfl rfl) ?_
 refine qM (qK (zD rfl (zC (qK (qL (qL (qJ (uM rfl (uB (zB rfl) ?_)))))))))
 refine uB (uBf rfl) ?_
 refine uL ?_
 refine qM (qK (zD rfl (zC (qK (qL (qJ (uM rfl (uX (qMj hE hq h1 h2) rfl ?_))))))))
 rintro _ _ ⟨g, c', rfl, rfl⟩
 simp only [uV, uW]
 refine uM rfl (uB (qV rfl rfl) (uB (qV rfl rfl) (uA rfl (uA rfl (qM (qK (qL (qL (qJ (uM rfl ?_))))))))))
 refine uB (qAf rfl (hE.t rfl)) ?_
 refine qM (qK (zD rfl ?_))
 have hqf : Rdb E.w0 (some ⟨g, 0, none⟩) (byC (frm bs)) (sl (some ⟨g, 0, none⟩) c' 5 1 (frm bs).length (byC (frm bs))) := qCv (qAg _) (fun _ => ⟨g, rfl⟩)
 refine zC (qK (qL (qL ?_)))
 refine uH ([cells l [uPt a, .string ⟨⟨n0⟩⟩, .int .i64 (ct : Nat), .int .i64 (sz : Nat), .bool false] 137]) ?_
 refine uD 0 rfl (qC rfl) ?_
 refine uD 1 rfl (zB rfl) ?_
 refine uD 2 rfl (uBf rfl) ?_
 refine uD 3 rfl (uY) ?_
 refine uD 4 rfl (qC rfl) ?_
 refine uD 5 rfl (zB rfl) ?_
 refine uD 6 rfl (uBf rfl) ?_
 refine uD 7 rfl (uY) ?_
 refine uD 8 rfl (qC rfl) ?_
 apply kL 9 rfl (by kernel_rfl) rfl
 refine uC (qRt (bs := frm bs) hE hn) rfl ?_
 rintro _ _ ⟨rfl, rfl⟩
 simp only [uV, uW]
 refine uE ?_
 refine uD 10 rfl (qD rfl) ?_
 refine qCc (by kernel_rfl) ?_
 refine qK (qL (qJ (uM rfl (uB (qCi rfl (hE.t rfl)) ?_))))
 refine qM (qK (zG rfl (qL (qJ (uM rfl (uB (zB rfl) ?_))))))
 refine uB (uBf rfl) ?_
 refine uU (uS ?_)
 refine qM (qK (qL (qJ (uM rfl (uA rfl (qM (qK (kC (qX ?_)))))))))
 exact uZ rfl (.tmp rfl .nil) ⟨rfl, rfl⟩
theorem qUh (hE : Seat E) {a l ct sz : Nat} {n0 n1 : List UInt8} {x0 x1 : Option Fl} (hn : okN n0) (hct : 1 ≤ ct) :
  Ct E 75 [uPt l] [cells l [uPt a, .string ⟨⟨n0⟩⟩, .int .i64 (ct : Nat), .int .i64 (sz : Nat), .bool false] 137, fsP a n0 n1 x0 x1 Pwr.out] (fun v Q => v = .iface 31 (.int .i64 8) ∧ Q = [fsP a n0 n1 x0 x1 Pwr.dead]) := by
 refine zP (hE.fn Tryz.func75) rfl rfl rfl (fun R => ?_)
 simp only [qAe, uV, uW]
 refine qL (qJ (uA rfl (qM (qK (qL (qL (qJ (uM rfl (uB (qAy rfl (hE.t rfl)) ?_)))))))))
 refine uM rfl (kQ rfl rfl (uM rfl (kQ rfl rfl (uB (zB rfl) ?_))))
 refine kQ rfl rfl (uB (uBf rfl) ?_)
 refine kQ rfl rfl (uL ?_)
 refine kQ rfl rfl (uB (qAy rfl (hE.t rfl)) ?_)
 refine uB (qZ rfl rfl) ?_
 refine qM (qK (zD rfl (zC (qK (qL (qL (qJ (uM rfl (uB (zB rfl) ?_)))))))))
 refine uB (uBf rfl) ?_
 refine uL ?_
 refine qM (qK (zD rfl (zC (qK (qL (qL (qJ (uM rfl (uB (zB rfl) ?_)))))))))
 refine uB (uBf rfl) ?_
 refine uL ?_
 refine uB (y_eq rfl rfl) ?_
 refine qM (qK ?_)
 refine zF rfl (fun c1 => ?_) (fun c1 => ?_)
 ·exfalso
  omega
 refine zC (qK (qL (qL ?_)))
 refine uH ([cells l [uPt a, .string ⟨⟨n0⟩⟩, .int .i64 (ct : Nat), .int .i64 (sz : Nat), .bool false] 137]) ?_
 refine uD 0 rfl (qC rfl) ?_
 refine uD 1 rfl (zB rfl) ?_
 refine uD 2 rfl (uBf rfl) ?_
 refine uD 3 rfl (uY) ?_
 refine uD 4 rfl (qC rfl) ?_
 refine uD 5 rfl (zB rfl) ?_
 refine uD 6 rfl (uBf rfl) ?_
 refine uD 7 rfl (uY) ?_
 apply kL 8 rfl (by kernel_rfl) rfl
 refine uC (qWy hE hn) rfl ?_
 rintro _ _ ⟨rfl, rfl⟩
 simp only [uV, uW]
 refine uE ?_
 refine uD 9 rfl (qD rfl) ?_
 refine qCc (by kernel_rfl) ?_
 refine qK (qL (qJ (uM rfl (uB (qCi rfl (hE.t rfl)) ?_))))
 refine qM (qK (zG rfl (qL (qJ (uM rfl (uB (zB rfl) ?_))))))
 refine uB (uBf rfl) ?_
 refine uU (uS ?_)
 refine qM (qK (qL (qJ (uM rfl (uA rfl (qM (qK (kC (qX ?_)))))))))
 exact uZ rfl (.tmp rfl .nil) ⟨rfl, rfl⟩
theorem qMc (hE : Seat E) {a l ct sz c : Nat} {n0 n1 bs : List UInt8} {x0 x1 : Option Fl} {e : Option Addr} {q : HP} (hn : okN n0) (hq : Rdb E.w0 e (byC bs) q) (hc : bs.length ≤ c) (h2 : bs.length ≤ 1048573) (hl : flen x0 + bs.length + 11 ≤ 16777216) (hct : ct ≤ 1000000000) (hsz : sz ≤ 1000000000) :
  Ct E 43 [uPt l, .slice e bs.length c] [cells l [uPt a, .string ⟨⟨n0⟩⟩, .int .i64 (ct : Nat), .int .i64 (sz : Nat), .bool false] 137, fsP a n0 n1 x0 x1 Pwr.out, q] (fun v Q => v = .iface 31 (.int .i64 8) ∧ Q = [fsP a n0 n1 x0 x1 Pwr.dead]) := by
 have hpl := qEh bs
 refine zP (hE.fn Tryz.func43) rfl rfl rfl (fun R => ?_)
 simp only [qAe, uV, uW]
 refine qL (qJ (uA rfl (qM (qK (qL (qJ (uA rfl (qM (qK (qL (zL ?_)))))))))))
 refine qFb 2 ?_
 refine qGr ?_
 refine qL (qL (qJ (uM rfl (uB (qTk rfl rfl) ?_))))
 refine l_eq 10 (.int .u8 0) rfl (zX (by decide)) ?_
 refine uB (y_eq rfl rfl) ?_
 refine qM (qK (zG rfl (zC (qK (zL (qL (qJ (uM rfl (uB (uBl rfl) ?_)))))))))
 refine uB (y_min rfl rfl) ?_
 refine uA rfl (qM (qK ?_))
 refine w_eq 6 (.int .i64 (bs.length : Nat)) rfl (zX (by omega)) ?_
 refine qL (qL (qJ (uM rfl (uM rfl (uB (uBl rfl) ?_)))))
 refine uB (y_eq rfl rfl) ?_
 refine qM (qK ?_)
 refine zF rfl (fun c1 => ?_) (fun c1 => ?_)
 ·refine qJ ?_
  refine uM rfl (uB (y_orU rfl rfl) ?_)
  refine l_eq 20 (.int .u8 3) rfl (zX (by decide)) ?_
  have hq0 : Rdb E.w0 (vwA e c 0) (byC bs) q := by
   have := qBz (k := 0) hq hc
   rwa [List.drop_zero] at this
  have hml3 : 2 + 1 ≤ maxLen := by unfold maxLen; omega
  have hb1 : (2 + 1 + (byC bs).length) * 1 ≤ 140737488355328 := by
   rw [qAg]
   omega
  have hb2 : 2 + 1 + (byC bs).length ≤ maxLen := by
   rw [qAg]
   unfold maxLen
   omega
  refine uA rfl (qM (qK (qL (qJ (uU ?_)))))
  refine qW (hE.t rfl) (hE.t rfl) rfl rfl rfl (fun b21 => ?_)
  refine uU ?_
  refine qQd rfl (hE.t rfl) (hE.t rfl) uK ?_
  refine uM rfl (uU ?_)
  refine qW (hE.t rfl) (hE.t rfl) rfl rfl rfl (fun b24 => ?_)
  refine uU ?_
  refine qGo (xs := [.int .u8 69, .int .u8 71]) (hE.t rfl) (hE.t rfl) rfl rfl rfl rfl uK uK (by omega) hml3 (fun g25 c25 => ?_)
  refine uA rfl (qM (qK (qL (qL (qJ (uM rfl (uM rfl (uM rfl (uM rfl ?_)))))))))
  refine uB (qBv (l := 0) (h := bs.length) rfl (hE.t rfl) rfl ⟨_, rfl⟩ (Nat.zero_le _) hc) ?_
  refine l_eq 30 (.slice (vwA e c 0) bs.length (c - 0)) rfl (congrArg (fun z => Value.slice _ z _) (by omega)) ?_
  refine uU ?_
  refine qBp (us := byC bs) (q := q) (hE.t rfl) (hE.t rfl) rfl rfl rfl (qAg _).symm hq0 uK uK (qBh _) hb1 hb2 (fun pt ct' m1 y1 hm1 hy1 => ?_)
  obtain rfl : m1 = (payB bs).length := by rw [hm1, qAg, hpl]; omega
  obtain rfl : y1 = byC (payB bs) := hy1
  refine qGh (p := sl pt ct' 5 1 (payB bs).length (byC (payB bs))) uK (fun _ h => qAz h (by omega)) ?_
  rintro ⟨g31, rfl⟩
  have hqf : Rdb E.w0 (some ⟨g31, 0, none⟩) (byC (payB bs)) (sl (some ⟨g31, 0, none⟩) ct' 5 1 (payB bs).length (byC (payB bs))) := qCv (qAg _) (fun _ => ⟨g31, rfl⟩)
  refine uX (qPu (bs := payB bs) (a := a) (n0 := n0) (n1 := n1) (x0 := x0) (x1 := x1) (ct := ct) (sz := sz) hE hn hqf (by omega) (by omega)) rfl ?_
  rintro _ _ ⟨rfl, rfl⟩
  simp only [uV, uW]
  refine uA rfl (qM (qK (qL (qJ (uM rfl (uB (qCi rfl (hE.t rfl)) ?_))))))
  refine qM (qK (zG rfl (qL (qJ (uM rfl (uA rfl ?_))))))
  refine qM (qK (kC (qX (zO (qX (zO (qX ?_)))))))
  exact uZ rfl (.tmp rfl .nil) ⟨rfl, rfl⟩
 exfalso
 exact c1 rfl
theorem qMd (hE : Seat E) {a l ct sz c : Nat} {n0 n1 bs : List UInt8} {x0 x1 : Option Fl} {e : Option Addr} {q : HP} (hn : okN n0) (hq : Rdb E.w0 e (byC bs) q) (hc : bs.length ≤ c) (h2 : bs.length ≤ 1048573) (hl : flen x0 + bs.length + 11 ≤ 16777216) (hct : ct ≤ 1000000000) (hsz : sz ≤ 1000000000) :
  Ct E 43 [uPt l, .slice e bs.length c] [cells l [uPt a, .string ⟨⟨n0⟩⟩, .int .i64 (ct : Nat), .int .i64 (sz : Nat), .bool false] 137, fsP a n0 n1 x0 x1 (Pwr.lft 1), q] (fun v Q => v = .iface 31 (.int .i64 8) ∧ Q = [fsP a n0 n1 (some (apF x0 (frm (payB bs)))) x1 Pwr.dead]) := by
 have hpl := qEh bs
 refine zP (hE.fn Tryz.func43) rfl rfl rfl (fun R => ?_)
 simp only [qAe, uV, uW]
 refine qL (qJ (uA rfl (qM (qK (qL (qJ (uA rfl (qM (qK (qL (zL ?_)))))))))))
 refine qFb 2 ?_
 refine qGr ?_
 refine qL (qL (qJ (uM rfl (uB (qTk rfl rfl) ?_))))
 refine l_eq 10 (.int .u8 0) rfl (zX (by decide)) ?_
 refine uB (y_eq rfl rfl) ?_
 refine qM (qK (zG rfl (zC (qK (zL (qL (qJ (uM rfl (uB (uBl rfl) ?_)))))))))
 refine uB (y_min rfl rfl) ?_
 refine uA rfl (qM (qK ?_))
 refine w_eq 6 (.int .i64 (bs.length : Nat)) rfl (zX (by omega)) ?_
 refine qL (qL (qJ (uM rfl (uM rfl (uB (uBl rfl) ?_)))))
 refine uB (y_eq rfl rfl) ?_
 refine qM (qK ?_)
 refine zF rfl (fun c1 => ?_) (fun c1 => ?_)
 ·refine qJ ?_
  refine uM rfl (uB (y_orU rfl rfl) ?_)
  refine l_eq 20 (.int .u8 3) rfl (zX (by decide)) ?_
  have hq0 : Rdb E.w0 (vwA e c 0) (byC bs) q := by
   have := qBz (k := 0) hq hc
   rwa [List.drop_zero] at this
  have hml3 : 2 + 1 ≤ maxLen := by unfold maxLen; omega
  have hb1 : (2 + 1 + (byC bs).length) * 1 ≤ 140737488355328 := by
   rw [qAg]
   omega
  have hb2 : 2 + 1 + (byC bs).length ≤ maxLen := by
   rw [qAg]
   unfold maxLen
   omega
  refine uA rfl (qM (qK (qL (qJ (uU ?_)))))
  refine qW (hE.t rfl) (hE.t rfl) rfl rfl rfl (fun b21 => ?_)
  refine uU ?_
  refine qQd rfl (hE.t rfl) (hE.t rfl) uK ?_
  refine uM rfl (uU ?_)
  refine qW (hE.t rfl) (hE.t rfl) rfl rfl rfl (fun b24 => ?_)
  refine uU ?_
  refine qGo (xs := [.int .u8 69, .int .u8 71]) (hE.t rfl) (hE.t rfl) rfl rfl rfl rfl uK uK (by omega) hml3 (fun g25 c25 => ?_)
  refine uA rfl (qM (qK (qL (qL (qJ (uM rfl (uM rfl (uM rfl (uM rfl ?_)))))))))
  refine uB (qBv (l := 0) (h := bs.length) rfl (hE.t rfl) rfl ⟨_, rfl⟩ (Nat.zero_le _) hc) ?_
  refine l_eq 30 (.slice (vwA e c 0) bs.length (c - 0)) rfl (congrArg (fun z => Value.slice _ z _) (by omega)) ?_
  refine uU ?_
  refine qBp (us := byC bs) (q := q) (hE.t rfl) (hE.t rfl) rfl rfl rfl (qAg _).symm hq0 uK uK (qBh _) hb1 hb2 (fun pt ct' m1 y1 hm1 hy1 => ?_)
  obtain rfl : m1 = (payB bs).length := by rw [hm1, qAg, hpl]; omega
  obtain rfl : y1 = byC (payB bs) := hy1
  refine qGh (p := sl pt ct' 5 1 (payB bs).length (byC (payB bs))) uK (fun _ h => qAz h (by omega)) ?_
  rintro ⟨g31, rfl⟩
  have hqf : Rdb E.w0 (some ⟨g31, 0, none⟩) (byC (payB bs)) (sl (some ⟨g31, 0, none⟩) ct' 5 1 (payB bs).length (byC (payB bs))) := qCv (qAg _) (fun _ => ⟨g31, rfl⟩)
  refine uX (qKs (bs := payB bs) (a := a) (n0 := n0) (n1 := n1) (x0 := x0) (x1 := x1) (ct := ct) (sz := sz) hE (Pwr.lft_up (Nat.le_refl 1) (by decide)) hn hqf (by omega) (by omega) (by omega) hct hsz) rfl ?_
  rintro _ _ ⟨rfl, rfl⟩
  simp only [uV, uW]
  refine uA rfl (qM (qK (qL (qJ (uM rfl (uB (qAf rfl (hE.t rfl)) ?_))))))
  refine qM (qK (zD rfl (zC (qK (qL (qJ (uM rfl (uM rfl ?_))))))))
  refine uB (qBv (l := bs.length) (h := bs.length) rfl (hE.t rfl) ⟨_, rfl⟩ rfl (Nat.le_refl _) hc) ?_
  refine uA rfl (qM (qK (qJ (uM rfl (uB (qTl rfl rfl) ?_)))))
  refine l_eq 40 (.int .u8 2) rfl (zX (by decide)) ?_
  refine uA rfl (qM (zJ ?_))
  refine a_rd ?_
  refine qGr ?_
  refine qL (qL (qJ (uM rfl (uB (qTk rfl rfl) ?_))))
  refine l_eq 10 (.int .u8 2) rfl (zX (by decide)) ?_
  refine uB (y_eq rfl rfl) ?_
  refine qM (qK (zD rfl (kJ (qQ (qQ (zI (qK (qL (qJ (uM rfl ?_))))))))))
  refine uX (qUh (ct := ct + 1) hE hn (by omega)) rfl ?_
  rintro _ _ ⟨rfl, rfl⟩
  simp only [uV, uW]
  refine uA rfl (qM (qK (kC ?_)))
  exact uZ rfl (.tmp rfl .nil) ⟨rfl, rfl⟩
 exfalso
 exact c1 rfl
end
end Go.Proofs.YtddfnkijolfhbaaGreat
