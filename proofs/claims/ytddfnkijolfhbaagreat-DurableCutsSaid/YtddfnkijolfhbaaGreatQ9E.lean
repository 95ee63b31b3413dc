import Derived.Test.YtddfnkijolfhbaaGreatQ9D
set_option linter.all false
set_option maxHeartbeats 1000000
namespace Go.Proofs.YtddfnkijolfhbaaGreat
open Go Go.RowKit Sl Eg
set_option maxRecDepth 10000
variable {E : Env} {Es : List Ent} {s most : Nat}
theorem qDj (hE : Seat E) {d : Nat} {v0 v1 v3 v4 v5 v6 v7 : Value} : Ct E 41 [uPt d] [cells d [v0, v1, uPt s, v3, v4, v5, v6, v7] 97] (fun v Q => v = .bool false ∧ Q = [cells d [v0, v1, uPt s, v3, v4, v5, v6, v7] 97]) := by
 refine zP (hE.fn Tryz.func41) rfl rfl rfl (fun R => ?_)
 simp only [qAe, uV, uW]
 refine qL (qJ (uA rfl (qM (qK (qL (qJ (uM rfl (uB (qAy rfl (hE.t rfl)) ?_))))))))
 refine uM rfl (kQ rfl rfl (uM rfl (kQ rfl rfl (uB (zB rfl) ?_))))
 refine kQ rfl rfl (uB (uBf rfl) ?_)
 refine kQ rfl rfl (uL ?_)
 refine kQ rfl rfl (uB (qAy rfl (hE.t rfl)) ?_)
 refine uB (qZ rfl rfl) ?_
 refine uA rfl (qM (qK (kC ?_)))
 exact uZ rfl (.tmp rfl .nil) ⟨rfl, rfl⟩
theorem qIr (hE : Seat E) {d a n : Nat} {nm : List UInt8} {f : List UInt8 → Option Nat} {ch : List UInt8 → Bool} {V : List Nat} :
  Ct E 13 [uPt d] [dsP d a nm s f ch V n] (fun v Q => v = uPt s ∧ Q = [dsP d a nm s f ch V n]) := by
 refine Sl.ct_open (p := dsP d a nm s f ch V n) (ps := fun i : {i : DsG // i.sz = n ∧ i.ct ≤ n} => [cells d [uPt a, .string ⟨⟨nm⟩⟩, uPt s, .pointer (some ⟨i.1.l, 0, none⟩), .map (some i.1.nb), .map (some i.1.cb), .pointer (some ⟨i.1.wb, 0, none⟩), .bool false] 97, cells i.1.wb [.map (some i.1.mb), .int .i64 (V.length : Nat)] 95, qAb i.1.nb (nmF f), qAb i.1.cb (chF ch), mapF i.1.mb .i64 (nuF V), cells i.1.l [uPt a, .string ⟨⟨nm⟩⟩, .int .i64 (i.1.ct : Nat), .int .i64 (i.1.sz : Nat), .bool false] 137]) (fun k ⟨i, hi, h⟩ => ⟨⟨i, hi⟩, h⟩) ?_
 rintro ⟨i, hi⟩
 simp only
 refine zP (hE.fn Tryz.func13) rfl rfl rfl (fun R => ?_)
 simp only [qAe, uV, uW]
 refine qL (qJ (uA rfl (qM (qK (qL (qL (qJ (uM rfl (uX (qDj hE) rfl ?_)))))))))
 rintro _ _ ⟨rfl, rfl⟩
 simp only [uV, uW]
 refine qM (qK (zD rfl (zC (qK (qL (qJ (uM rfl (uB (zB rfl) ?_))))))))
 refine uB (uBf rfl) ?_
 refine uL ?_
 refine qAx (qAm (ps := [cells d [uPt a, .string ⟨⟨nm⟩⟩, uPt s, .pointer (some ⟨i.l, 0, none⟩), .map (some i.nb), .map (some i.cb), .pointer (some ⟨i.wb, 0, none⟩), .bool false] 97, cells i.wb [.map (some i.mb), .int .i64 (V.length : Nat)] 95, qAb i.nb (nmF f), qAb i.cb (chF ch), mapF i.mb .i64 (nuF V), cells i.l [uPt a, .string ⟨⟨nm⟩⟩, .int .i64 (i.ct : Nat), .int .i64 (i.sz : Nat), .bool false] 137]) (p := dsP d a nm s f ch V n) uK (fun k h => ⟨i, hi, h⟩)) ?_
 refine uA rfl (qM (qK (kC ?_)))
 exact uZ rfl (.tmp rfl .nil) ⟨rfl, rfl⟩
theorem nmF_setN (f : List UInt8 → Option Nat) (k : List UInt8) (id : Nat) : qIl (nmF f) k (.int .i64 (id : Nat)) = nmF (setN f (k, id)) := by
 funext x
 unfold qIl nmF setN
 by_cases e : x = k
 ·rw [if_pos e, if_pos e]; rfl
 rw [if_neg e, if_neg e]
theorem chF_set (ch : List UInt8 → Bool) (k : List UInt8) : qIl (chF ch) k (.bool true) = chF (fun x => x == k || ch x) := by
 funext x
 unfold qIl chF
 by_cases e : x = k
 ·subst e; simp
 simp [e]
theorem ct_dSet (hE : Seat E) {d a n id : Nat} {nm k : List UInt8} {f : List UInt8 → Option Nat} {ch : List UInt8 → Bool} {V : List Nat} (hk : okN k) (hid : id ≤ Es.length) :
  Ct E 17 [uPt d, .string ⟨⟨k⟩⟩, .int .i64 (id : Nat)] [dsP d a nm s f ch V n, zS s most Es] (fun v Q => v = .nilIface ∧ Q = [dsP d a nm s (setN f (k, id)) (fun x => x == k || ch x) V n, zS s most Es]) := by
 have hs : (⟨⟨k⟩⟩ : ByteArray).size = k.length := rfl
 obtain ⟨h1, h2⟩ := hk
 refine Sl.ct_open (p := dsP d a nm s f ch V n) (ps := fun i : {i : DsG // i.sz = n ∧ i.ct ≤ n} => [cells d [uPt a, .string ⟨⟨nm⟩⟩, uPt s, .pointer (some ⟨i.1.l, 0, none⟩), .map (some i.1.nb), .map (some i.1.cb), .pointer (some ⟨i.1.wb, 0, none⟩), .bool false] 97, cells i.1.wb [.map (some i.1.mb), .int .i64 (V.length : Nat)] 95, qAb i.1.nb (nmF f), qAb i.1.cb (chF ch), mapF i.1.mb .i64 (nuF V), cells i.1.l [uPt a, .string ⟨⟨nm⟩⟩, .int .i64 (i.1.ct : Nat), .int .i64 (i.1.sz : Nat), .bool false] 137]) (fun k ⟨i, hi, h⟩ => ⟨⟨i, hi⟩, h⟩) ?_
 rintro ⟨i, hi⟩
 simp only
 refine zP (hE.fn Tryz.func17) rfl rfl rfl (fun R => ?_)
 simp only [qAe, uV, uW]
 refine qL (qJ (uA rfl (qM (qK (qL (qL (qJ (uM rfl (uX (qDj hE) rfl ?_)))))))))
 rintro _ _ ⟨rfl, rfl⟩
 simp only [uV, uW]
 refine qM (qK (zD rfl (zC (qK (qL (qL (qJ (uM rfl (uB (qBy rfl (hE.t rfl)) ?_)))))))))
 refine uB (y_lt rfl rfl) ?_
 refine uM rfl ?_
 refine qAl 13 rfl (fun c1 => ?_) (fun c1 => ?_)
 ·exfalso
  omega
 refine kQ rfl rfl (uM rfl (kQ rfl rfl (uB (qBy rfl (hE.t rfl)) ?_)))
 refine kQ rfl rfl (uB (y_gt rfl rfl) ?_)
 refine uB (qZ rfl rfl) ?_
 refine qM (qK ?_)
 refine zF rfl (fun c2 => ?_) (fun c2 => ?_)
 ·exfalso
  omega
 refine zC (qK (qL (qL (qJ (uM rfl (uB (zB rfl) ?_))))))
 refine uB (uBf rfl) ?_
 refine uL ?_
 refine qM (qK (zD rfl (zC (qK (qL (qL (qJ (uM rfl (uB (y_lt rfl rfl) ?_)))))))))
 refine uM rfl ?_
 refine qAl 26 rfl (fun c3 => ?_) (fun c3 => ?_)
 ·exfalso
  omega
 refine kQ rfl rfl (uM rfl (kQ rfl rfl (uM rfl (kQ rfl rfl (uB (zB rfl) ?_)))))
 refine kQ rfl rfl (uB (uBf rfl) ?_)
 refine kQ rfl rfl (uL ?_)
 refine kQ rfl rfl (uX (ct_len hE) rfl ?_)
 rintro _ _ ⟨rfl, rfl⟩
 simp only [uV, uW]
 refine kQ rfl rfl (uB (y_gt rfl rfl) ?_)
 refine uB (qZ rfl rfl) ?_
 refine qM (qK ?_)
 refine zF rfl (fun c4 => ?_) (fun c4 => ?_)
 ·exfalso
  omega
 refine zC (qK (qL (qJ (uM rfl (uB (zB rfl) ?_)))))
 refine uB (uBf rfl) ?_
 refine uL ?_
 refine uM rfl (uM rfl (uU ?_))
 apply qFm (kt := 9) (et := 40) (by rw [hE.P]; kernel_rfl) (by rw [hE.P]; kernel_rfl) rfl rfl rfl
 ·exact uK
 refine qM (qK ?_)
 rw [nmF_setN]
 refine qL (qJ (uM rfl (uB (zB rfl) ?_)))
 refine uB (uBf rfl) ?_
 refine uL ?_
 refine uM rfl (uU ?_)
 apply qFm (kt := 9) (et := 4) (by rw [hE.P]; kernel_rfl) (by rw [hE.P]; kernel_rfl) rfl rfl rfl
 ·exact uK
 refine qM (qK ?_)
 rw [chF_set]
 refine qAk (qAm (ps := [cells d [uPt a, .string ⟨⟨nm⟩⟩, uPt s, .pointer (some ⟨i.l, 0, none⟩), .map (some i.nb), .map (some i.cb), .pointer (some ⟨i.wb, 0, none⟩), .bool false] 97, cells i.wb [.map (some i.mb), .int .i64 (V.length : Nat)] 95, qAb i.nb (nmF (setN f (k, id))), qAb i.cb (chF (fun x => x == k || ch x)), mapF i.mb .i64 (nuF V), cells i.l [uPt a, .string ⟨⟨nm⟩⟩, .int .i64 (i.ct : Nat), .int .i64 (i.sz : Nat), .bool false] 137]) (p := dsP d a nm s (setN f (k, id)) (fun x => x == k || ch x) V n) uK (fun k h => ⟨i, hi, h⟩)) ?_
 refine qL (qJ (uA rfl (qM (qK (kC ?_)))))
 exact uZ rfl (.tmp rfl .nil) ⟨rfl, rfl⟩
theorem ct_dGet (hE : Seat E) {d a n id : Nat} {nm k : List UInt8} {f : List UInt8 → Option Nat} {ch : List UInt8 → Bool} {V : List Nat} (hk : f k = some id) :
  Ct E 18 [uPt d, .string ⟨⟨k⟩⟩] [dsP d a nm s f ch V n] (fun v Q => v = .tuple #[.int .i64 (id : Nat), .nilIface] ∧ Q = [dsP d a nm s f ch V n]) := by
 have hlk : nmF f k = some (.int .i64 (id : Nat)) := by unfold nmF; rw [hk]; rfl
 refine Sl.ct_open (p := dsP d a nm s f ch V n) (ps := fun i : {i : DsG // i.sz = n ∧ i.ct ≤ n} => [cells d [uPt a, .string ⟨⟨nm⟩⟩, uPt s, .pointer (some ⟨i.1.l, 0, none⟩), .map (some i.1.nb), .map (some i.1.cb), .pointer (some ⟨i.1.wb, 0, none⟩), .bool false] 97, cells i.1.wb [.map (some i.1.mb), .int .i64 (V.length : Nat)] 95, qAb i.1.nb (nmF f), qAb i.1.cb (chF ch), mapF i.1.mb .i64 (nuF V), cells i.1.l [uPt a, .string ⟨⟨nm⟩⟩, .int .i64 (i.1.ct : Nat), .int .i64 (i.1.sz : Nat), .bool false] 137]) (fun k ⟨i, hi, h⟩ => ⟨⟨i, hi⟩, h⟩) ?_
 rintro ⟨i, hi⟩
 simp only
 refine zP (hE.fn Tryz.func18) rfl rfl rfl (fun R => ?_)
 simp only [qAe, uV, uW]
 refine qL (qJ (uA rfl (uA rfl (qM (qK (qL (qL (qJ (uM rfl (uX (qDj hE) rfl ?_))))))))))
 rintro _ _ ⟨rfl, rfl⟩
 simp only [uV, uW]
 refine qM (qK (zD rfl (zC (qK (qL (qJ (uM rfl (uB (zB rfl) ?_))))))))
 refine uB (uBf rfl) ?_
 refine uL ?_
 refine uM rfl ?_
 refine uB (qCj (kt := 9) (et := 40) (z := .int .i64 0) (by rw [hE.P]; kernel_rfl) (by rw [hE.P]; kernel_rfl) (fun w => by rw [hE.P]; kernel_rfl) rfl rfl uK (by assumption)) ?_
 refine uM rfl (uB (qV rfl rfl) (uB (qV rfl rfl) (uA rfl (uA rfl (qM (qK (qL (qL (qJ (uM rfl (uB (qBm rfl) ?_)))))))))))
 refine qM (qK (zD rfl ?_))
 refine qAk (qAm (ps := [cells d [uPt a, .string ⟨⟨nm⟩⟩, uPt s, .pointer (some ⟨i.l, 0, none⟩), .map (some i.nb), .map (some i.cb), .pointer (some ⟨i.wb, 0, none⟩), .bool false] 97, cells i.wb [.map (some i.mb), .int .i64 (V.length : Nat)] 95, qAb i.nb (nmF f), qAb i.cb (chF ch), mapF i.mb .i64 (nuF V), cells i.l [uPt a, .string ⟨⟨nm⟩⟩, .int .i64 (i.ct : Nat), .int .i64 (i.sz : Nat), .bool false] 137]) (p := dsP d a nm s f ch V n) uK (fun k h => ⟨i, hi, h⟩)) ?_
 refine zC (qK (qL (qJ (uM rfl (uA rfl (uA rfl (qM (qK (kC ?_)))))))))
 exact uZ rfl (.tmp rfl (.tmp rfl .nil)) ⟨rfl, rfl⟩
def finF (f : List UInt8 → Option Nat) (k : Nat) : Prop := ∃ D : List (List UInt8), D.length ≤ k ∧ ∀ x, f x ≠ none → x ∈ D
theorem finF.cnt {f : List UInt8 → Option Nat} {k n : Nat} (h : finF f k) (hc : cntS (nmF f) n) : n ≤ k := by
 obtain ⟨D, h1, h2⟩ := h
 obtain ⟨M, h3, h4, rfl⟩ := hc
 have := qDp h3 (B := D) fun x hx => h2 x (by
  have := qEj.1 hx
  rw [h4] at this
  unfold nmF at this
  intro e
  rw [e] at this
  exact this rfl)
 rw [List.length_map] at this
 omega
theorem finF.set {f : List UInt8 → Option Nat} {k : Nat} (h : finF f k) (p : List UInt8 × Nat) : finF (setN f p) (k + 1) := by
 obtain ⟨D, h1, h2⟩ := h
 refine ⟨p.1 :: D, by rw [List.length_cons]; omega, fun x hx => ?_⟩
 unfold setN at hx
 by_cases e : x = p.1
 ·rw [e]; exact List.mem_cons_self
 rw [if_neg e] at hx
 exact List.mem_cons_of_mem _ (h2 x hx)
theorem qMa (hE : Seat E) {d a n m : Nat} {nm : List UInt8} {f : List UInt8 → Option Nat} {ch : List UInt8 → Bool} {V : List Nat} (hf : finF f m) (hm : m ≤ 60000) :
  Ct E 22 [uPt d] [dsP d a nm s f ch V n] (fun v Q => ∃ l q c, v = .slice q l.length c ∧ Kys (nmF f) l ∧ Q = [dsP d a nm s f ch V n, sl q c 9 1 l.length (nmC l)]) := by
 have hm1 : E.P.underlying 90 = some (.map 9 40) := by rw [hE.P]; kernel_rfl
 refine Sl.ct_open (p := dsP d a nm s f ch V n) (ps := fun i : {i : DsG // i.sz = n ∧ i.ct ≤ n} => [cells d [uPt a, .string ⟨⟨nm⟩⟩, uPt s, .pointer (some ⟨i.1.l, 0, none⟩), .map (some i.1.nb), .map (some i.1.cb), .pointer (some ⟨i.1.wb, 0, none⟩), .bool false] 97, cells i.1.wb [.map (some i.1.mb), .int .i64 (V.length : Nat)] 95, qAb i.1.nb (nmF f), qAb i.1.cb (chF ch), mapF i.1.mb .i64 (nuF V), cells i.1.l [uPt a, .string ⟨⟨nm⟩⟩, .int .i64 (i.1.ct : Nat), .int .i64 (i.1.sz : Nat), .bool false] 137]) (fun k ⟨i, hi, h⟩ => ⟨⟨i, hi⟩, h⟩) ?_
 rintro ⟨i, hi⟩
 simp only
 refine qBi (p := qAb i.nb (nmF f)) uK (fun _ h => qEx h) ?_
 rintro ⟨nn, hc⟩
 have hn := hf.cnt hc
 refine zP (hE.fn Tryz.func22) rfl rfl rfl (fun R => ?_)
 simp only [qAe, uV, uW]
 refine qL (qJ (uA rfl (qM (qK (qL (qL (qJ (uM rfl (uX (qDj hE) rfl ?_)))))))))
 rintro _ _ ⟨rfl, rfl⟩
 simp only [uV, uW]
 refine qM (qK (zD rfl (zC (qK (qL (qJ (uA rfl (qM (qK (qL (qL (qJ (uM rfl (uB (zB rfl) ?_))))))))))))))
 refine uB (uBf rfl) ?_
 refine uL ?_
 refine qAx (qCh (t := 9) (sz := 1)) ?_
 refine uU ?_
 apply qFl hm1 rfl uK
 intro br
 refine qM (qK (zL ?_))
 refine qAj (fun x : NmG => [(0, uPt d), (3, .slice x.q x.D.length x.d), (11, uPt br)]) (fun x => [qGs br i.nb (nmF f) x.done, cells d [uPt a, .string ⟨⟨nm⟩⟩, uPt s, .pointer (some ⟨i.l, 0, none⟩), .map (some i.nb), .map (some i.cb), .pointer (some ⟨i.wb, 0, none⟩), .bool false] 97, cells i.wb [.map (some i.mb), .int .i64 (V.length : Nat)] 95, qAb i.cb (chF ch), mapF i.mb .i64 (nuF V), cells i.l [uPt a, .string ⟨⟨nm⟩⟩, .int .i64 (i.ct : Nat), .int .i64 (i.sz : Nat), .bool false] 137, sl x.q x.d 9 1 x.D.length (nmC x.D), R]) (fun x => nn + 1 - x.D.length) (fun x => x.D.Nodup ∧ (∀ y, y ∈ x.D ↔ x.done y = true) ∧ ∀ y ∈ x.D, nmF f y ≠ none) ⟨[], fun _ => false, none, 0⟩ ⟨.nil, fun y => by simp, fun y h => by simp at h⟩ ⟨rfl, rfl, rfl, trivial⟩ uI ?_
 rintro ⟨D, done, q, dd⟩ ⟨h1, h2, h3⟩
 simp only at h1 h2 h3 ⊢
 have hDn := qBq hc h1 h3
 refine qL (qJ (uU ?_))
 apply qHk rfl uK
 ·intro hall
  refine uB (qV rfl rfl) (qM (qK (qL (zD rfl ?_))))
  refine qAk (kE (p := qGs br i.nb (nmF f) done) (p' := qAb i.nb (nmF f)) uK (fun k h => qJh h)) ?_
  refine qAk (qAm (ps := [cells d [uPt a, .string ⟨⟨nm⟩⟩, uPt s, .pointer (some ⟨i.l, 0, none⟩), .map (some i.nb), .map (some i.cb), .pointer (some ⟨i.wb, 0, none⟩), .bool false] 97, cells i.wb [.map (some i.mb), .int .i64 (V.length : Nat)] 95, qAb i.nb (nmF f), qAb i.cb (chF ch), mapF i.mb .i64 (nuF V), cells i.l [uPt a, .string ⟨⟨nm⟩⟩, .int .i64 (i.ct : Nat), .int .i64 (i.sz : Nat), .bool false] 137]) (p := dsP d a nm s f ch V n) uK (fun k h => ⟨i, hi, h⟩)) ?_
  have hmem : ∀ x, x ∈ D ↔ nmF f x ≠ none := fun x => ⟨h3 x, fun hx => by
   cases e : nmF f x with
   | none => exact absurd e hx
   | some v => exact (h2 x).2 (hall x v e)⟩
  refine kJ (qQ (qQ (zI (qK (qL (qJ (uM rfl ?_)))))))
  rcases Nat.eq_zero_or_pos D.length with h0 | h0
  ·obtain rfl := List.length_eq_zero_iff.1 h0
   refine uX (qGk hE) rfl ?_
   rintro _ _ ⟨rfl, rfl⟩
   simp only [uV, uW]
   refine qM (qK (qL (qJ (uM rfl (uA rfl (qM (qK (kC ?_))))))))
   exact uZ rfl (.tmp rfl .nil) ⟨[], q, dd, rfl, ⟨.nil, hmem, .nil⟩, rfl⟩
  refine qGh (p := sl q dd 9 1 D.length (nmC D)) uK (fun _ h => qAz h h0) ?_
  rintro ⟨g, rfl⟩
  refine uX (qEo hE (by omega)) rfl ?_
  rintro _ _ ⟨l, rfl, hp, hs, rfl⟩
  rw [← hp.length_eq]
  simp only [uV, uW]
  refine qM (qK (qL (qJ (uM rfl (uA rfl (qM (qK (kC ?_))))))))
  exact uZ rfl (.tmp rfl .nil) ⟨l, _, dd, rfl, ⟨hp.nodup_iff.2 h1, fun x => (hp.mem_iff).trans (hmem x), hs⟩, rfl⟩
 intro k v hk hd
 refine uB (qV rfl rfl) (qM (qK (qL (zG rfl (zC (qK (zL (qL (qJ (uB (qHt rfl uK) ?_))))))))))
 refine qAx (fun _ h => qAp (fun _ x => qKd x) h) ?_
 have hkD : k ∉ D := fun h => by
  have := (h2 k).1 h
  rw [hd] at this
  cases this
 refine uB (qV rfl rfl) (uA rfl (qM (qK (qJ (uM rfl (uM rfl (uU ?_)))))))
 refine qW (hE.t rfl) (hE.t rfl) rfl rfl rfl (fun b18 => ?_)
 refine uU ?_
 apply zV (hE.t rfl) (hE.t rfl) rfl rfl rfl
 ·exact uK
 ·exact uK
 ·rfl
 ·rfl
 ·omega
 ·omega
 ·(unfold maxLen; omega)
 intro g19 c19 n19 x19 hn19 hx19
 refine uA rfl (qM (zJ ?_))
 obtain rfl : x19 = nmC (D ++ [k]) := by rw [hx19]; unfold nmC; rw [List.map_append]; rfl
 obtain rfl : n19 = (D ++ [k]).length := by rw [hn19, List.length_append]; rfl
 have hnd : (D ++ [k]).Nodup := by
  rw [List.nodup_append]
  exact ⟨h1, by simp, fun a ha b hb e => by simp at hb; subst hb; subst e; exact hkD ha⟩
 have hne : ∀ y ∈ D ++ [k], nmF f y ≠ none := fun y hy => by
  rcases List.mem_append.1 hy with hy | hy
  ·exact h3 y hy
  simp at hy; subst hy; rw [hk]; simp
 have hb2 := qBq hc hnd hne
 refine zT (ι := NmG) (j := ⟨D ++ [k], fun x => x == k || done x, some ⟨g19, 0, none⟩, c19⟩) ⟨hnd, fun y => ?_, hne⟩ (by simp only [List.length_append, List.length_singleton] at hb2 ⊢; omega) ⟨rfl, rfl, rfl, trivial⟩ uI
 simp only [List.mem_append, List.mem_singleton, Bool.or_eq_true, beq_iff_eq]
 rw [h2 y]
 exact or_comm
end Go.Proofs.YtddfnkijolfhbaaGreat
namespace Sl
open Go Go.RowKit Go.Proofs.YtddfnkijolfhbaaGreat
variable {E : Env} {n : Nat} {L : Fr} {S S' : List HP} {ty : TypeId} {pos : String} {af : Array Edge} {d : Option Nat} {gd : Option (Nat × Bool)}
theorem qQz {x y : Operand} {b : Nat} {t kt et : TypeId} {V : List Nat} {k : Nat} (ht : E.P.underlying t = some (.map kt et)) (hkt : E.P.underlying kt = some (.int .i64)) (hz : ∀ w, (zeroValue et).run E.P w = .ok (.int .i64 0) w) (hx : ev L x = some (.map (some b))) (hy : ev L y = some (.int .i64 (k : Nat))) (hm : Take (mapF b .i64 (nuF V)) S S') :
  Yl E n L S ⟨d, .lookup t x y false, ty, pos, af, gd⟩ (.int .i64 (numb V k : Nat)) := by
 have e : qIf false (.int .i64 0) (nuF V (k : Nat)) = .int .i64 (numb V k : Nat) := nuF_get _ _
 rw [← e]
 exact zCo ht hkt hz hx hy hm rfl
end Sl
namespace Go.Proofs.YtddfnkijolfhbaaGreat
open Go Go.RowKit Sl Eg
set_option maxRecDepth 10000
variable {E : Env} {Es : List Ent} {s most : Nat}
theorem qTy (hE : Seat E) {q : Option Addr} {d : Nat} : Ct E 126 [.slice q 0 d, .int .i64 0, .int .i64 0] [] (fun v Q => v = .tuple #[] ∧ Q = []) := by
 refine zP (hE.fn Tryz.func126) rfl rfl rfl (fun R => ?_)
 simp only [qAe, uV, uW]
 refine qL (qJ (uM rfl (uB (uAa rfl rfl) ?_)))
 refine uA rfl (qM (qK (zL ?_)))
 refine qFb 1 ?_
 refine qGr ?_
 refine qL (qL (qJ (uM rfl (uM rfl (uB (y_lt rfl rfl) ?_)))))
 refine qM (qK (zD rfl (kJ (qQ (qQ (zI ?_))))))
 exact uZe rfl .nil ⟨rfl, rfl⟩
theorem qUd (hE : Seat E) {q : Option Addr} {d : Nat} {l : Int} : Ct E 91 [.slice q 0 d, .int .i64 0, .int .i64 0, .int .i64 l] [] (fun v Q => v = .tuple #[] ∧ Q = []) := by
 refine zP (hE.fn Tryz.func91) rfl rfl rfl (fun R => ?_)
 simp only [qAe, uV, uW]
 refine qL (qJ (uA rfl (qM (qK (qL (qJ (uA rfl (qM (qK (zL ?_))))))))))
 refine qFb 1 ?_
 refine qGr ?_
 refine zL (qL (qJ (uM rfl (uM rfl (uB (uAs rfl rfl) ?_)))))
 refine uA rfl (qM (qK (qL (qL (qJ (uM rfl (uB (y_le rfl rfl) ?_)))))))
 refine qM (qK (zG rfl (qL (qJ (uM rfl (uM rfl (uM rfl (uX (qTy hE) rfl ?_))))))))
 rintro _ _ ⟨rfl, rfl⟩
 simp only [uV, uW]
 refine qM (qK (kC (qX (zO (qX (zO ?_))))))
 exact uZ rfl .nil ⟨rfl, rfl⟩
theorem qSb (hE : Seat E) {q : Option Addr} {d : Nat} : Ct E 61 [.slice q 0 d] [] (fun v Q => v = .tuple #[] ∧ Q = []) := by
 refine zP (hE.fn Tryz.func61) rfl rfl rfl (fun R => ?_)
 simp only [qAe, uV, uW]
 refine qL (qJ (uM rfl (uB (uBl rfl) ?_)))
 refine uA rfl (qM (qK (qJ (uM rfl (uM rfl (uM rfl (uB (uAc rfl) ?_)))))))
 refine uX (qHz hE (k := 0) (by decide)) rfl ?_
 rintro _ _ ⟨rfl, rfl⟩
 simp only [uV, uW]
 refine uX (qUd hE) rfl ?_
 rintro _ _ ⟨rfl, rfl⟩
 simp only [uV, uW]
 refine qM ?_
 exact uZe rfl .nil ⟨rfl, rfl⟩
theorem idC_oneD (ids : List Nat) : ∀ u ∈ idC ids, u.oneCell' = true := fun u h => by
 obtain ⟨x, _, rfl⟩ := List.mem_map.1 h
 rfl
structure FsS where
 i : Nat
 S : List Nat
 sp : Option Addr
 sc : Nat
 St : List Nat
 tp : Option Addr
 tc : Nat
 A : List Nat
theorem ct_fresh (hE : Seat E) {d w nb mb c : Nat} {q : Option Addr} {v0 v1 v3 v5 v6 v7 v9 : Value} {f : List UInt8 → Option Nat} {V : List Nat} {l : List (List UInt8)} (hV : Lis (rls Es) V) (hn : Es.length < 65536) (hl : ∀ x ∈ l, ∃ id, f x = some id ∧ id ≤ Es.length) (hll : l.length ≤ 1000000) :
  Ct E 76 [uPt d, uPt w, .slice q l.length c] [cells d [v0, v1, uPt s, v3, .map (some nb), v5, v6, v7] 97, cells w [.map (some mb), v9] 95, qAb nb (nmF f), mapF mb .i64 (nuF V), zS s most Es, sl q c 9 1 l.length (nmC l)]
   (fun v Q => ∃ W p k, v = .slice p W.length k ∧ Lis (rls Es) (V ++ W) ∧ ((∀ x ∈ l, ∀ id, f x = some id → id = 0 ∨ id ∈ V ++ W) ∧ ∀ x ∈ W, ∃ y id, f y = some id ∧ Rea (rls Es) id x) ∧ Q = [cells d [v0, v1, uPt s, v3, .map (some nb), v5, v6, v7] 97, cells w [.map (some mb), v9] 95, qAb nb (nmF f), mapF mb .i64 (nuF V), zS s most Es, sl q c 9 1 l.length (nmC l), sl p k 40 1 W.length (idC W)]) := by
 refine qBi (p := zS s most Es) uK (fun _ h => qBs h) (fun hsay => ?_)
 have hw := hsay.1
 have hLl := zR Es
 have hm1 : E.P.underlying 128 = some (.map 40 4) := by rw [hE.P]; kernel_rfl
 have hm2 : E.P.underlying 40 = some (.int .i64) := by rw [hE.P]; kernel_rfl
 have hm3 : ∀ w, (zeroValue 4).run E.P w = .ok (.bool false) w := fun w => by rw [hE.P]; kernel_rfl
 have hm4 : E.P.underlying 93 = some (.map 40 3) := by rw [hE.P]; kernel_rfl
 have hm5 : ∀ w, (zeroValue 3).run E.P w = .ok (.int .i64 0) w := fun w => by rw [hE.P]; kernel_rfl
 have h0F : (fun _ : Int => (none : Option Value)) = qLf [] := by funext x; simp [qLf]
 have h0S : setF (fun _ : Int => (none : Option Value)) 0 (.bool true) = qLf (0 :: []) := by
  rw [h0F]
  exact qSz [] 0
 refine qBi (p := sl q c 9 1 l.length (nmC l)) uK (fun _ h => fun hpos => qAz h hpos) (fun hq => ?_)
 refine zP (hE.fn Tryz.func76) rfl rfl rfl (fun R => ?_)
 simp only [qAe, uV, uW]
 refine qL (qJ (uA rfl (qM (qK (qL (qJ (uA rfl (uA rfl (qM (qK (qL (qJ (uU ?_)))))))))))))
 refine qCs .i64 (fun b15 => ?_)
 refine uU ?_
 apply zAu (kt := 40) (et := 4) (by rw [hE.P]; kernel_rfl) (by rw [hE.P]; kernel_rfl) rfl rfl rfl
 ·exact uK
 refine uM rfl (uA rfl (qM (qK (qL (qL (qJ (uM rfl (uB (uBl rfl) ?_))))))))
 refine uM rfl (qM (qK (zL ?_)))
 rw [h0S]
 refine qAk (qCh (t := 40) (sz := 1)) ?_
 refine qAk (qCh (t := 40) (sz := 1)) ?_
 refine qAj (fun x : FsS => [(0, uPt d), (1, uPt w), (7, .slice x.sp x.S.length x.sc), (8, .slice x.tp 0 x.tc), (9, .map (some b15)), (17, .slice q l.length c), (18, .int .i64 (l.length : Nat)), (19, .int .i64 (x.i : Nat))]) (fun x => [cells d [v0, v1, uPt s, v3, .map (some nb), v5, v6, v7] 97, cells w [.map (some mb), v9] 95, qAb nb (nmF f), mapF mb .i64 (nuF V), zS s most Es, sl q c 9 1 l.length (nmC l), mapF b15 .i64 (qLf (0 :: x.S)), sl x.sp x.sc 40 1 x.S.length (idC x.S), sl x.tp x.tc 40 1 0 [], R]) (fun x => l.length - x.i) (fun x => x.i ≤ l.length ∧ FrI (rls Es) V [] x.S x.A ∧ (∀ y ∈ l.take x.i, ∀ id, f y = some id → id ∈ x.A) ∧ ∀ a ∈ x.A, ∃ y, f y = some a) ⟨0, [], none, 0, [], none, 0, []⟩ ⟨Nat.zero_le _, FrI.nil _ _, (fun y hy => by simp at hy), fun a h => by cases h⟩ ⟨rfl, rfl, rfl, rfl, rfl, rfl, rfl, rfl, trivial⟩ uI ?_
 rintro ⟨i, S, sp, sc, _, tp, tc, A⟩ ⟨hi, hI, hA, hB⟩
 simp only at hi hI hA hB ⊢
 refine qL (qJ (uB (y_lt rfl rfl) ?_))
 refine qM (qK (qL ?_))
 refine zF rfl (fun h1 => ?_) (fun h1 => ?_)
 ·obtain ⟨x, hx⟩ : ∃ x, l[i]? = some x := ⟨_, List.getElem?_eq_getElem (by omega)⟩
  obtain ⟨gq, rfl⟩ := hq (by omega)
  have f0 := qJf hx (((i : Nat) : Int).toNat) (by omega)
  obtain ⟨id, hid, hidl⟩ := hl x (List.mem_of_getElem? hx)
  have hlk : nmF f x = some (.int .i64 (id : Nat)) := by unfold nmF; rw [hid]; rfl
  refine zC (qK (qL (zL (qL (qJ (uB (uAj rfl rfl) ?_))))))
  refine uL ?_
  refine uA rfl (qM (qK (qL (qJ (uM rfl (uM rfl (uB (zB rfl) ?_)))))))
  refine uB (uBf rfl) ?_
  refine uL ?_
  refine uM rfl ?_
  refine uB (qCj (kt := 9) (et := 40) (z := .int .i64 0) (by rw [hE.P]; kernel_rfl) (by rw [hE.P]; kernel_rfl) (fun w => by rw [hE.P]; kernel_rfl) rfl rfl uK (by assumption)) ?_
  refine uU ?_
  refine qW (hE.t rfl) (hE.t rfl) rfl rfl rfl (fun b30 => ?_)
  refine uU ?_
  apply zV (hE.t rfl) (hE.t rfl) rfl rfl rfl
  ·exact uK
  ·exact uK
  ·rfl
  ·rfl
  ·omega
  ·omega
  ·(unfold maxLen; omega)
  intro g31 c31 n31 x31 hn31 hx31
  refine uA rfl (qM (qK (zL ?_)))
  obtain rfl : n31 = ([id] : List Nat).length := hn31
  obtain rfl : x31 = idC [id] := by rw [hx31]; rfl
  have hI1 : FrI (rls Es) V [id] S (A ++ [id]) := hI.push (by omega)
  have hSl := hI.len
  refine qAj (fun x : FsS => [(0, uPt d), (1, uPt w), (7, .slice x.sp x.S.length x.sc), (8, .slice x.tp x.St.length x.tc), (9, .map (some b15)), (17, .slice (some ⟨gq, 0, none⟩) l.length c), (18, .int .i64 (l.length : Nat)), (19, .int .i64 (i : Nat))]) (fun x => [cells d [v0, v1, uPt s, v3, .map (some nb), v5, v6, v7] 97, cells w [.map (some mb), v9] 95, qAb nb (nmF f), mapF mb .i64 (nuF V), zS s most Es, sl (some ⟨gq, 0, none⟩) c 9 1 l.length (nmC l), mapF b15 .i64 (qLf (0 :: x.S)), sl x.sp x.sc 40 1 x.S.length (idC x.S), sl x.tp x.tc 40 1 x.St.length (idC x.St), R]) (fun x => 2 * (Es.length - x.S.length) + x.St.length) (fun x => FrI (rls Es) V x.St x.S (A ++ [id]) ∧ x.St.length + 2 * (Es.length - x.S.length) ≤ 2 * Es.length + 1) ⟨0, S, sp, sc, [id], some ⟨g31, 0, none⟩, c31, []⟩ ⟨hI1, by simp only [List.length_cons, List.length_nil]; omega⟩ ⟨rfl, rfl, rfl, rfl, rfl, rfl, rfl, rfl, trivial⟩ uI ?_
  clear hI1 hSl hI
  rintro ⟨_, S, sp, sc, St, tp, tc, _⟩ ⟨hI, hms⟩
  simp only at hI hms ⊢
  refine qL (qL (qJ (uM rfl (uB (uBl rfl) ?_))))
  refine uB (y_gt rfl rfl) ?_
  refine qM (qK ?_)
  refine zF rfl (fun h2 => ?_) (fun h2 => ?_)
  ·rcases List.eq_nil_or_concat St with rfl | ⟨St', z, rfl⟩
   ·exfalso
    simp at h2
   rw [List.concat_eq_append] at *
   have hSt1 : (St' ++ [z]).length = St'.length + 1 := by rw [List.length_append]; rfl
   have hzl := hI.st z (by simp)
   refine qCw (p := sl tp tc 40 1 (St' ++ [z]).length (idC (St' ++ [z]))) uK (fun _ h => And.intro (qDt h).1 (qAz h (by omega))) ?_
   rintro ⟨hcap, gt, rfl⟩
   have hz0 : (St' ++ [z])[St'.length]? = some z := by rw [List.getElem?_append_right (Nat.le_refl _), Nat.sub_self]; rfl
   have f1 := qDa hz0 ((((St' ++ [z]).length : Nat) : Int) - 1).toNat (by omega)
   refine zC (qK (zL (qL (qJ (uM rfl (uM rfl (uB (uBl rfl) ?_)))))))
   refine uB (uAs rfl rfl) ?_
   refine uB (uAj rfl rfl) ?_
   refine uL ?_
   refine uA rfl (qM (qK (qL (qJ (uM rfl (uM rfl (uB (uBl rfl) ?_)))))))
   refine uB (uAs rfl rfl) ?_
   refine uB (qDg St'.length rfl rfl (hE.t rfl) (by omega) (by omega)) ?_
   refine qAx (kE (p := sl (some ⟨gt, 0, none⟩) tc 40 1 (St' ++ [z]).length (idC (St' ++ [z]))) (p' := sl (some ⟨gt, 0, none⟩) tc 40 1 St'.length (idC St')) uK (fun k h => by have := qNn (m := St'.length) h (by omega); rwa [Nat.mul_one, qEi, List.take_left' (by simp [idC])] at this)) ?_
   by_cases hin : z ∈ 0 :: S
   ·have hlk2 := seenF_in hin
    refine uA rfl (qM (qK (qL (qL (qJ (uM rfl (uM rfl ?_)))))))
    refine uB (zCo (kt := 40) (et := 4) (z := .bool false) (by rw [hE.P]; kernel_rfl) (by rw [hE.P]; kernel_rfl) (fun w => by rw [hE.P]; kernel_rfl) rfl rfl uK (by assumption)) ?_
    refine uM rfl ?_
    refine zU rfl rfl rfl rfl (zU rfl rfl rfl rfl (zU rfl rfl rfl rfl (zU rfl rfl rfl rfl (zU rfl rfl rfl rfl (zU rfl rfl rfl rfl (zU rfl rfl rfl rfl ?_))))))
    refine uB (qY rfl rfl) ?_
    refine qM (qK (zG rfl (kJ (qQ (zI ?_)))))
    have hz' : z = 0 ∨ z ∈ S ∨ z ∈ V := by
     rcases List.mem_cons.1 hin with e | e
     ·exact .inl e
     exact .inr (.inl e)
    refine zT (ι := FsS) (j := ⟨0, S, sp, sc, St', some ⟨gt, 0, none⟩, tc, []⟩) ⟨hI.skip hw hz', by simp only; omega⟩ (by simp only; omega) ⟨rfl, rfl, rfl, rfl, rfl, rfl, rfl, rfl, trivial⟩ uI
   have hlk2 := zBl hin
   refine uA rfl (qM (qK (qL (qL (qJ (uM rfl (uM rfl ?_)))))))
   refine uB (zCo (kt := 40) (et := 4) (z := .bool false) (by rw [hE.P]; kernel_rfl) (by rw [hE.P]; kernel_rfl) (fun w => by rw [hE.P]; kernel_rfl) rfl rfl uK (by assumption)) ?_
   refine uM rfl (kQ rfl rfl (uM rfl (kQ rfl rfl (uB (zB rfl) ?_))))
   refine kQ rfl rfl (uB (uBf rfl) ?_)
   refine kQ rfl rfl (uL ?_)
   refine kQ rfl rfl (uM rfl (kQ rfl rfl (uB (qQz hm4 hm2 hm5 rfl rfl uK) ?_)))
   refine kQ rfl rfl (uB (y_gt rfl rfl) ?_)
   refine uB (qZ rfl rfl) ?_
   refine qM (qK ?_)
   refine zF rfl (fun h3 => ?_) (fun h3 => ?_)
   ·have hzV : z ∈ V := by
     by_cases e : z ∈ V
     ·exact e
     rw [qBl.2 e] at h3
     simp at h3
    refine kJ (qQ (zI ?_))
    refine zT (ι := FsS) (j := ⟨0, S, sp, sc, St', some ⟨gt, 0, none⟩, tc, []⟩) ⟨hI.skip hw (.inr (.inr hzV)), by simp only; omega⟩ (by simp only; omega) ⟨rfl, rfl, rfl, rfl, rfl, rfl, rfl, rfl, trivial⟩ uI
   have hzV : z ∉ V := fun e => by
    have := qLn e
    omega
   obtain ⟨zn, rfl⟩ : ∃ k, z = k + 1 := ⟨z - 1, by
    rcases Nat.eq_zero_or_pos z with e | e
    ·exact absurd (List.mem_cons.2 (.inl e)) hin
    omega⟩
   have hzS : zn + 1 ∉ S := fun e => hin (List.mem_cons_of_mem _ e)
   obtain ⟨y, hy⟩ : ∃ y, Es[zn]? = some y := ⟨_, List.getElem?_eq_getElem (by omega)⟩
   have hyr : (rls Es)[zn]? = some y.r := by unfold rls; rw [List.getElem?_map, hy]; rfl
   have hI2 := hI.take hw hyr hzS hzV
   have hSl := hI2.len
   have hkn : (kids y.r).length ≤ 2 := by cases y.r <;> simp [kids]
   rw [List.length_append, List.length_singleton] at hSl
   refine zC (qK (qL (qJ (uM rfl (uM rfl (uU ?_))))))
   apply qJc (kt := 40) (et := 4) (by rw [hE.P]; kernel_rfl) (by rw [hE.P]; kernel_rfl) rfl rfl rfl
   ·exact uK
   refine qM (qK ?_)
   rw [qSz]
   refine qL (qJ (uM rfl (uM rfl (uU ?_))))
   refine qW (hE.t rfl) (hE.t rfl) rfl rfl rfl (fun b62 => ?_)
   refine uU ?_
   apply zV (hE.t rfl) (hE.t rfl) rfl rfl rfl
   ·exact uK
   ·exact uK
   ·rfl
   ·rfl
   ·omega
   ·omega
   ·(unfold maxLen; omega)
   intro g63 c63 n63 x63 hn63 hx63
   refine uA rfl (qM (qK (qL (qJ (uM rfl (uB (zB rfl) ?_))))))
   refine uB (uBf rfl) ?_
   refine uL ?_
   refine uM rfl ?_
   obtain rfl : n63 = (S ++ [zn + 1]).length := by rw [List.length_append, List.length_singleton]; omega
   obtain rfl : x63 = idC (S ++ [zn + 1]) := by rw [hx63, qEi]; rfl
   refine uX (qPt hE hy) rfl ?_
   rintro _ _ ⟨rfl, rfl⟩
   simp only [uV, uW]
   refine uM rfl (uB (qV rfl rfl) (uB (qV rfl rfl) (uU (kG (hE.t rfl) (fun b13 => ?_)))))
   refine uU (uS ?_)
   refine uA rfl (qM (qK (qJ (uM rfl (uB (uG) ?_)))))
   refine uX (qVm hE y.r) rfl ?_
   rintro _ _ ⟨pk, ck, rfl, rfl⟩
   simp only [uV, uW]
   refine qGh (p := sl pk ck 40 1 (kids y.r).length (idC (kids y.r))) uK (fun _ h => fun hpos => qAz h hpos) ?_
   intro hpk
   have hqk : Rdb E.w0 pk (idC (kids y.r)) (sl pk ck 40 1 (kids y.r).length (idC (kids y.r))) := qCv (by simp [idC]) hpk
   have hb1 : (St'.length + (idC (kids y.r)).length) * 8 ≤ 140737488355328 := by
    unfold idC
    rw [List.length_map]
    omega
   have hb2 : St'.length + (idC (kids y.r)).length ≤ maxLen := by
    unfold idC maxLen
    rw [List.length_map]
    omega
   refine uU ?_
   refine qBp (us := idC (kids y.r)) (q := sl pk ck 40 1 (kids y.r).length (idC (kids y.r))) (hE.t rfl) (hE.t rfl) rfl rfl rfl (by simp [idC]) hqk uK uK (idC_oneD _) hb1 hb2 (fun tp1 tc1 m1 y1 hm1 hy1 => ?_)
   obtain rfl : m1 = (St' ++ kids y.r).length := by rw [hm1, List.length_append]; simp [idC]
   obtain rfl : y1 = idC (St' ++ kids y.r) := by rw [hy1, qEi]
   refine uA rfl (qM (zJ ?_))
   refine zT (ι := FsS) (j := ⟨0, S ++ [zn + 1], some ⟨g63, 0, none⟩, c63, St' ++ kids y.r, tp1, tc1, []⟩) ⟨hI2, by simp only [List.length_append, List.length_singleton]; omega⟩ (by simp only [List.length_append, List.length_singleton]; omega) ⟨rfl, rfl, rfl, rfl, rfl, rfl, rfl, rfl, trivial⟩ uI
  obtain rfl : St = [] := List.eq_nil_of_length_eq_zero (by omega)
  refine kJ (qQ (qQ (zI (zJ (qK (qJ (uB (uAa rfl rfl) ?_)))))))
  refine uM rfl (qM ?_)
  refine zT (ι := FsS) (j := ⟨i + 1, S, sp, sc, [], tp, tc, A ++ [id]⟩) ⟨by simp only; omega, hI, fun y hy k hk => ?_, fun a ha => ?_⟩ (by simp only; omega) ⟨rfl, rfl, rfl, rfl, rfl, rfl, rfl, congrArg some (zX (by simp only; omega)), trivial⟩ uI
  rw [List.take_add_one, hx] at hy
  rcases List.mem_append.1 hy with hy | hy
  ·exact List.mem_append_left _ (hA y hy k hk)
  ·simp at hy
   subst hy
   rw [hid] at hk
   cases hk
   simp
  rcases List.mem_append.1 ha with h | h
  ·exact hB a h
  obtain rfl := List.mem_singleton.1 h
  exact ⟨x, hid⟩
 obtain rfl : i = l.length := by omega
 rw [List.take_length] at hA
 have hSl := hI.len
 refine kJ (qQ (qQ (zI (qK (qL (qJ (uM rfl ?_)))))))
 rcases Nat.eq_zero_or_pos S.length with h0 | h0
 ·obtain rfl := List.length_eq_zero_iff.1 h0
  obtain ⟨r1, r2⟩ := hI.lis hV (W := []) (List.Perm.refl _) .nil
  refine uX (qSb hE) rfl ?_
  rintro _ _ ⟨rfl, rfl⟩
  simp only [uV, uW]
  refine qM (qK (qL (qJ (uM rfl (uA rfl (qM (qK (kC ?_))))))))
  exact uZ rfl (.tmp rfl .nil) ⟨[], sp, sc, rfl, r1, ⟨fun y hy k hk => r2 k (hA y hy k hk), fun x h => by cases h⟩, rfl⟩
 refine qGh (p := sl sp sc 40 1 S.length (idC S)) uK (fun _ h => qAz h h0) ?_
 rintro ⟨gs, rfl⟩
 refine uX (qXf (l := S) hE (by omega)) rfl ?_
 rintro _ _ ⟨W, rfl, hWl, hWp, hWs, rfl⟩
 obtain ⟨r1, r2⟩ := hI.lis hV hWp hWs
 have r3 := hI.rea hWp
 rw [← hWl]
 simp only [uV, uW]
 refine qM (qK (qL (qJ (uM rfl (uA rfl (qM (qK (kC ?_))))))))
 apply kD
 ·rfl
 ·(apply Rs.tmp rfl; exact Rs.nil)
 ·exact ⟨W, _, sc, rfl, r1, ⟨fun y hy k hk => r2 k (hA y hy k hk), fun x h => by
   obtain ⟨a, ha, hr⟩ := r3 x h
   obtain ⟨y, hy⟩ := hB a ha
   exact ⟨y, a, hy, hr⟩⟩, rfl⟩
 exact uI
end Go.Proofs.YtddfnkijolfhbaaGreat
namespace Sl
open Go Go.RowKit Go.Proofs.YtddfnkijolfhbaaGreat
variable {E : Env} {n : Nat} {L : Fr} {S S' : List HP} {ty : TypeId} {pos : String} {af : Array Edge} {d : Option Nat} {gd : Option (Nat × Bool)}
theorem y_findF {x y : Operand} {b : Nat} {t kt et : TypeId} {f : List UInt8 → Option Nat} {k : List UInt8} {id : Nat} (ht : E.P.underlying t = some (.map kt et)) (hkt : E.P.underlying kt = some .string) (hz : ∀ w, (zeroValue et).run E.P w = .ok (.int .i64 0) w) (hx : ev L x = some (.map (some b))) (hy : ev L y = some (.string ⟨⟨k⟩⟩)) (hm : Take (qAb b (nmF f)) S S') (hid : f k = some id) :
  Yl E n L S ⟨d, .lookup t x y false, ty, pos, af, gd⟩ (.int .i64 (id : Nat)) :=
 qCj (r := some (.int .i64 (id : Nat))) (ok := false) ht hkt hz hx hy hm (by unfold nmF; rw [hid]; rfl)
end Sl
namespace Go.Proofs.YtddfnkijolfhbaaGreat
open Go Go.RowKit Sl Eg
set_option maxRecDepth 10000
variable {E : Env} {Es : List Ent} {s most : Nat}
structure BdS where
 i : Nat
 sp : Option Addr
 sc : Nat
 tp : Option Addr
 tc : Nat
structure BdB where
 k : Nat
 done : List UInt8
 g : Nat
 c : Nat
theorem qLw (hE : Seat E) {d w nb mb c : Nat} {q : Option Addr} {v0 v1 v3 v5 v6 v7 : Value} {f : List UInt8 → Option Nat} {V : List Nat} {l : List (List UInt8)} (hV : Lis (rls Es) V) (hn : Es.length < 65536) (hf : ∀ x id, f x = some id → id ≤ Es.length) (hll : l.length ≤ 1000000) (hok : ∀ x ∈ l, okN x) :
  Ct E 44 [uPt d, uPt w, .slice q l.length c] [cells d [v0, v1, uPt s, v3, .map (some nb), v5, v6, v7] 97, qAb nb (nmF f), zS s most Es, cells w [.map (some mb), .int .i64 (V.length : Nat)] 95, mapF mb .i64 (nuF V), sl q c 9 1 l.length (nmC l)]
   (fun v Q => ∃ W g k, v = .slice (some ⟨g, 0, none⟩) ((cmtT (rls Es) V W f l).body V.length).length k ∧ Lis (rls Es) (V ++ W) ∧ ((∀ x ∈ l, ∀ id, f x = some id → id = 0 ∨ id ∈ V ++ W) ∧ ∀ x ∈ W, ∃ y id, f y = some id ∧ Rea (rls Es) id x) ∧ ((cmtT (rls Es) V W f l).body V.length).length ≤ 30 + 21 * Es.length + 94 * l.length ∧ Q = [cells d [v0, v1, uPt s, v3, .map (some nb), v5, v6, v7] 97, qAb nb (nmF f), zS s most Es, cells w [.map (some mb), .int .i64 ((V ++ W).length : Nat)] 95, mapF mb .i64 (nuF (V ++ W)), sl q c 9 1 l.length (nmC l), sl (some ⟨g, 0, none⟩) k 5 1 ((cmtT (rls Es) V W f l).body V.length).length (byC ((cmtT (rls Es) V W f l).body V.length))]) := by
 refine qBi (p := zS s most Es) uK (fun _ h => qBs h) (fun hsay => ?_)
 have hw := hsay.1
 have hLl := zR Es
 refine qBi (p := sl q c 9 1 l.length (nmC l)) uK (fun _ h => fun hpos => qAz h hpos) (fun hq => ?_)
 have hm2 : E.P.underlying 40 = some (.int .i64) := by rw [hE.P]; kernel_rfl
 have hm4 : E.P.underlying 93 = some (.map 40 3) := by rw [hE.P]; kernel_rfl
 have hm5 : ∀ w, (zeroValue 3).run E.P w = .ok (.int .i64 0) w := fun w => by rw [hE.P]; kernel_rfl
 have hm6 : E.P.underlying 90 = some (.map 9 40) := by rw [hE.P]; kernel_rfl
 have hm7 : E.P.underlying 9 = some .string := by rw [hE.P]; kernel_rfl
 have hm8 : ∀ w, (zeroValue 40).run E.P w = .ok (.int .i64 0) w := fun w => by rw [hE.P]; kernel_rfl
 refine zP (hE.fn Tryz.func44) rfl rfl rfl (fun R => ?_)
 simp only [qAe, uV, uW]
 refine qL (qJ (uA rfl (qM (qK (qL (qJ (uA rfl (uA rfl (qM (qK (qL (qL (qJ (uM rfl (uB (uBl rfl) ?_)))))))))))))))
 refine uM rfl (qM (qK (zL ?_)))
 refine qAk (qCh (t := 9) (sz := 1)) ?_
 refine qAk (qCh (t := 9) (sz := 1)) ?_
 refine qAj (fun x : BdS => [(0, uPt d), (1, uPt w), (7, .slice x.sp ((l.take x.i).filter fun x => (f x).isSome).length x.sc), (8, .slice x.tp ((l.take x.i).filter fun x => (f x).isNone).length x.tc), (25, .slice q l.length c), (26, .int .i64 (l.length : Nat)), (27, .int .i64 (x.i : Nat))]) (fun x => [cells d [v0, v1, uPt s, v3, .map (some nb), v5, v6, v7] 97, qAb nb (nmF f), zS s most Es, cells w [.map (some mb), .int .i64 (V.length : Nat)] 95, mapF mb .i64 (nuF V), sl q c 9 1 l.length (nmC l), sl x.sp x.sc 9 1 ((l.take x.i).filter fun x => (f x).isSome).length (nmC ((l.take x.i).filter fun x => (f x).isSome)), sl x.tp x.tc 9 1 ((l.take x.i).filter fun x => (f x).isNone).length (nmC ((l.take x.i).filter fun x => (f x).isNone)), R]) (fun x => l.length - x.i) (fun x => x.i ≤ l.length) ⟨0, none, 0, none, 0⟩ (Nat.zero_le _) ⟨rfl, rfl, rfl, rfl, rfl, rfl, rfl, trivial⟩ uI ?_
 rintro ⟨i, sp, sc, tp, tc⟩ hi
 simp only at hi ⊢
 refine qL (qJ (uB (y_lt rfl rfl) ?_))
 refine qM (qK (qL ?_))
 refine zF rfl (fun h1 => ?_) (fun h1 => ?_)
 ·obtain ⟨x, hx⟩ : ∃ x, l[i]? = some x := ⟨_, List.getElem?_eq_getElem (by omega)⟩
  obtain ⟨gq, rfl⟩ := hq (by omega)
  have f0 := qJf hx (((i : Nat) : Int).toNat) (by omega)
  have hfl1 := List.length_filter_le (fun x => (f x).isSome) (l.take i)
  have hfl2 := List.length_filter_le (fun x => (f x).isNone) (l.take i)
  rw [List.length_take] at hfl1 hfl2
  cases hid : f x with
  | some id =>
   have hlk : nmF f x = some (.int .i64 (id : Nat)) := by unfold nmF; rw [hid]; rfl
   have e1 := qSn (p := fun x => (f x).isSome) hx (by rw [hid]; rfl)
   have e2 := qSm (p := fun x => (f x).isNone) hx (by rw [hid]; rfl)
   refine zC (qK (qL (zL (qL (qJ (uB (uAj rfl rfl) ?_))))))
   refine uL ?_
   refine uA rfl (qM (qK (qL (qJ (uM rfl (uB (zB rfl) ?_))))))
   refine uB (uBf rfl) ?_
   refine uL ?_
   refine uM rfl ?_
   refine uB (qCj (kt := 9) (et := 40) (z := .int .i64 0) (by rw [hE.P]; kernel_rfl) (by rw [hE.P]; kernel_rfl) (fun w => by rw [hE.P]; kernel_rfl) rfl rfl uK (by assumption)) ?_
   refine uM rfl (uB (qV rfl rfl) (uB (qV rfl rfl) (uA rfl (uA rfl (qM (qK (qL (qJ (uM rfl (qM (qK (zG rfl ?_))))))))))))
   refine qJ (uM rfl (uM rfl (uU ?_)))
   refine qW (hE.t rfl) (hE.t rfl) rfl rfl rfl (fun b43 => ?_)
   refine uU ?_
   apply zV (hE.t rfl) (hE.t rfl) rfl rfl rfl
   ·exact uK
   ·exact uK
   ·rfl
   ·rfl
   ·omega
   ·omega
   ·(unfold maxLen; omega)
   intro g44 c44 n44 x44 hn44 hx44
   refine uA rfl (qM (zJ (qK (qJ (uB (uAa rfl rfl) ?_)))))
   refine uM rfl (qM ?_)
   obtain rfl : n44 = ((l.take (i + 1)).filter fun x => (f x).isSome).length := by rw [hn44, e1, List.length_append]; rfl
   obtain rfl : x44 = nmC ((l.take (i + 1)).filter fun x => (f x).isSome) := by rw [hx44, e1]; unfold nmC; rw [List.map_append]; rfl
   rw [← e2]
   refine zT (ι := BdS) (j := ⟨i + 1, some ⟨g44, 0, none⟩, c44, tp, tc⟩) (by simp only; omega) (by simp only; omega) ⟨rfl, rfl, rfl, rfl, rfl, rfl, congrArg some (zX (by simp only; omega)), trivial⟩ uI
  | none =>
   have hlk : nmF f x = none := by unfold nmF; rw [hid]; rfl
   have e1 := qSm (p := fun x => (f x).isSome) hx (by rw [hid]; rfl)
   have e2 := qSn (p := fun x => (f x).isNone) hx (by rw [hid]; rfl)
   refine zC (qK (qL (zL (qL (qJ (uB (uAj rfl rfl) ?_))))))
   refine uL ?_
   refine uA rfl (qM (qK (qL (qJ (uM rfl (uB (zB rfl) ?_))))))
   refine uB (uBf rfl) ?_
   refine uL ?_
   refine uM rfl ?_
   refine uB (qCj (kt := 9) (et := 40) (z := .int .i64 0) (by rw [hE.P]; kernel_rfl) (by rw [hE.P]; kernel_rfl) (fun w => by rw [hE.P]; kernel_rfl) rfl rfl uK (by assumption)) ?_
   refine uM rfl (uB (qV rfl rfl) (uB (qV rfl rfl) (uA rfl (uA rfl (qM (qK (qL (qJ (uM rfl (qM (qK (zD rfl ?_))))))))))))
   refine qJ (uM rfl (uM rfl (uU ?_)))
   refine qW (hE.t rfl) (hE.t rfl) rfl rfl rfl (fun b47 => ?_)
   refine uU ?_
   apply zV (hE.t rfl) (hE.t rfl) rfl rfl rfl
   ·exact uK
   ·exact uK
   ·rfl
   ·rfl
   ·omega
   ·omega
   ·(unfold maxLen; omega)
   intro g48 c48 n48 x48 hn48 hx48
   refine uA rfl (qM (zJ (qK (qJ (uB (uAa rfl rfl) ?_)))))
   refine uM rfl (qM ?_)
   obtain rfl : n48 = ((l.take (i + 1)).filter fun x => (f x).isNone).length := by rw [hn48, e2, List.length_append]; rfl
   obtain rfl : x48 = nmC ((l.take (i + 1)).filter fun x => (f x).isNone) := by rw [hx48, e2]; unfold nmC; rw [List.map_append]; rfl
   rw [← e1]
   refine zT (ι := BdS) (j := ⟨i + 1, sp, sc, some ⟨g48, 0, none⟩, c48⟩) (by simp only; omega) (by simp only; omega) ⟨rfl, rfl, rfl, rfl, rfl, rfl, congrArg some (zX (by simp only; omega)), trivial⟩ uI
 obtain rfl : i = l.length := by omega
 rw [List.take_length]
 have hbody := fun W => cmt_body (L := rls Es) (V := V) (W := W) (f := f) (l := l)
 obtain ⟨S, hS⟩ : ∃ S, S = l.filter fun x => (f x).isSome := ⟨_, rfl⟩
 obtain ⟨T, hT⟩ : ∃ T, T = l.filter fun x => (f x).isNone := ⟨_, rfl⟩
 have hSs : ∀ x ∈ S, ∃ id, f x = some id ∧ id ≤ Es.length := fun x hx => by
  rw [hS] at hx
  have := (List.mem_filter.1 hx).2
  cases e : f x with
  | none => rw [e] at this; cases this
  | some id => exact ⟨id, rfl, hf x id e⟩
 have hSk : ∀ x ∈ S, okN x := fun x hx => hok x (by rw [hS] at hx; exact (List.mem_filter.1 hx).1)
 have hTk : ∀ x ∈ T, okN x := fun x hx => hok x (by rw [hT] at hx; exact (List.mem_filter.1 hx).1)
 have hSl : S.length ≤ l.length := by rw [hS]; exact List.length_filter_le _ _
 have hTl : T.length ≤ l.length := by rw [hT]; exact List.length_filter_le _ _
 have hall : ∀ W : List Nat, (∀ x ∈ S, ∀ id, f x = some id → id = 0 ∨ id ∈ V ++ W) → ∀ x ∈ l, ∀ id, f x = some id → id = 0 ∨ id ∈ V ++ W := fun W h x hx id hid => h x (by rw [hS]; exact List.mem_filter.2 ⟨hx, by rw [hid]; rfl⟩) id hid
 rw [← hS, ← hT] at hbody ⊢
 refine kJ (qQ (qQ (zI (qK (qL (qJ (uM rfl (uM rfl (uM rfl ?_)))))))))
 refine uX (ct_fresh (V := V) (l := S) (v9 := .int .i64 (V.length : Nat)) hE hV hn hSs (by omega)) rfl ?_
 rintro _ _ ⟨W, pw, cw, rfl, hLis, hcl, rfl⟩
 simp only [uV, uW]
 have hVW : V.length + W.length ≤ Es.length := by
  have := hLis.acc.len
  rw [List.length_append, hLl] at this
  exact this
 have h0I := hLis.zero
 have hv10 := qBr (n := W.length) (by omega)
 refine uA rfl (qM (qK (qL (qJ (uM rfl (uB (uBl rfl) ?_))))))
 refine uB (uAc rfl) ?_
 refine uX (qFv (n := W.length) hE (by omega)) rfl ?_
 rintro _ _ ⟨g0, c0, rfl, rfl⟩
 simp only [uV, uW]
 refine qGh (p := sl pw cw 40 1 W.length (idC W)) uK (fun _ h => fun hpos => qAz h hpos) ?_
 intro hpw
 have hIV : (V ++ W).take V.length = V := List.take_left
 have hF : nuF V = nuF ((V ++ W).take V.length) := by rw [hIV]
 refine uA rfl (qM (qK (qL (qL (qJ (uM rfl (uB (uBl rfl) ?_)))))))
 refine uM rfl (qM (qK (zL ?_)))
 rw [hF]
 refine qAj (fun x : BdB => [(0, uPt d), (1, uPt w), (7, .slice sp S.length sc), (8, .slice tp T.length tc), (14, .slice (some ⟨x.g, 0, none⟩) x.done.length x.c), (58, .slice pw W.length cw), (59, .int .i64 (W.length : Nat)), (60, .int .i64 (x.k : Nat))])
  (fun x => [cells d [v0, v1, uPt s, v3, .map (some nb), v5, v6, v7] 97, qAb nb (nmF f), zS s most Es, cells w [.map (some mb), .int .i64 ((V.length + x.k) : Nat)] 95, mapF mb .i64 (nuF ((V ++ W).take (V.length + x.k))), sl q c 9 1 l.length (nmC l), sl sp sc 9 1 S.length (nmC S), sl tp tc 9 1 T.length (nmC T), sl pw cw 40 1 W.length (idC W), sl (some ⟨x.g, 0, none⟩) x.c 5 1 x.done.length (byC x.done), R]) (fun x => W.length - x.k)
  (fun x => x.k ≤ W.length ∧ x.done = vput W.length ++ encG V.length (grW (rls Es) V W x.k) ∧ x.done.length ≤ 10 + 21 * x.k) ⟨0, vput W.length, g0, c0⟩ ⟨Nat.zero_le _, by simp [grW_zero, encG], by simp only; omega⟩ ⟨rfl, rfl, rfl, rfl, rfl, rfl, rfl, rfl, trivial⟩ uI ?_
 rintro ⟨k, done, g, c1⟩ ⟨hk1, hdone, hdl⟩
 simp only at hk1 hdone hdl ⊢
 refine qL (qJ (uB (y_lt rfl rfl) ?_))
 refine qM (qK (qL ?_))
 refine zF rfl (fun h => ?_) (fun h => ?_)
 ·have hkl : k < W.length := by omega
  obtain ⟨x, hx⟩ : ∃ x, W[k]? = some x := ⟨_, List.getElem?_eq_getElem hkl⟩
  have hIx := app_at (V := V) hx
  have hxx := hLis.acc.2 x (List.mem_of_getElem? hIx)
  obtain ⟨i, rfl⟩ : ∃ i, x = i + 1 := ⟨x - 1, by omega⟩
  have hent : Es[i]? = some (Es[i]'(by omega)) := List.getElem?_eq_getElem (by omega)
  generalize Es[i]'(by omega) = en at hent
  have hri := rls_get hent
  have hsplit : V ++ W = (V ++ W).take (V.length + k) ++ (i + 1) :: (V ++ W).drop (V.length + k + 1) := by
   have := List.take_append_drop (V.length + k) (V ++ W)
   rw [qDy hIx] at this
   exact this.symm
  have hkids := hLis.ord _ _ _ _ hsplit hri
  have htk : (V ++ W).take (V.length + k + 1) = (V ++ W).take (V.length + k) ++ [i + 1] := by rw [List.take_add_one, hIx]; rfl
  have htl : ((V ++ W).take (V.length + k)).length = V.length + k := by rw [List.length_take, List.length_append]; omega
  obtain ⟨hro, hrn⟩ := qVw htk (hw.ok _ _ hri) hkids
  rw [htl] at hro
  have hrn2 : qCb (V ++ W) en.r = qCb ((V ++ W).take (V.length + k + 1)) en.r := by
   have := hrn ((V ++ W).drop (V.length + k + 1))
   rwa [List.take_append_drop] at this
  have h0t : 0 ∉ (V ++ W).take (V.length + k + 1) := fun h => h0I (List.mem_of_mem_take h)
  have hrt : (qCb ((V ++ W).take (V.length + k + 1)) en.r).times ≤ 1152921504606846976 := by
   rw [qNi]
   exact qWf hw hri
  have hrl := qVx (V.length + k + 1) (by omega) (qCb ((V ++ W).take (V.length + k + 1)) en.r) hrt
  obtain ⟨gx, rfl⟩ := hpw (by omega)
  have f0 := qDa hx (0 + ((k : Nat) : Int).toNat) (by omega)
  have f1 := qDa hx (((k : Nat) : Int).toNat) (by omega)
  refine zC (qK (qL (zL (qL (qJ (uB (uAj rfl rfl) ?_))))))
  refine uL ?_
  refine uA rfl (qM (qK (qL (qJ (uM rfl (uB (zB rfl) ?_))))))
  refine uB (uBf rfl) ?_
  refine uL ?_
  refine uB (uAa rfl rfl) ?_
  refine l_eq 68 (.int .i64 ((V.length + k + 1 : Nat) : Int)) rfl (zX (by omega)) ?_
  refine uB (zB rfl) ?_
  refine uB (uBf rfl) ?_
  refine uU (uS ?_)
  refine qM (qK (qL ?_))
  refine uN 9 ([cells w [.map (some mb), .int .i64 ((V.length + k + 1 : Nat) : Int)] 95]) ?_
  refine uT 0 rfl (qC rfl) ?_
  refine uT 1 rfl (zB rfl) ?_
  refine uT 2 rfl (uBf rfl) ?_
  refine uT 3 rfl (uY) ?_
  refine uT 4 rfl (qC rfl) ?_
  apply kK 5 rfl (by kernel_rfl)
  ·exact qC rfl
  ·rfl
  apply kK 6 rfl (by kernel_rfl)
  ·exact zB rfl
  ·rfl
  apply kK 7 rfl (by kernel_rfl)
  ·exact uBf rfl
  ·rfl
  apply kK 8 rfl (by kernel_rfl)
  ·(apply qO rfl (hE.t rfl) rfl; (repeat (first | rfl | assumption | constructor)); done)
  ·rfl
  apply qGg rfl (by kernel_rfl) (by kernel_rfl) rfl
  apply qJc (kt := 40) (et := 3) (by rw [hE.P]; kernel_rfl) (by rw [hE.P]; kernel_rfl) rfl rfl rfl
  ·exact uK
  refine qK ?_
  rw [zAw hIx hLis.acc.1]
  refine qL (qJ (uM rfl (uB (zB rfl) ?_)))
  refine uB (uBf rfl) ?_
  refine uL ?_
  refine uM rfl (uX (qPt hE hent) rfl ?_)
  rintro _ _ ⟨rfl, rfl⟩
  simp only [uV, uW]
  refine uM rfl (uB (qV rfl rfl) (uB (qV rfl rfl) (uU (kG (hE.t rfl) (fun b17 => ?_)))))
  refine uU (uS ?_)
  refine uA rfl (qM (qK (qL ?_)))
  refine uN 8 ([cells w [.map (some mb), .int .i64 ((V.length + k + 1) : Nat)] 95, mapF mb .i64 (nuF ((V ++ W).take (V.length + k + 1))), cells b17 [.int .i64 (Rl.kind (en.r) : Nat), .int .u8 (Rl.byte (en.r) : Nat), .int .i64 (Rl.left (en.r) : Nat), .int .i64 (Rl.right (en.r) : Nat), .int .i64 (Rl.times (en.r) : Nat)] 115]) ?_
  refine uT 0 rfl (qC rfl) ?_
  refine uT 1 rfl (zB rfl) ?_
  refine uT 2 rfl (uBf rfl) ?_
  refine uT 3 rfl (uY) ?_
  apply kK 4 rfl (by kernel_rfl)
  ·exact uBf rfl
  ·rfl
  apply kK 5 rfl (by kernel_rfl)
  ·(apply qO rfl (hE.t rfl) rfl; (repeat (first | rfl | assumption | constructor)); done)
  ·rfl
  apply kK 6 rfl (by kernel_rfl)
  ·exact qQz hm4 hm2 hm5 rfl rfl uK
  ·rfl
  apply kK 7 rfl (by kernel_rfl)
  ·exact uBf rfl
  ·rfl
  apply qGg rfl (by kernel_rfl) (by kernel_rfl) rfl
  refine uS ?_
  refine qK (qL ?_)
  refine uN 8 ([cells w [.map (some mb), .int .i64 ((V.length + k + 1) : Nat)] 95, mapF mb .i64 (nuF ((V ++ W).take (V.length + k + 1))), cells b17 [.int .i64 (en.r.kind : Nat), .int .u8 (en.r.byte : Nat), .int .i64 (numb ((V ++ W).take (V.length + k + 1)) en.r.left : Nat), .int .i64 (en.r.right : Nat), .int .i64 (en.r.times : Nat)] 115]) ?_
  refine uT 0 rfl (qC rfl) ?_
  refine uT 1 rfl (zB rfl) ?_
  refine uT 2 rfl (uBf rfl) ?_
  refine uT 3 rfl (uY) ?_
  apply kK 4 rfl (by kernel_rfl)
  ·exact uBf rfl
  ·rfl
  apply kK 5 rfl (by kernel_rfl)
  ·(apply qO rfl (hE.t rfl) rfl; (repeat (first | rfl | assumption | constructor)); done)
  ·rfl
  apply kK 6 rfl (by kernel_rfl)
  ·exact qQz hm4 hm2 hm5 rfl rfl uK
  ·rfl
  apply kK 7 rfl (by kernel_rfl)
  ·exact uBf rfl
  ·rfl
  apply qGg rfl (by kernel_rfl) (by kernel_rfl) rfl
  refine uS ?_
  refine qK ?_
  refine qAk (kE (p := cells b17 [.int .i64 (en.r.kind : Nat), .int .u8 (en.r.byte : Nat), .int .i64 (numb ((V ++ W).take (V.length + k + 1)) en.r.left : Nat), .int .i64 (numb ((V ++ W).take (V.length + k + 1)) en.r.right : Nat), .int .i64 (en.r.times : Nat)] 115) (p' := cells b17 [.int .i64 (Rl.kind ((qCb ((V ++ W).take (V.length + k + 1)) en.r)) : Nat), .int .u8 (Rl.byte ((qCb ((V ++ W).take (V.length + k + 1)) en.r)) : Nat), .int .i64 (Rl.left ((qCb ((V ++ W).take (V.length + k + 1)) en.r)) : Nat), .int .i64 (Rl.right ((qCb ((V ++ W).take (V.length + k + 1)) en.r)) : Nat), .int .i64 (Rl.times ((qCb ((V ++ W).take (V.length + k + 1)) en.r)) : Nat)] 115) uK (fun _ h => by rw [qYb, qYa, qYc h0t, qUw h0t, qNi]; exact h)) ?_
  refine qL ?_
  refine uH ([cells w [.map (some mb), .int .i64 ((V.length + k + 1 : Nat) : Int)] 95, cells b17 [.int .i64 (Rl.kind ((qCb ((V ++ W).take (V.length + k + 1)) en.r)) : Nat), .int .u8 (Rl.byte ((qCb ((V ++ W).take (V.length + k + 1)) en.r)) : Nat), .int .i64 (Rl.left ((qCb ((V ++ W).take (V.length + k + 1)) en.r)) : Nat), .int .i64 (Rl.right ((qCb ((V ++ W).take (V.length + k + 1)) en.r)) : Nat), .int .i64 (Rl.times ((qCb ((V ++ W).take (V.length + k + 1)) en.r)) : Nat)] 115]) ?_
  refine uD 0 rfl (uG) ?_
  refine uD 1 rfl (qC rfl) ?_
  refine uD 2 rfl (zB rfl) ?_
  refine uD 3 rfl (uBf rfl) ?_
  refine uD 4 rfl (uY) ?_
  apply kL 5 rfl (by kernel_rfl) rfl
  refine uC (ct_rPut (r := qCb ((V ++ W).take (V.length + k + 1)) en.r) (n := V.length + k + 1) hE hro (by omega) (by omega) hrt) rfl ?_
  rintro _ _ ⟨gr, cr, rfl, rfl⟩
  simp only [uV, uW]
  refine uE ?_
  refine uD 6 rfl (qC rfl) ?_
  refine uD 7 rfl (qV rfl rfl) ?_
  refine uD 8 rfl (qV rfl rfl) ?_
  refine uD 9 rfl (qD rfl) ?_
  refine uD 10 rfl (qD rfl) ?_
  refine qCc (by kernel_rfl) ?_
  refine qK (qJ (uM rfl (uM rfl (uU ?_))))
  apply qBw (hE.t rfl) (hE.t rfl) rfl rfl rfl
  ·exact uK
  ·exact uK
  ·exact qBh _
  ·exact hrl.1
  ·omega
  ·unfold maxLen; omega
  intro g1 c2 m' x' hm' hx'
  obtain rfl : m' = (done ++ rulB (V.length + k + 1) (qCb ((V ++ W).take (V.length + k + 1)) en.r)).length := hm'.trans List.length_append.symm
  obtain rfl : x' = byC (done ++ rulB (V.length + k + 1) (qCb ((V ++ W).take (V.length + k + 1)) en.r)) := hx'.trans (qBf _ _).symm
  clear hm' hx'
  refine uA rfl (qM (zJ (qK (qJ (uB (uAa rfl rfl) ?_)))))
  refine uM rfl (qM ?_)
  refine zT (ι := BdB) (j := ⟨k + 1, done ++ rulB (V.length + k + 1) (qCb ((V ++ W).take (V.length + k + 1)) en.r), g1, c2⟩) ⟨by simp only; omega, by simp only; rw [zAf hx hri, ← List.append_assoc, ← hdone, hrn2], by simp only [List.length_append]; omega⟩ (by simp only; omega) ⟨rfl, rfl, rfl, rfl, rfl, rfl, rfl, congrArg some (zX (by simp only; omega)), trivial⟩ ?_
  exact uI
 obtain rfl : k = W.length := by omega
 have hIa : (V ++ W).take (V.length + W.length) = V ++ W := List.take_of_length_le (by rw [List.length_append]; omega)
 have hIl : V.length + W.length = (V ++ W).length := List.length_append.symm
 rw [hIa, hIl]
 clear h hk1
 have hv2 := qBr (n := S.length) (by omega)
 have hv3 := qBr (n := T.length) (by omega)
 refine kJ (qQ (qQ (zI (qK (qL (qJ (uM rfl (uM rfl (uB (uBl rfl) ?_)))))))))
 refine uB (uAc rfl) ?_
 refine uX (qFv (n := S.length) hE (by omega)) rfl ?_
 rintro _ _ ⟨g2, c2, rfl, rfl⟩
 simp only [uV, uW]
 refine uU ?_
 apply qBw (hE.t rfl) (hE.t rfl) rfl rfl rfl
 ·exact uK
 ·exact uK
 ·exact qBh _
 ·exact (qCq _)
 ·omega
 ·unfold maxLen; omega
 intro g3 c3 m' x' hm' hx'
 obtain rfl : m' = (done ++ vput S.length).length := hm'.trans List.length_append.symm
 obtain rfl : x' = byC (done ++ vput S.length) := hx'.trans (qBf _ _).symm
 clear hm' hx'
 have hd3 : (done ++ vput S.length).length = done.length + (vput S.length).length := List.length_append
 refine qGh (p := sl sp sc 9 1 S.length (nmC S)) uK (fun _ h => fun hpos => qAz h hpos) ?_
 intro hqs
 refine uA rfl (qM (qK (qL (qL (qJ (uM rfl (uB (uBl rfl) ?_)))))))
 refine uM rfl (qM (qK (zL ?_)))
 refine qAj (fun x : BdB => [(0, uPt d), (1, uPt w), (8, .slice tp T.length tc), (14, .slice (some ⟨x.g, 0, none⟩) x.done.length x.c), (124, .slice sp S.length sc), (125, .int .i64 (S.length : Nat)), (126, .int .i64 (x.k : Nat))])
  (fun x => [cells d [v0, v1, uPt s, v3, .map (some nb), v5, v6, v7] 97, qAb nb (nmF f), zS s most Es, cells w [.map (some mb), .int .i64 ((V ++ W).length : Nat)] 95, mapF mb .i64 (nuF (V ++ W)), sl q c 9 1 l.length (nmC l), sl sp sc 9 1 S.length (nmC S), sl tp tc 9 1 T.length (nmC T), sl (some ⟨x.g, 0, none⟩) x.c 5 1 x.done.length (byC x.done), R]) (fun x => S.length - x.k)
  (fun x => x.k ≤ S.length ∧ x.done = done ++ vput S.length ++ encM (qLg (V ++ W) f (S.take x.k)) ∧ x.done.length ≤ 10 + 21 * W.length + 10 + 52 * x.k) ⟨0, done ++ vput S.length, g3, c3⟩ ⟨Nat.zero_le _, by simp [encM, qLg], by simp only; omega⟩ ⟨rfl, rfl, rfl, rfl, rfl, rfl, rfl, trivial⟩ uI ?_
 rintro ⟨k, dn, g, c1⟩ ⟨hk1, hdn, hdl2⟩
 simp only at hk1 hdn hdl2 ⊢
 refine qL (qJ (uB (y_lt rfl rfl) ?_))
 refine qM (qK (qL ?_))
 refine zF rfl (fun h => ?_) (fun h => ?_)
 ·have hkl : k < S.length := by omega
  obtain ⟨x, hx⟩ : ∃ x, S[k]? = some x := ⟨_, List.getElem?_eq_getElem hkl⟩
  obtain ⟨id, hid, hidl⟩ := hSs x (List.mem_of_getElem? hx)
  have hxk := hSk x (List.mem_of_getElem? hx)
  have hxl := hxk.2
  obtain ⟨gs, rfl⟩ := hqs (by omega)
  have f0 := qJf hx (((k : Nat) : Int).toNat) (by omega)
  have hnb := qIi (V ++ W) id
  have hv1 := qBr (n := x.length) (by omega)
  have hv4 := qBr (n := numb (V ++ W) id) (by omega)
  have hbl : (qAs x).length = (vput x.length).length + x.length := List.length_append
  have hbp : 0 < (qAs x).length := by have := qCq x.length; omega
  refine zC (qK (qL (zL (qL (qJ (uB (uAj rfl rfl) ?_))))))
  refine uL ?_
  refine uA rfl (qM (qK (qL (qJ (uM rfl (uM rfl (uU ?_)))))))
  refine qVr rfl (hE.t rfl) (hE.t rfl) (hE.t rfl) (fun gb cb => ?_)
  refine uX (qLu (g := gb) (c := cb) (bs := x) hE (by omega)) rfl ?_
  rintro _ _ ⟨g4, c4, rfl, rfl⟩
  simp only [uV, uW]
  refine uU ?_
  apply qBw (hE.t rfl) (hE.t rfl) rfl rfl rfl
  ·exact uK
  ·exact uK
  ·exact qBh _
  ·exact hbp
  ·omega
  ·unfold maxLen; omega
  intro g5 c5 m' x' hm' hx'
  obtain rfl : m' = (dn ++ qAs x).length := hm'.trans List.length_append.symm
  obtain rfl : x' = byC (dn ++ qAs x) := hx'.trans (qBf _ _).symm
  clear hm' hx'
  have hd5 : (dn ++ qAs x).length = dn.length + (qAs x).length := List.length_append
  refine uA rfl (qM (qK ?_))
  refine uH ([cells d [v0, v1, uPt s, v3, .map (some nb), v5, v6, v7] 97, qAb nb (nmF f), zS s most Es, cells w [.map (some mb), .int .i64 ((V ++ W).length : Nat)] 95, mapF mb .i64 (nuF (V ++ W))]) ?_
  refine uD 0 rfl (qC rfl) ?_
  refine uD 1 rfl (qC rfl) ?_
  refine uD 2 rfl (zB rfl) ?_
  refine uD 3 rfl (uBf rfl) ?_
  refine uD 4 rfl (uY) ?_
  refine uD 5 rfl (qC rfl) ?_
  refine uD 6 rfl (zB rfl) ?_
  refine uD 7 rfl (uBf rfl) ?_
  refine uD 8 rfl (uY) ?_
  refine uD 9 rfl (qC rfl) ?_
  refine uD 10 rfl (y_findF hm6 hm7 hm8 rfl rfl (by ((repeat constructor); done)) hid) ?_
  refine uD 11 rfl (qQz hm4 hm2 hm5 rfl rfl (by ((repeat constructor); done))) ?_
  refine uD 12 rfl (uAc rfl) ?_
  apply kL 13 rfl (by kernel_rfl) rfl
  refine uC (qFv (n := numb (V ++ W) id) hE (by omega)) rfl ?_
  rintro _ _ ⟨g6, c6, rfl, rfl⟩
  simp only [uV, uW]
  refine uE ?_
  apply kL 14 rfl (by kernel_rfl) rfl
  apply qBw (hE.t rfl) (hE.t rfl) rfl rfl rfl
  ·exact uK
  ·exact uK
  ·exact qBh _
  ·exact (qCq _)
  ·omega
  ·unfold maxLen; omega
  intro g7 c7 m' x' hm' hx'
  obtain rfl : m' = (dn ++ qAs x ++ vput (numb (V ++ W) id)).length := hm'.trans List.length_append.symm
  obtain rfl : x' = byC (dn ++ qAs x ++ vput (numb (V ++ W) id)) := hx'.trans (qBf _ _).symm
  clear hm' hx'
  have hd7 : (dn ++ qAs x ++ vput (numb (V ++ W) id)).length = (dn ++ qAs x).length + (vput (numb (V ++ W) id)).length := List.length_append
  refine uE ?_
  refine uD 15 rfl (qD rfl) ?_
  refine qCc (by kernel_rfl) ?_
  refine zJ (qK (qJ (uB (uAa rfl rfl) ?_)))
  refine uM rfl (qM ?_)
  refine zT (ι := BdB) (j := ⟨k + 1, dn ++ qAs x ++ vput (numb (V ++ W) id), g7, c7⟩) ⟨by simp only; omega, by simp only; rw [qYe (V ++ W) hx hid, hdn]; simp only [List.append_assoc], by simp only; omega⟩ (by simp only; omega) ⟨rfl, rfl, rfl, rfl, rfl, rfl, congrArg some (zX (by simp only; omega)), trivial⟩ ?_
  exact uI
 obtain rfl : k = S.length := by omega
 rw [List.take_length] at hdn
 clear h hk1
 refine kJ (qQ (qQ (zI (qK (qL (qJ (uM rfl (uM rfl (uB (uBl rfl) ?_)))))))))
 refine uB (uAc rfl) ?_
 refine uX (qFv (n := T.length) hE (by omega)) rfl ?_
 rintro _ _ ⟨g8, c8, rfl, rfl⟩
 simp only [uV, uW]
 refine uU ?_
 apply qBw (hE.t rfl) (hE.t rfl) rfl rfl rfl
 ·exact uK
 ·exact uK
 ·exact qBh _
 ·exact (qCq _)
 ·omega
 ·unfold maxLen; omega
 intro g9 c9 m' x' hm' hx'
 obtain rfl : m' = (dn ++ vput T.length).length := hm'.trans List.length_append.symm
 obtain rfl : x' = byC (dn ++ vput T.length) := hx'.trans (qBf _ _).symm
 clear hm' hx'
 have hd9 : (dn ++ vput T.length).length = dn.length + (vput T.length).length := List.length_append
 refine qGh (p := sl tp tc 9 1 T.length (nmC T)) uK (fun _ h => fun hpos => qAz h hpos) ?_
 intro hqt
 refine uA rfl (qM (qK (qL (qL (qJ (uM rfl (uB (uBl rfl) ?_)))))))
 refine uM rfl (qM (qK (zL ?_)))
 refine qAj (fun x : BdB => [(0, uPt d), (1, uPt w), (14, .slice (some ⟨x.g, 0, none⟩) x.done.length x.c), (157, .slice tp T.length tc), (158, .int .i64 (T.length : Nat)), (159, .int .i64 (x.k : Nat))])
  (fun x => [cells d [v0, v1, uPt s, v3, .map (some nb), v5, v6, v7] 97, qAb nb (nmF f), zS s most Es, cells w [.map (some mb), .int .i64 ((V ++ W).length : Nat)] 95, mapF mb .i64 (nuF (V ++ W)), sl q c 9 1 l.length (nmC l), sl tp tc 9 1 T.length (nmC T), sl (some ⟨x.g, 0, none⟩) x.c 5 1 x.done.length (byC x.done), R]) (fun x => T.length - x.k)
  (fun x => x.k ≤ T.length ∧ x.done = dn ++ vput T.length ++ drB (T.take x.k) ∧ x.done.length ≤ 10 + 21 * W.length + 10 + 52 * S.length + 10 + 42 * x.k) ⟨0, dn ++ vput T.length, g9, c9⟩ ⟨Nat.zero_le _, by simp [drB], by simp only; omega⟩ ⟨rfl, rfl, rfl, rfl, rfl, rfl, trivial⟩ uI ?_
 rintro ⟨k, dm, g, c1⟩ ⟨hk1, hdm, hdl3⟩
 simp only at hk1 hdm hdl3 ⊢
 refine qL (qJ (uB (y_lt rfl rfl) ?_))
 refine qM (qK (qL ?_))
 refine zF rfl (fun h => ?_) (fun h => ?_)
 ·have hkl : k < T.length := by omega
  obtain ⟨x, hx⟩ : ∃ x, T[k]? = some x := ⟨_, List.getElem?_eq_getElem hkl⟩
  have hxk := hTk x (List.mem_of_getElem? hx)
  have hxl := hxk.2
  obtain ⟨gs, rfl⟩ := hqt (by omega)
  have f0 := qJf hx (((k : Nat) : Int).toNat) (by omega)
  have hv1 := qBr (n := x.length) (by omega)
  have hbl : (qAs x).length = (vput x.length).length + x.length := List.length_append
  have hbp : 0 < (qAs x).length := by have := qCq x.length; omega
  refine zC (qK (qL (zL (qL (qJ (uB (uAj rfl rfl) ?_))))))
  refine uL ?_
  refine uA rfl (qM (qK (qJ (uM rfl (uM rfl (uU ?_))))))
  refine qVr rfl (hE.t rfl) (hE.t rfl) (hE.t rfl) (fun gb cb => ?_)
  refine uX (qLu (g := gb) (c := cb) (bs := x) hE (by omega)) rfl ?_
  rintro _ _ ⟨g4, c4, rfl, rfl⟩
  simp only [uV, uW]
  refine uU ?_
  apply qBw (hE.t rfl) (hE.t rfl) rfl rfl rfl
  ·exact uK
  ·exact uK
  ·exact qBh _
  ·exact hbp
  ·omega
  ·unfold maxLen; omega
  intro g5 c5 m' x' hm' hx'
  obtain rfl : m' = (dm ++ qAs x).length := hm'.trans List.length_append.symm
  obtain rfl : x' = byC (dm ++ qAs x) := hx'.trans (qBf _ _).symm
  clear hm' hx'
  have hd5 : (dm ++ qAs x).length = dm.length + (qAs x).length := List.length_append
  refine uA rfl (qM (zJ (qK (qJ (uB (uAa rfl rfl) ?_)))))
  refine uM rfl (qM ?_)
  refine zT (ι := BdB) (j := ⟨k + 1, dm ++ qAs x, g5, c5⟩) ⟨by simp only; omega, by simp only; rw [drB_snoc hx, hdm]; simp only [List.append_assoc], by simp only; omega⟩ (by simp only; omega) ⟨rfl, rfl, rfl, rfl, rfl, congrArg some (zX (by simp only; omega)), trivial⟩ ?_
  exact uI
 obtain rfl : k = T.length := by omega
 rw [List.take_length] at hdm
 have hB : dm = (cmtT (rls Es) V W f l).body V.length := by
  rw [hbody W, hdm, hdn, hdone]
 rw [hB] at hdl3 ⊢
 refine kJ (qQ (qQ (zI (qK (qL (qJ (uM rfl (uA rfl (qM (qK (kC ?_)))))))))))
 exact uZ rfl (.tmp rfl .nil) ⟨W, g, c1, rfl, hLis, ⟨hall W hcl.1, hcl.2⟩, by omega, rfl⟩
end Go.Proofs.YtddfnkijolfhbaaGreat
namespace Sl
open Go Go.RowKit Go.Proofs.YtddfnkijolfhbaaGreat
variable {E : Env} {n : Nat} {L : Fr} {H H' : List HP}
theorem qUp {K : Value → List HP → Prop} {op : Oper} {p : HP} {φ : Prop} (ht : Take p H H') (h : ∀ k, p k → φ) (hw : φ → Ld E n L H op K) : Ld E n L H op K :=
 fun Q next a w g hn => by
 obtain ⟨_, _, _, _, hp, _⟩ := ht.out g.hp.hp
 exact hw (h _ hp) Q next a w g hn
end Sl
namespace Go.Proofs.YtddfnkijolfhbaaGreat
open Go Go.RowKit Sl Eg
set_option maxRecDepth 10000
section
variable {E : Env} {Es : List Ent} {s most : Nat}
def finC (ch : List UInt8 → Bool) (k : Nat) : Prop := ∃ D : List (List UInt8), D.length ≤ k ∧ ∀ x, ch x = true → x ∈ D ∧ okN x
theorem qLr {ch : List UInt8 → Bool} {x : List UInt8} : chF ch x ≠ none ↔ ch x = true := by
 unfold chF
 by_cases h : ch x = true
 ·simp [h]
 simp [h]
theorem finC.cnt {ch : List UInt8 → Bool} {k n : Nat} (h : finC ch k) (hc : cntS (chF ch) n) : n ≤ k := by
 obtain ⟨D, h1, h2⟩ := h
 obtain ⟨M, h3, h4, rfl⟩ := hc
 have := qDp h3 (B := D) fun x hx => (h2 x (by
  have := qEj.1 hx
  rw [h4] at this
  exact qLr.1 this)).1
 rw [List.length_map] at this
 omega
theorem finC.set {ch : List UInt8 → Bool} {k : Nat} (h : finC ch k) {x : List UInt8} (hx : okN x) : finC (fun y => y == x || ch y) (k + 1) := by
 obtain ⟨D, h1, h2⟩ := h
 refine ⟨x :: D, by rw [List.length_cons]; omega, fun y hy => ?_⟩
 simp only [Bool.or_eq_true, beq_iff_eq] at hy
 rcases hy with rfl | hy
 ·exact ⟨List.mem_cons_self, hx⟩
 exact ⟨List.mem_cons_of_mem _ (h2 y hy).1, (h2 y hy).2⟩
theorem qOf (hE : Seat E) {p : Pwr} {d a n m : Nat} {nm n1 : List UInt8} {f : List UInt8 → Option Nat} {ch : List UInt8 → Bool} {V : List Nat} {x0 x1 : Option Fl} (hp : p.up) (hp2 : p.fin.up) (hnm : okN nm) (hV : Lis (rls Es) V) (hf : ∀ x id, f x = some id → id ≤ Es.length)
  (hc : finC ch m) (hsz : 21 * Es.length + 94 * m ≤ 1000000) (hx0 : n = flen x0) (hfl : flen x0 ≤ 15000000) :
  Ct E 20 [uPt d] [dsP d a nm s f ch V n, zS s most Es, fsP a nm n1 x0 x1 p]
   (fun v Q => v = .nilIface ∧ (((∀ x, ch x = false) ∧ Q = [dsP d a nm s f ch V n, zS s most Es, fsP a nm n1 x0 x1 p]) ∨
    ∃ W l, (l.Nodup ∧ (∀ x, x ∈ l ↔ ch x = true) ∧ Lis (rls Es) (V ++ W) ∧ (∀ x id, ch x = true → f x = some id → id = 0 ∨ id ∈ V ++ W) ∧ ((cmtT (rls Es) V W f l).body V.length).length ≤ 30 + 21 * Es.length + 94 * m ∧ l.length ≤ m) ∧
     Q = [dsP d a nm s f (fun _ => false) (V ++ W) (n + (frm ((cmtT (rls Es) V W f l).pay V.length)).length), zS s most Es, fsP a nm n1 (some ⟨(apF x0 (frm ((cmtT (rls Es) V W f l).pay V.length))).data, (apF x0 (frm ((cmtT (rls Es) V W f l).pay V.length))).data.length⟩) x1 p.fin.fin])) := by
 have hm1 : E.P.underlying 91 = some (.map 9 4) := by rw [hE.P]; kernel_rfl
 refine Sl.ct_open (p := dsP d a nm s f ch V n) (ps := fun i : {i : DsG // i.sz = n ∧ i.ct ≤ n} => [cells d [uPt a, .string ⟨⟨nm⟩⟩, uPt s, .pointer (some ⟨i.1.l, 0, none⟩), .map (some i.1.nb), .map (some i.1.cb), .pointer (some ⟨i.1.wb, 0, none⟩), .bool false] 97, cells i.1.wb [.map (some i.1.mb), .int .i64 (V.length : Nat)] 95, qAb i.1.nb (nmF f), qAb i.1.cb (chF ch), mapF i.1.mb .i64 (nuF V), cells i.1.l [uPt a, .string ⟨⟨nm⟩⟩, .int .i64 (i.1.ct : Nat), .int .i64 (i.1.sz : Nat), .bool false] 137]) (fun k ⟨i, hi, h⟩ => ⟨⟨i, hi⟩, h⟩) ?_
 rintro ⟨i, hi⟩
 simp only
 refine qBi (p := qAb i.cb (chF ch)) uK (fun _ h => qEx h) ?_
 rintro ⟨nn, hcc⟩
 have hn := hc.cnt hcc
 refine zP (hE.fn Tryz.func20) rfl rfl rfl (fun R => ?_)
 simp only [qAe, uV, uW]
 refine qL (qJ (uA rfl (qM (qK (qL (qL (qJ (uM rfl (uX (qDj hE) rfl ?_)))))))))
 rintro _ _ ⟨rfl, rfl⟩
 simp only [uV, uW]
 refine qM (qK (zD rfl (zC (qK (qL (qL (qJ (uM rfl (uB (zB rfl) ?_)))))))))
 refine uB (uBf rfl) ?_
 refine uL ?_
 refine qM (qK (zD rfl (zC (qK (qL (qL (qJ (uM rfl (uB (zB rfl) ?_)))))))))
 refine uB (uBf rfl) ?_
 refine uL ?_
 refine uB (qKo (kt := 9) (et := 4) (by rw [hE.P]; kernel_rfl) rfl uK (by assumption)) ?_
 refine uB (y_eq rfl rfl) ?_
 refine qM (qK ?_)
 refine zF rfl (fun h0 => ?_) (fun h0 => ?_)
 ·obtain rfl : nn = 0 := by omega
  refine qAk (qAm (ps := [cells d [uPt a, .string ⟨⟨nm⟩⟩, uPt s, .pointer (some ⟨i.l, 0, none⟩), .map (some i.nb), .map (some i.cb), .pointer (some ⟨i.wb, 0, none⟩), .bool false] 97, cells i.wb [.map (some i.mb), .int .i64 (V.length : Nat)] 95, qAb i.nb (nmF f), qAb i.cb (chF ch), mapF i.mb .i64 (nuF V), cells i.l [uPt a, .string ⟨⟨nm⟩⟩, .int .i64 (i.ct : Nat), .int .i64 (i.sz : Nat), .bool false] 137]) (p := dsP d a nm s f ch V n) uK (fun k h => ⟨i, hi, h⟩)) ?_
  refine qL (qJ (uA rfl (qM (qK (kC (qX ?_))))))
  apply kD
  ·rfl
  ·(apply Rs.tmp rfl; exact Rs.nil)
  ·refine ⟨rfl, .inl ⟨fun x => ?_, rfl⟩⟩
   have := hcc.none x
   cases e : ch x with
   | false => rfl
   | true => exact absurd this (qLr.2 e)
  exact uI
 refine zC (qK (qL (qJ (uA rfl (qM (qK (qL (qL (qJ (uM rfl (uB (zB rfl) ?_)))))))))))
 refine uB (uBf rfl) ?_
 refine uL ?_
 refine qAx (qCh (t := 9) (sz := 1)) ?_
 refine uU ?_
 apply qFl hm1 rfl uK
 intro br
 refine qM (qK (zL ?_))
 refine qAj (fun x : NmG => [(0, uPt d), (3, .slice x.q x.D.length x.d), (24, uPt br)]) (fun x => [qGs br i.cb (chF ch) x.done, cells d [uPt a, .string ⟨⟨nm⟩⟩, uPt s, .pointer (some ⟨i.l, 0, none⟩), .map (some i.nb), .map (some i.cb), .pointer (some ⟨i.wb, 0, none⟩), .bool false] 97, cells i.wb [.map (some i.mb), .int .i64 (V.length : Nat)] 95, qAb i.nb (nmF f), mapF i.mb .i64 (nuF V), cells i.l [uPt a, .string ⟨⟨nm⟩⟩, .int .i64 (i.ct : Nat), .int .i64 (i.sz : Nat), .bool false] 137, zS s most Es, fsP a nm n1 x0 x1 p, sl x.q x.d 9 1 x.D.length (nmC x.D), R]) (fun x => nn + 1 - x.D.length) (fun x => x.D.Nodup ∧ (∀ y, y ∈ x.D ↔ x.done y = true) ∧ ∀ y ∈ x.D, chF ch y ≠ none) ⟨[], fun _ => false, none, 0⟩ ⟨.nil, fun y => by simp, fun y h => by simp at h⟩ ⟨rfl, rfl, rfl, trivial⟩ uI ?_
 rintro ⟨D, done, q, dd⟩ ⟨h1, h2, h3⟩
 simp only at h1 h2 h3 ⊢
 have hDn := qBq hcc h1 h3
 refine qL (qJ (uU ?_))
 apply qHk rfl uK
 ·intro hall
  refine uB (qV rfl rfl) (qM (qK (qL (zD rfl ?_))))
  refine qAk (kE (p := qGs br i.cb (chF ch) done) (p' := qAb i.cb (chF ch)) uK (fun k h => qJh h)) ?_
  have hmem : ∀ x, x ∈ D ↔ chF ch x ≠ none := fun x => ⟨h3 x, fun hx => by
   cases e : chF ch x with
   | none => exact absurd e hx
   | some v => exact (h2 x).2 (hall x v e)⟩
  have hDpos : 0 < D.length := by
   rcases Nat.eq_zero_or_pos D.length with h | h
   ·exfalso
    obtain rfl := List.length_eq_zero_iff.1 h
    obtain ⟨M, m1, m2, m3⟩ := hcc
    cases M with
    | nil => exact h0 (by rw [← m3]; rfl)
    | cons x M =>
     have := (hmem x.1).2 (by rw [← m2]; simp [List.lookup])
     simp at this
   exact h
  refine qCw (p := sl q dd 9 1 D.length (nmC D)) uK (fun _ h => qAz h hDpos) ?_
  rintro ⟨g, rfl⟩
  refine kJ (qQ (qQ (zI (qK (qL (qJ (uM rfl (uX (qEo hE (by omega)) rfl ?_))))))))
  rintro _ _ ⟨l, rfl, hp', hs, rfl⟩
  rw [← hp'.length_eq]
  have hmem2 : ∀ x, x ∈ l ↔ ch x = true := fun x => (hp'.mem_iff).trans ((hmem x).trans qLr)
  have hll : l.length ≤ m := by
   rw [hp'.length_eq]
   omega
  have hok : ∀ x ∈ l, okN x := fun x hx => by
   obtain ⟨D0, _, hD⟩ := hc
   exact (hD x ((hmem2 x).1 hx)).2
  simp only [uV, uW]
  refine qM (qK (qL (qL ?_)))
  refine uH ([cells d [uPt a, .string ⟨⟨nm⟩⟩, uPt s, .pointer (some ⟨i.l, 0, none⟩), .map (some i.nb), .map (some i.cb), .pointer (some ⟨i.wb, 0, none⟩), .bool false] 97]) ?_
  refine uD 0 rfl (qC rfl) ?_
  refine uD 1 rfl (zB rfl) ?_
  refine uD 2 rfl (uBf rfl) ?_
  refine uD 3 rfl (uY) ?_
  refine uD 4 rfl (qC rfl) ?_
  refine uD 5 rfl (qC rfl) ?_
  refine uD 6 rfl (zB rfl) ?_
  refine uD 7 rfl (uBf rfl) ?_
  refine uD 8 rfl (uY) ?_
  refine uD 9 rfl (qC rfl) ?_
  apply kL 10 rfl (by kernel_rfl) rfl
  refine uC (qLw (V := V) (l := l) hE hV (by omega) hf (by omega) hok) rfl ?_
  rintro _ _ ⟨W, gb, kb, rfl, hLis, hcl, hbl, rfl⟩
  obtain ⟨bs, hbs⟩ : ∃ bs, bs = (cmtT (rls Es) V W f l).body V.length := ⟨_, rfl⟩
  rw [← hbs] at hbl ⊢
  simp only [uV, uW]
  refine uE ?_
  apply kL 11 rfl (by kernel_rfl) rfl
  refine qUp (p := sl (some ⟨gb, 0, none⟩) kb 5 1 bs.length (byC bs)) uK (fun _ h => (qDt h).1) ?_
  intro hcap
  have hqb : Rdb E.w0 (some ⟨gb, 0, none⟩) (byC bs) (sl (some ⟨gb, 0, none⟩) kb 5 1 bs.length (byC bs)) := qCv (qAg _) (fun _ => ⟨gb, rfl⟩)
  refine uC (qMb (bs := bs) (a := a) (n0 := nm) (n1 := n1) (x0 := x0) (x1 := x1) (ct := i.ct) (sz := i.sz) hE hp hp2 hnm hqb hcap (by omega) (by omega) (by omega) (by omega)) rfl ?_
  rintro _ _ ⟨rfl, rfl⟩
  simp only [uV, uW]
  have hpb : payB bs = (cmtT (rls Es) V W f l).pay V.length := by rw [hbs]; rfl
  rw [hpb]
  refine uE ?_
  refine uD 12 rfl (qD rfl) ?_
  refine qCc (by kernel_rfl) ?_
  refine qK (qL (qJ (uM rfl (uB (qAf rfl (hE.t rfl)) ?_))))
  refine qM (qK (zD rfl (zC (qK (qL (qJ (uM rfl (uU ?_))))))))
  refine qAn (fun b54 => ?_)
  refine uB (zB rfl) ?_
  refine uB (uBf rfl) ?_
  refine uU (uS ?_)
  refine qM (qK ?_)
  refine qAk (qAm (ps := [cells d [uPt a, .string ⟨⟨nm⟩⟩, uPt s, .pointer (some ⟨i.l, 0, none⟩), .map (some i.nb), .map (some b54), .pointer (some ⟨i.wb, 0, none⟩), .bool false] 97, cells i.wb [.map (some i.mb), .int .i64 ((V ++ W).length : Nat)] 95, qAb i.nb (nmF f), qAb b54 (fun _ => none), mapF i.mb .i64 (nuF (V ++ W)), cells i.l [uPt a, .string ⟨⟨nm⟩⟩, .int .i64 ((i.ct + 1) : Nat), .int .i64 ((i.sz + (frm ((cmtT (rls Es) V W f l).pay V.length)).length) : Nat), .bool false] 137]) (p := dsP d a nm s f (fun _ => false) (V ++ W) (n + (frm ((cmtT (rls Es) V W f l).pay V.length)).length)) uK (fun k h => ⟨⟨i.l, i.nb, b54, i.wb, i.mb, i.ct + 1, i.sz + (frm ((cmtT (rls Es) V W f l).pay V.length)).length⟩, ⟨by simp only; omega, by
   have := qCp ((cmtT (rls Es) V W f l).pay V.length)
   simp only
   omega⟩, by rw [qTo]; exact h⟩)) ?_
  refine qL (qJ (uA rfl (qM (qK (kC ?_)))))
  exact uZ rfl (.tmp rfl .nil) ⟨rfl, .inr ⟨W, l, ⟨hp'.nodup_iff.2 h1, hmem2, hLis, fun x id hx hid => hcl.1 x ((hmem2 x).2 hx) id hid, by rw [← hbs]; omega, hll⟩, rfl⟩⟩
 intro k v hk hd
 refine uB (qV rfl rfl) (qM (qK (qL (zG rfl (zC (qK (zL (qL (qJ (uB (qHt rfl uK) ?_))))))))))
 refine qAx (fun _ h => qAp (fun _ x => qKd x) h) ?_
 have hkD : k ∉ D := fun h => by
  have := (h2 k).1 h
  rw [hd] at this
  cases this
 refine uB (qV rfl rfl) (uA rfl (qM (qK (qJ (uM rfl (uM rfl (uU ?_)))))))
 refine qW (hE.t rfl) (hE.t rfl) rfl rfl rfl (fun b31 => ?_)
 refine uU ?_
 apply zV (hE.t rfl) (hE.t rfl) rfl rfl rfl
 ·exact uK
 ·exact uK
 ·rfl
 ·rfl
 ·omega
 ·omega
 ·(unfold maxLen; omega)
 intro g32 c32 n32 x32 hn32 hx32
 refine uA rfl (qM (zJ ?_))
 obtain rfl : x32 = nmC (D ++ [k]) := by rw [hx32]; unfold nmC; rw [List.map_append]; rfl
 obtain rfl : n32 = (D ++ [k]).length := by rw [hn32, List.length_append]; rfl
 have hnd : (D ++ [k]).Nodup := by
  rw [List.nodup_append]
  exact ⟨h1, by simp, fun a ha b hb e => by simp at hb; subst hb; subst e; exact hkD ha⟩
 have hne : ∀ y ∈ D ++ [k], chF ch y ≠ none := fun y hy => by
  rcases List.mem_append.1 hy with hy | hy
  ·exact h3 y hy
  simp at hy; subst hy; rw [hk]; simp
 have hb2 := qBq hcc hnd hne
 refine zT (ι := NmG) (j := ⟨D ++ [k], fun x => x == k || done x, some ⟨g32, 0, none⟩, c32⟩) ⟨hnd, fun y => ?_, hne⟩ (by simp only [List.length_append, List.length_singleton] at hb2 ⊢; omega) ⟨rfl, rfl, rfl, trivial⟩ uI
 simp only [List.mem_append, List.mem_singleton, Bool.or_eq_true, beq_iff_eq]
 rw [h2 y]
 exact or_comm
end
section
variable {E : Env} {Es : List Ent} {s most : Nat}
theorem qXd (hE : Seat E) {p : Pwr} {d a gb kb : Nat} {v2 v3 v4 v5 v6 v7 : Value} {nm bs : List UInt8} {x0 : Option Fl} (hp : p.up) (hp2 : p.fin.up) (hp3 : p.fin.fin.up) (h1 : 1 ≤ nm.length) (h2 : nm.length ≤ 28) (hbs : bs.length ≤ 1048573) :
  Ct E 45 [uPt d, .slice (some ⟨gb, 0, none⟩) bs.length kb] [cells d [uPt a, .string ⟨⟨nm⟩⟩, v2, v3, v4, v5, v6, v7] 97, fsP a nm (nm ++ qAc) x0 none p, sl (some ⟨gb, 0, none⟩) kb 5 1 bs.length (byC bs)]
   (fun v Q => ∃ l, v = .tuple #[uPt l, .nilIface] ∧ Q = [cells d [uPt a, .string ⟨⟨nm⟩⟩, v2, v3, v4, v5, v6, v7] 97, fsP a nm (nm ++ qAc) (some ⟨frm (payB bs), (frm (payB bs)).length⟩) none p.fin.fin.fin, sl (some ⟨gb, 0, none⟩) kb 5 1 bs.length (byC bs), cells l [uPt a, .string ⟨⟨nm⟩⟩, .int .i64 (1 : Nat), .int .i64 ((frm (payB bs)).length : Nat), .bool false] 137]) := by
 obtain ⟨hn, hn1, hne⟩ := qGc h1 h2
 have hcat : nm.length + ([46, 110, 101, 119] : List UInt8).length ≤ 1000000000 := Nat.add_le_add h2 (by decide : 4 ≤ 999999972)
 have hpl := qEh bs
 have hfl := qCp (payB bs)
 have hps : ∀ p ∈ [payB bs], 1 ≤ p.length ∧ p.length ≤ 1048576 := fun p hp => by
  simp at hp
  subst hp
  omega
 have hone := qGl (payB bs)
 have hone2 : (frs [payB bs]).length ≤ 1000000000 := by
  rw [hone]
  omega
 have hfl0 : flen none + bs.length + 11 ≤ 16777216 := by
  simp only [flen]
  omega
 refine zP (hE.fn Tryz.func45) rfl rfl rfl (fun R => ?_)
 simp only [qAe, uV, uW]
 refine qL (qJ (uA rfl (uA rfl (qM (qK (qL (qL ?_)))))))
 refine uH ([cells d [uPt a, .string ⟨⟨nm⟩⟩, v2, v3, v4, v5, v6, v7] 97]) ?_
 refine uD 0 rfl (qC rfl) ?_
 refine uD 1 rfl (zB rfl) ?_
 refine uD 2 rfl (uBf rfl) ?_
 refine uD 3 rfl (uY) ?_
 refine uD 4 rfl (qC rfl) ?_
 refine uD 5 rfl (zB rfl) ?_
 refine uD 6 rfl (uBf rfl) ?_
 refine uD 7 rfl (uY) ?_
 refine uD 8 rfl (qFr rfl rfl (by assumption)) ?_
 apply kL 9 rfl (by kernel_rfl) rfl
 refine uC (qDu (n0 := nm) (n1 := nm ++ qAc) (x0 := x0) (a := a) (p := p) hE hn1 hne) rfl ?_
 rintro _ _ ⟨rfl, rfl⟩
 simp only [uV, uW]
 refine uE ?_
 refine uD 10 rfl (qD rfl) ?_
 refine qCc (by kernel_rfl) ?_
 refine qK (qL (qJ (uM rfl (uB (qAf rfl (hE.t rfl)) ?_))))
 refine qM (qK (zD rfl ?_))
 refine qAk (kE (p := fsP a nm (nm ++ qAc) x0 none p) (p' := fsP a (nm ++ qAc) nm none x0 p) uK (fun k h => qCz hne h)) ?_
 refine zC (qK (qL ?_))
 refine uH ([cells d [uPt a, .string ⟨⟨nm⟩⟩, v2, v3, v4, v5, v6, v7] 97]) ?_
 refine uD 0 rfl (qC rfl) ?_
 refine uD 1 rfl (zB rfl) ?_
 refine uD 2 rfl (uBf rfl) ?_
 refine uD 3 rfl (uY) ?_
 refine uD 4 rfl (qC rfl) ?_
 refine uD 5 rfl (zB rfl) ?_
 refine uD 6 rfl (uBf rfl) ?_
 refine uD 7 rfl (uY) ?_
 refine uD 8 rfl (qFr rfl rfl (by assumption)) ?_
 apply kL 9 rfl (by kernel_rfl) rfl
 refine uC (qFw (n0 := nm ++ qAc) (n1 := nm) (x1 := x0) (a := a) (p := p) hE hn1) rfl ?_
 rintro _ _ ⟨l, rfl, rfl⟩
 simp only [uV, uW]
 refine uE ?_
 refine uD 10 rfl (qC rfl) ?_
 refine uD 11 rfl (qV rfl rfl) ?_
 refine uD 12 rfl (qV rfl rfl) ?_
 refine uD 13 rfl (qV rfl rfl) ?_
 refine uD 14 rfl (qD rfl) ?_
 refine uD 15 rfl (qD rfl) ?_
 refine uD 16 rfl (qD rfl) ?_
 refine qCc (by kernel_rfl) ?_
 refine qK (qL (qL (qJ (uM rfl (uB (qAf rfl (hE.t rfl)) ?_)))))
 refine qM (qK (zD rfl (zC (qK (qL (qL (qJ (uM rfl (uM rfl ?_)))))))))
 refine qGh (p := sl (some ⟨gb, 0, none⟩) kb 5 1 bs.length (byC bs)) uK (fun _ h => (qDt h).1) ?_
 intro hcap
 have hqb : Rdb E.w0 (some ⟨gb, 0, none⟩) (byC bs) (sl (some ⟨gb, 0, none⟩) kb 5 1 bs.length (byC bs)) := qCv (qAg _) (fun _ => ⟨gb, rfl⟩)
 refine uX (qMb (bs := bs) (a := a) (n0 := nm ++ qAc) (n1 := nm) (x0 := none) (x1 := x0) (ct := 0) (sz := 0) hE hp hp2 hn1 hqb hcap hbs hfl0 (by omega) (by omega)) rfl ?_
 rintro _ _ ⟨rfl, rfl⟩
 simp only [uV, uW]
 refine uA rfl (qM (qK (qL (qJ (uM rfl (uB (qAf rfl (hE.t rfl)) ?_))))))
 refine qM (qK (zD rfl ?_))
 rw [show apF none (frm (payB bs)) = ⟨frm (payB bs), 0⟩ from rfl]
 refine qAk (kE (p := fsP a (nm ++ qAc) nm (some ⟨frm (payB bs), (frm (payB bs)).length⟩) x0 p.fin.fin) (p' := fsP a nm (nm ++ qAc) x0 (some ⟨frm (payB bs), (frm (payB bs)).length⟩) p.fin.fin) uK (fun k h => qCz (Ne.symm hne) h)) ?_
 refine zC (qK (qL (qL ?_)))
 refine uH ([cells d [uPt a, .string ⟨⟨nm⟩⟩, v2, v3, v4, v5, v6, v7] 97]) ?_
 refine uD 0 rfl (qC rfl) ?_
 refine uD 1 rfl (zB rfl) ?_
 refine uD 2 rfl (uBf rfl) ?_
 refine uD 3 rfl (uY) ?_
 refine uD 4 rfl (qC rfl) ?_
 refine uD 5 rfl (zB rfl) ?_
 refine uD 6 rfl (uBf rfl) ?_
 refine uD 7 rfl (uY) ?_
 refine uD 8 rfl (qFr rfl rfl (by assumption)) ?_
 refine uD 9 rfl (qC rfl) ?_
 refine uD 10 rfl (zB rfl) ?_
 refine uD 11 rfl (uBf rfl) ?_
 refine uD 12 rfl (uY) ?_
 apply kL 13 rfl (by kernel_rfl) rfl
 refine uC (qTx (n0 := nm) (n1 := nm ++ qAc) (x0 := x0) (a := a) (p := p.fin.fin) hE hp3 hn hn1 hne) rfl ?_
 rintro _ _ ⟨rfl, rfl⟩
 simp only [uV, uW]
 refine uE ?_
 refine uD 14 rfl (qD rfl) ?_
 refine qCc (by kernel_rfl) ?_
 refine qK (qL (qJ (uM rfl (uB (qAf rfl (hE.t rfl)) ?_))))
 refine qM (qK (zD rfl (zC (qK (qL ?_)))))
 refine uH ([cells d [uPt a, .string ⟨⟨nm⟩⟩, v2, v3, v4, v5, v6, v7] 97]) ?_
 refine uD 0 rfl (qC rfl) ?_
 refine uD 1 rfl (zB rfl) ?_
 refine uD 2 rfl (uBf rfl) ?_
 refine uD 3 rfl (uY) ?_
 refine uD 4 rfl (qC rfl) ?_
 refine uD 5 rfl (zB rfl) ?_
 refine uD 6 rfl (uBf rfl) ?_
 refine uD 7 rfl (uY) ?_
 apply kL 8 rfl (by kernel_rfl) rfl
 refine uC (qMk (n0 := nm) (n1 := nm ++ qAc) (x := ⟨frm (payB bs), (frm (payB bs)).length⟩) (x1 := none) (a := a) (p := p.fin.fin.fin) (ps := [payB bs]) hE hn hps hone.symm hone2) rfl ?_
 rintro _ _ ⟨l2, ys, q2, c2, rfl, hys, rfl⟩
 have hysl : ys.length = 1 := by rw [← List.length_map (f := fun x : Py => x.2.2), hys]; rfl
 rw [hysl, hone]
 simp only [uV, uW]
 refine uE ?_
 refine uD 9 rfl (qC rfl) ?_
 refine uD 10 rfl (qV rfl rfl) ?_
 refine uD 11 rfl (qV rfl rfl) ?_
 refine uD 12 rfl (qV rfl rfl) ?_
 refine uD 13 rfl (qD rfl) ?_
 refine uD 14 rfl (qD rfl) ?_
 refine qCc (by kernel_rfl) ?_
 refine qK (qL (qJ (uM rfl (uM rfl (uA rfl (uA rfl (qM (qK (kC ?_)))))))))
 exact uZ rfl (.tmp rfl (.tmp rfl .nil)) ⟨l2, rfl, rfl⟩
theorem qGq {f : List UInt8 → Option Nat} {x : List UInt8} : nmF f x ≠ none ↔ f x ≠ none := by
 unfold nmF
 cases f x <;> simp
theorem qNv (hE : Seat E) {p : Pwr} {d a n m : Nat} {nm : List UInt8} {f : List UInt8 → Option Nat} {ch : List UInt8 → Bool} {V : List Nat} {x0 : Option Fl} (hp : p.up) (hp2 : p.fin.up) (hp3 : p.fin.fin.up) (h1 : 1 ≤ nm.length) (h2 : nm.length ≤ 28) (hw : Wf (rls Es)) (hf : ∀ x id, f x = some id → id ≤ Es.length) (hok : ∀ x, f x ≠ none → okN x)
  (hm : finF f m) (hsz : 21 * Es.length + 94 * m ≤ 1000000) :
  Ct E 21 [uPt d] [dsP d a nm s f ch V n, zS s most Es, fsP a nm (nm ++ qAc) x0 none p]
   (fun v Q => ∃ W l, v = .nilIface ∧ (Kys (nmF f) l ∧ Lis (rls Es) W ∧ ((∀ x id, f x = some id → id = 0 ∨ id ∈ W) ∧ ∀ x ∈ W, ∃ y id, f y = some id ∧ Rea (rls Es) id x) ∧ ((cmtT (rls Es) [] W f l).body 0).length ≤ 30 + 21 * Es.length + 94 * m ∧ l.length ≤ m) ∧
     Q = [dsP d a nm s f (fun _ => false) W (frm ((cmtT (rls Es) [] W f l).pay 0)).length, zS s most Es, fsP a nm (nm ++ qAc) (some ⟨frm ((cmtT (rls Es) [] W f l).pay 0), (frm ((cmtT (rls Es) [] W f l).pay 0)).length⟩) none p.fin.fin.fin]) := by
 have hV0 : Lis (rls Es) [] := ⟨hw, ⟨.nil, fun y h => by cases h⟩, fun A n B r e => by simp at e⟩
 refine Sl.ct_open (p := dsP d a nm s f ch V n) (ps := fun i : {i : DsG // i.sz = n ∧ i.ct ≤ n} => [cells d [uPt a, .string ⟨⟨nm⟩⟩, uPt s, .pointer (some ⟨i.1.l, 0, none⟩), .map (some i.1.nb), .map (some i.1.cb), .pointer (some ⟨i.1.wb, 0, none⟩), .bool false] 97, cells i.1.wb [.map (some i.1.mb), .int .i64 (V.length : Nat)] 95, qAb i.1.nb (nmF f), qAb i.1.cb (chF ch), mapF i.1.mb .i64 (nuF V), cells i.1.l [uPt a, .string ⟨⟨nm⟩⟩, .int .i64 (i.1.ct : Nat), .int .i64 (i.1.sz : Nat), .bool false] 137]) (fun k ⟨i, hi, h⟩ => ⟨⟨i, hi⟩, h⟩) ?_
 rintro ⟨i, hi⟩
 simp only
 refine zP (hE.fn Tryz.func21) rfl rfl rfl (fun R => ?_)
 simp only [qAe, uV, uW]
 refine qL (qJ (uA rfl (qM (qK (qL (qL (qJ (uM rfl (uX (qDj hE) rfl ?_)))))))))
 rintro _ _ ⟨rfl, rfl⟩
 simp only [uV, uW]
 refine qM (qK (zD rfl (zC (qK (qL (qL (qJ (uM rfl (uB (zB rfl) ?_)))))))))
 refine uB (uBf rfl) ?_
 refine uL ?_
 refine qM (qK (zD rfl (zC (qK (qL (qJ (uU ?_)))))))
 refine qCs .i64 (fun b14 => ?_)
 refine uB (qBc (hE.t rfl) rfl rfl) ?_
 refine uU ?_
 refine qBt rfl (fun b16 => ?_)
 refine uA rfl (qM (qK ?_))
 rw [qUt]
 refine qAk (qAm (ps := [cells d [uPt a, .string ⟨⟨nm⟩⟩, uPt s, .pointer (some ⟨i.l, 0, none⟩), .map (some i.nb), .map (some i.cb), .pointer (some ⟨i.wb, 0, none⟩), .bool false] 97, cells i.wb [.map (some i.mb), .int .i64 (V.length : Nat)] 95, qAb i.nb (nmF f), qAb i.cb (chF ch), mapF i.mb .i64 (nuF V), cells i.l [uPt a, .string ⟨⟨nm⟩⟩, .int .i64 (i.ct : Nat), .int .i64 (i.sz : Nat), .bool false] 137]) (p := dsP d a nm s f ch V n) uK (fun k h => ⟨i, hi, h⟩)) ?_
 refine qL (qJ (uM rfl (uM rfl (uM rfl (uM rfl (uX (qMa (f := f) (m := m) hE hm (by omega)) rfl ?_))))))
 rintro _ _ ⟨l, q, c, rfl, hl, rfl⟩
 have hll : l.length ≤ m := by
  obtain ⟨D, d1, d2⟩ := hm
  have := qDp hl.nd (B := D) fun x hx => d2 x (qGq.1 ((hl.mem x).1 hx))
  omega
 simp only [uV, uW]
 refine l_open (p := dsP d a nm s f ch V n) (ps := fun i : {i : DsG // i.sz = n ∧ i.ct ≤ n} => [cells d [uPt a, .string ⟨⟨nm⟩⟩, uPt s, .pointer (some ⟨i.1.l, 0, none⟩), .map (some i.1.nb), .map (some i.1.cb), .pointer (some ⟨i.1.wb, 0, none⟩), .bool false] 97, cells i.1.wb [.map (some i.1.mb), .int .i64 (V.length : Nat)] 95, qAb i.1.nb (nmF f), qAb i.1.cb (chF ch), mapF i.1.mb .i64 (nuF V), cells i.1.l [uPt a, .string ⟨⟨nm⟩⟩, .int .i64 (i.1.ct : Nat), .int .i64 (i.1.sz : Nat), .bool false] 137]) uK (fun k ⟨i, hi, h⟩ => ⟨⟨i, hi⟩, h⟩) ?_
 clear hi i
 rintro ⟨i, hi⟩
 simp only
 refine uX (qLw (V := []) (l := l) (f := f) hE hV0 (by omega) hf (by omega) (fun x hx => hok x (qGq.1 ((hl.mem x).1 hx)))) rfl ?_
 rintro _ _ ⟨W, gb, kb, rfl, hLis, hcl, hbl, rfl⟩
 obtain ⟨bs, hbs⟩ : ∃ bs, bs = (cmtT (rls Es) [] W f l).body ([] : List Nat).length := ⟨_, rfl⟩
 rw [← hbs] at hbl ⊢
 simp only [uV, uW]
 refine uX (qXd (bs := bs) (nm := nm) (a := a) (x0 := x0) (p := p) hE hp hp2 hp3 h1 h2 (by omega)) rfl ?_
 rintro _ _ ⟨l2, rfl, rfl⟩
 have hpb : payB bs = (cmtT (rls Es) [] W f l).pay 0 := by rw [hbs]; rfl
 have hpl := qEh bs
 have hfl := qCp (payB bs)
 rw [hpb] at hpl hfl ⊢
 simp only [uV, uW]
 refine uM rfl (uB (qV rfl rfl) (uB (qV rfl rfl) (uA rfl (uA rfl (qM (qK (qL (qL (qJ (uM rfl ?_))))))))))
 refine uB (qAf rfl (hE.t rfl)) ?_
 refine qM (qK (zD rfl (zC (qK (qL (qJ (uM rfl (uM rfl (uB (zB rfl) ?_)))))))))
 refine uB (uBf rfl) ?_
 refine uU (uS ?_)
 refine qM (qK (qL (qJ (uM rfl (uM rfl (uB (zB rfl) ?_))))))
 refine uB (uBf rfl) ?_
 refine uU (uS ?_)
 refine qM (qK (qL (qJ (uM rfl (uU ?_)))))
 refine qAn (fun b42 => ?_)
 refine uB (zB rfl) ?_
 refine uB (uBf rfl) ?_
 refine uU (uS ?_)
 refine qM (qK ?_)
 refine qAk (qAm (ps := [cells d [uPt a, .string ⟨⟨nm⟩⟩, uPt s, uPt l2, .map (some i.nb), .map (some b42), uPt b16, .bool false] 97, cells b16 [.map (some b14), .int .i64 (([] ++ W : List Nat).length : Nat)] 95, qAb i.nb (nmF f), qAb b42 (fun _ => none), mapF b14 .i64 (nuF ([] ++ W)), cells l2 [uPt a, .string ⟨⟨nm⟩⟩, .int .i64 (1 : Nat), .int .i64 ((frm ((cmtT (rls Es) [] W f l).pay 0)).length : Nat), .bool false] 137]) (p := dsP d a nm s f (fun _ => false) W (frm ((cmtT (rls Es) [] W f l).pay 0)).length) uK (fun k h => ⟨⟨l2, i.nb, b42, b16, b14, 1, (frm ((cmtT (rls Es) [] W f l).pay 0)).length⟩, ⟨rfl, by simp only; omega⟩, by rw [qTo]; exact h⟩)) ?_
 refine qL (qJ (uA rfl (qM (qK (kC ?_)))))
 apply kD
 ·rfl
 ·(apply Rs.tmp rfl; exact Rs.nil)
 ·refine ⟨W, l, rfl, ⟨hl, hLis, ⟨fun x id hid => hcl.1 x ((hl.mem x).2 (qGq.2 (by rw [hid]; simp))) id hid, hcl.2⟩, ?_, hll⟩, rfl⟩
  have : (cmtT (rls Es) [] W f l).body 0 = bs := hbs.symm
  rw [this]
  omega
 exact uI
end
end Go.Proofs.YtddfnkijolfhbaaGreat
