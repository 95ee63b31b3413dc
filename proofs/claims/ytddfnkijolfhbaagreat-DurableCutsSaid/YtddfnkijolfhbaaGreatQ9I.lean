import Derived.Test.YtddfnkijolfhbaaGreatQ9H
set_option linter.all false
set_option maxHeartbeats 1000000
namespace Go.Proofs.YtddfnkijolfhbaaGreat
open Go Go.RowKit Sl Eg
set_option maxRecDepth 10000
variable {E : Env} {Es : List Ent} {s most : Nat}
theorem qTs (hE : Seat E) {a : Nat} {n0 n1 : List UInt8} {x : Fl} {x0 : Option Fl} (hn : okN n1) (hne : n0 ≠ n1) :
  Ct E 35 [uPt a, .string ⟨⟨n1⟩⟩] [fsP a n0 n1 x0 (some x) Pwr.on] (fun v Q => v = .nilIface ∧ Q = [fsP a n0 n1 x0 none Pwr.on]) := by
 refine zP (hE.fn Tryz.func35) rfl rfl rfl (fun R => ?_)
 simp only [qAe, uV, uW]
 refine qL (qJ (uA rfl (qM (qK (qL (qL (qJ (uM rfl (uM rfl ?_)))))))))
 refine qAx (kE (p := fsP a n0 n1 x0 (some x) Pwr.on) (p' := fsP a n1 n0 (some x) x0 Pwr.on) uK (fun k h => qCz hne h)) ?_
 refine uX (qWx hE hn) rfl ?_
 rintro _ _ ⟨rfl, rfl⟩
 simp only [uV, uW]
 refine uM rfl (uB (qV rfl rfl) (uB (qV rfl rfl) (uA rfl (uA rfl (qM (qK (qL (qJ (uM rfl ?_)))))))))
 refine uB (qHd rfl (hE.t rfl) rfl) ?_
 refine uX (qVl hE) rfl ?_
 rintro _ _ ⟨rfl, rfl⟩
 simp only [uV, uW]
 refine qM (qK (zD rfl (zC (qK (qL (qJ (uM rfl (uM rfl (uX (qTw (x := x) hE Pwr.on_up hn) rfl ?_)))))))))
 rintro _ _ ⟨rfl, rfl⟩
 simp only [uV, uW]
 rw [Pwr.on_fin]
 refine qAx (kE (p := fsP a n1 n0 none x0 Pwr.on) (p' := fsP a n0 n1 x0 none Pwr.on) uK (fun k h => qCz (Ne.symm hne) h)) ?_
 refine uA rfl (qM (qK (kC ?_)))
 exact uZ rfl (.tmp rfl .nil) ⟨rfl, rfl⟩
theorem qRq (hE : Seat E) {d a n m : Nat} {nm n1 : List UInt8} {f : List UInt8 → Option Nat} {ch : List UInt8 → Bool} {V : List Nat} {x0 x1 : Option Fl} (hnm : okN nm) (hV : Lis (rls Es) V) (hf : ∀ x id, f x = some id → id ≤ Es.length)
  (hc : finC ch m) (hch : ∃ x, ch x = true) (hsz : 21 * Es.length + 94 * m ≤ 1000000) (hx0 : n = flen x0) (hfl : flen x0 ≤ 15000000) :
  Ct E 20 [uPt d] [dsP d a nm s f ch V n, zS s most Es, fsP a nm n1 x0 x1 Pwr.out]
   (fun v Q => v = .iface 31 (.int .i64 8) ∧ Q = [fsP a nm n1 x0 x1 Pwr.dead]) := by
 have hm1 : E.P.underlying 91 = some (.map 9 4) := by rw [hE.P]; kernel_rfl
 refine Sl.ct_open (p := dsP d a nm s f ch V n) (ps := fun i : {i : DsG // i.sz = n ∧ i.ct ≤ n} => [cells d [uPt a, .string ⟨⟨nm⟩⟩, uPt s, .pointer (some ⟨i.1.l, 0, none⟩), .map (some i.1.nb), .map (some i.1.cb), .pointer (some ⟨i.1.wb, 0, none⟩), .bool false] 97, cells i.1.wb [.map (some i.1.mb), .int .i64 (V.length : Nat)] 95, qAb i.1.nb (nmF f), qAb i.1.cb (chF ch), mapF i.1.mb .i64 (nuF V), cells i.1.l [uPt a, .string ⟨⟨nm⟩⟩, .int .i64 (i.1.ct : Nat), .int .i64 (i.1.sz : Nat), .bool false] 137]) (fun k ⟨i, hi, h⟩ => ⟨⟨i, hi⟩, h⟩) ?_
 rintro ⟨i, hi⟩
 simp only
 refine qBi (p := qAb i.cb (chF ch)) uK (fun _ h => qEx h) ?_
 rintro ⟨nn, hcc⟩
 have hn := hc.cnt hcc
 refine zP (hE.fn Tryz.func20) rfl rfl rfl (fun R => ?_)
 simp only [qAe, uV, uW]
 refine qL (qJ (uA rfl (qM (qK (qL (qL (qJ (uM rfl (uX (qDj hE) rfl ?_)))))))))
 rintro _ _ ⟨rfl, rfl⟩
 simp only [uV, uW]
 refine qM (qK (zD rfl (zC (qK (qL (qL (qJ (uM rfl (uB (zB rfl) ?_)))))))))
 refine uB (uBf rfl) ?_
 refine uL ?_
 refine qM (qK (zD rfl (zC (qK (qL (qL (qJ (uM rfl (uB (zB rfl) ?_)))))))))
 refine uB (uBf rfl) ?_
 refine uL ?_
 refine uB (qKo (kt := 9) (et := 4) (by rw [hE.P]; kernel_rfl) rfl uK (by assumption)) ?_
 refine uB (y_eq rfl rfl) ?_
 refine qM (qK ?_)
 refine zF rfl (fun h0 => ?_) (fun h0 => ?_)
 ·obtain rfl : nn = 0 := by omega
  exfalso
  obtain ⟨x, hx⟩ := hch
  have := hcc.none x
  exact absurd this (qLr.2 hx)
 refine zC (qK (qL (qJ (uA rfl (qM (qK (qL (qL (qJ (uM rfl (uB (zB rfl) ?_)))))))))))
 refine uB (uBf rfl) ?_
 refine uL ?_
 refine qAx (qCh (t := 9) (sz := 1)) ?_
 refine uU ?_
 apply qFl hm1 rfl uK
 intro br
 refine qM (qK (zL ?_))
 refine qAj (fun x : NmG => [(0, uPt d), (3, .slice x.q x.D.length x.d), (24, uPt br)]) (fun x => [qGs br i.cb (chF ch) x.done, cells d [uPt a, .string ⟨⟨nm⟩⟩, uPt s, .pointer (some ⟨i.l, 0, none⟩), .map (some i.nb), .map (some i.cb), .pointer (some ⟨i.wb, 0, none⟩), .bool false] 97, cells i.wb [.map (some i.mb), .int .i64 (V.length : Nat)] 95, qAb i.nb (nmF f), mapF i.mb .i64 (nuF V), cells i.l [uPt a, .string ⟨⟨nm⟩⟩, .int .i64 (i.ct : Nat), .int .i64 (i.sz : Nat), .bool false] 137, zS s most Es, fsP a nm n1 x0 x1 Pwr.out, sl x.q x.d 9 1 x.D.length (nmC x.D), R]) (fun x => nn + 1 - x.D.length) (fun x => x.D.Nodup ∧ (∀ y, y ∈ x.D ↔ x.done y = true) ∧ ∀ y ∈ x.D, chF ch y ≠ none) ⟨[], fun _ => false, none, 0⟩ ⟨.nil, fun y => by simp, fun y h => by simp at h⟩ ⟨rfl, rfl, rfl, trivial⟩ uI ?_
 rintro ⟨D, done, q, dd⟩ ⟨h1, h2, h3⟩
 simp only at h1 h2 h3 ⊢
 have hDn := qBq hcc h1 h3
 refine qL (qJ (uU ?_))
 apply qHk rfl uK
 ·intro hall
  refine uB (qV rfl rfl) (qM (qK (qL (zD rfl ?_))))
  refine qAk (kE (p := qGs br i.cb (chF ch) done) (p' := qAb i.cb (chF ch)) uK (fun k h => qJh h)) ?_
  have hmem : ∀ x, x ∈ D ↔ chF ch x ≠ none := fun x => ⟨h3 x, fun hx => by
   cases e : chF ch x with
   | none => exact absurd e hx
   | some v => exact (h2 x).2 (hall x v e)⟩
  have hDpos : 0 < D.length := by
   rcases Nat.eq_zero_or_pos D.length with h | h
   ·exfalso
    obtain rfl := List.length_eq_zero_iff.1 h
    obtain ⟨M, m1, m2, m3⟩ := hcc
    cases M with
    | nil => exact h0 (by rw [← m3]; rfl)
    | cons x M =>
     have := (hmem x.1).2 (by rw [← m2]; simp [List.lookup])
     simp at this
   exact h
  refine qCw (p := sl q dd 9 1 D.length (nmC D)) uK (fun _ h => qAz h hDpos) ?_
  rintro ⟨g, rfl⟩
  refine kJ (qQ (qQ (zI (qK (qL (qJ (uM rfl (uX (qEo hE (by omega)) rfl ?_))))))))
  rintro _ _ ⟨l, rfl, hp', hs, rfl⟩
  rw [← hp'.length_eq]
  have hmem2 : ∀ x, x ∈ l ↔ ch x = true := fun x => (hp'.mem_iff).trans ((hmem x).trans qLr)
  have hll : l.length ≤ m := by
   rw [hp'.length_eq]
   omega
  have hok : ∀ x ∈ l, okN x := fun x hx => by
   obtain ⟨D0, _, hD⟩ := hc
   exact (hD x ((hmem2 x).1 hx)).2
  simp only [uV, uW]
  refine qM (qK (qL (qL ?_)))
  refine uH ([cells d [uPt a, .string ⟨⟨nm⟩⟩, uPt s, .pointer (some ⟨i.l, 0, none⟩), .map (some i.nb), .map (some i.cb), .pointer (some ⟨i.wb, 0, none⟩), .bool false] 97]) ?_
  refine uD 0 rfl (qC rfl) ?_
  refine uD 1 rfl (zB rfl) ?_
  refine uD 2 rfl (uBf rfl) ?_
  refine uD 3 rfl (uY) ?_
  refine uD 4 rfl (qC rfl) ?_
  refine uD 5 rfl (qC rfl) ?_
  refine uD 6 rfl (zB rfl) ?_
  refine uD 7 rfl (uBf rfl) ?_
  refine uD 8 rfl (uY) ?_
  refine uD 9 rfl (qC rfl) ?_
  apply kL 10 rfl (by kernel_rfl) rfl
  refine uC (qLw (V := V) (l := l) hE hV (by omega) hf (by omega) hok) rfl ?_
  rintro _ _ ⟨W, gb, kb, rfl, hLis, hcl, hbl, rfl⟩
  obtain ⟨bs, hbs⟩ : ∃ bs, bs = (cmtT (rls Es) V W f l).body V.length := ⟨_, rfl⟩
  rw [← hbs] at hbl ⊢
  simp only [uV, uW]
  refine uE ?_
  apply kL 11 rfl (by kernel_rfl) rfl
  refine qUp (p := sl (some ⟨gb, 0, none⟩) kb 5 1 bs.length (byC bs)) uK (fun _ h => (qDt h).1) ?_
  intro hcap
  have hqb : Rdb E.w0 (some ⟨gb, 0, none⟩) (byC bs) (sl (some ⟨gb, 0, none⟩) kb 5 1 bs.length (byC bs)) := qCv (qAg _) (fun _ => ⟨gb, rfl⟩)
  refine uC (qMc (bs := bs) (a := a) (n0 := nm) (n1 := n1) (x0 := x0) (x1 := x1) (ct := i.ct) (sz := i.sz) hE hnm hqb hcap (by omega) (by omega) (by omega) (by omega)) rfl ?_
  rintro _ _ ⟨rfl, rfl⟩
  simp only [uV, uW]
  refine uE ?_
  refine uD 12 rfl (qD rfl) ?_
  refine qCc (by kernel_rfl) ?_
  refine qK (qL (qJ (uM rfl (uB (qCi rfl (hE.t rfl)) ?_))))
  refine qM (qK (zG rfl (qL (qJ (uM rfl (uB (zB rfl) ?_))))))
  refine uB (uBf rfl) ?_
  refine uU (uS ?_)
  refine qM (qK (qL (qJ (uM rfl (uA rfl (qM (qK (kC (qX ?_)))))))))
  exact uZ rfl (.tmp rfl .nil) ⟨rfl, rfl⟩
 intro k v hk hd
 refine uB (qV rfl rfl) (qM (qK (qL (zG rfl (zC (qK (zL (qL (qJ (uB (qHt rfl uK) ?_))))))))))
 refine qAx (fun _ h => qAp (fun _ x => qKd x) h) ?_
 have hkD : k ∉ D := fun h => by
  have := (h2 k).1 h
  rw [hd] at this
  cases this
 refine uB (qV rfl rfl) (uA rfl (qM (qK (qJ (uM rfl (uM rfl (uU ?_)))))))
 refine qW (hE.t rfl) (hE.t rfl) rfl rfl rfl (fun b31 => ?_)
 refine uU ?_
 apply zV (hE.t rfl) (hE.t rfl) rfl rfl rfl
 ·exact uK
 ·exact uK
 ·rfl
 ·rfl
 ·omega
 ·omega
 ·(unfold maxLen; omega)
 intro g32 c32 n32 x32 hn32 hx32
 refine uA rfl (qM (zJ ?_))
 obtain rfl : x32 = nmC (D ++ [k]) := by rw [hx32]; unfold nmC; rw [List.map_append]; rfl
 obtain rfl : n32 = (D ++ [k]).length := by rw [hn32, List.length_append]; rfl
 have hnd : (D ++ [k]).Nodup := by
  rw [List.nodup_append]
  exact ⟨h1, by simp, fun a ha b hb e => by simp at hb; subst hb; subst e; exact hkD ha⟩
 have hne : ∀ y ∈ D ++ [k], chF ch y ≠ none := fun y hy => by
  rcases List.mem_append.1 hy with hy | hy
  ·exact h3 y hy
  simp at hy; subst hy; rw [hk]; simp
 have hb2 := qBq hcc hnd hne
 refine zT (ι := NmG) (j := ⟨D ++ [k], fun x => x == k || done x, some ⟨g32, 0, none⟩, c32⟩) ⟨hnd, fun y => ?_, hne⟩ (by simp only [List.length_append, List.length_singleton] at hb2 ⊢; omega) ⟨rfl, rfl, rfl, trivial⟩ uI
 simp only [List.mem_append, List.mem_singleton, Bool.or_eq_true, beq_iff_eq]
 rw [h2 y]
 exact or_comm
theorem qRr (hE : Seat E) {d a n m : Nat} {nm n1 : List UInt8} {f : List UInt8 → Option Nat} {ch : List UInt8 → Bool} {V : List Nat} {x0 x1 : Option Fl} (hnm : okN nm) (hV : Lis (rls Es) V) (hf : ∀ x id, f x = some id → id ≤ Es.length)
  (hc : finC ch m) (hch : ∃ x, ch x = true) (hsz : 21 * Es.length + 94 * m ≤ 1000000) (hx0 : n = flen x0) (hfl : flen x0 ≤ 15000000) :
  Ct E 20 [uPt d] [dsP d a nm s f ch V n, zS s most Es, fsP a nm n1 x0 x1 (Pwr.lft 1)]
   (fun v Q => ∃ W l, v = .iface 31 (.int .i64 8) ∧ (l.Nodup ∧ (∀ x, x ∈ l ↔ ch x = true) ∧ Lis (rls Es) (V ++ W) ∧ (∀ x id, ch x = true → f x = some id → id = 0 ∨ id ∈ V ++ W) ∧ ((cmtT (rls Es) V W f l).body V.length).length ≤ 30 + 21 * Es.length + 94 * m ∧ l.length ≤ m) ∧ Q = [fsP a nm n1 (some (apF x0 (frm ((cmtT (rls Es) V W f l).pay V.length)))) x1 Pwr.dead]) := by
 have hm1 : E.P.underlying 91 = some (.map 9 4) := by rw [hE.P]; kernel_rfl
 refine Sl.ct_open (p := dsP d a nm s f ch V n) (ps := fun i : {i : DsG // i.sz = n ∧ i.ct ≤ n} => [cells d [uPt a, .string ⟨⟨nm⟩⟩, uPt s, .pointer (some ⟨i.1.l, 0, none⟩), .map (some i.1.nb), .map (some i.1.cb), .pointer (some ⟨i.1.wb, 0, none⟩), .bool false] 97, cells i.1.wb [.map (some i.1.mb), .int .i64 (V.length : Nat)] 95, qAb i.1.nb (nmF f), qAb i.1.cb (chF ch), mapF i.1.mb .i64 (nuF V), cells i.1.l [uPt a, .string ⟨⟨nm⟩⟩, .int .i64 (i.1.ct : Nat), .int .i64 (i.1.sz : Nat), .bool false] 137]) (fun k ⟨i, hi, h⟩ => ⟨⟨i, hi⟩, h⟩) ?_
 rintro ⟨i, hi⟩
 simp only
 refine qBi (p := qAb i.cb (chF ch)) uK (fun _ h => qEx h) ?_
 rintro ⟨nn, hcc⟩
 have hn := hc.cnt hcc
 refine zP (hE.fn Tryz.func20) rfl rfl rfl (fun R => ?_)
 simp only [qAe, uV, uW]
 refine qL (qJ (uA rfl (qM (qK (qL (qL (qJ (uM rfl (uX (qDj hE) rfl ?_)))))))))
 rintro _ _ ⟨rfl, rfl⟩
 simp only [uV, uW]
 refine qM (qK (zD rfl (zC (qK (qL (qL (qJ (uM rfl (uB (zB rfl) ?_)))))))))
 refine uB (uBf rfl) ?_
 refine uL ?_
 refine qM (qK (zD rfl (zC (qK (qL (qL (qJ (uM rfl (uB (zB rfl) ?_)))))))))
 refine uB (uBf rfl) ?_
 refine uL ?_
 refine uB (qKo (kt := 9) (et := 4) (by rw [hE.P]; kernel_rfl) rfl uK (by assumption)) ?_
 refine uB (y_eq rfl rfl) ?_
 refine qM (qK ?_)
 refine zF rfl (fun h0 => ?_) (fun h0 => ?_)
 ·obtain rfl : nn = 0 := by omega
  exfalso
  obtain ⟨x, hx⟩ := hch
  have := hcc.none x
  exact absurd this (qLr.2 hx)
 refine zC (qK (qL (qJ (uA rfl (qM (qK (qL (qL (qJ (uM rfl (uB (zB rfl) ?_)))))))))))
 refine uB (uBf rfl) ?_
 refine uL ?_
 refine qAx (qCh (t := 9) (sz := 1)) ?_
 refine uU ?_
 apply qFl hm1 rfl uK
 intro br
 refine qM (qK (zL ?_))
 refine qAj (fun x : NmG => [(0, uPt d), (3, .slice x.q x.D.length x.d), (24, uPt br)]) (fun x => [qGs br i.cb (chF ch) x.done, cells d [uPt a, .string ⟨⟨nm⟩⟩, uPt s, .pointer (some ⟨i.l, 0, none⟩), .map (some i.nb), .map (some i.cb), .pointer (some ⟨i.wb, 0, none⟩), .bool false] 97, cells i.wb [.map (some i.mb), .int .i64 (V.length : Nat)] 95, qAb i.nb (nmF f), mapF i.mb .i64 (nuF V), cells i.l [uPt a, .string ⟨⟨nm⟩⟩, .int .i64 (i.ct : Nat), .int .i64 (i.sz : Nat), .bool false] 137, zS s most Es, fsP a nm n1 x0 x1 (Pwr.lft 1), sl x.q x.d 9 1 x.D.length (nmC x.D), R]) (fun x => nn + 1 - x.D.length) (fun x => x.D.Nodup ∧ (∀ y, y ∈ x.D ↔ x.done y = true) ∧ ∀ y ∈ x.D, chF ch y ≠ none) ⟨[], fun _ => false, none, 0⟩ ⟨.nil, fun y => by simp, fun y h => by simp at h⟩ ⟨rfl, rfl, rfl, trivial⟩ uI ?_
 rintro ⟨D, done, q, dd⟩ ⟨h1, h2, h3⟩
 simp only at h1 h2 h3 ⊢
 have hDn := qBq hcc h1 h3
 refine qL (qJ (uU ?_))
 apply qHk rfl uK
 ·intro hall
  refine uB (qV rfl rfl) (qM (qK (qL (zD rfl ?_))))
  refine qAk (kE (p := qGs br i.cb (chF ch) done) (p' := qAb i.cb (chF ch)) uK (fun k h => qJh h)) ?_
  have hmem : ∀ x, x ∈ D ↔ chF ch x ≠ none := fun x => ⟨h3 x, fun hx => by
   cases e : chF ch x with
   | none => exact absurd e hx
   | some v => exact (h2 x).2 (hall x v e)⟩
  have hDpos : 0 < D.length := by
   rcases Nat.eq_zero_or_pos D.length with h | h
   ·exfalso
    obtain rfl := List.length_eq_zero_iff.1 h
    obtain ⟨M, m1, m2, m3⟩ := hcc
    cases M with
    | nil => exact h0 (by rw [← m3]; rfl)
    | cons x M =>
     have := (hmem x.1).2 (by rw [← m2]; simp [List.lookup])
     simp at this
   exact h
  refine qCw (p := sl q dd 9 1 D.length (nmC D)) uK (fun _ h => qAz h hDpos) ?_
  rintro ⟨g, rfl⟩
  refine kJ (qQ (qQ (zI (qK (qL (qJ (uM rfl (uX (qEo hE (by omega)) rfl ?_))))))))
  rintro _ _ ⟨l, rfl, hp', hs, rfl⟩
  rw [← hp'.length_eq]
  have hmem2 : ∀ x, x ∈ l ↔ ch x = true := fun x => (hp'.mem_iff).trans ((hmem x).trans qLr)
  have hll : l.length ≤ m := by
   rw [hp'.length_eq]
   omega
  have hok : ∀ x ∈ l, okN x := fun x hx => by
   obtain ⟨D0, _, hD⟩ := hc
   exact (hD x ((hmem2 x).1 hx)).2
  simp only [uV, uW]
  refine qM (qK (qL (qL ?_)))
  refine uH ([cells d [uPt a, .string ⟨⟨nm⟩⟩, uPt s, .pointer (some ⟨i.l, 0, none⟩), .map (some i.nb), .map (some i.cb), .pointer (some ⟨i.wb, 0, none⟩), .bool false] 97]) ?_
  refine uD 0 rfl (qC rfl) ?_
  refine uD 1 rfl (zB rfl) ?_
  refine uD 2 rfl (uBf rfl) ?_
  refine uD 3 rfl (uY) ?_
  refine uD 4 rfl (qC rfl) ?_
  refine uD 5 rfl (qC rfl) ?_
  refine uD 6 rfl (zB rfl) ?_
  refine uD 7 rfl (uBf rfl) ?_
  refine uD 8 rfl (uY) ?_
  refine uD 9 rfl (qC rfl) ?_
  apply kL 10 rfl (by kernel_rfl) rfl
  refine uC (qLw (V := V) (l := l) hE hV (by omega) hf (by omega) hok) rfl ?_
  rintro _ _ ⟨W, gb, kb, rfl, hLis, hcl, hbl, rfl⟩
  obtain ⟨bs, hbs⟩ : ∃ bs, bs = (cmtT (rls Es) V W f l).body V.length := ⟨_, rfl⟩
  rw [← hbs] at hbl ⊢
  simp only [uV, uW]
  refine uE ?_
  apply kL 11 rfl (by kernel_rfl) rfl
  refine qUp (p := sl (some ⟨gb, 0, none⟩) kb 5 1 bs.length (byC bs)) uK (fun _ h => (qDt h).1) ?_
  intro hcap
  have hqb : Rdb E.w0 (some ⟨gb, 0, none⟩) (byC bs) (sl (some ⟨gb, 0, none⟩) kb 5 1 bs.length (byC bs)) := qCv (qAg _) (fun _ => ⟨gb, rfl⟩)
  refine uC (qMd (bs := bs) (a := a) (n0 := nm) (n1 := n1) (x0 := x0) (x1 := x1) (ct := i.ct) (sz := i.sz) hE hnm hqb hcap (by omega) (by omega) (by omega) (by omega)) rfl ?_
  rintro _ _ ⟨rfl, rfl⟩
  simp only [uV, uW]
  have hpb : payB bs = (cmtT (rls Es) V W f l).pay V.length := by rw [hbs]; rfl
  rw [hpb]
  refine uE ?_
  refine uD 12 rfl (qD rfl) ?_
  refine qCc (by kernel_rfl) ?_
  refine qK (qL (qJ (uM rfl (uB (qCi rfl (hE.t rfl)) ?_))))
  refine qM (qK (zG rfl (qL (qJ (uM rfl (uB (zB rfl) ?_))))))
  refine uB (uBf rfl) ?_
  refine uU (uS ?_)
  refine qM (qK (qL (qJ (uM rfl (uA rfl (qM (qK (kC (qX ?_)))))))))
  exact uZ rfl (.tmp rfl .nil) ⟨W, l, rfl, ⟨hp'.nodup_iff.2 h1, hmem2, hLis, fun x id hx hid => hcl.1 x ((hmem2 x).2 hx) id hid, by rw [← hbs]; omega, hll⟩, rfl⟩
 intro k v hk hd
 refine uB (qV rfl rfl) (qM (qK (qL (zG rfl (zC (qK (zL (qL (qJ (uB (qHt rfl uK) ?_))))))))))
 refine qAx (fun _ h => qAp (fun _ x => qKd x) h) ?_
 have hkD : k ∉ D := fun h => by
  have := (h2 k).1 h
  rw [hd] at this
  cases this
 refine uB (qV rfl rfl) (uA rfl (qM (qK (qJ (uM rfl (uM rfl (uU ?_)))))))
 refine qW (hE.t rfl) (hE.t rfl) rfl rfl rfl (fun b31 => ?_)
 refine uU ?_
 apply zV (hE.t rfl) (hE.t rfl) rfl rfl rfl
 ·exact uK
 ·exact uK
 ·rfl
 ·rfl
 ·omega
 ·omega
 ·(unfold maxLen; omega)
 intro g32 c32 n32 x32 hn32 hx32
 refine uA rfl (qM (zJ ?_))
 obtain rfl : x32 = nmC (D ++ [k]) := by rw [hx32]; unfold nmC; rw [List.map_append]; rfl
 obtain rfl : n32 = (D ++ [k]).length := by rw [hn32, List.length_append]; rfl
 have hnd : (D ++ [k]).Nodup := by
  rw [List.nodup_append]
  exact ⟨h1, by simp, fun a ha b hb e => by simp at hb; subst hb; subst e; exact hkD ha⟩
 have hne : ∀ y ∈ D ++ [k], chF ch y ≠ none := fun y hy => by
  rcases List.mem_append.1 hy with hy | hy
  ·exact h3 y hy
  simp at hy; subst hy; rw [hk]; simp
 have hb2 := qBq hcc hnd hne
 refine zT (ι := NmG) (j := ⟨D ++ [k], fun x => x == k || done x, some ⟨g32, 0, none⟩, c32⟩) ⟨hnd, fun y => ?_, hne⟩ (by simp only [List.length_append, List.length_singleton] at hb2 ⊢; omega) ⟨rfl, rfl, rfl, trivial⟩ uI
 simp only [List.mem_append, List.mem_singleton, Bool.or_eq_true, beq_iff_eq]
 rw [h2 y]
 exact or_comm
theorem qRy (hE : Seat E) {d a gb kb : Nat} {v2 v3 v4 v5 v6 v7 : Value} {nm bs : List UInt8} {x0 : Option Fl} (h1 : 1 ≤ nm.length) (h2 : nm.length ≤ 28) (hbs : bs.length ≤ 1048573) :
  Ct E 45 [uPt d, .slice (some ⟨gb, 0, none⟩) bs.length kb] [cells d [uPt a, .string ⟨⟨nm⟩⟩, v2, v3, v4, v5, v6, v7] 97, fsP a nm (nm ++ qAc) x0 none Pwr.out, sl (some ⟨gb, 0, none⟩) kb 5 1 bs.length (byC bs)]
   (fun v Q => v = .tuple #[.pointer none, .iface 31 (.int .i64 8)] ∧ Q = [cells d [uPt a, .string ⟨⟨nm⟩⟩, v2, v3, v4, v5, v6, v7] 97, fsP a nm (nm ++ qAc) x0 none Pwr.dead]) := by
 obtain ⟨hn, hn1, hne⟩ := qGc h1 h2
 have hcat : nm.length + ([46, 110, 101, 119] : List UInt8).length ≤ 1000000000 := Nat.add_le_add h2 (by decide : 4 ≤ 999999972)
 have hpl := qEh bs
 have hfl := qCp (payB bs)
 have hps : ∀ p ∈ [payB bs], 1 ≤ p.length ∧ p.length ≤ 1048576 := fun p hp => by
  simp at hp
  subst hp
  omega
 have hone := qGl (payB bs)
 have hone2 : (frs [payB bs]).length ≤ 1000000000 := by
  rw [hone]
  omega
 have hfl0 : flen none + bs.length + 11 ≤ 16777216 := by
  simp only [flen]
  omega
 refine zP (hE.fn Tryz.func45) rfl rfl rfl (fun R => ?_)
 simp only [qAe, uV, uW]
 refine qL (qJ (uA rfl (uA rfl (qM (qK (qL (qL ?_)))))))
 refine uH ([cells d [uPt a, .string ⟨⟨nm⟩⟩, v2, v3, v4, v5, v6, v7] 97]) ?_
 refine uD 0 rfl (qC rfl) ?_
 refine uD 1 rfl (zB rfl) ?_
 refine uD 2 rfl (uBf rfl) ?_
 refine uD 3 rfl (uY) ?_
 refine uD 4 rfl (qC rfl) ?_
 refine uD 5 rfl (zB rfl) ?_
 refine uD 6 rfl (uBf rfl) ?_
 refine uD 7 rfl (uY) ?_
 refine uD 8 rfl (qFr rfl rfl (by assumption)) ?_
 apply kL 9 rfl (by kernel_rfl) rfl
 refine uC (qDu (n0 := nm) (n1 := nm ++ qAc) (x0 := x0) (a := a) (p := Pwr.out) hE hn1 hne) rfl ?_
 rintro _ _ ⟨rfl, rfl⟩
 simp only [uV, uW]
 refine uE ?_
 refine uD 10 rfl (qD rfl) ?_
 refine qCc (by kernel_rfl) ?_
 refine qK (qL (qJ (uM rfl (uB (qAf rfl (hE.t rfl)) ?_))))
 refine qM (qK (zD rfl ?_))
 refine qAk (kE (p := fsP a nm (nm ++ qAc) x0 none Pwr.out) (p' := fsP a (nm ++ qAc) nm none x0 Pwr.out) uK (fun k h => qCz hne h)) ?_
 refine zC (qK (qL ?_))
 refine uH ([cells d [uPt a, .string ⟨⟨nm⟩⟩, v2, v3, v4, v5, v6, v7] 97]) ?_
 refine uD 0 rfl (qC rfl) ?_
 refine uD 1 rfl (zB rfl) ?_
 refine uD 2 rfl (uBf rfl) ?_
 refine uD 3 rfl (uY) ?_
 refine uD 4 rfl (qC rfl) ?_
 refine uD 5 rfl (zB rfl) ?_
 refine uD 6 rfl (uBf rfl) ?_
 refine uD 7 rfl (uY) ?_
 refine uD 8 rfl (qFr rfl rfl (by assumption)) ?_
 apply kL 9 rfl (by kernel_rfl) rfl
 refine uC (qFw (n0 := nm ++ qAc) (n1 := nm) (x1 := x0) (a := a) (p := Pwr.out) hE hn1) rfl ?_
 rintro _ _ ⟨l, rfl, rfl⟩
 simp only [uV, uW]
 refine uE ?_
 refine uD 10 rfl (qC rfl) ?_
 refine uD 11 rfl (qV rfl rfl) ?_
 refine uD 12 rfl (qV rfl rfl) ?_
 refine uD 13 rfl (qV rfl rfl) ?_
 refine uD 14 rfl (qD rfl) ?_
 refine uD 15 rfl (qD rfl) ?_
 refine uD 16 rfl (qD rfl) ?_
 refine qCc (by kernel_rfl) ?_
 refine qK (qL (qL (qJ (uM rfl (uB (qAf rfl (hE.t rfl)) ?_)))))
 refine qM (qK (zD rfl (zC (qK (qL (qL (qJ (uM rfl (uM rfl ?_)))))))))
 refine qGh (p := sl (some ⟨gb, 0, none⟩) kb 5 1 bs.length (byC bs)) uK (fun _ h => (qDt h).1) ?_
 intro hcap
 have hqb : Rdb E.w0 (some ⟨gb, 0, none⟩) (byC bs) (sl (some ⟨gb, 0, none⟩) kb 5 1 bs.length (byC bs)) := qCv (qAg _) (fun _ => ⟨gb, rfl⟩)
 refine uX (qMc (bs := bs) (a := a) (n0 := nm ++ qAc) (n1 := nm) (x0 := none) (x1 := x0) (ct := 0) (sz := 0) hE hn1 hqb hcap hbs hfl0 (by omega) (by omega)) rfl ?_
 rintro _ _ ⟨rfl, rfl⟩
 simp only [uV, uW]
 refine qAx (kE (p := fsP a (nm ++ qAc) nm none x0 Pwr.dead) (p' := fsP a nm (nm ++ qAc) x0 none Pwr.dead) uK (fun k h => qCz (Ne.symm hne) h)) ?_
 refine uA rfl (qM (qK (qL (qJ (uM rfl (uB (qCi rfl (hE.t rfl)) ?_))))))
 refine qM (qK (zG rfl (qL (qJ (uM rfl (uA rfl (uA rfl (qM (qK (kC (qX ?_)))))))))))
 exact uZ rfl (.tmp rfl (.tmp rfl .nil)) ⟨rfl, rfl⟩
theorem qRz (hE : Seat E) {d a gb kb : Nat} {v2 v3 v4 v5 v6 v7 : Value} {nm bs : List UInt8} {x0 : Option Fl} (h1 : 1 ≤ nm.length) (h2 : nm.length ≤ 28) (hbs : bs.length ≤ 1048573) :
  Ct E 45 [uPt d, .slice (some ⟨gb, 0, none⟩) bs.length kb] [cells d [uPt a, .string ⟨⟨nm⟩⟩, v2, v3, v4, v5, v6, v7] 97, fsP a nm (nm ++ qAc) x0 none (Pwr.lft 1), sl (some ⟨gb, 0, none⟩) kb 5 1 bs.length (byC bs)]
   (fun v Q => v = .tuple #[.pointer none, .iface 31 (.int .i64 8)] ∧ Q = [cells d [uPt a, .string ⟨⟨nm⟩⟩, v2, v3, v4, v5, v6, v7] 97, fsP a nm (nm ++ qAc) x0 (some (apF none (frm (payB bs)))) Pwr.dead]) := by
 obtain ⟨hn, hn1, hne⟩ := qGc h1 h2
 have hcat : nm.length + ([46, 110, 101, 119] : List UInt8).length ≤ 1000000000 := Nat.add_le_add h2 (by decide : 4 ≤ 999999972)
 have hpl := qEh bs
 have hfl := qCp (payB bs)
 have hps : ∀ p ∈ [payB bs], 1 ≤ p.length ∧ p.length ≤ 1048576 := fun p hp => by
  simp at hp
  subst hp
  omega
 have hone := qGl (payB bs)
 have hone2 : (frs [payB bs]).length ≤ 1000000000 := by
  rw [hone]
  omega
 have hfl0 : flen none + bs.length + 11 ≤ 16777216 := by
  simp only [flen]
  omega
 refine zP (hE.fn Tryz.func45) rfl rfl rfl (fun R => ?_)
 simp only [qAe, uV, uW]
 refine qL (qJ (uA rfl (uA rfl (qM (qK (qL (qL ?_)))))))
 refine uH ([cells d [uPt a, .string ⟨⟨nm⟩⟩, v2, v3, v4, v5, v6, v7] 97]) ?_
 refine uD 0 rfl (qC rfl) ?_
 refine uD 1 rfl (zB rfl) ?_
 refine uD 2 rfl (uBf rfl) ?_
 refine uD 3 rfl (uY) ?_
 refine uD 4 rfl (qC rfl) ?_
 refine uD 5 rfl (zB rfl) ?_
 refine uD 6 rfl (uBf rfl) ?_
 refine uD 7 rfl (uY) ?_
 refine uD 8 rfl (qFr rfl rfl (by assumption)) ?_
 apply kL 9 rfl (by kernel_rfl) rfl
 refine uC (qDu (n0 := nm) (n1 := nm ++ qAc) (x0 := x0) (a := a) (p := (Pwr.lft 1)) hE hn1 hne) rfl ?_
 rintro _ _ ⟨rfl, rfl⟩
 simp only [uV, uW]
 refine uE ?_
 refine uD 10 rfl (qD rfl) ?_
 refine qCc (by kernel_rfl) ?_
 refine qK (qL (qJ (uM rfl (uB (qAf rfl (hE.t rfl)) ?_))))
 refine qM (qK (zD rfl ?_))
 refine qAk (kE (p := fsP a nm (nm ++ qAc) x0 none (Pwr.lft 1)) (p' := fsP a (nm ++ qAc) nm none x0 (Pwr.lft 1)) uK (fun k h => qCz hne h)) ?_
 refine zC (qK (qL ?_))
 refine uH ([cells d [uPt a, .string ⟨⟨nm⟩⟩, v2, v3, v4, v5, v6, v7] 97]) ?_
 refine uD 0 rfl (qC rfl) ?_
 refine uD 1 rfl (zB rfl) ?_
 refine uD 2 rfl (uBf rfl) ?_
 refine uD 3 rfl (uY) ?_
 refine uD 4 rfl (qC rfl) ?_
 refine uD 5 rfl (zB rfl) ?_
 refine uD 6 rfl (uBf rfl) ?_
 refine uD 7 rfl (uY) ?_
 refine uD 8 rfl (qFr rfl rfl (by assumption)) ?_
 apply kL 9 rfl (by kernel_rfl) rfl
 refine uC (qFw (n0 := nm ++ qAc) (n1 := nm) (x1 := x0) (a := a) (p := (Pwr.lft 1)) hE hn1) rfl ?_
 rintro _ _ ⟨l, rfl, rfl⟩
 simp only [uV, uW]
 refine uE ?_
 refine uD 10 rfl (qC rfl) ?_
 refine uD 11 rfl (qV rfl rfl) ?_
 refine uD 12 rfl (qV rfl rfl) ?_
 refine uD 13 rfl (qV rfl rfl) ?_
 refine uD 14 rfl (qD rfl) ?_
 refine uD 15 rfl (qD rfl) ?_
 refine uD 16 rfl (qD rfl) ?_
 refine qCc (by kernel_rfl) ?_
 refine qK (qL (qL (qJ (uM rfl (uB (qAf rfl (hE.t rfl)) ?_)))))
 refine qM (qK (zD rfl (zC (qK (qL (qL (qJ (uM rfl (uM rfl ?_)))))))))
 refine qGh (p := sl (some ⟨gb, 0, none⟩) kb 5 1 bs.length (byC bs)) uK (fun _ h => (qDt h).1) ?_
 intro hcap
 have hqb : Rdb E.w0 (some ⟨gb, 0, none⟩) (byC bs) (sl (some ⟨gb, 0, none⟩) kb 5 1 bs.length (byC bs)) := qCv (qAg _) (fun _ => ⟨gb, rfl⟩)
 refine uX (qMd (bs := bs) (a := a) (n0 := nm ++ qAc) (n1 := nm) (x0 := none) (x1 := x0) (ct := 0) (sz := 0) hE hn1 hqb hcap hbs hfl0 (by omega) (by omega)) rfl ?_
 rintro _ _ ⟨rfl, rfl⟩
 simp only [uV, uW]
 refine qAx (kE (p := fsP a (nm ++ qAc) nm (some (apF none (frm (payB bs)))) x0 Pwr.dead) (p' := fsP a nm (nm ++ qAc) x0 (some (apF none (frm (payB bs)))) Pwr.dead) uK (fun k h => qCz (Ne.symm hne) h)) ?_
 refine uA rfl (qM (qK (qL (qJ (uM rfl (uB (qCi rfl (hE.t rfl)) ?_))))))
 refine qM (qK (zG rfl (qL (qJ (uM rfl (uA rfl (uA rfl (qM (qK (kC (qX ?_)))))))))))
 exact uZ rfl (.tmp rfl (.tmp rfl .nil)) ⟨rfl, rfl⟩
theorem qSa (hE : Seat E) {d a gb kb : Nat} {v2 v3 v4 v5 v6 v7 : Value} {nm bs : List UInt8} {x0 : Option Fl} (h1 : 1 ≤ nm.length) (h2 : nm.length ≤ 28) (hbs : bs.length ≤ 1048573) :
  Ct E 45 [uPt d, .slice (some ⟨gb, 0, none⟩) bs.length kb] [cells d [uPt a, .string ⟨⟨nm⟩⟩, v2, v3, v4, v5, v6, v7] 97, fsP a nm (nm ++ qAc) x0 none (Pwr.lft 2), sl (some ⟨gb, 0, none⟩) kb 5 1 bs.length (byC bs)]
   (fun v Q => v = .tuple #[.pointer none, .iface 31 (.int .i64 8)] ∧ Q = [cells d [uPt a, .string ⟨⟨nm⟩⟩, v2, v3, v4, v5, v6, v7] 97, fsP a nm (nm ++ qAc) x0 (some ⟨frm (payB bs), (frm (payB bs)).length⟩) Pwr.dead]) := by
 obtain ⟨hn, hn1, hne⟩ := qGc h1 h2
 have hcat : nm.length + ([46, 110, 101, 119] : List UInt8).length ≤ 1000000000 := Nat.add_le_add h2 (by decide : 4 ≤ 999999972)
 have hpl := qEh bs
 have hfl := qCp (payB bs)
 have hps : ∀ p ∈ [payB bs], 1 ≤ p.length ∧ p.length ≤ 1048576 := fun p hp => by
  simp at hp
  subst hp
  omega
 have hone := qGl (payB bs)
 have hone2 : (frs [payB bs]).length ≤ 1000000000 := by
  rw [hone]
  omega
 have hfl0 : flen none + bs.length + 11 ≤ 16777216 := by
  simp only [flen]
  omega
 refine zP (hE.fn Tryz.func45) rfl rfl rfl (fun R => ?_)
 simp only [qAe, uV, uW]
 refine qL (qJ (uA rfl (uA rfl (qM (qK (qL (qL ?_)))))))
 refine uH ([cells d [uPt a, .string ⟨⟨nm⟩⟩, v2, v3, v4, v5, v6, v7] 97]) ?_
 refine uD 0 rfl (qC rfl) ?_
 refine uD 1 rfl (zB rfl) ?_
 refine uD 2 rfl (uBf rfl) ?_
 refine uD 3 rfl (uY) ?_
 refine uD 4 rfl (qC rfl) ?_
 refine uD 5 rfl (zB rfl) ?_
 refine uD 6 rfl (uBf rfl) ?_
 refine uD 7 rfl (uY) ?_
 refine uD 8 rfl (qFr rfl rfl (by assumption)) ?_
 apply kL 9 rfl (by kernel_rfl) rfl
 refine uC (qDu (n0 := nm) (n1 := nm ++ qAc) (x0 := x0) (a := a) (p := (Pwr.lft 2)) hE hn1 hne) rfl ?_
 rintro _ _ ⟨rfl, rfl⟩
 simp only [uV, uW]
 refine uE ?_
 refine uD 10 rfl (qD rfl) ?_
 refine qCc (by kernel_rfl) ?_
 refine qK (qL (qJ (uM rfl (uB (qAf rfl (hE.t rfl)) ?_))))
 refine qM (qK (zD rfl ?_))
 refine qAk (kE (p := fsP a nm (nm ++ qAc) x0 none (Pwr.lft 2)) (p' := fsP a (nm ++ qAc) nm none x0 (Pwr.lft 2)) uK (fun k h => qCz hne h)) ?_
 refine zC (qK (qL ?_))
 refine uH ([cells d [uPt a, .string ⟨⟨nm⟩⟩, v2, v3, v4, v5, v6, v7] 97]) ?_
 refine uD 0 rfl (qC rfl) ?_
 refine uD 1 rfl (zB rfl) ?_
 refine uD 2 rfl (uBf rfl) ?_
 refine uD 3 rfl (uY) ?_
 refine uD 4 rfl (qC rfl) ?_
 refine uD 5 rfl (zB rfl) ?_
 refine uD 6 rfl (uBf rfl) ?_
 refine uD 7 rfl (uY) ?_
 refine uD 8 rfl (qFr rfl rfl (by assumption)) ?_
 apply kL 9 rfl (by kernel_rfl) rfl
 refine uC (qFw (n0 := nm ++ qAc) (n1 := nm) (x1 := x0) (a := a) (p := (Pwr.lft 2)) hE hn1) rfl ?_
 rintro _ _ ⟨l, rfl, rfl⟩
 simp only [uV, uW]
 refine uE ?_
 refine uD 10 rfl (qC rfl) ?_
 refine uD 11 rfl (qV rfl rfl) ?_
 refine uD 12 rfl (qV rfl rfl) ?_
 refine uD 13 rfl (qV rfl rfl) ?_
 refine uD 14 rfl (qD rfl) ?_
 refine uD 15 rfl (qD rfl) ?_
 refine uD 16 rfl (qD rfl) ?_
 refine qCc (by kernel_rfl) ?_
 refine qK (qL (qL (qJ (uM rfl (uB (qAf rfl (hE.t rfl)) ?_)))))
 refine qM (qK (zD rfl (zC (qK (qL (qL (qJ (uM rfl (uM rfl ?_)))))))))
 refine qGh (p := sl (some ⟨gb, 0, none⟩) kb 5 1 bs.length (byC bs)) uK (fun _ h => (qDt h).1) ?_
 intro hcap
 have hqb : Rdb E.w0 (some ⟨gb, 0, none⟩) (byC bs) (sl (some ⟨gb, 0, none⟩) kb 5 1 bs.length (byC bs)) := qCv (qAg _) (fun _ => ⟨gb, rfl⟩)
 refine uX (qMb (bs := bs) (a := a) (n0 := nm ++ qAc) (n1 := nm) (x0 := none) (x1 := x0) (ct := 0) (sz := 0) hE (Pwr.lft_up (n := 2) (by decide) (by decide)) (Pwr.lft_up (n := 1) (by decide) (by decide)) hn1 hqb hcap hbs hfl0 (by omega) (by omega)) rfl ?_
 rintro _ _ ⟨rfl, rfl⟩
 simp only [uV, uW]
 refine uA rfl (qM (qK (qL (qJ (uM rfl (uB (qAf rfl (hE.t rfl)) ?_))))))
 refine qM (qK (zD rfl ?_))
 rw [show apF none (frm (payB bs)) = ⟨frm (payB bs), 0⟩ from rfl]
 refine qAk (kE (p := fsP a (nm ++ qAc) nm (some ⟨frm (payB bs), (frm (payB bs)).length⟩) x0 (Pwr.lft 2).fin.fin) (p' := fsP a nm (nm ++ qAc) x0 (some ⟨frm (payB bs), (frm (payB bs)).length⟩) (Pwr.lft 2).fin.fin) uK (fun k h => qCz (Ne.symm hne) h)) ?_
 refine zC (qK (qL (qL ?_)))
 refine uH ([cells d [uPt a, .string ⟨⟨nm⟩⟩, v2, v3, v4, v5, v6, v7] 97]) ?_
 refine uD 0 rfl (qC rfl) ?_
 refine uD 1 rfl (zB rfl) ?_
 refine uD 2 rfl (uBf rfl) ?_
 refine uD 3 rfl (uY) ?_
 refine uD 4 rfl (qC rfl) ?_
 refine uD 5 rfl (zB rfl) ?_
 refine uD 6 rfl (uBf rfl) ?_
 refine uD 7 rfl (uY) ?_
 refine uD 8 rfl (qFr rfl rfl (by assumption)) ?_
 refine uD 9 rfl (qC rfl) ?_
 refine uD 10 rfl (zB rfl) ?_
 refine uD 11 rfl (uBf rfl) ?_
 refine uD 12 rfl (uY) ?_
 apply kL 13 rfl (by kernel_rfl) rfl
 refine uC (qRv (n0 := nm) (n1 := nm ++ qAc) (x0 := x0) (a := a) hE hn hn1) rfl ?_
 rintro _ _ ⟨rfl, rfl⟩
 simp only [uV, uW]
 refine uE ?_
 refine uD 14 rfl (qD rfl) ?_
 refine qCc (by kernel_rfl) ?_
 refine qK (qL (qJ (uM rfl (uB (qCi rfl (hE.t rfl)) ?_))))
 refine qM (qK (zG rfl (qL (qJ (uM rfl (uA rfl (uA rfl (qM (qK (kC (qX ?_)))))))))))
 exact uZ rfl (.tmp rfl (.tmp rfl .nil)) ⟨rfl, rfl⟩
theorem qUf (hE : Seat E) {p : Pwr} {d a gb kb : Nat} {v2 v3 v4 v5 v6 v7 : Value} {nm bs : List UInt8} {x0 : Option Fl} (hp : p = Pwr.out ∨ p = Pwr.lft 1 ∨ p = Pwr.lft 2) (h1 : 1 ≤ nm.length) (h2 : nm.length ≤ 28) (hbs : bs.length ≤ 1048573) :
  Ct E 45 [uPt d, .slice (some ⟨gb, 0, none⟩) bs.length kb] [cells d [uPt a, .string ⟨⟨nm⟩⟩, v2, v3, v4, v5, v6, v7] 97, fsP a nm (nm ++ qAc) x0 none p, sl (some ⟨gb, 0, none⟩) kb 5 1 bs.length (byC bs)]
   (fun v Q => ∃ X1, v = .tuple #[.pointer none, .iface 31 (.int .i64 8)] ∧ qOb X1 ∧ Q = [cells d [uPt a, .string ⟨⟨nm⟩⟩, v2, v3, v4, v5, v6, v7] 97, fsP a nm (nm ++ qAc) x0 X1 Pwr.dead]) := by
 have hfl := qCp (payB bs)
 have hpl := qEh bs
 rcases hp with rfl | rfl | rfl
 ·exact (qRy hE h1 h2 hbs).mono fun v Q ⟨e1, e2⟩ => ⟨none, e1, fun y h => (by cases h), e2⟩
 ·exact (qRz hE h1 h2 hbs).mono fun v Q ⟨e1, e2⟩ => ⟨_, e1, fun y h => (by
   cases h
   exact ⟨Nat.zero_le _, by show (frm (payB bs)).length ≤ _; omega⟩), e2⟩
 exact (qSa hE h1 h2 hbs).mono fun v Q ⟨e1, e2⟩ => ⟨_, e1, fun y h => (by
  cases h
  exact ⟨Nat.le_refl _, by show (frm (payB bs)).length ≤ _; omega⟩), e2⟩
theorem qLz (hE : Seat E) {p : Pwr} {d a n m : Nat} {nm : List UInt8} {f : List UInt8 → Option Nat} {ch : List UInt8 → Bool} {V : List Nat} {x0 : Option Fl} (hp : p = Pwr.out ∨ p = Pwr.lft 1 ∨ p = Pwr.lft 2) (h1 : 1 ≤ nm.length) (h2 : nm.length ≤ 28) (hw : Wf (rls Es)) (hf : ∀ x id, f x = some id → id ≤ Es.length) (hok : ∀ x, f x ≠ none → okN x)
  (hm : finF f m) (hsz : 21 * Es.length + 94 * m ≤ 1000000) :
  Ct E 21 [uPt d] [dsP d a nm s f ch V n, zS s most Es, fsP a nm (nm ++ qAc) x0 none p]
   (fun v Q => ∃ X1, v = .iface 31 (.int .i64 8) ∧ qOb X1 ∧ Q = [fsP a nm (nm ++ qAc) x0 X1 Pwr.dead]) := by
 have hV0 : Lis (rls Es) [] := ⟨hw, ⟨.nil, fun y h => by cases h⟩, fun A n B r e => by simp at e⟩
 refine Sl.ct_open (p := dsP d a nm s f ch V n) (ps := fun i : {i : DsG // i.sz = n ∧ i.ct ≤ n} => [cells d [uPt a, .string ⟨⟨nm⟩⟩, uPt s, .pointer (some ⟨i.1.l, 0, none⟩), .map (some i.1.nb), .map (some i.1.cb), .pointer (some ⟨i.1.wb, 0, none⟩), .bool false] 97, cells i.1.wb [.map (some i.1.mb), .int .i64 (V.length : Nat)] 95, qAb i.1.nb (nmF f), qAb i.1.cb (chF ch), mapF i.1.mb .i64 (nuF V), cells i.1.l [uPt a, .string ⟨⟨nm⟩⟩, .int .i64 (i.1.ct : Nat), .int .i64 (i.1.sz : Nat), .bool false] 137]) (fun k ⟨i, hi, h⟩ => ⟨⟨i, hi⟩, h⟩) ?_
 rintro ⟨i, hi⟩
 simp only
 refine zP (hE.fn Tryz.func21) rfl rfl rfl (fun R => ?_)
 simp only [qAe, uV, uW]
 refine qL (qJ (uA rfl (qM (qK (qL (qL (qJ (uM rfl (uX (qDj hE) rfl ?_)))))))))
 rintro _ _ ⟨rfl, rfl⟩
 simp only [uV, uW]
 refine qM (qK (zD rfl (zC (qK (qL (qL (qJ (uM rfl (uB (zB rfl) ?_)))))))))
 refine uB (uBf rfl) ?_
 refine uL ?_
 refine qM (qK (zD rfl (zC (qK (qL (qJ (uU ?_)))))))
 refine qCs .i64 (fun b14 => ?_)
 refine uB (qBc (hE.t rfl) rfl rfl) ?_
 refine uU ?_
 refine qBt rfl (fun b16 => ?_)
 refine uA rfl (qM (qK ?_))
 rw [qUt]
 refine qAk (qAm (ps := [cells d [uPt a, .string ⟨⟨nm⟩⟩, uPt s, .pointer (some ⟨i.l, 0, none⟩), .map (some i.nb), .map (some i.cb), .pointer (some ⟨i.wb, 0, none⟩), .bool false] 97, cells i.wb [.map (some i.mb), .int .i64 (V.length : Nat)] 95, qAb i.nb (nmF f), qAb i.cb (chF ch), mapF i.mb .i64 (nuF V), cells i.l [uPt a, .string ⟨⟨nm⟩⟩, .int .i64 (i.ct : Nat), .int .i64 (i.sz : Nat), .bool false] 137]) (p := dsP d a nm s f ch V n) uK (fun k h => ⟨i, hi, h⟩)) ?_
 refine qL (qJ (uM rfl (uM rfl (uM rfl (uM rfl (uX (qMa (f := f) (m := m) hE hm (by omega)) rfl ?_))))))
 rintro _ _ ⟨l, q, c, rfl, hl, rfl⟩
 have hll : l.length ≤ m := by
  obtain ⟨D, d1, d2⟩ := hm
  have := qDp hl.nd (B := D) fun x hx => d2 x (qGq.1 ((hl.mem x).1 hx))
  omega
 simp only [uV, uW]
 refine l_open (p := dsP d a nm s f ch V n) (ps := fun i : {i : DsG // i.sz = n ∧ i.ct ≤ n} => [cells d [uPt a, .string ⟨⟨nm⟩⟩, uPt s, .pointer (some ⟨i.1.l, 0, none⟩), .map (some i.1.nb), .map (some i.1.cb), .pointer (some ⟨i.1.wb, 0, none⟩), .bool false] 97, cells i.1.wb [.map (some i.1.mb), .int .i64 (V.length : Nat)] 95, qAb i.1.nb (nmF f), qAb i.1.cb (chF ch), mapF i.1.mb .i64 (nuF V), cells i.1.l [uPt a, .string ⟨⟨nm⟩⟩, .int .i64 (i.1.ct : Nat), .int .i64 (i.1.sz : Nat), .bool false] 137]) uK (fun k ⟨i, hi, h⟩ => ⟨⟨i, hi⟩, h⟩) ?_
 clear hi i
 rintro ⟨i, hi⟩
 simp only
 refine uX (qLw (V := []) (l := l) (f := f) hE hV0 (by omega) hf (by omega) (fun x hx => hok x (qGq.1 ((hl.mem x).1 hx)))) rfl ?_
 rintro _ _ ⟨W, gb, kb, rfl, hLis, hcl, hbl, rfl⟩
 obtain ⟨bs, hbs⟩ : ∃ bs, bs = (cmtT (rls Es) [] W f l).body ([] : List Nat).length := ⟨_, rfl⟩
 rw [← hbs] at hbl ⊢
 simp only [uV, uW]
 refine uX (qUf (bs := bs) (nm := nm) (a := a) (x0 := x0) (p := p) hE hp h1 h2 (by omega)) rfl ?_
 rintro _ _ ⟨X1, rfl, hX1, rfl⟩
 simp only [uV, uW]
 refine uM rfl (uB (qV rfl rfl) (uB (qV rfl rfl) (uA rfl (uA rfl (qM (qK (qL (qL (qJ (uM rfl ?_))))))))))
 refine uB (qCi rfl (hE.t rfl)) ?_
 refine qM (qK (zG rfl (qL (qJ (uM rfl (uB (zB rfl) ?_))))))
 refine uB (uBf rfl) ?_
 refine uU (uS ?_)
 refine qM (qK (qL (qJ (uM rfl (uA rfl (qM (qK (kC (qX ?_)))))))))
 exact uZ rfl (.tmp rfl .nil) ⟨X1, rfl, hX1, rfl⟩
end Go.Proofs.YtddfnkijolfhbaaGreat
