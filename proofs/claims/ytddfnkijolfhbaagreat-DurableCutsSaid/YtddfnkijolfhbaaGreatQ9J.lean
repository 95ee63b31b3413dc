import Derived.Test.YtddfnkijolfhbaaGreatQ9I
set_option linter.all false
set_option maxHeartbeats 1000000
namespace Go.Proofs.YtddfnkijolfhbaaGreat
open Go Go.RowKit Sl Eg
set_option maxRecDepth 10000
variable {E : Env}
def FBt (x0 : Option Fl) (ts : List Tx49) (tm : List UInt8 → Option (List UInt8)) (k j : Nat) : Prop :=
 Fil x0 ts ∧ Wf (qAa Cn.nil ts).G ∧ Dst (qAa Cn.nil ts).G (idV (qAa Cn.nil ts).G.length) (qAa Cn.nil ts).N (fun _ => false) (qAa Cn.nil ts) ∧ (qAa Cn.nil ts).G.length ≤ 200 * k ∧ flen x0 ≤ 200000 * j ∧ finF (qAa Cn.nil ts).N k ∧ (∀ x, (qAa Cn.nil ts).N x ≠ none → okN x) ∧ txm (qAa Cn.nil ts).G (qAa Cn.nil ts).N = tm
def AF (Y : Option Fl) (tm : List UInt8 → Option (List UInt8)) (k j : Nat) : Prop :=
 (Y = none ∧ FB none tm k j) ∨ ∃ y ts t, Y = some y ∧ y.data = frs (pays 0 ts) ++ t ∧ y.synced = y.data.length ∧ Part t ∧ t.length ≤ 2000000 ∧ FBt (some ⟨frs (pays 0 ts), (frs (pays 0 ts)).length⟩) ts tm k j
variable {x0 Y : Option Fl} {ts : List Tx49} {tm tm0 : List UInt8 → Option (List UInt8)} {k j : Nat}
theorem FBt.norm (h : FBt x0 ts tm k j) : FBt (some ⟨frs (pays 0 ts), (frs (pays 0 ts)).length⟩) ts tm k j := by
 obtain ⟨h1, h2, h3, h4, h5, h6⟩ := h
 have hl := h1.has.len
 refine ⟨⟨.inr ⟨_, rfl, rfl⟩, fun y hy => (by cases hy; rfl), h1.fit, h1.pay⟩, h2, h3, h4, ?_, h6⟩
 show (frs (pays 0 ts)).length ≤ _
 omega
theorem AF.of (h : FB x0 tm k j) : AF x0 tm k j := by
 cases x0 with
 | none => exact .inl ⟨rfl, h⟩
 | some x =>
  obtain ⟨ts, h⟩ := h
  have h' : FBt (some x) ts tm k j := h
  have h1 := h'.1
  rcases h1.has with ⟨e, _⟩ | ⟨y, e, hy⟩
  ·cases e
  cases e
  exact .inr ⟨x, ts, [], rfl, by rw [List.append_nil]; exact hy, h1.syn x rfl, Part.nil, Nat.zero_le _, h'.norm⟩
theorem FB.syn (h : FB x0 tm k j) : allS x0 := by
 obtain ⟨ts, h, _⟩ := h
 exact h.syn
theorem FB.ok (h : FB x0 tm k j) (hj : j ≤ 1000) : qOb x0 := fun y hy => by
 have hs := h.syn y hy
 obtain ⟨ts, _, _, _, _, h5, _⟩ := h
 subst hy
 have : flen (some y) = y.data.length := rfl
 omega
theorem crD.same (h : crD x0 Y) (hs : allS x0) : Y = x0 := by
 rcases h with ⟨rfl, rfl⟩ | ⟨f, n, rfl, h1, h2, rfl⟩
 ·rfl
 have := hs f rfl
 obtain rfl : n = f.data.length := by omega
 rw [List.take_length]
 congr 1
 cases f
 simp only at this
 rw [← this]
def BK (X0 X1 : Option Fl) (tm0 tm : List UInt8 → Option (List UInt8)) (k j : Nat) : Prop := qOb X0 ∧ qOb X1 ∧ ∀ Y, crD X0 Y → AF Y tm0 k j ∨ AF Y tm k j
theorem BK.keep {X1 : Option Fl} (h : FB x0 tm0 k j) (hj : j ≤ 999) (h1 : qOb X1) : BK x0 X1 tm0 tm k (j + 1) :=
 ⟨h.ok (by omega), h1, fun Y hY => .inl (by rw [hY.same h.syn]; exact AF.of (h.more (Nat.le_refl _) (Nat.le_succ j)))⟩
theorem BK.torn {X1 : Option Fl} {p : List UInt8} (h : FB x0 tm0 k j) (hj : j ≤ 999) (h1 : qOb X1) (hp1 : 1 ≤ p.length) (hp2 : p.length ≤ 1048576) (hn : FB (some ⟨(apF x0 (frm p)).data, (apF x0 (frm p)).data.length⟩) tm k (j + 1)) : BK (some (apF x0 (frm p))) X1 tm0 tm k (j + 1) := by
 have hok := hn.ok (by omega)
 have hsy := h.syn
 obtain ⟨ts, ht⟩ := h
 have ht' : FBt x0 ts tm0 k j := ht
 have hF := ht'.1
 have hfl := qCp p
 have hdl : (apF x0 (frm p)).data = frs (pays 0 ts) ++ frm p := by
  have := hF.has.app p
  rw [this, qDd, qGl]
 have hsl : (apF x0 (frm p)).synced = (frs (pays 0 ts)).length := by
  have hl := hF.has.len
  cases x0 with
  | none => exact hl
  | some x =>
   have : (apF (some x) (frm p)).synced = x.synced := rfl
   rw [this, hsy x rfl]
   exact hl
 have hlen : (apF x0 (frm p)).data.length = (frs (pays 0 ts)).length + (p.length + 8) := by rw [hdl, List.length_append, hfl]
 refine ⟨fun y hy => ?_, h1, fun Y hY => ?_⟩
 ·cases hy
  have := (hok _ rfl).2
  exact ⟨by omega, this⟩
 rcases hY with ⟨e, _⟩ | ⟨f, n, e, hn1, hn2, rfl⟩
 ·cases e
 obtain rfl := Option.some.inj e
 rw [hsl] at hn1
 rcases Nat.lt_or_ge n ((frs (pays 0 ts)).length + (p.length + 8)) with hlt | hge
 ·refine .inl (.inr ⟨_, ts, (frm p).take (n - (frs (pays 0 ts)).length), rfl, ?_, ?_, ⟨p, n - (frs (pays 0 ts)).length, rfl, by omega, hp1, hp2⟩, ?_, ?_⟩)
  ·show List.take n (apF x0 (frm p)).data = _
   rw [hdl, List.take_append, List.take_of_length_le (by omega)]
  ·show n = (List.take n (apF x0 (frm p)).data).length
   rw [List.length_take]
   omega
  ·rw [List.length_take]
   omega
  obtain ⟨a1, a2, a3, a4, a5, a6⟩ := ht'.norm
  exact ⟨a1, a2, a3, a4, by omega, a6⟩
 obtain rfl : n = (apF x0 (frm p)).data.length := by omega
 rw [List.take_length]
 exact .inr (AF.of hn)
def dbW (d a : Nat) (tm tm0 : List UInt8 → Option (List UInt8)) (k j : Nat) (p : Pwr) (b : Bool) : HP := fun h => ∃ i : DbG, (DB (rls i.Es) i.V i.f i.ch i.x0 tm k j ∧ FB i.x0 tm0 k j ∧ (b = true → ∃ x, i.ch x = true)) ∧ qAd [dsP d a flN i.s i.f i.ch i.V (flen i.x0), zS i.s 1048576 i.Es, fsP a flN (flN ++ qAc) i.x0 none p] h
theorem qPz {d a : Nat} {p : Pwr} {b : Bool} (i : DbG) (h1 : DB (rls i.Es) i.V i.f i.ch i.x0 tm k j) (h2 : FB i.x0 tm0 k j) (h3 : b = true → ∃ x, i.ch x = true) (R : List HP) (h : PH) (x : qAd ([dsP d a flN i.s i.f i.ch i.V (flen i.x0), zS i.s 1048576 i.Es, fsP a flN (flN ++ qAc) i.x0 none p] ++ R) h) : qAd (dbW d a tm tm0 k j p b :: R) h :=
 qCl (ps := [dsP d a flN i.s i.f i.ch i.V (flen i.x0), zS i.s 1048576 i.Es, fsP a flN (flN ++ qAc) i.x0 none p]) (r := R) (p := dbW d a tm tm0 k j p b) (fun _ y => ⟨i, ⟨h1, h2, h3⟩, y⟩) x
theorem ct_wSet (hE : Seat E) {d a : Nat} {p : Pwr} {b : Bool} {n t : List UInt8} (hn : okN n) (ht : t.length ≤ 100) (hk : k ≤ 40) :
  Ct E 26 [uPt d, .string ⟨⟨n⟩⟩, .string ⟨⟨t⟩⟩] [dbW d a tm tm0 k j p b] (fun v Q => v = .nilIface ∧ Q = [dbW d a (updT tm n t) tm0 (k + 1) j p true]) := by
 refine Sl.ct_open (p := dbW d a tm tm0 k j p b) (ps := fun i : {i : DbG // DB (rls i.Es) i.V i.f i.ch i.x0 tm k j ∧ FB i.x0 tm0 k j ∧ (b = true → ∃ x, i.ch x = true)} => [dsP d a flN i.1.s i.1.f i.1.ch i.1.V (flen i.1.x0), zS i.1.s 1048576 i.1.Es, fsP a flN (flN ++ qAc) i.1.x0 none p]) (fun k ⟨i, hi, h⟩ => ⟨⟨i, hi⟩, h⟩) ?_
 rintro ⟨⟨Es, s, V, f, ch, x0⟩, hd, hb, hc⟩
 simp only at hd hb hc ⊢
 refine qBi (p := zS s 1048576 Es) uK (fun _ h => qBs h) (fun hsay => ?_)
 have hl := hd.len
 rw [zR] at hl
 refine qGj (qMe [fsP a flN (flN ++ qAc) x0 none p] (qZr (Es := Es) (s := s) (most := 1048576) (t := t) hE hn (by omega) (by omega))) ?_
 rintro v Q ⟨_, ⟨M, id, rfl, ⟨hM, hid, htx⟩, rfl⟩, rfl⟩ R h hx
 have hsay2 := qTf (p := zS s 1048576 (Es ++ M)) uK (fun _ h => qBs h) hx
 have hw2 := hsay2.1
 rw [kH] at hw2 htx
 have hd2 := hd.set (M := rls M) hw2 (by rw [zR]; omega) (by rw [← kH, zR]; exact hid) htx hn
 rw [← kH] at hd2
 refine ⟨_, ⟨rfl, rfl⟩, fun h x => ?_⟩
 refine qPz ⟨Es ++ M, s, V, setN f (n, id), fun x => x == n || ch x, x0⟩ hd2 (hb.more (Nat.le_succ k) (Nat.le_refl j)) (fun _ => ⟨n, by simp⟩) [R] h ?_
 exact qDz uI h x
theorem qXg (hE : Seat E) {d a r : Nat} {p : Pwr} {b : Bool} (hpr : p = Pwr.lft r) (hb0 : b = true) (hr : r ≤ 1000000) (hk : k ≤ 40) (hj : j ≤ 70) :
  Ct E 20 [uPt d] [dbW d a tm tm0 k j p b] (fun v Q => (v = .nilIface ∧ Q = [dbW d a tm tm k (j + 1) (Pwr.lft (r - 2)) false]) ∨ ∃ X0 X1, v = .iface 31 (.int .i64 8) ∧ BK X0 X1 tm0 tm k (j + 1) ∧ Q = [fsP a flN (flN ++ qAc) X0 X1 Pwr.dead]) := by
 refine Sl.ct_open (p := dbW d a tm tm0 k j p b) (ps := fun i : {i : DbG // DB (rls i.Es) i.V i.f i.ch i.x0 tm k j ∧ FB i.x0 tm0 k j ∧ (b = true → ∃ x, i.ch x = true)} => [dsP d a flN i.1.s i.1.f i.1.ch i.1.V (flen i.1.x0), zS i.1.s 1048576 i.1.Es, fsP a flN (flN ++ qAc) i.1.x0 none p]) (fun k ⟨i, hi, h⟩ => ⟨⟨i, hi⟩, h⟩) ?_
 rintro ⟨⟨Es, s, V, f, ch, x0⟩, hd, hb, hc⟩
 simp only at hd hb hc ⊢
 have hl := hd.len
 rw [zR] at hl
 have hz := hd.siz
 obtain ⟨ts, h1, h2⟩ := hd.fil
 have hids : ∀ x id, f x = some id → id ≤ Es.length := fun x id h => by
  have := h2.ids x id h
  rwa [zR] at this
 have hch := hc hb0
 subst hpr
 rcases Nat.lt_or_ge r 2 with hr2 | hr2
 ·rcases Nat.eq_zero_or_pos r with rfl | hr0
  ·refine (qRq (Es := Es) (s := s) (most := 1048576) (n1 := flN ++ qAc) (x1 := none) (m := k) hE okFl h2.lis hids hd.fic hch (by omega) rfl (by omega)).mono ?_
   rintro v Q ⟨rfl, rfl⟩
   exact .inr ⟨x0, none, rfl, BK.keep hb (by omega) (fun y h => by cases h), rfl⟩
  obtain rfl : r = 1 := by omega
  refine (qRr (Es := Es) (s := s) (most := 1048576) (n1 := flN ++ qAc) (x1 := none) (m := k) hE okFl h2.lis hids hd.fic hch (by omega) rfl (by omega)).mono ?_
  rintro v Q ⟨W, l, rfl, ⟨l1, l2, l3, l4, l5, l6⟩, rfl⟩
  have hd2 := hd.commit hk l1 l2 l3 l4 (by rw [zR]; exact l5) l6
  have hpl : ((cmtT (rls Es) V W f l).pay V.length).length = ((cmtT (rls Es) V W f l).body V.length).length + 3 := rfl
  exact .inr ⟨_, none, rfl, BK.torn hb (by omega) (fun y h => by cases h) (by omega) (by omega) hd2.file, rfl⟩
 obtain ⟨r, rfl⟩ : ∃ q, r = q + 2 := ⟨r - 2, by omega⟩
 refine qGj (qOf (Es := Es) (s := s) (most := 1048576) (p := Pwr.lft (r + 2)) (n1 := flN ++ qAc) (x1 := none) (m := k) hE (Pwr.lft_up (by omega) hr) (Pwr.lft_up (n := r + 1) (by omega) (by omega)) okFl h2.lis hids hd.fic (by omega) rfl (by omega)) ?_
 rintro v Q ⟨rfl, ⟨hch2, rfl⟩ | ⟨W, l, ⟨l1, l2, l3, l4, l5, l6⟩, rfl⟩⟩ R h hx
 ·obtain ⟨x, hx⟩ := hch
  rw [hch2 x] at hx
  cases hx
 have hd2 := hd.commit hk l1 l2 l3 l4 (by rw [zR]; exact l5) l6
 refine ⟨_, .inl ⟨rfl, rfl⟩, fun h x => ?_⟩
 refine qPz (p := Pwr.lft r) (b := false) ⟨Es, s, V ++ W, f, fun _ => false, _⟩ hd2 hd2.file (fun h => by cases h) [R] h ?_
 rw [Pwr.lft_fin, Pwr.lft_fin, ← qYo] at x
 exact qDz uI h x
theorem qZw (hE : Seat E) {d a r : Nat} {p : Pwr} {b : Bool} (hpr : p = Pwr.lft r) (hr : r ≤ 1000000) (hk : k ≤ 40) (hj : j ≤ 70) :
  Ct E 21 [uPt d] [dbW d a tm tm0 k j p b] (fun v Q => (v = .nilIface ∧ Q = [dbW d a tm tm k (j + 1) (Pwr.lft (r - 3)) false]) ∨ ∃ X0 X1, v = .iface 31 (.int .i64 8) ∧ BK X0 X1 tm0 tm k (j + 1) ∧ Q = [fsP a flN (flN ++ qAc) X0 X1 Pwr.dead]) := by
 refine Sl.ct_open (p := dbW d a tm tm0 k j p b) (ps := fun i : {i : DbG // DB (rls i.Es) i.V i.f i.ch i.x0 tm k j ∧ FB i.x0 tm0 k j ∧ (b = true → ∃ x, i.ch x = true)} => [dsP d a flN i.1.s i.1.f i.1.ch i.1.V (flen i.1.x0), zS i.1.s 1048576 i.1.Es, fsP a flN (flN ++ qAc) i.1.x0 none p]) (fun k ⟨i, hi, h⟩ => ⟨⟨i, hi⟩, h⟩) ?_
 rintro ⟨⟨Es, s, V, f, ch, x0⟩, hd, hb, hc⟩
 simp only at hd hb hc ⊢
 have hl := hd.len
 rw [zR] at hl
 have hz := hd.siz
 obtain ⟨ts, h1, h2⟩ := hd.fil
 have hids : ∀ x id, f x = some id → id ≤ Es.length := fun x id h => by
  have := h2.ids x id h
  rwa [zR] at this
 subst hpr
 rcases Nat.lt_or_ge r 3 with hr2 | hr2
 ·have hp3 : Pwr.lft r = Pwr.out ∨ Pwr.lft r = Pwr.lft 1 ∨ Pwr.lft r = Pwr.lft 2 := by
   match r, hr2 with
   | 0, _ => exact .inl rfl
   | 1, _ => exact .inr (.inl rfl)
   | 2, _ => exact .inr (.inr rfl)
  refine (qLz (Es := Es) (s := s) (most := 1048576) (m := k) hE hp3 okFl.1 (by decide) h2.lis.wf hids hd.nms hd.fin (by omega)).mono ?_
  rintro v Q ⟨X1, rfl, hX1, rfl⟩
  exact .inr ⟨x0, X1, rfl, BK.keep hb (by omega) hX1, rfl⟩
 obtain ⟨r, rfl⟩ : ∃ q, r = q + 3 := ⟨r - 3, by omega⟩
 refine qGj (qNv (Es := Es) (s := s) (most := 1048576) (p := Pwr.lft (r + 3)) (m := k) hE (Pwr.lft_up (by omega) hr) (Pwr.lft_up (n := r + 2) (by omega) (by omega)) (Pwr.lft_up (n := r + 1) (by omega) (by omega)) okFl.1 (by decide) h2.lis.wf hids hd.nms hd.fin (by omega)) ?_
 rintro v Q ⟨W, l, rfl, ⟨l1, l2, l3, l4, l5⟩, rfl⟩ R h hx
 have hd2 := hd.check hk l1 l2 l3.1 (by rw [zR]; exact l4) l5
 refine ⟨_, .inl ⟨rfl, rfl⟩, fun h x => ?_⟩
 refine qPz (p := Pwr.lft r) (b := false) ⟨Es, s, W, f, fun _ => false, _⟩ hd2 hd2.file (fun h => by cases h) [R] h ?_
 rw [Pwr.lft_fin, Pwr.lft_fin, Pwr.lft_fin] at x
 exact qDz uI h x
theorem qZx (hE : Seat E) {d a kc : Nat} {kq : Option Addr} {ks : List Int} {p : Pwr} {b : Bool} (hj : j ≤ 1000) (hk : Rdb E.w0 kq (intC ks) old) (hkc : ks.length ≤ kc) :
  Ct E 32 [uPt a, .slice kq ks.length kc] [dbW d a tm tm0 k j p b, old] (fun v Q => ∃ Y0 Y1, v = .tuple #[] ∧ AF Y0 tm0 k j ∧ Q = [fsP a flN (flN ++ qAc) Y0 Y1 Pwr.on, old]) := by
 refine Sl.ct_open (p := dbW d a tm tm0 k j p b) (ps := fun i : {i : DbG // DB (rls i.Es) i.V i.f i.ch i.x0 tm k j ∧ FB i.x0 tm0 k j ∧ (b = true → ∃ x, i.ch x = true)} => [dsP d a flN i.1.s i.1.f i.1.ch i.1.V (flen i.1.x0), zS i.1.s 1048576 i.1.Es, fsP a flN (flN ++ qAc) i.1.x0 none p]) (fun k ⟨i, hi, h⟩ => ⟨⟨i, hi⟩, h⟩) ?_
 rintro ⟨⟨Es, s, V, f, ch, x0⟩, hd, hb, hc⟩
 simp only at hd hb hc ⊢
 obtain ⟨_, _, hne⟩ := qGc okFl.1 (by decide : flN.length ≤ 28)
 refine qZv (Pre' := [fsP a flN (flN ++ qAc) x0 none p, old]) (fun R => by (apply ent; (repeat constructor); done)) ?_
 refine (qMf hE hne (hb.ok hj) (fun y h => by cases h) hk hkc).mono ?_
 rintro v Q ⟨y0, y1, rfl, ⟨c1, _⟩, rfl⟩
 exact ⟨y0, y1, rfl, by rw [c1.same hb.syn]; exact AF.of hb, rfl⟩
theorem AF.wal (hE : Seat E) {a : Nat} (hA : AF Y tm k j) (hj : j ≤ 1000) : ∃ x0 ts, FBt x0 ts tm k j ∧ Ct E 36 [uPt a, .string ⟨⟨flN⟩⟩] [fsP a flN (flN ++ qAc) Y none Pwr.on] (fun v Q => ∃ l ys q c, v = .tuple #[uPt l, .slice q ys.length c, .nilIface] ∧ ys.map (fun x : Py => x.2.2) = pays 0 ts ∧ Q = [fsP a flN (flN ++ qAc) x0 none Pwr.on, cells l [uPt a, .string ⟨⟨flN⟩⟩, .int .i64 (ys.length : Nat), .int .i64 ((frs (pays 0 ts)).length : Nat), .bool false] 137, sl q c 57 1 ys.length (paC ys), payP ys]) := by
 rcases hA with ⟨rfl, ts, h⟩ | ⟨y, ts, t, rfl, h1, h2, h3, h4, h5⟩
 ·have h' : FBt none ts tm k j := h
  have hl := h'.1.has.len
  have h6 := h'.2.2.2.2.1
  exact ⟨none, ts, h', qId hE okFl h'.1.pay h'.1.has (by omega)⟩
 have hl := h5.1.has.len
 have h6 := h5.2.2.2.2.1
 rcases Nat.eq_zero_or_pos t.length with h0 | h0
 ·obtain rfl : t = [] := List.eq_nil_of_length_eq_zero h0
  rw [List.append_nil] at h1
  refine ⟨some y, ts, ?_, qId hE okFl h5.1.pay (.inr ⟨y, rfl, h1⟩) (by omega)⟩
  have : y = ⟨frs (pays 0 ts), (frs (pays 0 ts)).length⟩ := by
   cases y
   simp only at h1 h2
   rw [h2, h1]
  rw [this]
  exact h5
 exact ⟨_, ts, h5, qUg hE h3 h0 h4 h2 okFl h5.1.pay h1 (by omega)⟩
theorem ct_wOpen (hE : Seat E) {a : Nat} {Y0 Y1 : Option Fl} (hA : AF Y0 tm k j) (hj : j ≤ 1000) :
  Ct E 12 [uPt a] [fsP a flN (flN ++ qAc) Y0 Y1 Pwr.on] (fun v Q => ∃ d, v = .tuple #[uPt d, .bool true] ∧ Q = [dbP d a tm tm k j]) := by
 obtain ⟨hn, hn1, hne⟩ := qGc okFl.1 (by decide : flN.length ≤ 28)
 obtain ⟨x0, ts, hb, hwal⟩ := AF.wal (a := a) hE hA hj
 obtain ⟨h1, h2, h3, h4, h5, h6, h7, h8⟩ := id hb
 have hrem : Ct E 35 [uPt a, .string ⟨⟨flN ++ qAc⟩⟩] [fsP a flN (flN ++ qAc) Y0 Y1 Pwr.on] (fun v Q => v = .nilIface ∧ Q = [fsP a flN (flN ++ qAc) Y0 none Pwr.on]) := by
  cases Y1 with
  | none => exact qDu hE hn1 hne
  | some y => exact qTs hE hn1 hne
 have hr := h2.room
 have hmr : qBu = 1048576 := rfl
 have hlen := h1.has.len
 refine zP (hE.fn Tryz.func12) rfl rfl rfl (fun R => ?_)
 simp only [qAe, uV, uW]
 refine qL (qJ (uA rfl (uA rfl (qM (qK (qL (qJ (uM rfl ?_))))))))
 refine uX (qRs (n0 := flN) (x0 := x0) (X0 := Y0) (X1 := Y1) (ts := ts) (most := 1048576) hE okFl.1 (by decide) hrem hwal (by omega) h1.fit h2 (Nat.le_refl _) h3.ids) rfl ?_
 rintro _ _ (⟨_, d, s, Es, rfl, hEs, rfl⟩ | ⟨hbad, _⟩)
 ·have hd : DB (rls Es) (idV (qAa Cn.nil ts).G.length) (qAa Cn.nil ts).N (fun _ => false) x0 tm k j := by
   rw [hEs]
   exact ⟨⟨ts, h1, h3⟩, h4, h5, h6, finC.zero k, h7, h8⟩
  rw [← hlen]
  simp only [uV, uW]
  refine qAx (fun k x => qJx ⟨Es, s, idV (qAa Cn.nil ts).G.length, (qAa Cn.nil ts).N, fun _ => false, x0⟩ hd ⟨ts, hb⟩ [R] k (qDz uI k x)) ?_
  refine uM rfl (uB (qV rfl rfl) (uB (qV rfl rfl) (uA rfl (uA rfl (qM (qK (qL (qJ (uM rfl (uM rfl ?_))))))))))
  refine uB (qRc rfl (hE.t rfl)) ?_
  refine uM rfl (kQ rfl rfl (uM rfl (kQ rfl rfl (uB (qWk rfl (hE.t rfl)) ?_))))
  refine uB (qY rfl rfl) ?_
  refine uA rfl (uA rfl (qM (qK (kC ?_))))
  exact uZ rfl (.tmp rfl (.tmp rfl .nil)) ⟨d, rfl, rfl⟩
 exfalso
 omega
end Go.Proofs.YtddfnkijolfhbaaGreat
namespace Sl
open Go Go.RowKit
variable {E : Env} {n : Nat} {L : Fr} {H : List HP} {o : Oper} {v : Value} {K : Value → List HP → Prop}
theorem qVt (h : Yl E n L H o v) (k : K v H) : Ld E n L H o K := fun Q next a w G hn => by
 unfold Oper.wp
 rw [h a w G.f G.hp, Oper.upon_value]
 exact hn _ _ _ k G.hp
end Sl
namespace Go.Proofs.YtddfnkijolfhbaaGreat
open Go Go.RowKit Sl Eg
set_option maxRecDepth 10000
theorem wrap_b {i : Int} (h1 : 0 ≤ i) (h2 : i ≤ 255) : IntKind.u8.wrap i = i := by
 have e := qNt i.toNat
 rw [Int.toNat_of_nonneg h1] at e
 rw [e]
 omega
def chB (i : Nat) : UInt8 := UInt8.ofNat (97 + i)
def nmT (i : Nat) : List UInt8 := [116, chB i]
theorem qTn {i : Nat} (h : i < 24) : (chB i).toNat = 97 + i := by
 unfold chB
 rw [UInt8.toNat_ofNat']
 omega
theorem nmT_ok (i : Nat) : okN (nmT i) := ⟨by show 1 ≤ 2; decide, by show 2 ≤ 32; decide⟩
theorem zAv {i j : Nat} (hi : i < 24) (hj : j < 24) (h : nmT i = nmT j) : i = j := by
 unfold nmT at h
 simp at h
 have := congrArg UInt8.toNat h
 rw [qTn hi, qTn hj] at this
 omega
theorem nmT_le : ∀ i j : Fin 24, i.val < j.val → cmpT (nmT i.val) (nmT j.val) ≤ 0 := by decide
def txT (ts : List (List UInt8)) (i : Nat) : List UInt8 := ts.getD i []
def tmT (ts : List (List UInt8)) : Nat → List UInt8 → Option (List UInt8)
 | 0 => tm00
 | i + 1 => updT (tmT ts i) (nmT i) (txT ts i)
def entT (ts : List (List UInt8)) (m : Nat) : List (List UInt8 × List UInt8) := (List.range m).map fun i => (nmT i, txT ts i)
theorem entT_len (ts : List (List UInt8)) (m : Nat) : (entT ts m).length = m := by simp [entT]
theorem entT_at {ts : List (List UInt8)} {m i : Nat} (h : i < m) : (entT ts m)[i]? = some (nmT i, txT ts i) := by
 unfold entT
 rw [List.getElem?_map, List.getElem?_range h]
 rfl
theorem txT_at {ts : List (List UInt8)} {i : Nat} {x : List UInt8} (h : ts[i]? = some x) : txT ts i = x := by
 unfold txT
 rw [List.getD_eq_getElem?_getD, h]
 rfl
theorem qVc (ts : List (List UInt8)) : ∀ (m : Nat), m ≤ 24 → ∀ x t, tmT ts m x = some t ↔ ∃ i, i < m ∧ x = nmT i ∧ t = txT ts i
 | 0, _, x, t => ⟨fun h => (by cases h), fun ⟨i, h, _⟩ => (by omega)⟩
 | m + 1, hm, x, t => by
  show updT (tmT ts m) (nmT m) (txT ts m) x = some t ↔ _
  unfold updT
  by_cases e : x = nmT m
  ·rw [if_pos e]
   constructor
   ·intro h
    cases h
    exact ⟨m, by omega, e, rfl⟩
   rintro ⟨i, hi, e2, rfl⟩
   have := zAv (by omega) (by omega) (e.symm.trans e2)
   rw [this]
  rw [if_neg e, qVc ts m (by omega)]
  constructor
  ·rintro ⟨i, hi, h⟩
   exact ⟨i, by omega, h⟩
  rintro ⟨i, hi, e2, h⟩
  refine ⟨i, ?_, e2, h⟩
  rcases Nat.lt_or_ge i m with h3 | h3
  ·exact h3
  obtain rfl : i = m := by omega
  exact absurd e2 e
theorem entT_ens (ts : List (List UInt8)) {m : Nat} (hm : m ≤ 24) : EnS (tmT ts m) (entT ts m) := by
 have hfst : (entT ts m).map (·.1) = (List.range m).map nmT := by
  unfold entT
  rw [List.map_map]
  rfl
 refine ⟨?_, ?_, fun x t => ?_⟩
 ·rw [hfst, List.nodup_iff_pairwise_ne, List.pairwise_map]
  refine List.Pairwise.imp_of_mem (R := fun a b => a < b) (fun {a b} ha hb hab e => ?_) List.pairwise_lt_range
  have h1 := List.mem_range.1 ha
  have h2 := List.mem_range.1 hb
  have := zAv (by omega) (by omega) e
  omega
 ·rw [hfst, List.pairwise_map]
  refine List.Pairwise.imp_of_mem (R := fun a b => a < b) (fun {a b} ha hb hab => ?_) List.pairwise_lt_range
  have h1 := List.mem_range.1 ha
  have h2 := List.mem_range.1 hb
  exact nmT_le ⟨a, by omega⟩ ⟨b, by omega⟩ hab
 rw [qVc ts m hm]
 unfold entT
 constructor
 ·intro h
  obtain ⟨i, hi, e⟩ := List.mem_map.1 h
  cases e
  exact ⟨i, List.mem_range.1 hi, rfl, rfl⟩
 rintro ⟨i, hi, rfl, rfl⟩
 exact List.mem_map.2 ⟨i, List.mem_range.2 hi, rfl⟩
theorem zCf {ts : List (List UInt8)} {m : Nat} (hm : m ≤ 24) (h : ∀ i, i < m → (txT ts i).length ≤ 100) : ∀ x t, tmT ts m x = some t → t.length ≤ 5000 := fun x t ht => by
 obtain ⟨i, hi, _, rfl⟩ := (qVc ts m hm x t).1 ht
 have := h i hi
 omega
end Go.Proofs.YtddfnkijolfhbaaGreat
--F23
namespace Go.Proofs.YtddfnkijolfhbaaGreat
open Go Go.RowKit Sl Eg
set_option maxRecDepth 10000
variable {E : Env}
def cutP (d a : Nat) (ts : List (List UInt8)) (i j r : Nat) (X0 X1 : Option Fl) : Bool → HP
 | true => dbW d a (tmT ts i) (tmT ts i) i j (Pwr.lft r) false
 | false => fsP a flN (flN ++ qAc) X0 X1 Pwr.dead
structure CtZ where
 i : Nat
 dn : Nat
 r : Nat
 X0 : Option Fl
 X1 : Option Fl
 b : Bool
structure CtOk (ts : List (List UInt8)) (x : CtZ) : Prop where
 i : x.i ≤ ts.length
 r : x.r ≤ 1000000
 tx : ∀ k, k < x.i → (txT ts k).length ≤ 100
 dn : (x.b = true ∧ x.dn = x.i) ∨ (x.b = false ∧ x.dn + 1 = x.i ∧ BK x.X0 x.X1 (tmT ts x.dn) (tmT ts x.i) x.i x.i)
structure CtY where
 m : Nat
 Y0 : Option Fl
 Y1 : Option Fl
 k : Nat
theorem zBu {l : List (List UInt8)} {i : Nat} {x : List UInt8} (h : l[i]? = some x) (o : Nat) (ho : o = i) : (strC l)[o]? = some (.string ⟨⟨x⟩⟩) := by
 subst ho
 unfold strC
 rw [List.getElem?_map, h]
 rfl
theorem chB_val {i : Nat} (h : i < 24) : ([chB i].map fun b => Value.int .u8 (b.toNat : Nat)) = [Value.int .u8 ((97 : Int) + (i : Nat))] := by
 show [Value.int .u8 ((chB i).toNat : Nat)] = _
 rw [qTn h]
 exact congrArg (fun z => [Value.int .u8 z]) (by omega)
theorem chB_rd {w0 : World} {b i : Nat} {t : TypeId} (h : i < 24) : Rdb w0 (some ⟨b, 0, none⟩) ([chB i].map fun b => Value.int .u8 (b.toNat : Nat)) (cells b [Value.int .u8 ((97 : Int) + (i : Nat))] t) := fun _ => ⟨b, 0, rfl, rd_cellz (fun j v hv => by rw [chB_val h] at hv; exact hv)⟩
theorem qLt (hE : Seat E) {ts : List (List UInt8)} {q kq : Option Addr} {ca kc : Nat} {at_ : Int} {ks : List Int} (hq : Rdb E.w0 q (strC ts) old) (hk : Rdb E.w0 kq (intC ks) old) (hkc : ks.length ≤ kc) :
  Ct E 7 [.slice q ts.length ca, .int .i64 at_, .slice kq ks.length kc] [old] (fun v Q => v = .bool true ∧ Q = [old]) := by
 have hne : 0 < ts.length → strC ts ≠ [] := fun h e => by
  have := congrArg List.length e
  simp [strC] at this
  subst this
  simp at h
 have hcat : ∀ i, ([116] : List UInt8).length + [chB i].length ≤ 1000000000 := fun i => by show 2 ≤ 1000000000; decide
 refine zP (hE.fn Tryz.func7) rfl rfl rfl (fun R => ?_)
 simp only [qAe, uV, uW]
 refine qL (qJ (uA rfl (qM (qK (qL (qL (qJ (uX (ct_alive hE) rfl ?_))))))))
 rintro _ _ ⟨rfl, rfl⟩
 simp only [uV, uW]
 refine uB (qBm rfl) ?_
 refine qM (qK (zD rfl (zC (qK (qL (qL (qJ (uM rfl (uB (uBl rfl) ?_)))))))))
 refine uB (y_gt rfl rfl) ?_
 refine uM rfl ?_
 refine qAl 20 rfl (fun c0 => ?_) (fun c0 => ?_)
 ·refine zU rfl rfl rfl rfl (zU rfl rfl rfl rfl ?_)
  refine uB (qY rfl rfl) ?_
  refine uM rfl ?_
  refine zU rfl rfl rfl rfl (zU rfl rfl rfl rfl ?_)
  refine uB (qY rfl rfl) ?_
  refine uM rfl ?_
  refine zU rfl rfl rfl rfl (zU rfl rfl rfl rfl (zU rfl rfl rfl rfl ?_))
  refine uB (qY rfl rfl) ?_
  refine qM (qK (zG rfl (qL (qJ (uA rfl (qM (qK (kC (qX ?_)))))))))
  exact uZ rfl (.tmp rfl .nil) ⟨rfl, rfl⟩
 refine kQ rfl rfl (uM rfl (kQ rfl rfl (uB (y_lt rfl rfl) ?_)))
 refine uB (qZ rfl rfl) ?_
 refine uM rfl ?_
 refine qAl 24 rfl (fun c1 => ?_) (fun c1 => ?_)
 ·refine zU rfl rfl rfl rfl (zU rfl rfl rfl rfl ?_)
  refine uB (qY rfl rfl) ?_
  refine uM rfl ?_
  refine zU rfl rfl rfl rfl (zU rfl rfl rfl rfl (zU rfl rfl rfl rfl ?_))
  refine uB (qY rfl rfl) ?_
  refine qM (qK (zG rfl (qL (qJ (uA rfl (qM (qK (kC (qX ?_)))))))))
  exact uZ rfl (.tmp rfl .nil) ⟨rfl, rfl⟩
 refine kQ rfl rfl (uM rfl (kQ rfl rfl (uB (y_gt rfl rfl) ?_)))
 refine uB (qZ rfl rfl) ?_
 refine uM rfl ?_
 refine qAl 28 rfl (fun c2 => ?_) (fun c2 => ?_)
 ·refine zU rfl rfl rfl rfl (zU rfl rfl rfl rfl (zU rfl rfl rfl rfl ?_))
  refine uB (qY rfl rfl) ?_
  refine qM (qK (zG rfl (qL (qJ (uA rfl (qM (qK (kC (qX ?_)))))))))
  exact uZ rfl (.tmp rfl .nil) ⟨rfl, rfl⟩
 refine kQ rfl rfl (uM rfl (kQ rfl rfl (uB (uBl rfl) ?_)))
 refine kQ rfl rfl (uB (y_gt rfl rfl) ?_)
 refine uB (qZ rfl rfl) ?_
 refine qM (qK ?_)
 refine zF rfl (fun c3 => ?_) (fun c3 => ?_)
 ·refine qL (qJ ?_)
  refine uA rfl (qM (qK (kC (qX ?_))))
  exact uZ rfl (.tmp rfl .nil) ⟨rfl, rfl⟩
 obtain ⟨r0, rfl⟩ : ∃ r : Nat, at_ = (r : Int) := ⟨at_.toNat, by omega⟩
 refine zC (qK (qL (qJ (uX (qZj hE) rfl ?_))))
 rintro _ _ ⟨a, rfl, rfl⟩
 simp only [uV, uW]
 refine uA rfl (qM (qK (qL (qJ (uM rfl (uX (qPq (a := a) (k := 0) (j := 0) (tm0 := tm00) hE (by omega)) rfl ?_))))))
 rintro _ _ ⟨d, rfl, rfl⟩
 simp only [uV, uW]
 refine uM rfl (uB (qV rfl rfl) (uB (qV rfl rfl) (uA rfl (uA rfl (qM (qK (qL (qL (qJ (uM rfl (uB (qBm rfl) ?_)))))))))))
 refine qM (qK (zD rfl (zC (qK ?_))))
 refine qFa (p := dbP d a tm00 tm00 0 0) (ps := fun i : {i : DbG // DB (rls i.Es) i.V i.f i.ch i.x0 tm00 0 0 ∧ FB i.x0 tm00 0 0} => [dsP d a flN i.1.s i.1.f i.1.ch i.1.V (flen i.1.x0), zS i.1.s 1048576 i.1.Es, fsP a flN (flN ++ qAc) i.1.x0 none Pwr.on]) uK (fun k ⟨i, hi, h⟩ => ⟨⟨i, hi⟩, h⟩) ?_
 rintro ⟨⟨Es, s, V, f, ch, x0⟩, hd, hb⟩
 simp only at hd hb ⊢
 simp only [uV, uW]
 refine qL (qJ (uM rfl (uM rfl (uX (qZg (n := r0) hE (by omega)) rfl ?_))))
 rintro _ _ ⟨rfl, rfl⟩
 simp only [uV, uW]
 refine qAx (fun h x => qPz (p := Pwr.lft r0) (b := false) ⟨Es, s, V, f, ch, x0⟩ hd hb (fun h => by cases h) [old, R] h (qDz uI h x)) ?_
 clear hd hb
 refine qM (qK (qL (qJ (uA rfl (qM (qK ?_))))))
 refine qDs (fun x : CtZ => [(0, .slice q ts.length ca), (2, .slice kq ks.length kc), (7, uPt a), (10, .int .i64 (x.dn : Nat))]) (fun x => [cutP d a ts x.i x.i x.r x.X0 x.X1 x.b, old, R]) (CtOk ts) ?_ ?_
 ·refine qL (qJ ?_)
  refine uA rfl (qM (qK (zL ?_)))
  refine qAj (fun x : CtZ => [(0, .slice q ts.length ca), (2, .slice kq ks.length kc), (7, uPt a), (8, uPt d), (10, .int .i64 (x.dn : Nat)), (11, .int .i64 (x.i : Nat))]) (fun x => [cutP d a ts x.i x.i x.r x.X0 x.X1 x.b, old, R]) (fun x => ts.length - x.i) (CtOk ts) ⟨0, 0, r0, none, none, true⟩ ⟨Nat.zero_le _, by simp only; omega, fun k h => (by simp only at h; omega), .inl ⟨rfl, rfl⟩⟩ ⟨rfl, rfl, rfl, rfl, rfl, rfl, trivial⟩ uI ?_
  rintro ⟨i, dn, r, X0, X1, b⟩ hok
  obtain ⟨hi, hr, htx, hdn⟩ := id hok
  simp only at hi hr htx hdn ⊢
  refine qL (qL (qJ (uM rfl (uM rfl (uB (uBl rfl) ?_)))))
  refine uB (y_lt rfl rfl) ?_
  refine uM rfl ?_
  refine qAl 48 rfl (fun h1 => ?_) (fun h1 => ?_)
  ·refine kQ rfl rfl ?_
   refine uM rfl (kQ rfl rfl (uM rfl (kQ rfl rfl (uB (y_eq rfl rfl) ?_))))
   refine uB (qY rfl rfl) ?_
   refine qM (qK ?_)
   refine zF rfl (fun h2 => ?_) (fun h2 => ?_)
   ·rcases hdn with ⟨rfl, hdi⟩ | ⟨_, h, _⟩
    ·obtain rfl : i = dn := hdi.symm
     obtain ⟨tx, hx⟩ : ∃ x, ts[i]? = some x := ⟨_, List.getElem?_eq_getElem (by omega)⟩
     have htxi := txT_at hx
     have hi24 : i < 24 := by omega
     obtain ⟨g, o, rfl, hq'⟩ := hq (hne (by omega))
     have f0 := zBu hx (((i : Nat) : Int).toNat) (by omega)
     have hsz : (⟨⟨tx⟩⟩ : ByteArray).size = tx.length := rfl
     have hci := hcat i
     refine zC (qK (qL (zL (qL (qL (qJ (uM rfl (uM rfl (uB (uAi rfl rfl) ?_)))))))))
     apply qB
     ·(apply zK rfl (hE.t rfl) rfl (by assumption); (focus ((repeat constructor); done)); (first | ((focus exact f0); (focus omega)) | ((focus exact f1); (focus omega)) | ((focus exact f2); (focus omega)) | ((focus exact f3); (focus omega)) | ((focus assumption); (focus omega))))
     ·rfl
     refine uB (qBy rfl (hE.t rfl)) ?_
     refine uB (y_gt rfl rfl) ?_
     refine qM (qK ?_)
     refine zF rfl (fun h3 => ?_) (fun h3 => ?_)
     ·refine qL (qJ ?_)
      refine uA rfl (qM (qK (kC (qX (zO (qX (qX (zO (qX ?_)))))))))
      exact uZ rfl (.tmp rfl .nil) ⟨rfl, rfl⟩
     have htx2 : ∀ k, k < i + 1 → (txT ts k).length ≤ 100 := fun k hk => by
      rcases Nat.lt_or_ge k i with h | h
      ·exact htx k h
      obtain rfl : k = i := by omega
      rw [htxi]
      omega
     have e1 : updT (tmT ts i) (nmT i) tx = tmT ts (i + 1) := by
      show _ = updT (tmT ts i) (nmT i) (txT ts i)
      rw [htxi]
     refine qAk (kE (p := cutP d a ts i i r X0 X1 true) (p' := dbW d a (tmT ts i) (tmT ts i) i i (Pwr.lft r) false) uK (fun k h => h)) ?_
     refine zC (qK (qL (qL ?_)))
     refine uH ([old]) ?_
     refine uD 0 rfl (qC rfl) ?_
     refine uD 1 rfl (qC rfl) ?_
     refine uD 2 rfl (uAa rfl rfl) ?_
     refine uD 3 rfl (kM rfl (hE.t rfl) (hE.t rfl) (by first | exact kN (by omega) (by omega) | exact kP (by omega) (by omega) | exact wrap_b (by omega) (by omega))) ?_
     refine uD 7 rfl (qC rfl) ?_
     refine uD 8 rfl (qC rfl) ?_
     refine uD 9 rfl (uAi rfl rfl) ?_
     apply zH 10 rfl
     ·(apply zK rfl (hE.t rfl) rfl (by assumption); (focus ((repeat constructor); done)); (first | ((focus exact f0); (focus omega)) | ((focus exact f1); (focus omega)) | ((focus exact f2); (focus omega)) | ((focus exact f3); (focus omega)) | ((focus assumption); (focus omega))))
     ·with_reducible (repeat (first | exact qF | apply qG | apply qH))
     ·kernel_rfl
     ·rfl
     apply kL 4 rfl (by kernel_rfl) rfl
     refine qW (hE.t rfl) (hE.t rfl) rfl rfl rfl (fun b65 => ?_)
     refine uE ?_
     apply kL 5 rfl (by kernel_rfl) rfl
     refine qVt (qIo (q := cells b65 [Value.int .u8 ((97 : Int) + (i : Nat))] 5) (src := 57) (dst := 9) (e := 5) (bs := [chB i]) rfl (hE.t rfl) (hE.t rfl) (hE.t rfl) (chB_rd hi24) uK) ?_
     refine uE ?_
     refine uD 6 rfl (qFr rfl rfl (by assumption)) ?_
     apply kL 11 rfl (by kernel_rfl) rfl
     refine uC (ct_wSet (k := i) (j := i) (tm := tmT ts i) (tm0 := tmT ts i) (n := nmT i) (t := tx) (p := Pwr.lft r) (b := false) hE (nmT_ok i) (by omega) (by omega)) rfl ?_
     rintro _ _ ⟨rfl, rfl⟩
     simp only [uV, uW]
     rw [e1]
     refine uE ?_
     refine uD 12 rfl (qAf rfl (hE.t rfl)) ?_
     refine qCc (by kernel_rfl) ?_
     refine qK (zD rfl (zC (qK (qL (qJ (uA rfl (qM (qK (qL (qL (qJ (uM rfl ?_))))))))))))
     refine uB (y_rem rfl rfl (by omega) (by omega)) ?_
     refine uB (y_eq rfl rfl) ?_
     refine qM (qK ?_)
     refine zF rfl (fun h4 => ?_) (fun h4 => ?_)
     ·refine qJ ?_
      refine uM rfl ?_
      refine uX (qZw (tm := tmT ts (i + 1)) (tm0 := tmT ts i) (k := i + 1) (j := i) (r := r) (p := Pwr.lft r) (b := true) hE rfl hr (by omega) (by omega)) rfl ?_
      rintro _ _ (⟨rfl, rfl⟩ | ⟨X0, X1, rfl, hB, rfl⟩)
      ·simp only [uV, uW]
       refine uA rfl (qM (qK (qL (qJ (uM rfl (uB (qRc rfl (hE.t rfl)) ?_))))))
       refine qM (qK (zG rfl ?_))
       refine qAk (kE (p := dbW d a (tmT ts (i + 1)) (tmT ts (i + 1)) (i + 1) (i + 1) (Pwr.lft (r - 3)) false) (p' := cutP d a ts (i + 1) (i + 1) (r - 3) none none true) uK (fun k h => h)) ?_
       refine qJ (uM rfl (uB (uAa rfl rfl) ?_))
       refine uA rfl (qM (zJ (qK (qJ (uM rfl (uB (uAa rfl rfl) ?_))))))
       refine uA rfl (qM ?_)
       refine zT (ι := CtZ) (j := ⟨i + 1, i + 1, (r - 3), none, none, true⟩) ⟨by simp only; omega, by simp only; omega, htx2, .inl ⟨rfl, rfl⟩⟩ (by simp only; omega) ⟨rfl, rfl, rfl, rfl, congrArg some (zX (by simp only; omega)), congrArg some (zX (by simp only; omega)), trivial⟩ uI
      simp only [uV, uW]
      refine uA rfl (qM (qK (qL (qJ (uM rfl (uB (qWj rfl (hE.t rfl)) ?_))))))
      refine qM (qK (zD rfl ?_))
      refine qAk (kE (p := fsP a flN (flN ++ qAc) X0 X1 Pwr.dead) (p' := cutP d a ts (i + 1) (i + 1) r X0 X1 false) uK (fun k h => h)) ?_
      refine zC (zJ (qK (qJ (uM rfl (uB (uAa rfl rfl) ?_)))))
      refine uA rfl (qM ?_)
      refine zT (ι := CtZ) (j := ⟨i + 1, i, r, X0, X1, false⟩) ⟨by simp only; omega, hr, htx2, .inr ⟨rfl, rfl, hB⟩⟩ (by simp only; omega) ⟨rfl, rfl, rfl, rfl, rfl, congrArg some (zX (by simp only; omega)), trivial⟩ uI
     refine qJ ?_
     refine uM rfl ?_
     refine uX (qXg (tm := tmT ts (i + 1)) (tm0 := tmT ts i) (k := i + 1) (j := i) (r := r) (p := Pwr.lft r) (b := true) hE rfl rfl hr (by omega) (by omega)) rfl ?_
     rintro _ _ (⟨rfl, rfl⟩ | ⟨X0, X1, rfl, hB, rfl⟩)
     ·simp only [uV, uW]
      refine uA rfl (qM (qK (qL (qJ (uM rfl (uB (qRc rfl (hE.t rfl)) ?_))))))
      refine qM (qK (zG rfl ?_))
      refine qAk (kE (p := dbW d a (tmT ts (i + 1)) (tmT ts (i + 1)) (i + 1) (i + 1) (Pwr.lft (r - 2)) false) (p' := cutP d a ts (i + 1) (i + 1) (r - 2) none none true) uK (fun k h => h)) ?_
      refine qJ (uM rfl (uB (uAa rfl rfl) ?_))
      refine uA rfl (qM (zJ (qK (qJ (uM rfl (uB (uAa rfl rfl) ?_))))))
      refine uA rfl (qM ?_)
      refine zT (ι := CtZ) (j := ⟨i + 1, i + 1, (r - 2), none, none, true⟩) ⟨by simp only; omega, by simp only; omega, htx2, .inl ⟨rfl, rfl⟩⟩ (by simp only; omega) ⟨rfl, rfl, rfl, rfl, congrArg some (zX (by simp only; omega)), congrArg some (zX (by simp only; omega)), trivial⟩ uI
     simp only [uV, uW]
     refine uA rfl (qM (qK (qL (qJ (uM rfl (uB (qWj rfl (hE.t rfl)) ?_))))))
     refine qM (qK (zD rfl ?_))
     refine qAk (kE (p := fsP a flN (flN ++ qAc) X0 X1 Pwr.dead) (p' := cutP d a ts (i + 1) (i + 1) r X0 X1 false) uK (fun k h => h)) ?_
     refine zC (zJ (qK (qJ (uM rfl (uB (uAa rfl rfl) ?_)))))
     refine uA rfl (qM ?_)
     refine zT (ι := CtZ) (j := ⟨i + 1, i, r, X0, X1, false⟩) ⟨by simp only; omega, hr, htx2, .inr ⟨rfl, rfl, hB⟩⟩ (by simp only; omega) ⟨rfl, rfl, rfl, rfl, rfl, congrArg some (zX (by simp only; omega)), trivial⟩ uI
    exfalso
    omega
   refine kJ (qQ (qQ (zI ?_)))
   refine qBd (ι := CtZ) ⟨i, dn, r, X0, X1, b⟩ hok ⟨rfl, rfl, rfl, rfl, trivial⟩ ?_
   exact uI
  refine zU rfl rfl rfl rfl (zU rfl rfl rfl rfl (zU rfl rfl rfl rfl ?_))
  refine uB (qZ rfl rfl) ?_
  refine qM (qK (zD rfl (kJ (qQ (qQ (zI ?_))))))
  refine qBd (ι := CtZ) ⟨i, dn, r, X0, X1, b⟩ hok ⟨rfl, rfl, rfl, rfl, trivial⟩ ?_
  exact uI
 rintro ⟨i, dn, r, X0, X1, b⟩ ⟨hi, hr, htx, hdn⟩
 simp only at hi hr htx hdn ⊢
 refine qDs (fun y : CtY => [(0, .slice q ts.length ca), (7, uPt a), (10, .int .i64 (dn : Nat))]) (fun y => [fsP a flN (flN ++ qAc) y.Y0 y.Y1 Pwr.on, old, R]) (fun y => (y.m = dn ∨ y.m = dn + 1) ∧ y.m ≤ ts.length ∧ AF y.Y0 (tmT ts y.m) y.k y.k ∧ y.k ≤ 24 ∧ ∀ k, k < y.m → (txT ts k).length ≤ 100) ?_ ?_
 ·have hne2 : flN ≠ flN ++ qAc := (qGc okFl.1 (by decide : flN.length ≤ 28)).2.2
  rcases hdn with ⟨rfl, hdi⟩ | ⟨rfl, hdi, hB⟩
  ·obtain rfl : i = dn := hdi.symm
   refine qAk (kE (p := cutP d a ts i i r X0 X1 true) (p' := dbW d a (tmT ts i) (tmT ts i) i i (Pwr.lft r) false) uK (fun k h => h)) ?_
   refine qJ (uM rfl (uM rfl ?_))
   refine uX (qZx (d := d) (tm := tmT ts i) (tm0 := tmT ts i) (k := i) (j := i) (p := Pwr.lft r) (b := false) hE (by omega) hk hkc) rfl ?_
   rintro _ _ ⟨Y0, Y1, rfl, hA, rfl⟩
   simp only [uV, uW]
   refine qM ?_
   refine qBd (ι := CtY) ⟨i, Y0, Y1, i⟩ ⟨.inl rfl, hi, hA, by simp only; omega, htx⟩ ⟨rfl, rfl, rfl, trivial⟩ ?_
   exact uI
  refine qAk (kE (p := cutP d a ts i i r X0 X1 false) (p' := fsP a flN (flN ++ qAc) X0 X1 Pwr.dead) uK (fun k h => h)) ?_
  refine qJ (uM rfl (uM rfl (uX (qMf (x0 := X0) (x1 := X1) (p := Pwr.dead) hE hne2 hB.1 hB.2.1 hk hkc) rfl ?_)))
  rintro _ _ ⟨Y0, Y1, rfl, ⟨cY, _⟩, rfl⟩
  simp only [uV, uW]
  refine qM ?_
  rcases hB.2.2 Y0 cY with hA | hA
  ·refine qBd (ι := CtY) ⟨dn, Y0, Y1, i⟩ ⟨.inl rfl, by simp only; omega, hA, by simp only; omega, fun k hk => htx k (by simp only at hk; omega)⟩ ⟨rfl, rfl, rfl, trivial⟩ ?_
   exact uI
  refine qBd (ι := CtY) ⟨i, Y0, Y1, i⟩ ⟨.inr (by simp only; omega), hi, hA, by simp only; omega, htx⟩ ⟨rfl, rfl, rfl, trivial⟩ ?_
  exact uI
 clear hdn htx hr hi
 rintro ⟨m, Y0, Y1, k⟩ ⟨hm, hmn, hA, hk24, htx⟩
 simp only at hm hmn hA hk24 htx ⊢
 refine qL (qJ (uM rfl (uX (ct_wOpen (tm := tmT ts m) (k := k) (j := k) hE hA (by omega)) rfl ?_)))
 rintro _ _ ⟨d2, rfl, rfl⟩
 simp only [uV, uW]
 refine uM rfl (uB (qV rfl rfl) (uB (qV rfl rfl) (uA rfl (uA rfl (qM (qK (qL (qL (qJ (uM rfl (uB (qBm rfl) ?_)))))))))))
 refine qM (qK (zD rfl (zC (qK (qL (qJ (uM rfl ?_)))))))
 refine uX (qMg (d := d2) (a := a) (k := k) (j := k) (tm := tmT ts m) (tm0 := tmT ts m) hE (by omega) (zCf (by omega) htx)) rfl ?_
 rintro _ _ ⟨A, qA, cA, rfl, ⟨hA2, -⟩, rfl⟩
 obtain rfl := hA2.fn (entT_ens ts (by omega))
 have hel := entT_len ts m
 simp only [uV, uW]
 refine uM rfl (uB (qV rfl rfl) (uB (qV rfl rfl) (uA rfl (uA rfl (qM (qK (qL (qL (qJ (uM rfl (uB (qBm rfl) ?_)))))))))))
 refine uM rfl (kQ rfl rfl (uM rfl (kQ rfl rfl (uB (uBl rfl) ?_))))
 refine kQ rfl rfl (uM rfl (kQ rfl rfl (uB (y_lt rfl rfl) ?_)))
 refine uB (qZ rfl rfl) ?_
 refine uM rfl ?_
 refine qAl 108 rfl (fun c5 => ?_) (fun c5 => ?_)
 ·exfalso
  omega
 refine kQ rfl rfl (uM rfl (kQ rfl rfl (uB (uBl rfl) ?_)))
 refine kQ rfl rfl (uM rfl (kQ rfl rfl (uB (uAa rfl rfl) ?_)))
 refine kQ rfl rfl (uB (y_gt rfl rfl) ?_)
 refine uB (qZ rfl rfl) ?_
 refine uM rfl ?_
 refine qAl 115 rfl (fun c6 => ?_) (fun c6 => ?_)
 ·exfalso
  omega
 refine kQ rfl rfl (uM rfl (kQ rfl rfl (uB (uBl rfl) ?_)))
 refine kQ rfl rfl (uM rfl (kQ rfl rfl (uB (uBl rfl) ?_)))
 refine kQ rfl rfl (uB (y_gt rfl rfl) ?_)
 refine uB (qZ rfl rfl) ?_
 refine qM (qK ?_)
 refine zF rfl (fun c7 => ?_) (fun c7 => ?_)
 ·exfalso
  omega
 refine qCw (p := sl qA cA 51 2 (entT ts m).length (ssC (entT ts m))) uK (fun _ h => fun hpos => qAz h hpos) ?_
 intro hqA
 refine zC (qK (qL (qL (qJ (uA rfl (qM (qK (zL ?_))))))))
 refine qAj (fun i : Nat => [(0, .slice q ts.length ca), (13, .slice qA (entT ts m).length cA), (14, .int .i64 (i : Nat))]) (fun i => [sl qA cA 51 2 (entT ts m).length (ssC (entT ts m)), old, R]) (fun i => m - i) (fun i => i ≤ m) 0 (Nat.zero_le _) ⟨rfl, rfl, rfl, trivial⟩ uI ?_
 rintro i hi
 refine qL (qL (qJ (uM rfl (uM rfl (uB (uBl rfl) ?_)))))
 refine uB (y_lt rfl rfl) ?_
 refine qM (qK ?_)
 refine zF rfl (fun c8 => ?_) (fun c8 => ?_)
 ·have him : i < m := by omega
  have hi24 : i < 24 := by omega
  obtain ⟨tx, hx⟩ : ∃ x, ts[i]? = some x := ⟨_, List.getElem?_eq_getElem (by omega)⟩
  obtain rfl : txT ts i = tx := txT_at hx
  obtain ⟨g, o, rfl, hq'⟩ := hq (hne (by omega))
  obtain ⟨gA, rfl⟩ := hqA (by omega)
  have f2 := zBu hx (((i : Nat) : Int).toNat) (by omega)
  obtain ⟨f0, f1⟩ := zBp (entT_at (ts := ts) him) (0 + ((i : Nat) : Int).toNat * 2) (by omega)
  simp only at f0 f1
  have hci := hcat i
  refine zC (qK (qL (zL (qL ?_))))
  refine uH ([sl (some ⟨gA, 0, none⟩) cA 51 2 (entT ts m).length (ssC (entT ts m)), old]) ?_
  refine uD 0 rfl (qC rfl) ?_
  refine uD 1 rfl (qC rfl) ?_
  refine uD 2 rfl (uAi rfl rfl) ?_
  refine uD 3 rfl (uBf rfl) ?_
  refine uD 4 rfl (uY) ?_
  refine uD 5 rfl (qC rfl) ?_
  refine uD 6 rfl (qC rfl) ?_
  refine uD 7 rfl (uAi rfl rfl) ?_
  apply zH 8 rfl
  ·(apply zK rfl (hE.t rfl) rfl (by assumption); (focus ((repeat constructor); done)); (first | ((focus exact f0); (focus omega)) | ((focus exact f1); (focus omega)) | ((focus exact f2); (focus omega)) | ((focus exact f3); (focus omega)) | ((focus assumption); (focus omega))))
  ·with_reducible (repeat (first | exact qF | apply qG | apply qH))
  ·kernel_rfl
  ·rfl
  refine uD 9 rfl (qRb rfl rfl) ?_
  refine uD 10 rfl (qC rfl) ?_
  refine d_eq 138 (.bool false) rfl (by simp) ?_
  refine uO 11 rfl rfl rfl (qC rfl) ?_
  refine uO 12 rfl rfl rfl (qC rfl) ?_
  refine uO 13 rfl rfl rfl (uAi rfl rfl) ?_
  refine uO 14 rfl rfl rfl (uBf rfl) ?_
  refine uO 15 rfl rfl rfl (uY) ?_
  refine uO 16 rfl rfl rfl (qC rfl) ?_
  refine uO 17 rfl rfl rfl (uAa rfl rfl) ?_
  refine uO 18 rfl rfl rfl (kM rfl (hE.t rfl) (hE.t rfl) (by first | exact kN (by omega) (by omega) | exact kP (by omega) (by omega) | exact wrap_b (by omega) (by omega))) ?_
  apply qSg 19 rfl rfl rfl (by kernel_rfl) rfl
  refine qW (hE.t rfl) (hE.t rfl) rfl rfl rfl (fun b147 => ?_)
  refine uE ?_
  apply qSg 20 rfl rfl rfl (by kernel_rfl) rfl
  refine qVt (qIo (q := cells b147 [Value.int .u8 ((97 : Int) + (i : Nat))] 5) (src := 57) (dst := 9) (e := 5) (bs := [chB i]) rfl (hE.t rfl) (hE.t rfl) (hE.t rfl) (chB_rd hi24) uK) ?_
  refine uE ?_
  refine uO 21 rfl rfl rfl (qFr rfl rfl (by assumption)) ?_
  refine uO 22 rfl rfl rfl (qRb rfl rfl) ?_
  refine uD 23 rfl (qZ rfl rfl) ?_
  refine qCc (by kernel_rfl) ?_
  refine qK ?_
  refine zF rfl (fun c9 => ?_) (fun c9 => ?_)
  ·exact absurd rfl c9
  refine zC (zJ (qK (qJ ?_)))
  refine uM rfl (uB (uAa rfl rfl) ?_)
  refine uA rfl (qM ?_)
  refine zT (ι := Nat) (j := i + 1) (by omega) (by omega) ⟨rfl, rfl, congrArg some (zX (by omega)), trivial⟩ uI
 refine kJ (qQ (qQ (zI (qK (qL (qJ ?_))))))
 refine uA rfl (qM (qK (kC ?_)))
 exact uZ rfl (.tmp rfl .nil) ⟨rfl, rfl⟩
theorem qNu (hE : Seat E) {ts : List (List UInt8)} {q kq : Option Addr} {ca kc : Nat} {at_ : Int} {ks : List Int} (hq : Rdb E.w0 q (strC ts) old) (hk : Rdb E.w0 kq (intC ks) old) (hkc : ks.length ≤ kc) :
  Ct E 7 [.slice q ts.length ca, .int .i64 at_, .slice kq ks.length kc] [] (fun v Q => v = .bool true ∧ Q = []) := ct_unold (qLt hE hq hk hkc)
end Go.Proofs.YtddfnkijolfhbaaGreat
