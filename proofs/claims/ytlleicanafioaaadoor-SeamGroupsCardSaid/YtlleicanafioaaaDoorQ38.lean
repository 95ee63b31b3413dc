import Derived.Test.YtlleicanafioaaaDoorQ35
set_option linter.all false
set_option maxHeartbeats 1000000
namespace Go.Proofs.YtlleicanafioaaaDoor
open Go Go.RowKit Sl Eg
section
def rep {α : Type} (k : Nat) (l : List α) : List α := (List.replicate k l).flatten
theorem qJx {α : Type} (l : List α) : rep 0 l = [] := rfl
theorem qAu {α : Type} (k : Nat) (l : List α) : rep (k + 1) l = l ++ rep k l := by simp [rep, List.replicate_succ]
theorem qNx {α : Type} (l : List α) : rep 1 l = l := by simp [rep]
theorem qKw {α : Type} (a b : Nat) (l : List α) : rep (a + b) l = rep a l ++ rep b l := by simp [rep, ← List.replicate_append_replicate]
theorem rep_mul {α : Type} (a b : Nat) (l : List α) : rep a (rep b l) = rep (a * b) l := by
 induction a with
 | zero => rw [Nat.zero_mul]; rfl
 | succ a ih => rw [qAu, ih, Nat.succ_mul, Nat.add_comm, qKw]
theorem qBx {α : Type} (k : Nat) (l : List α) : (rep k l).length = k * l.length := by
 induction k with
 | zero => simp [rep]
 | succ k ih => rw [qAu, List.length_append, ih, Nat.succ_mul]; omega
theorem rep_hd {α : Type} {l : List α} (h : l ≠ []) (k : Nat) : (rep (k + 1) l).head? = l.head? := by
 rw [qAu]
 cases l with
 | nil => exact absurd rfl h
 | cons a l => rfl
theorem rep_unit (k x : Nat) : rep k [x] = List.replicate k x := qFg k x
theorem Sq.rep {L : List Rl} {lv : Nat} {X X' : List Nat} (h : Sq L lv X X') (hb : Bdry L lv X X' X) (hx : X ≠ []) : ∀ k, Sq L lv (Go.Proofs.YtlleicanafioaaaDoor.rep k X) (Go.Proofs.YtlleicanafioaaaDoor.rep k X')
 | 0 => .nil _ _
 | k + 1 => by
  rw [qAu, qAu]
  refine h.join (Sq.rep h hb hx k) fun u v e1 e2 => ?_
  cases k with
  | zero => simp [qJx] at e2
  | succ k => rw [rep_hd hx] at e2; exact hb u v e1 e2
theorem Lts.rep {L : List Rl} {ids : List Nat} {bs : List UInt8} (h : Lts L ids bs) : ∀ k, Lts L (Go.Proofs.YtlleicanafioaaaDoor.rep k ids) (Go.Proofs.YtlleicanafioaaaDoor.rep k bs)
 | 0 => .nil
 | k + 1 => by rw [qAu, qAu]; exact h.append (Lts.rep h k)
theorem qXk {L : List Rl} (hw : Wf L) {x k : Nat} {t : List UInt8} (hs : Sig L x) (hl : Lts L (expd L 0 x) t) (h2 : 2 ≤ k) {m : Nat} (hb : ∀ l, l < m → Bdry L (l + 1) (expd L l x) (expd L (l + 1) x) (expd L l x)) : ∀ l, l ≤ m → Rch L (rep k t) (l + 1) (rep k (expd L l x))
 | 0, _ => .start (hl.rep k)
 | l + 1, h => by
  have ih := qXk hw hs hl h2 hb l (by omega)
  have hp := (qFf hw (l := l) x hs.pos hs.le).1
  have hi := hs.inv (l + 1) (by omega)
  have hst := hs.step (l + 1) (by omega)
  rw [Nat.add_sub_cancel] at hi hst
  refine ih.next ?_ (fun y hy => ?_) (hst.rep (hb l (by omega)) (by intro e; rw [e] at hp; simp at hp) k)
  ·rw [qBx]
   have : 2 * 1 ≤ k * (expd L l x).length := Nat.mul_le_mul h2 hp
   omega
  unfold rep at hy
  rw [List.mem_flatten] at hy
  obtain ⟨l', h1, h3⟩ := hy
  rw [(List.mem_replicate.1 h1).2] at h3
  exact (hi.ok y h3).2.1
theorem zCc {L : List Rl} (hw : Wf L) {x k m j : Nat} {t : List UInt8} (hs : Sig L x) (hl : Lts L (expd L 0 x) t) (ht : txt L x = t) (h2 : 2 ≤ k) (hm : lvl L x = (m : Nat)) (he : m % 2 = 0) (hb : ∀ l, l < m → Bdry L (l + 1) (expd L l x) (expd L (l + 1) x) (expd L l x)) (hp : L[j]? = some (.power x k)) : Sn L (rep k t) (j + 1) := by
 have h1 := qXk hw hs hl h2 hb m (Nat.le_refl m)
 rw [qBg hs.pos (by omega), rep_unit] at h1
 have hq : Sq L (m + 1) (List.replicate k x) [j + 1] := by
  have := Rg.run (L := L) (x := x) (t := k) (id := j + 1) (r := []) (o := []) (by omega) (.inr ⟨h2, j, rfl, hp⟩) (by simp) .nil
  rw [List.append_nil] at this
  unfold Sq
  rw [if_pos (by omega)]
  exact this
 have h3 := h1.next (by simp; exact h2) (fun y hy => by rw [(List.mem_replicate.1 hy).2]; exact hs.le) hq
 have hok := (h3.rows hw).1.ok (j + 1) (by simp)
 refine ⟨.inr ⟨_, h3⟩, ?_, hok.2.1, hok.2.2.1⟩
 rw [qGa hp (hw.ok _ _ hp), ht]
 rfl
theorem Lts.split {L : List Rl} {a b : List Nat} {bs : List UInt8} (h : Lts L (a ++ b) bs) : ∃ u v, Lts L a u ∧ Lts L b v ∧ bs = u ++ v := by
 generalize e : a ++ b = c at h
 induction h generalizing b with
 | nil =>
  obtain ⟨rfl, rfl⟩ := List.append_eq_nil_iff.1 e
  exact ⟨[], [], .nil, .nil, rfl⟩
 | @snoc ids bs i c h1 h2 ih =>
  rcases List.eq_nil_or_concat b with rfl | ⟨b', y, rfl⟩
  ·rw [List.append_nil] at e
   subst e
   exact ⟨_, [], .snoc h1 h2, .nil, by simp⟩
  rw [List.concat_eq_append, ← List.append_assoc] at *
  obtain ⟨e1, e2⟩ := List.append_inj' e rfl
  simp at e2
  subst e2
  obtain ⟨u, v, g1, g2, rfl⟩ := ih e1
  exact ⟨u, v ++ [c], g1, .snoc g2 h2, by simp⟩
theorem qTt {L : List Rl} (hw : Wf L) {x y n : Nat} {t : List UInt8} (hs : Sig L x) (hl : Lts L (expd L 0 x) t) (ht : txt L x = t) (hr : L[x - 1]? = some (.power y n)) :
  ∃ m, Sig L y ∧ lvl L y = (m : Nat) ∧ m % 2 = 0 ∧ 2 ≤ n ∧ Lts L (expd L 0 y) (txt L y) ∧ t = rep n (txt L y) ∧ ∀ l, l < m → Bdry L (l + 1) (expd L l y) (expd L (l + 1) y) (expd L l y) := by
 obtain ⟨q1, q2⟩ := qJv hw hs.pos hr hs.lv
 have hk := hw.ok _ _ hr
 obtain ⟨k1, k2, k3⟩ := hk
 have hx1 := hs.pos
 have hy0 : 0 ≤ lvl L y := by
  have := (qEd hr (hw.ok _ _ hr)).2
  rw [show x - 1 + 1 = x by omega] at this
  have hlv := hs.lv
  rw [this] at hlv
  split at hlv
  ·rename_i h; exact h.1
  omega
 obtain ⟨m, hm⟩ : ∃ m : Nat, lvl L y = (m : Nat) := ⟨(lvl L y).toNat, by omega⟩
 have hyl : y ≤ L.length := by have := (List.getElem?_eq_some_iff.1 hr).1; omega
 have ex : ∀ l, l ≤ m → expd L l x = rep n (expd L l y) := fun l h => by
  rw [show x = x - 1 + 1 by omega]
  exact qCk hw hr (by rw [show x - 1 + 1 = x by omega]; omega)
 obtain ⟨p, rfl⟩ : ∃ p, n = p + 2 := ⟨n - 2, by omega⟩
 have par : ∀ l, l < m → Sq L (l + 1) (expd L l y) (expd L (l + 1) y) ∧ Inv L (l + 1) (expd L l y) ∧ Bdry L (l + 1) (expd L l y) (expd L (l + 1) y) (expd L l y) := fun l h => by
  have hst := hs.step (l + 1) (by omega)
  have hin := hs.inv (l + 1) (by omega)
  rw [Nat.add_sub_cancel, ex l (by omega)] at hst hin
  rw [ex (l + 1) (by omega)] at hst
  rw [qAu (p + 1) (expd L (l + 1) y)] at hst
  have hin1 := hin
  rw [qAu] at hin1
  obtain ⟨X, W, e, s1, s2, b⟩ := hst.split hw
  rw [e] at hin
  have d1 := s1.down hin.left (by omega)
  rw [Nat.add_sub_cancel, qFp hw (by omega) y hyl] at d1
  subst d1
  rw [qAu (p + 1)] at e
  have e2 : W = rep (p + 1) (expd L l y) := (List.append_cancel_left e).symm
  subst e2
  refine ⟨s1, hin1.left, fun u v e1 e3 => b u v e1 ?_⟩
  have hp := (qFf hw (l := l) y k1 hyl).1
  rw [rep_hd (by intro e; rw [e] at hp; simp at hp)]
  exact e3
 refine ⟨m, ⟨k1, hyl, hy0, fun k hk => ?_, fun k hk => ?_⟩, hm, by omega, k3, ?_, ?_, fun l h => (par l h).2.2⟩
 ·rcases Nat.lt_or_ge (k - 1) m with h | h
  ·have := (par (k - 1) h).2.1
   rwa [show k - 1 + 1 = k by omega] at this
  rw [qBg k1 (by omega)]
  exact .one hw k1 hyl hy0 (by omega)
 ·rcases Nat.lt_or_ge (k - 1) m with h | h
  ·have := (par (k - 1) h).1
   rwa [show k - 1 + 1 = k by omega] at this
  rw [qBg k1 (by omega), qBg k1 (by omega)]
  exact .one L k y
 ·rw [ex 0 (Nat.zero_le m), qAu] at hl
  obtain ⟨u, v, g1, _, _⟩ := hl.split
  have e1 := g1.text
  have : rowT L (expd L 0 y) = txt L y := by
   have hst : ∀ l, l ≤ m → rowT L (expd L l y) = rowT L (expd L 0 y) := fun l => by
    induction l with
    | zero => intro _; rfl
    | succ l ih => intro h; rw [← ih (by omega)]; exact (par l (by omega)).1.text hw
   rw [← hst m (Nat.le_refl m), qBg k1 (by omega), qFn]
  rw [← this, e1]
  exact g1
 rw [← ht]
 have := qGa hr (hw.ok _ _ hr)
 rw [show x - 1 + 1 = x by omega] at this
 exact this
end
section
set_option maxRecDepth 10000
variable {E : Env} {Es : List Ent} {pp tb s most : Nat}
theorem qPj {L : List Rl} {x : Nat} (hs : Sig L x) : ∀ l, (expd L l x).length ≤ (expd L 0 x).length
 | 0 => Nat.le_refl _
 | l + 1 => by
  have := (hs.step (l + 1) (by omega)).le
  rw [Nat.add_sub_cancel] at this
  have := qPj hs l
  omega
def Apt (L : List Rl) (x m : Nat) : Prop := lvl L x = (m : Nat) ∧ m % 2 = 0 ∧ ∀ l, l < m → Bdry L (l + 1) (expd L l x) (expd L (l + 1) x) (expd L l x)
structure ApG where
 l : Nat
 A : Sd
 B : Sd
 C : Md
structure ApI (L : List Rl) (x m : Nat) (q : ApG) : Prop where
 le : q.l ≤ m
 ea : EO L false q.l x q.A.x q.A.fs
 eb : EO L true q.l x q.B.x q.B.fs
 ra : seqE L false q.l q.A.x q.A.fs = expd L q.l x
 rb : seqE L true q.l q.B.x q.B.fs = expd L q.l x
 em : q.C.its = []
 bd : ∀ l, l < q.l → Bdry L (l + 1) (expd L l x) (expd L (l + 1) x) (expd L l x)
theorem ApI.next {L : List Rl} (hw : Wf L) {x m l : Nat} {A B A' B' : Sd} {C C' : Md} (hs : Sig L x) (h : ApI L x m ⟨l, A, B, C⟩) (hl : l < m) (hr : Rdy L l x x A B C A' B' C') (he : C'.its = []) : ApI L x m ⟨l + 1, upS L (l + 1) A', upS L (l + 1) B', C'⟩ := by
 obtain ⟨_, rfl, rfl⟩ := hr.ne he
 have h1 := hr.left.eo.up hw hs hr.left.bb
 have h2 := hr.right.eo.up hw hs hr.right.bb
 have hst := hs.step (l + 1) (by omega)
 rw [Nat.add_sub_cancel] at hst
 have ra := h.ra
 have rb := h.rb
 simp only at ra rb
 have q1 := h1.2
 have q2 := h2.2
 rw [ra] at q1
 rw [rb] at q2
 have e1 := q1.fn hw hst
 have e2 := q2.fn hw hst
 refine ⟨hl, h1.1, h2.1, e1, e2, he, fun k hk => ?_⟩
 rcases Nat.lt_or_ge k l with hlt | hge
 ·exact h.bd k hlt
 have hk' : k < l + 1 := hk
 obtain rfl : k = l := by omega
 have hb := hr.left.bd
 rw [he, qJo, List.nil_append, ra, rb, e1] at hb
 exact hb
theorem ct_apart (hE : Seat E) (hB : Base E.w0) {x : Nat} {t : List UInt8} (hx : Sn (rls Es) t x) (h0 : x ≠ 0) (hlen : t.length ≤ 400000000) :
  Ct E 26 [uPt pp, .int .i64 (x : Nat)] [cells pp [uPt s, uPt tb] 57, tabP tb s (rls Es), zU s most Es]
   (fun v Q => ∃ d : Bool, v = .bool d ∧ (d = true → ∃ m, Apt (rls Es) x m) ∧ Q = [cells pp [uPt s, uPt tb] 57, tabP tb s (rls Es), zU s most Es]) := by
 refine qAy (p := zU s most Es) uK (fun _ h => qAb h) (fun hsay => ?_)
 have hw := hsay.1
 have hmx : kK = 1152921504606846976 := rfl
 have lvx := hx.lv hw (by omega)
 obtain ⟨hs, hl, _⟩ := hx.parts hw h0
 have hl0 := hl.length
 obtain ⟨m, hm⟩ : ∃ m : Nat, lvl (rls Es) x = (m : Nat) := ⟨(lvl (rls Es) x).toNat, by have := hs.lv; omega⟩
 refine zR (hE.fn Tryd.func26) rfl rfl rfl (fun R => ?_)
 simp only [qAo, uV, uW]
 refine qN (qL (uA rfl (qO (qM (qN (qL (uM rfl (uM rfl (uX (qEi hE hx.gd.1) rfl ?_)))))))))
 rintro _ _ ⟨rfl, rfl⟩
 simp only [uV, uW]
 refine uA rfl (qO (qM (qN (qL (uM rfl (uM rfl (uM rfl (uM rfl (uX (qJe hE hB hs) rfl ?_)))))))))
 rintro _ _ ⟨ya, ga, p1, c1, rfl, da, da0, rfl⟩
 simp only [uV, uW]
 refine uM rfl (uM rfl (uM rfl (uX (qJe hE hB hs) rfl ?_)))
 rintro _ _ ⟨yb, gb, p2, c2, rfl, db, db0, rfl⟩
 simp only [uV, uW]
 refine uB (qAl (hE.t rfl) rfl rfl) ?_
 refine uU (kI (hE.t rfl) (fun b6 => ?_))
 refine uU (uS ?_)
 refine qO (qM (qN (qL (uM rfl (uM rfl (uX (qIm hE hB hx.gd) rfl ?_))))))
 rintro _ _ ⟨rfl, rfl⟩
 simp only [uV, uW]
 rw [hm]
 refine uM rfl (uB (qX rfl rfl) (uB (qX rfl rfl) (uA rfl (uA rfl (qO (qM (qN (qN (qL (uM rfl ?_))))))))))
 refine uB (qAk rfl (hE.t rfl)) ?_
 refine uM rfl (kT rfl rfl (uM rfl (kT rfl rfl (uB (qVy rfl rfl (by omega) (by omega)) ?_))))
 refine kT rfl rfl (uB (y_ne rfl rfl) ?_)
 refine uB (zB rfl rfl) ?_
 refine qO (qM ?_)
 refine zH rfl (fun hod => ?_) (fun hod => ?_)
 ·refine qN (qL ?_)
  refine uA rfl (qO (qM (kE (qZ ?_))))
  exact uZ rfl (.tmp rfl .nil) ⟨false, rfl, (fun h => by cases h), rfl⟩
 have hev : m % 2 = 0 := by omega
 refine zF (qM (qN (qN (qL (uA rfl (qO (qM (zN ?_))))))))
 obtain ⟨hst, _, _⟩ := SpI.start (A := ⟨ya, ga, p1, c1⟩) (B := ⟨yb, gb, p2, c2⟩) hw none 0 hs hs hl hl da db da0 db0
 obtain ⟨_, _, a3, _⟩ := da.ok hw hs .nil (by simp)
 obtain ⟨_, _, b3, _⟩ := db.ok hw hs .nil (by simp)
 have ea : seqE (rls Es) false 0 ya ga = expd (rls Es) 0 x := by rw [← a3]; simp [seqE, qEe, cat]
 have eb : seqE (rls Es) true 0 yb gb = expd (rls Es) 0 x := by rw [← b3]; simp [seqE, qEe, cat]
 refine qKh (qDq (t := 149) (sz := 4)) ?_
 refine qDb (fun q : ApG => [(6, uPt b6), (7, .int .i64 (m : Nat)), (9, .int .i64 ((q.l + 1 : Nat) : Int))]) (fun q => [cells pp [uPt s, uPt tb] 57, tabP tb s (rls Es), zU s most Es, cells b6 [uPt pp, uPt pp, .bool false, .slice q.A.p q.A.fs.length q.A.c, .int .i64 (q.A.x : Nat), .int .u64 (key (rls Es) q.A.x : Nat), uPt pp, .bool true, .slice q.B.p q.B.fs.length q.B.c, .int .i64 (q.B.x : Nat), .int .u64 (key (rls Es) q.B.x : Nat), .slice q.C.p q.C.its.length q.C.c] 113, sl q.A.p q.A.c 137 8 q.A.fs.length (qAc (rls Es) q.A.fs), sl q.B.p q.B.c 137 8 q.B.fs.length (qAc (rls Es) q.B.fs), sl q.C.p q.C.c 149 4 q.C.its.length (itsC (rls Es) q.C.its), R]) (fun q => m - q.l) (ApI (rls Es) x m) ⟨0, ⟨ya, ga, p1, c1⟩, ⟨yb, gb, p2, c2⟩, ⟨[], none, 0⟩⟩ ⟨Nat.zero_le _, hst.ea, hst.eb, ea, eb, rfl, fun l h => by cases h⟩ ⟨rfl, rfl, rfl, trivial⟩ ?_ ?_
 ·exact uI
 rintro ⟨l, A, B, C⟩ hI
 have hle := hI.le
 have hea := hI.ea
 have heb := hI.eb
 have hra := hI.ra
 have hrb := hI.rb
 have hem := hI.em
 simp only at hle hea heb hra hrb hem ⊢
 have hsh := qPj hs l
 have hsng : Sng C.its := fun it h => by rw [hem] at h; simp at h
 have hone : (l + 1) % 2 = 0 → ∀ it ∈ C.its, it.times = 1 := fun _ it h => by rw [hem] at h; simp at h
 have hids : ∀ y ∈ qAa C.its, 1 ≤ y ∧ y ≤ (rls Es).length := fun y h => by rw [hem, qJo] at h; simp at h
 have hrl : (seqE (rls Es) false l A.x A.fs ++ (qAa C.its ++ seqE (rls Es) true l B.x B.fs)).length ≤ 800000000000 := by
  rw [hem, qJo, List.nil_append, hra, hrb, List.length_append]; omega
 refine qN (qN (qL (uM rfl (uM rfl (uB (y_le rfl rfl) ?_)))))
 refine qO (qM ?_)
 refine zH rfl (fun hlt => ?_) (fun hlt => ?_)
 ·have hlm : l < m := by omega
  refine zF (qM (qN (zN (qN (qL (uM rfl ?_))))))
  refine uX (qSt hE hB (Es := Es) (S := b6) hs hs hea heb hsng hone hids hrl (by omega) (by omega)) rfl ?_
  rintro _ _ ⟨A1, B1, C1, rfl, hr, rfl⟩
  simp only [uV, uW]
  refine qO (qM (qN (qN (qL (uB (uBf rfl) ?_)))))
  refine uL ?_
  refine uB (uBl rfl) ?_
  refine uB (y_gt rfl rfl) ?_
  refine qO (qM ?_)
  refine zH rfl (fun hc => ?_) (fun hc => ?_)
  ·refine qN (qL ?_)
   refine uA rfl (qO (qM (kE (qZ (zQ (qZ (qZ (zQ (qZ ?_)))))))))
   exact uZ rfl (.tmp rfl .nil) ⟨false, rfl, (fun h => by cases h), rfl⟩
  have he : C1.its = [] := List.eq_nil_of_length_eq_zero (by omega)
  have hnx := hI.next hw hs hlm hr he
  refine zF (qM (qN (qL (uB (uBf rfl) ?_))))
  refine uM rfl ?_
  refine uX (zAm hE hB (Es := Es) (b := b6) (pre := [uPt pp]) (suf := [uPt pp, .bool true, .slice B1.p B1.fs.length B1.c, .int .i64 (B1.x : Nat), .int .u64 (key (rls Es) B1.x : Nat), .slice C1.p C1.its.length C1.c]) (fs := A1.fs) hs hr.left.eo) rfl ?_
  rintro _ _ ⟨rfl, rfl⟩
  simp only [uV, uW]
  refine qO (qM (qL (uB (uBf rfl) ?_)))
  refine uM rfl ?_
  refine uX (zAm hE hB (Es := Es) (b := b6) (pre := [uPt pp, uPt pp, .bool false, .slice (upS (rls Es) (l + 1) A1).p (upS (rls Es) (l + 1) A1).fs.length (upS (rls Es) (l + 1) A1).c, .int .i64 ((upS (rls Es) (l + 1) A1).x : Nat), .int .u64 (key (rls Es) (upS (rls Es) (l + 1) A1).x : Nat)]) (suf := [.slice C1.p C1.its.length C1.c]) (fs := B1.fs) hs hr.right.eo) rfl ?_
  rintro _ _ ⟨rfl, rfl⟩
  simp only [uV, uW]
  refine qO (zL (qM (qL (uM rfl (uB (uAa rfl rfl) ?_)))))
  refine uA rfl (qO ?_)
  refine qCj 9 (.int .i64 ((l + 1 + 1 : Nat) : Int)) rfl (zZ (by omega)) ?_
  refine zV (ι := ApG) (j := ⟨l + 1, upS (rls Es) (l + 1) A1, upS (rls Es) (l + 1) B1, C1⟩) hnx (by show m - (l + 1) < m - l; omega) ⟨rfl, rfl, rfl, trivial⟩ ?_
  exact uI
 obtain rfl : l = m := by omega
 refine kM (qU (qU (zK (qM (qN (qL (uA rfl (qO (qM (kE ?_))))))))))
 exact uZe rfl (.tmp rfl .nil) ⟨true, rfl, (fun _ => ⟨l, hm, hev, hI.bd⟩), rfl⟩
end
end Go.Proofs.YtlleicanafioaaaDoor
namespace Sl
open Go Go.RowKit
variable {E : Env} {n : Nat} {L : Fr} {S : List HP} {ty : TypeId} {pos : String} {af : Array Edge} {d : Option Nat} {gd : Option (Nat × Bool)}
theorem qZl (i : Nat) : IntKind.i64.wrap ((BitVec.ofInt IntKind.i64.bits (i : Int) &&& BitVec.ofInt IntKind.i64.bits 1).toNat : Nat) = ((i % 2 : Nat) : Int) := by
 have h1 : (BitVec.ofInt IntKind.i64.bits (i : Int) &&& BitVec.ofInt IntKind.i64.bits 1).toNat = i % 2 := by
  show (BitVec.ofInt 64 (i : Int) &&& BitVec.ofInt 64 1).toNat = i % 2
  rw [BitVec.toNat_and, BitVec.ofInt_natCast, BitVec.toNat_ofNat, show (BitVec.ofInt 64 1).toNat = 1 from rfl, Nat.and_one_is_mod]
  omega
 rw [h1]
 exact kR (by omega) (by omega)
theorem y_and_i {x y : Operand} {xt yt : TypeId} {i : Nat} (hx : ev L x = some (.int .i64 (i : Nat))) (hy : ev L y = some (.int .i64 1)) :
  Yl E n L S ⟨d, .binOp .and xt x y yt, ty, pos, af, gd⟩ (.int .i64 ((i % 2 : Nat) : Int)) := fun a w g q => by
 have := y_and (xt := xt) (yt := yt) (ty := ty) (pos := pos) (af := af) (d := d) (gd := gd) (S := S) hx hy a w g q
 rw [qZl] at this
 exact this
end Sl
namespace Go.Proofs.YtlleicanafioaaaDoor
open Go Go.RowKit Sl Eg
set_option maxRecDepth 10000
section
variable {E : Env}
def len8 : ByteArray := ⟨([0, 1] ++ (List.replicate 2 2 ++ (List.replicate 4 3 ++ (List.replicate 8 4 ++ (List.replicate 16 5 ++ (List.replicate 32 6 ++ (List.replicate 64 7 ++ List.replicate 128 8)))))) : List UInt8).toArray⟩
theorem len8_all : (List.range 256).all (fun k => k == 0 || (match len8[k]? with | some c => decide (1 ≤ c.toNat) && (decide (2 ^ (c.toNat - 1) ≤ k) && decide (k < 2 ^ c.toNat)) | none => false)) = true := by decide +kernel
theorem len8_at {k : Nat} (h1 : 1 ≤ k) (h2 : k < 256) : ∃ c n, len8[k]? = some c ∧ c.toNat = n + 1 ∧ 2 ^ n ≤ k ∧ k < 2 ^ (n + 1) := by
 have h := List.all_eq_true.1 len8_all k (List.mem_range.2 h2)
 have hk : (k == 0) = false := by simp; omega
 rw [hk, Bool.false_or] at h
 cases e : len8[k]? with
 | none => rw [e] at h; simp at h
 | some c =>
  rw [e] at h
  simp only [Bool.and_eq_true, decide_eq_true_eq] at h
  obtain ⟨g1, g2, g3⟩ := h
  refine ⟨c, c.toNat - 1, rfl, by omega, g2, ?_⟩
  rw [show c.toNat - 1 + 1 = c.toNat by omega]
  exact g3
theorem wrap_8 {i : Nat} (h : i < 256) : IntKind.u8.wrap ((i : Nat) : Int) = (i : Nat) := by
 simp [IntKind.wrap, IntKind.bits, IntKind.signed]
 omega
theorem ct_Len64 (hE : Seat E) {k : Nat} (h1 : 1 ≤ k) (h2 : k < 18446744073709551616) : Ct E 74 [.int .u64 (k : Nat)] [] (fun v Q => ∃ n : Nat, v = .int .i64 ((n + 1 : Nat) : Int) ∧ 2 ^ n ≤ k ∧ k < 2 ^ (n + 1) ∧ Q = []) := by
 obtain ⟨x, hx⟩ : ∃ x, x = k := ⟨_, rfl⟩
 obtain ⟨n, hn0⟩ : ∃ n, n = 0 := ⟨_, rfl⟩
 have hx1 : 1 ≤ x := by omega
 have hx2 : x < 18446744073709551616 := by omega
 have hn : n ≤ 0 := by omega
 have hk1 : 2 ^ n * x ≤ k := by rw [hn0, hx, Nat.pow_zero, Nat.one_mul]; exact Nat.le_refl _
 have hk2 : k < 2 ^ n * (x + 1) := by rw [hn0, hx, Nat.pow_zero, Nat.one_mul]; exact Nat.lt_succ_self _
 refine zR (hE.fn Tryd.func74) rfl rfl rfl (fun R => ?_)
 simp only [qAo, uV, uW]
 refine qN (qL (uA rfl (qO (qM ?_))))
 refine w_eq 2 (.int .i64 ((n : Nat) : Int)) rfl (zZ (by omega)) ?_
 refine w_eq 0 (.int .u64 ((x : Nat) : Int)) rfl (congrArg (Value.int IntKind.u64) (by omega)) ?_
 clear hx hn0 h1 h2
 refine qIe (fun q : Nat × Nat => [(0, .int .u64 (q.1 : Nat)), (2, .int .i64 (q.2 : Nat))]) (fun _ => [R]) (fun q => 1 ≤ q.1 ∧ q.1 < 4294967296 ∧ q.2 ≤ n + 32 ∧ 2 ^ q.2 * q.1 ≤ k ∧ k < 2 ^ q.2 * (q.1 + 1)) ?_ ?_
 ·refine qN (qL ?_)
  refine uM rfl (uB (y_ge rfl rfl) ?_)
  refine qO (qM ?_)
  refine zH rfl (fun g1 => ?_) (fun g1 => ?_)
  ·refine qN (qL ?_)
   refine uM rfl (uB (qKj (i := x) (j := 32) rfl rfl (by decide)) ?_)
   refine uA rfl (qO (qM (qL (uA rfl (qO ?_)))))
   refine qBq (ι := Nat × Nat) (x / 2 ^ 32, n + 32) ⟨by show 1 ≤ x / 2 ^ 32; omega, by show x / 2 ^ 32 < 4294967296; omega, Nat.le_refl _, ?_, ?_⟩ ⟨rfl, congrArg some (zZ (by omega)), trivial⟩ uI
   ·show 2 ^ (n + 32) * (x / 2 ^ 32) ≤ k
    rw [Nat.pow_add, Nat.mul_assoc]
    exact Nat.le_trans (Nat.mul_le_mul_left _ (Nat.mul_div_le x _)) hk1
   show k < 2 ^ (n + 32) * (x / 2 ^ 32 + 1)
   rw [Nat.pow_add, Nat.mul_assoc]
   exact Nat.lt_of_lt_of_le hk2 (Nat.mul_le_mul_left _ (Nat.lt_mul_div_succ x (by decide)))
  refine zF ?_
  refine qBq (ι := Nat × Nat) (x, n) ⟨hx1, by show x < 4294967296; omega, Nat.le_add_right _ _, hk1, hk2⟩ ⟨rfl, rfl, trivial⟩ uI
 clear hx1 hx2 hk1 hk2
 rintro ⟨x', n'⟩ ⟨hx1, hx2, hn', hk1, hk2⟩
 simp only at hx1 hx2 hn' hk1 hk2 ⊢
 have hnn : n' ≤ 32 := by omega
 clear hn' hn
 clear x n
 obtain ⟨x, rfl⟩ : ∃ x, x = x' := ⟨_, rfl⟩
 obtain ⟨n, rfl⟩ : ∃ n, n = n' := ⟨_, rfl⟩
 have hn := hnn
 clear hnn
 refine qIe (fun q : Nat × Nat => [(0, .int .u64 (q.1 : Nat)), (2, .int .i64 (q.2 : Nat))]) (fun _ => [R]) (fun q => 1 ≤ q.1 ∧ q.1 < 65536 ∧ q.2 ≤ n + 16 ∧ 2 ^ q.2 * q.1 ≤ k ∧ k < 2 ^ q.2 * (q.1 + 1)) ?_ ?_
 ·refine qN (qL ?_)
  refine uM rfl (uB (y_ge rfl rfl) ?_)
  refine qO (qM ?_)
  refine zH rfl (fun g4 => ?_) (fun g4 => ?_)
  ·refine qN (qL ?_)
   refine uM rfl (uB (qKj (i := x) (j := 16) rfl rfl (by decide)) ?_)
   refine uA rfl (qO (qM (qL (uM rfl (uB (uAa rfl rfl) ?_)))))
   refine uA rfl (qO ?_)
   refine qBq (ι := Nat × Nat) (x / 2 ^ 16, n + 16) ⟨by show 1 ≤ x / 2 ^ 16; omega, by show x / 2 ^ 16 < 65536; omega, Nat.le_refl _, ?_, ?_⟩ ⟨rfl, congrArg some (zZ (by omega)), trivial⟩ uI
   ·show 2 ^ (n + 16) * (x / 2 ^ 16) ≤ k
    rw [Nat.pow_add, Nat.mul_assoc]
    exact Nat.le_trans (Nat.mul_le_mul_left _ (Nat.mul_div_le x _)) hk1
   show k < 2 ^ (n + 16) * (x / 2 ^ 16 + 1)
   rw [Nat.pow_add, Nat.mul_assoc]
   exact Nat.lt_of_lt_of_le hk2 (Nat.mul_le_mul_left _ (Nat.lt_mul_div_succ x (by decide)))
  refine zF ?_
  refine qBq (ι := Nat × Nat) (x, n) ⟨hx1, by show x < 65536; omega, Nat.le_add_right _ _, hk1, hk2⟩ ⟨rfl, rfl, trivial⟩ uI
 clear hx1 hx2 hk1 hk2
 rintro ⟨x', n'⟩ ⟨hx1, hx2, hn', hk1, hk2⟩
 simp only at hx1 hx2 hn' hk1 hk2 ⊢
 have hnn : n' ≤ 48 := by omega
 clear hn' hn
 clear x n
 obtain ⟨x, rfl⟩ : ∃ x, x = x' := ⟨_, rfl⟩
 obtain ⟨n, rfl⟩ : ∃ n, n = n' := ⟨_, rfl⟩
 have hn := hnn
 clear hnn
 refine qIe (fun q : Nat × Nat => [(0, .int .u64 (q.1 : Nat)), (2, .int .i64 (q.2 : Nat))]) (fun _ => [R]) (fun q => 1 ≤ q.1 ∧ q.1 < 256 ∧ q.2 ≤ n + 8 ∧ 2 ^ q.2 * q.1 ≤ k ∧ k < 2 ^ q.2 * (q.1 + 1)) ?_ ?_
 ·refine qN (qL ?_)
  refine uM rfl (uB (y_ge rfl rfl) ?_)
  refine qO (qM ?_)
  refine zH rfl (fun g7 => ?_) (fun g7 => ?_)
  ·refine qN (qL ?_)
   refine uM rfl (uB (qKj (i := x) (j := 8) rfl rfl (by decide)) ?_)
   refine uA rfl (qO (qM (qL (uM rfl (uB (uAa rfl rfl) ?_)))))
   refine uA rfl (qO ?_)
   refine qBq (ι := Nat × Nat) (x / 2 ^ 8, n + 8) ⟨by show 1 ≤ x / 2 ^ 8; omega, by show x / 2 ^ 8 < 256; omega, Nat.le_refl _, ?_, ?_⟩ ⟨rfl, congrArg some (zZ (by omega)), trivial⟩ uI
   ·show 2 ^ (n + 8) * (x / 2 ^ 8) ≤ k
    rw [Nat.pow_add, Nat.mul_assoc]
    exact Nat.le_trans (Nat.mul_le_mul_left _ (Nat.mul_div_le x _)) hk1
   show k < 2 ^ (n + 8) * (x / 2 ^ 8 + 1)
   rw [Nat.pow_add, Nat.mul_assoc]
   exact Nat.lt_of_lt_of_le hk2 (Nat.mul_le_mul_left _ (Nat.lt_mul_div_succ x (by decide)))
  refine zF ?_
  refine qBq (ι := Nat × Nat) (x, n) ⟨hx1, by show x < 256; omega, Nat.le_add_right _ _, hk1, hk2⟩ ⟨rfl, rfl, trivial⟩ uI
 clear hx1 hx2 hk1 hk2
 rintro ⟨x', n'⟩ ⟨hx1, hx2, hn', hk1, hk2⟩
 simp only at hx1 hx2 hn' hk1 hk2 ⊢
 have hnn : n' ≤ 56 := by omega
 clear hn' hn
 clear x n
 obtain ⟨x, rfl⟩ : ∃ x, x = x' := ⟨_, rfl⟩
 obtain ⟨n, rfl⟩ : ∃ n, n = n' := ⟨_, rfl⟩
 have hn := hnn
 clear hnn
 obtain ⟨c, m, f0, hcn, hm1, hm2⟩ := len8_at hx1 hx2
 have hcb := c.toNat_lt
 have hm8 : m ≤ 255 := by omega
 refine qN (qL (uM rfl (uM rfl (uB (kQ rfl (hE.t rfl) (hE.t rfl) (wrap_8 hx2)) ?_))))
 refine uB (qZi (bs := len8) rfl rfl (hE.t rfl) (by omega) f0) ?_
 refine uB (kQ (i := (c.toNat : Int)) rfl (hE.t rfl) (hE.t rfl) (kR (by omega) (by omega))) ?_
 refine uB (y_add (j := (c.toNat : Int)) rfl rfl (by omega) (by omega)) ?_
 refine uA rfl (qO (qM (kE ?_)))
 apply kF
 ·rfl
 ·(apply Rs.tmp rfl; exact Rs.nil)
 ·refine ⟨n + m, congrArg (fun z => Value.int .i64 z) (by omega), ?_, ?_, rfl⟩
  ·rw [Nat.pow_add]
   exact Nat.le_trans (Nat.mul_le_mul_left _ hm1) hk1
  rw [Nat.add_assoc, Nat.pow_add]
  exact Nat.lt_of_lt_of_le hk2 (Nat.mul_le_mul_left _ hm2)
 exact uI
end
section
variable {E : Env} {Es : List Ent} {pp tb s most : Nat}
theorem pow_60 {n k : Nat} (h : 2 ^ n ≤ k) (h2 : k ≤ 1152921504606846976) : n ≤ 60 := by
 apply Classical.byContradiction
 intro hn
 have h3 := Nat.pow_le_pow_right (n := 2) (by omega) (show 61 ≤ n by omega)
 have h4 : (2 : Nat) ^ 61 = 2305843009213693952 := by decide
 omega
theorem ct_Log (hE : Seat E) {k : Nat} (h1 : 1 ≤ k) (h2 : k ≤ 1152921504606846976) : Ct E 51 [.int .i64 (k : Nat)] [] (fun v Q => ∃ n : Nat, v = .int .i64 (n : Nat) ∧ 2 ^ n ≤ k ∧ k < 2 ^ (n + 1) ∧ Q = []) := by
 refine zR (hE.fn Tryd.func51) rfl rfl rfl (fun R => ?_)
 simp only [qAo, uV, uW]
 refine qN (qL (uA rfl (qO (qM (qN (qN (qL (uM rfl (uB (y_lt rfl rfl) ?_)))))))))
 refine qO (qM ?_)
 refine zH rfl (fun g1 => ?_) (fun g1 => ?_)
 ·exfalso; omega
 refine zF (qM (qN (qL (uM rfl (uB (kQ (i := ((k : Nat) : Int)) rfl (hE.t rfl) (hE.t rfl) (kS (by omega) (by omega))) ?_)))))
 refine uX (ct_Len64 hE h1 (by omega)) rfl ?_
 rintro _ _ ⟨n, rfl, hn1, hn2, rfl⟩
 have hn : n ≤ 60 := pow_60 hn1 h2
 simp only [uV, uW]
 refine uB (uAs rfl rfl) ?_
 refine uA rfl (qO (qM (kE ?_)))
 exact uZ rfl (.tmp rfl .nil) ⟨n, by simp only [one]; exact congrArg (Value.int IntKind.i64) (by omega), hn1, hn2, rfl⟩
theorem zAi (hE : Seat E) {n : Nat} (h : n ≤ kK) : Ct E 44 [.int .i64 (n : Nat)] [] (fun v Q => v = .bool true ∧ Q = []) := by
 apply qKp
 intro w
 rw [hE.P]
 exact qBz n w h
theorem zAh (hE : Seat E) {a k : Nat} (h : a * k ≤ 1152921504606846976) (ha : a ≤ 1152921504606846976) (hk : k ≤ 1152921504606846976) : Ct E 22 [.int .i64 (a : Nat), .int .i64 (k : Nat)] [] (fun v Q => v = .tuple #[.int .i64 ((a * k : Nat) : Int), .nilIface] ∧ Q = []) := by
 have hmx : kK = 1152921504606846976 := rfl
 have hc : ((a * k : Nat) : Int) = (a : Int) * (k : Int) := Int.natCast_mul a k
 refine zR (hE.fn Tryd.func22) rfl rfl rfl (fun R => ?_)
 simp only [qAo, uV, uW]
 refine qN (qL (uA rfl (uA rfl (qO (qM (qN (qN (qL (uM rfl (uX (zAi hE (by omega)) rfl ?_))))))))))
 rintro _ _ ⟨rfl, rfl⟩
 simp only [uV, uW]
 refine uB (qIf rfl) ?_
 refine uM rfl (kT rfl rfl (uM rfl (kT rfl rfl (uB (y_lt rfl rfl) ?_))))
 apply qD
 ·(first | exact zA rfl rfl | exact zB rfl rfl)
 ·rfl
 refine qO (qM ?_)
 refine zH rfl (fun g1 => ?_) (fun g1 => ?_)
 ·exfalso; omega
 refine zF (qM (qN (qN (qL (uM rfl (uB (y_eq rfl rfl) ?_))))))
 refine qO (qM ?_)
 refine zH rfl (fun g2 => ?_) (fun g2 => ?_)
 ·have h0 : a = 0 := by omega
  subst h0
  refine qN (qL (uA rfl (uA rfl (qO (qM (kE (qZ ?_)))))))
  exact uZ rfl (.tmp rfl (.tmp rfl .nil)) ⟨by simp [one], rfl⟩
 have ha1 : (1 : Int) ≤ (a : Int) := by omega
 have hq : (k : Int) ≤ 1152921504606846976 / (a : Int) := by
  rw [Int.le_ediv_iff_mul_le (by omega), Int.mul_comm]
  omega
 refine zF (qM (qN (qN (qL (uM rfl (uM rfl (uB (y_quo rfl rfl (by omega) (by omega) (by omega)) ?_)))))))
 refine uB (y_gt rfl rfl) ?_
 refine qO (qM ?_)
 refine zH rfl (fun g3 => ?_) (fun g3 => ?_)
 ·exfalso; omega
 refine zF (qM (qN (qL ?_)))
 refine uM rfl (uM rfl (uB (y_mul rfl rfl (by omega) (by omega)) ?_))
 refine uA rfl (uA rfl (qO (qM (kE ?_))))
 rw [← hc]
 exact uZ rfl (.tmp rfl (.tmp rfl .nil)) ⟨rfl, rfl⟩
theorem Sn.upl {Es M : List Ent} {bs : List UInt8} {x : Nat} (h : Sn (rls Es) bs x) : Sn (rls (Es ++ M)) bs x := by rw [kJ]; exact h.ext _
structure DoG where
 i : Nat
 M : List Ent
 y : Nat
theorem half_pow (k i : Nat) : k / 2 ^ i = 2 * (k / 2 ^ (i + 1)) + k / 2 ^ i % 2 := by
 rw [Nat.pow_succ, ← Nat.div_div_eq_div_mul]
 omega
def Chn (k : Nat) (t : List UInt8) (L : List Rl) (j : Nat) : Prop := ∃ s c, s < 32 ∧ 1 ≤ c ∧ (c = k / 2 ^ s ∨ c = 2 * (k / 2 ^ (s + 1))) ∧ InRow L (rep c t) j
theorem Chn.ext {k : Nat} {t : List UInt8} {L : List Rl} {j : Nat} (h : Chn k t L j) (M : List Rl) : Chn k t (L ++ M) j := by
 obtain ⟨s, c, h1, h2, h3, h4⟩ := h
 exact ⟨s, c, h1, h2, h3, h4.ext M⟩
def RmC (Es : List Ent) (most k : Nat) (t : List UInt8) : Prop := ∀ M : List Ent, Wf (rls (Es ++ M)) → (∀ j, Es.length < j → j ≤ (Es ++ M).length → Chn k t (rls (Es ++ M)) j) → (Es ++ M).length < most
theorem RmC.now {Es : List Ent} {most k : Nat} {t : List UInt8} (h : RmC Es most k t) (hw : Wf (rls Es)) : Es.length < most := by
 have := h [] (by rw [List.append_nil]; exact hw) (fun j h1 h2 => by rw [List.append_nil] at h2; omega)
 rwa [List.append_nil] at this
theorem zAd (hE : Seat E) (hB : Base E.w0) {x k : Nat} {t : List UInt8} (hx : Sn (rls Es) t x) (h2 : 2 ≤ k) (hk : k ≤ 4294967295) (hlen : k * t.length ≤ 800000000000) (hroom : RmC Es most k t) :
  Ct E 27 [uPt pp, .int .i64 (x : Nat), .int .i64 (k : Nat)] [cells pp [uPt s, uPt tb] 57, tabP tb s (rls Es), zU s most Es]
   (fun v Q => ∃ M id, v = .tuple #[.int .i64 (id : Nat), .nilIface] ∧ (∀ j, Es.length < j → j ≤ (Es ++ M).length → Chn k t (rls (Es ++ M)) j) ∧ Sn (rls (Es ++ M)) (rep k t) id ∧ Q = [cells pp [uPt s, uPt tb] 57, tabP tb s (rls (Es ++ M)), zU s most (Es ++ M)]) := by
 refine zR (hE.fn Tryd.func27) rfl rfl rfl (fun R => ?_)
 simp only [qAo, uV, uW]
 refine qN (qL (uA rfl (uA rfl (qO (qM (qN (qL (uM rfl (uA rfl (qO (qM (qN (qN (qL (uM rfl ?_)))))))))))))))
 refine uX (ct_Log hE (by omega) (by omega)) rfl ?_
 rintro _ _ ⟨n, rfl, hn1, hn2, rfl⟩
 simp only [uV, uW]
 have hc1 : k / 2 ^ n = 1 := by
  have h3 : k < 2 * 2 ^ n := by rw [Nat.pow_succ] at hn2; omega
  exact Nat.div_eq_of_lt_le (by omega) (by omega)
 have hn16 : n ≤ 31 := by
  apply Classical.byContradiction
  intro h
  have := Nat.pow_le_pow_right (n := 2) (by omega) (show 32 ≤ n by omega)
  omega
 refine uB (uAs rfl rfl) ?_
 refine uA rfl (qO (qM (zN ?_)))
 refine qDb (fun q : DoG => [(0, uPt pp), (1, .int .i64 (x : Nat)), (2, .int .i64 (k : Nat)), (8, .int .i64 (q.y : Nat)), (9, .int .i64 (((q.i : Nat) : Int) - 1))]) (fun q => [cells pp [uPt s, uPt tb] 57, tabP tb s (rls (Es ++ q.M)), zU s most (Es ++ q.M), R]) (fun q => q.i) (fun q => q.i ≤ n ∧ Sn (rls (Es ++ q.M)) (rep (k / 2 ^ q.i) t) q.y ∧ (∀ j, Es.length < j → j ≤ (Es ++ q.M).length → Chn k t (rls (Es ++ q.M)) j)) ⟨n, [], x⟩ ⟨Nat.le_refl _, by rw [hc1, qNx, List.append_nil]; exact hx, fun j j1 j2 => by simp at j2; omega⟩ ⟨rfl, rfl, rfl, rfl, rfl, trivial⟩ ?_ ?_
 ·rw [List.append_nil]
  exact uI
 rintro ⟨i1, M, y⟩ ⟨hin, hy, hM⟩
 simp only at hin hy hM ⊢
 refine qN (qN (qL (uM rfl (uB (y_ge rfl rfl) ?_))))
 refine qO (qM ?_)
 refine zH rfl (fun hlt => ?_) (fun hlt => ?_)
 ·obtain ⟨i, rfl⟩ : ∃ i, i1 = i + 1 := ⟨i1 - 1, by omega⟩
  have hh := half_pow k i
  obtain ⟨c, hc⟩ : ∃ c, c = k / 2 ^ (i + 1) := ⟨_, rfl⟩
  obtain ⟨b, hb⟩ : ∃ b, b = k / 2 ^ i % 2 := ⟨_, rfl⟩
  have hb2 : b < 2 := by rw [hb]; omega
  have hle : k / 2 ^ i ≤ k := Nat.div_le_self _ _
  rw [← hc] at hy
  rw [← hc, ← hb] at hh
  have hmul : (2 * c + b) * t.length ≤ k * t.length := Nat.mul_le_mul_right _ (by omega)
  have hex : (2 * c + b) * t.length = 2 * (c * t.length) + b * t.length := by rw [Nat.add_mul, Nat.mul_assoc]
  have hbt : b * t.length ≤ t.length := by
   have := Nat.mul_le_mul_right t.length (show b ≤ 1 by omega)
   omega
  have hrl := qBx c t
  have hel : (Es ++ M).length = Es.length + M.length := List.length_append
  have n1 : (rep c t).length + (rep c t).length ≤ 800000000000 := by omega
  have hcp : 1 ≤ c := by
   rw [hc]
   exact Nat.div_pos (Nat.le_trans (Nat.pow_le_pow_right (by omega) (show i + 1 ≤ n by omega)) hn1) (Nat.pow_pos (by omega))
  have e2c : rep c t ++ rep c t = rep (2 * c) t := by rw [← qKw, ← Nat.two_mul]
  have r1 : RmT (Es ++ M) most (rep c t ++ rep c t) := fun K hwK hK => by
   rw [List.append_assoc] at hwK ⊢
   refine hroom (M ++ K) hwK fun j j1 j2 => ?_
   rw [← List.append_assoc] at j2 ⊢
   rcases Nat.lt_or_ge (Es ++ M).length j with h3 | h3
   ·have h4 := hK j h3 j2
    rw [e2c] at h4
    exact ⟨i, 2 * c, by omega, by omega, .inr (by rw [hc]), h4⟩
   rw [kJ]
   exact (hM j j1 h3).ext _
  refine zF (qM (qN (zN (qN (qL (uM rfl (uM rfl (uM rfl (uX (qUu (Es := Es ++ M) hE hB hy hy n1 r1) rfl ?_)))))))))
  rintro _ _ ⟨N, z, rfl, hN, hz, -, hw1, rfl⟩
  have hM2 : (∀ j, Es.length < j → j ≤ (Es ++ (M ++ N)).length → Chn k t (rls (Es ++ (M ++ N))) j) := fun j j1 j2 => by
   rw [← List.append_assoc] at j2 ⊢
   rcases Nat.lt_or_ge (Es ++ M).length j with h3 | h3
   ·have h4 := hw1 j h3 j2
    rw [e2c] at h4
    exact ⟨i, 2 * c, by omega, by omega, .inr (by rw [hc]), h4⟩
   rw [kJ]
   exact (hM j j1 h3).ext _
  rw [List.append_assoc] at hz ⊢
  rw [← qKw, ← Nat.two_mul] at hz
  simp only [uV, uW]
  refine uM rfl (uB (qX rfl rfl) (uB (qX rfl rfl) (uA rfl (uA rfl (qO (qM (qN (qN (qL (uM rfl ?_))))))))))
  apply qD
  ·(first | exact qAk rfl (hE.t rfl) | exact qCf rfl (hE.t rfl))
  ·rfl
  refine qO (qM (zG rfl (zF (qM (qN (qL (uM rfl (uA rfl (qO (qM (qN (qN (qL (uM rfl ?_))))))))))))))
  refine l_eq 9 (.int .i64 ((i : Nat) : Int)) rfl (zZ (by omega)) ?_
  refine uM rfl (uB (qKj rfl rfl (by show _ ≤ 64; first | omega | exact Nat.le_of_ble_eq_true rfl)) ?_)
  apply qD
  ·(first | exact y_and_i rfl rfl | exact y_and rfl rfl)
  ·rfl
  refine uB (y_eq rfl rfl) ?_
  refine qO (qM ?_)
  rw [← hb]
  refine zH rfl (fun h0 => ?_) (fun h0 => ?_)
  ·obtain rfl : b = 0 := by omega
   rw [Nat.add_zero] at hh
   refine kM (qU (zK (qM (qL (uM rfl (uB (uAs rfl rfl) ?_))))))
   refine uA rfl (qO ?_)
   refine zV (ι := DoG) (j := ⟨i, M ++ N, z⟩) ⟨by show i ≤ n; omega, by show Sn _ (rep (k / 2 ^ i) t) z; rw [hh]; exact hz, hM2⟩ (by show i < i + 1; omega) ⟨rfl, rfl, rfl, rfl, rfl, trivial⟩ ?_
   exact uI
  obtain rfl : b = 1 := by omega
  have hx2 : Sn (rls (Es ++ (M ++ N))) t x := hx.upl
  have hrl2 := qBx (2 * c) t
  have e2 : 2 * c * t.length = 2 * (c * t.length) := Nat.mul_assoc _ _ _
  have hel2 : (Es ++ (M ++ N)).length = Es.length + M.length + N.length := by simp; omega
  have n2 : (rep (2 * c) t).length + t.length ≤ 800000000000 := by omega
  have e3 : rep (2 * c) t ++ t = rep (2 * c + 1) t := by rw [qKw, qNx]
  have r2 : RmT (Es ++ (M ++ N)) most (rep (2 * c) t ++ t) := fun K hwK hK => by
   rw [List.append_assoc] at hwK ⊢
   refine hroom ((M ++ N) ++ K) hwK fun j j1 j2 => ?_
   rw [← List.append_assoc] at j2 ⊢
   rcases Nat.lt_or_ge (Es ++ (M ++ N)).length j with h3 | h3
   ·have h4 := hK j h3 j2
    rw [e3] at h4
    exact ⟨i, 2 * c + 1, by omega, by omega, .inl hh.symm, h4⟩
   rw [kJ]
   exact (hM2 j j1 h3).ext _
  refine zF (qM (qN (qL (uM rfl (uM rfl (uM rfl (uX (qUu (Es := Es ++ (M ++ N)) hE hB hz hx2 n2 r2) rfl ?_)))))))
  rintro _ _ ⟨N2, z2, rfl, hN2, hz2, -, hw2, rfl⟩
  have hM3 : (∀ j, Es.length < j → j ≤ (Es ++ (M ++ (N ++ N2))).length → Chn k t (rls (Es ++ (M ++ (N ++ N2)))) j) := fun j j1 j2 => by
   rw [← List.append_assoc M, ← List.append_assoc] at j2 ⊢
   rcases Nat.lt_or_ge (Es ++ (M ++ N)).length j with h3 | h3
   ·have h4 := hw2 j h3 j2
    rw [e3] at h4
    exact ⟨i, 2 * c + 1, by omega, by omega, .inl hh.symm, h4⟩
   rw [kJ]
   exact (hM2 j j1 h3).ext _
  rw [List.append_assoc, List.append_assoc] at hz2 ⊢
  rw [e3, ← hh] at hz2
  simp only [uV, uW]
  refine uM rfl (uB (qX rfl rfl) (uB (qX rfl rfl) (uA rfl (uA rfl (qO (qM (qN (qL (uM rfl ?_)))))))))
  apply qD
  ·(first | exact qAk rfl (hE.t rfl) | exact qCf rfl (hE.t rfl))
  ·rfl
  refine qO (qM (zG rfl (zF (zL (qM (qL (uM rfl (uB (uAs rfl rfl) ?_))))))))
  refine uA rfl (qO ?_)
  refine zV (ι := DoG) (j := ⟨i, M ++ (N ++ N2), z2⟩) ⟨by show i ≤ n; omega, hz2, hM3⟩ (by show i < i + 1; omega) ⟨rfl, rfl, rfl, rfl, rfl, trivial⟩ ?_
  exact uI
 obtain rfl : i1 = 0 := by omega
 rw [Nat.pow_zero, Nat.div_one] at hy
 refine kM (qU (qU (zK (qM (qN (qL (uM rfl (uA rfl (uA rfl (qO (qM (kE ?_))))))))))))
 exact uZ rfl (.tmp rfl (.tmp rfl .nil)) ⟨M, y, rfl, hM, hy, rfl⟩
end
section
variable {E : Env} {Es : List Ent} {pp tb s most : Nat}
theorem Apt.ext {L : List Rl} (M : List Rl) (hw : Wf L) (hw2 : Wf (L ++ M)) {x m : Nat} (hs : Sig L x) (h : Apt L x m) : Apt (L ++ M) x m := by
 obtain ⟨h1, h2, h3⟩ := h
 refine ⟨by rw [qCs M hs.le]; exact h1, h2, fun l hl => ?_⟩
 rw [qGi M hw hw2 x hs.le, qGi M hw hw2 x hs.le]
 have hin := hs.inv (l + 1) (by omega)
 rw [Nat.add_sub_cancel] at hin
 intro u v e1 e2
 rw [qAi M (hin.ok u (List.mem_of_getLast? e1)).2.1, qAi M (hin.ok v (List.mem_of_head? e2)).2.1]
 exact h3 l hl u v e1 e2
def RepPost (pp s tb most : Nat) (Es : List Ent) (k : Nat) (t : List UInt8) (v : Value) (Q : List HP) : Prop := ∃ M id, v = .tuple #[.int .i64 (id : Nat), .nilIface] ∧ (M.length ≤ 1 ∨ (∀ j, Es.length < j → j ≤ (Es ++ M).length → Chn k t (rls (Es ++ M)) j)) ∧ Sn (rls (Es ++ M)) (rep k t) id ∧ Q = [cells pp [uPt s, uPt tb] 57, tabP tb s (rls (Es ++ M)), zU s most (Es ++ M)]
theorem qVk {α : Type} (k : Nat) : rep k ([] : List α) = [] := by
 induction k with
 | zero => rfl
 | succ k ih => rw [qAu, ih]; rfl
theorem zAa (hE : Seat E) (hB : Base E.w0) {x k : Nat} {t : List UInt8} (hx : Sn (rls Es) t x) (hk1 : 1 ≤ k) (hk : k ≤ 4294967295) (hlen : k * t.length ≤ 800000000000) (hlt : t.length ≤ 400000000) (hroom : RmC Es most k t) :
  Ct E 9 [uPt pp, .int .i64 (x : Nat), .int .i64 (k : Nat)] [cells pp [uPt s, uPt tb] 57, tabP tb s (rls Es), zU s most Es] (RepPost pp s tb most Es k t) := by
 refine qAy (p := zU s most Es) uK (fun _ h => qAb h) (fun hsay => ?_)
 have hw := hsay.1
 have htx := hsay.2.1
 have hmx : kK = 1152921504606846976 := rfl
 have hx1 := hx.gd.1
 have lx := hx.len
 have lvx := hx.lv hw (by omega)
 have hrmn := hroom.now hw
 have hcm : len (rls Es) x * k = k * t.length := by rw [lx, Nat.mul_comm]
 rw [zT] at hx1
 refine zR (hE.fn Tryd.func9) rfl rfl rfl (fun R => ?_)
 simp only [qAo, uV, uW]
 refine qN (qL (uA rfl (uA rfl (qO (qM (qN (qN (qL (uM rfl (uX (qBb hE) rfl ?_))))))))))
 rintro _ _ ⟨rfl, rfl⟩
 simp only [uV, uW]
 apply qD
 ·(first | exact qBa rfl (hE.t rfl) | exact qDy rfl (hE.t rfl))
 ·rfl
 refine qO (qM (zG rfl (zF (qM (qN (qN (qL (uM rfl (uB (y_lt rfl rfl) ?_)))))))))
 refine uM rfl ?_
 refine qAn 20 rfl (fun h1 => ?_) (fun h1 => ?_)
 ·exfalso; omega
 refine kT rfl rfl (uM rfl (kT rfl rfl (uM rfl (kT rfl rfl (uX (qBb hE) rfl ?_)))))
 rintro _ _ ⟨rfl, rfl⟩
 simp only [uV, uW]
 refine kT rfl rfl (uX (qSu hE) rfl ?_)
 rintro _ _ ⟨rfl, rfl⟩
 simp only [uV, uW]
 refine kT rfl rfl (uB (y_gt rfl rfl) ?_)
 apply qD
 ·(first | exact zA rfl rfl | exact zB rfl rfl)
 ·rfl
 refine qO (qM ?_)
 refine zH rfl (fun h2 => ?_) (fun h2 => ?_)
 ·exfalso; omega
 refine zF (qM (qN (qL (uM rfl (uM rfl (uX (qIm hE hB hx.gd) rfl ?_))))))
 rintro _ _ ⟨rfl, rfl⟩
 simp only [uV, uW]
 refine uM rfl (uB (qX rfl rfl) (uB (qX rfl rfl) (uA rfl (uA rfl (qO (qM (qN (qN (qL (uM rfl ?_))))))))))
 apply qD
 ·(first | exact qAk rfl (hE.t rfl) | exact qCf rfl (hE.t rfl))
 ·rfl
 refine qO (qM (zG rfl (zF (qM (qN (qN (qL (uM rfl (uB (y_lt rfl rfl) ?_)))))))))
 refine qO (qM ?_)
 refine zH rfl (fun h3 => ?_) (fun h3 => ?_)
 ·exfalso; omega
 refine zF (qM (qN (qN (qL (uM rfl (uM rfl (uX (qEi hE hx.gd.1) rfl ?_)))))))
 rintro _ _ ⟨rfl, rfl⟩
 simp only [uV, uW]
 refine uM rfl (uX (zAh hE (by omega) (by omega) (by omega)) rfl ?_)
 rintro _ _ ⟨rfl, rfl⟩
 simp only [uV, uW]
 refine uM rfl (uB (qX rfl rfl) (uB (qX rfl rfl) (uA rfl (uA rfl (qO (qM (qN (qL (uM rfl ?_)))))))))
 apply qD
 ·(first | exact qAk rfl (hE.t rfl) | exact qCf rfl (hE.t rfl))
 ·rfl
 refine qO (qM (zG rfl (zF (qM (qN (qN (qL (uM rfl (uB (y_eq rfl rfl) ?_)))))))))
 refine uM rfl ?_
 refine qAn 53 rfl (fun h4 => ?_) (fun h4 => ?_)
 ·obtain rfl : x = 0 := by omega
  obtain rfl := hx.zero
  refine zW rfl rfl rfl rfl (zW rfl rfl rfl rfl ?_)
  apply qD
  ·(first | exact zA rfl rfl | exact zB rfl rfl)
  ·rfl
  refine qO (qM (zI rfl (qN (qL (uA rfl (uA rfl (qO (qM (kE (qZ ?_))))))))))
  exact uZ rfl (.tmp rfl (.tmp rfl .nil)) ⟨[], 0, rfl, .inl (Nat.zero_le _), by rw [qVk, List.append_nil]; exact hx, by rw [List.append_nil]⟩
 have hx0 : x ≠ 0 := by omega
 refine kT rfl rfl (uM rfl (kT rfl rfl (uB (y_eq rfl rfl) ?_)))
 apply qD
 ·(first | exact zA rfl rfl | exact zB rfl rfl)
 ·rfl
 refine qO (qM ?_)
 refine zH rfl (fun h5 => ?_) (fun h5 => ?_)
 ·exfalso; omega
 refine zF (qM (qN (qN (qL (uM rfl (uB (y_eq rfl rfl) ?_))))))
 refine uM rfl ?_
 refine qAn 59 rfl (fun h6 => ?_) (fun h6 => ?_)
 ·obtain rfl : k = 1 := by omega
  refine zW rfl rfl rfl rfl (zW rfl rfl rfl rfl ?_)
  apply qD
  ·(first | exact zA rfl rfl | exact zB rfl rfl)
  ·rfl
  refine qO (qM (zI rfl (qN (qL (uM rfl (uA rfl (uA rfl (qO (qM (kE (qZ ?_)))))))))))
  exact uZ rfl (.tmp rfl (.tmp rfl .nil)) ⟨[], x, rfl, .inl (Nat.zero_le _), by rw [qNx, List.append_nil]; exact hx, by rw [List.append_nil]⟩
 have hk2 : 2 ≤ k := by omega
 refine kT rfl rfl (uM rfl (kT rfl rfl (uB (y_gt rfl rfl) ?_)))
 apply qD
 ·(first | exact zA rfl rfl | exact zB rfl rfl)
 ·rfl
 refine qO (qM ?_)
 refine zH rfl (fun h7 => ?_) (fun h7 => ?_)
 ·exfalso; omega
 obtain ⟨hs, hl, ht1⟩ := hx.parts hw hx0
 obtain ⟨i, rfl⟩ : ∃ i, x = i + 1 := ⟨x - 1, by omega⟩
 have hil : i < Es.length := by omega
 obtain ⟨en, hent⟩ : ∃ e, Es[i]? = some e := ⟨_, List.getElem?_eq_getElem hil⟩
 have het : en.t = t := by rw [htx i en hent]; exact hx.tx
 have hrr := qVm hent
 refine zF (qM (qN (qN (qL (uM rfl (uX (qBb hE) rfl ?_))))))
 rintro _ _ ⟨rfl, rfl⟩
 simp only [uV, uW]
 refine uM rfl (uX (qMr hE hent) rfl ?_)
 rintro _ _ ⟨rfl, rfl⟩
 simp only [uV, uW]
 refine uM rfl (uB (qX rfl rfl) (uB (qX rfl rfl) (uU (kI (hE.t rfl) (fun b12 => ?_)))))
 refine uU ?_
 (first | (apply zO rfl rfl (hE.t rfl) rfl; (focus ((repeat constructor); done)); (focus rfl); (focus (exact Nat.le_of_ble_eq_true rfl))) | (apply qW rfl rfl (hE.t rfl) rfl; (focus ((repeat constructor); done)); (focus rfl); (focus (first | omega | (simp only [zS, qP, List.length_cons, List.length_nil]; omega)))))
 refine uA rfl (qO (qM (qN (qL (uM rfl ?_)))))
 apply qD
 ·(first | exact qFc rfl (hE.t rfl) | exact qDz rfl (hE.t rfl))
 ·rfl
 refine uM rfl (kT rfl rfl (uB (uBf rfl) ?_))
 refine kT rfl rfl (uL ?_)
 refine kT rfl rfl (uB (y_eq rfl rfl) ?_)
 apply qD
 ·(first | exact zA rfl rfl | exact zB rfl rfl)
 ·rfl
 refine qO (qM ?_)
 refine zH rfl (fun hkd => ?_) (fun hkd => ?_)
 ·obtain ⟨y, n, er⟩ : ∃ y n, en.r = .power y n := by
   cases e : en.r with
   | letter b => rw [e] at hkd; simp [Rl.kind] at hkd
   | pair a b => rw [e] at hkd; simp [Rl.kind] at hkd
   | power y n => exact ⟨y, n, rfl⟩
  rw [er] at hrr ⊢
  obtain ⟨m, p1, p2, p3, p4, p5, p6, p7⟩ := qTt (x := i + 1) hw hs hl hx.tx hrr
  obtain ⟨i2, rfl⟩ : ∃ i, y = i + 1 := ⟨y - 1, by have := p1.pos; omega⟩
  have hil2 : i2 < Es.length := by have := p1.le; rw [zT] at this; omega
  obtain ⟨en2, hent2⟩ : ∃ e, Es[i2]? = some e := ⟨_, List.getElem?_eq_getElem hil2⟩
  have het2 : en2.t = txt (rls Es) (i2 + 1) := htx i2 en2 hent2
  have htl : t.length = n * en2.t.length := by have e := congrArg List.length p6; rw [qBx] at e; rw [het2]; exact e
  have hy1 : 1 ≤ en2.t.length := by
   rcases Nat.eq_zero_or_pos en2.t.length with h | h
   ·rw [h, Nat.mul_zero] at htl; omega
   exact h
  have hn4 : n ≤ 400000000 := by
   have := Nat.mul_le_mul_left n hy1
   omega
  have hnk : n * k ≤ 400000000 * 4294967295 := Nat.mul_le_mul hn4 hk
  have hnk2 : 2 ≤ n * k := by have := Nat.mul_le_mul p4 hk1; omega
  have hpl : en2.t.length * (n * k) ≤ kK := by
   have : en2.t.length * (n * k) = k * t.length := by rw [htl, ← Nat.mul_assoc, Nat.mul_comm en2.t.length n, Nat.mul_comm]
   omega
  have hpw := qWm (s := s) (most := most) hE hent2 hnk2 hpl hrmn
  have hnc : ((n * k : Nat) : Int) = (n : Int) * (k : Int) := Int.natCast_mul n k
  have hb0 : (0 : Int) ≤ (n : Int) * (k : Int) := by omega
  have hb1 : (n : Int) * (k : Int) ≤ 400000000 * 4294967295 := by omega
  rw [hnc] at hpw
  have hb2 : (0 : Int) ≤ (((Rl.power (i2 + 1) n).times : Nat) : Int) * (k : Int) := hb0
  have hb3 : (((Rl.power (i2 + 1) n).times : Nat) : Int) * (k : Int) ≤ 400000000 * 4294967295 := hb1
  refine qN ?_
  refine uH ([cells pp [uPt s, uPt tb] 57, cells b12 [.int .i64 (Rl.kind ((Rl.power (i2 + 1) n)) : Nat), .int .u8 (Rl.byte ((Rl.power (i2 + 1) n)) : Nat), .int .i64 (Rl.left ((Rl.power (i2 + 1) n)) : Nat), .int .i64 (Rl.right ((Rl.power (i2 + 1) n)) : Nat), .int .i64 (Rl.times ((Rl.power (i2 + 1) n)) : Nat)] 72]) ?_
  refine uD 0 rfl (qE rfl) ?_
  refine uD 2 rfl (uBf rfl) ?_
  refine uD 3 rfl (uY) ?_
  refine uD 4 rfl (uBf rfl) ?_
  refine uD 5 rfl (uY) ?_
  refine uD 6 rfl (qE rfl) ?_
  refine uD 7 rfl (y_mul rfl rfl (by omega) (by omega)) ?_
  apply kP 1 rfl (by kernel_rfl) rfl
  refine uC (qBb hE) rfl ?_
  rintro _ _ ⟨rfl, rfl⟩
  simp only [uV, uW]
  refine uE ?_
  apply kP 8 rfl (by kernel_rfl) rfl
  refine uC (hpw) rfl ?_
  rintro _ _ ⟨M2, id, rfl, hM2, hid, hrl, rfl⟩
  obtain ⟨j, rfl⟩ : ∃ j, id = j + 1 := ⟨id - 1, by omega⟩
  rw [Nat.add_sub_cancel] at hrl
  simp only [uV, uW]
  refine uE ?_
  refine uD 9 rfl (qX rfl rfl) ?_
  refine uD 10 rfl (qX rfl rfl) ?_
  refine uD 11 rfl (qF rfl) ?_
  refine uD 12 rfl (qF rfl) ?_
  refine qGy (by kernel_rfl) ?_
  refine qM (kE (qZ ?_))
  refine qLs (p := zU s most (Es ++ M2)) uK (fun _ h => qAb h) ?_
  rintro ⟨hw2, -, -, -⟩
  have hx2 := hx.upl (M := M2)
  obtain ⟨hs2, hl2, _⟩ := hx2.parts hw2 hx0
  obtain ⟨m, r1, r2, r3, r4, r5, r6, r7⟩ := qTt (x := i + 1) hw2 hs2 hl2 hx2.tx (by rw [kJ]; exact qHf _ hrr)
  have hsn := zCc hw2 r1 r5 rfl hnk2 r2 r3 r7 hrl
  have ert : rep (n * k) (txt (rls (Es ++ M2)) (i2 + 1)) = rep k t := by rw [Nat.mul_comm, ← rep_mul, ← r6]
  rw [ert] at hsn
  refine zDc (kG (p := tabP tb s (rls Es)) (p' := tabP tb s (rls (Es ++ M2))) uK (fun _ h => by rw [kJ Es]; exact qGu _ h)) ?_
  exact uZ rfl (.tmp rfl (.tmp rfl .nil)) ⟨M2, j + 1, rfl, .inl hM2, hsn, rfl⟩
 refine zF (qM (qN (qN (qL ?_))))
 refine uM rfl (uM rfl (uX (ct_apart hE hB hx hx0 hlt) rfl ?_))
 rintro _ _ ⟨d, rfl, hd, rfl⟩
 simp only [uV, uW]
 refine qO (qM ?_)
 cases d with
 | true =>
  obtain ⟨m, hap⟩ := hd rfl
  have hpl : en.t.length * k ≤ kK := by rw [het, Nat.mul_comm]; omega
  have hpw := qWm (s := s) (most := most) hE hent hk2 hpl hrmn
  refine zI rfl (qN (qL (uM rfl (uX (qBb hE) rfl ?_))))
  rintro _ _ ⟨rfl, rfl⟩
  simp only [uV, uW]
  refine uM rfl (uM rfl (uX (hpw) rfl ?_))
  rintro _ _ ⟨M2, id, rfl, hM2, hid, hrl, rfl⟩
  obtain ⟨j, rfl⟩ : ∃ j, id = j + 1 := ⟨id - 1, by omega⟩
  rw [Nat.add_sub_cancel] at hrl
  simp only [uV, uW]
  refine uB (qX rfl rfl) (uB (qX rfl rfl) (uA rfl (uA rfl (qO (qM (kE (qZ ?_)))))))
  refine qLs (p := zU s most (Es ++ M2)) uK (fun _ h => qAb h) ?_
  rintro ⟨hw2, -, -, -⟩
  have hx2 := hx.upl (M := M2)
  obtain ⟨hs2, hl2, _⟩ := hx2.parts hw2 hx0
  have hap2 : Apt (rls (Es ++ M2)) (i + 1) m := by
   rw [kJ] at hw2 ⊢
   exact hap.ext _ hw hw2 hs
  have hsn := zCc hw2 hs2 hl2 hx2.tx hk2 hap2.1 hap2.2.1 hap2.2.2 hrl
  refine zDc (kG (p := tabP tb s (rls Es)) (p' := tabP tb s (rls (Es ++ M2))) uK (fun _ h => by rw [kJ Es]; exact qGu _ h)) ?_
  exact uZ rfl (.tmp rfl (.tmp rfl .nil)) ⟨M2, j + 1, rfl, .inl hM2, hsn, rfl⟩
 | false =>
  refine zG rfl (zF (qM (qN (qL (uM rfl (uM rfl (uM rfl (uX (zAd hE hB hx hk2 hk hlen hroom) rfl ?_))))))))
  rintro _ _ ⟨M, id, rfl, hM, hs2, rfl⟩
  simp only [uV, uW]
  refine uB (qX rfl rfl) (uB (qX rfl rfl) (uA rfl (uA rfl (qO (qM (kE ?_))))))
  exact uZ rfl (.tmp rfl (.tmp rfl .nil)) ⟨M, id, rfl, .inr hM, hs2, rfl⟩
end
end Go.Proofs.YtlleicanafioaaaDoor
