/- Plain: a splice between two levels; more rules. No program here. -/
import Derived.Test.YtkkjjablmmmmkaaGreatDoorQ02
import Derived.Test.YtkkjjablmmmmkaaGreatDoorQ33
set_option linter.unusedVariables false
set_option linter.unusedSimpArgs false
namespace Go.Proofs.YtkkjjablmmmmkaaGreatDoor
section
open Go Go.RowKit Sl Eg
theorem qKd {L : List Rl} (M : List Rl) (hw : Wf L) (hw2 : Wf (L ++ M)) {l : Nat} : ∀ x, x ≤ L.length → expd (L ++ M) l x = expd L l x := by
 intro x
 induction x using Nat.strongRecOn with
 | _ x ih =>
  intro hx
  rcases Nat.eq_zero_or_pos x with rfl | h1
  ·rfl
  obtain ⟨i, rfl⟩ : ∃ i, x = i + 1 := ⟨x - 1, by omega⟩
  have el := qDp M hx
  by_cases h : lvl L (i + 1) ≤ (l : Nat)
  ·rw [qBh h1 h, qBh h1 (by rw [el]; exact h)]
  ·have hr : L[i]? = some (L[i]'(by omega)) := List.getElem?_eq_getElem (by omega)
   generalize L[i]'(by omega) = r at hr
   have hk := hw.ok i r hr
   have hr2 := qKz M hr
   cases r with
   | letter b => have := (qBd hr).2; omega
   | pair a b =>
    obtain ⟨g1, g2, g3, g4⟩ := hk
    rw [qBz hw hr (by omega), qBz hw2 hr2 (by omega), ih a (by omega) (by omega), ih b (by omega) (by omega)]
   | power y k =>
    obtain ⟨g1, g2, g3⟩ := hk
    rw [qBx hw hr (by omega), qBx hw2 hr2 (by omega), ih y (by omega) (by omega)]
theorem zDh {L : List Rl} (M : List Rl) (hw : Wf L) (hw2 : Wf (L ++ M)) {l : Nat} {ids : List Nat} (h : ∀ x ∈ ids, x ≤ L.length) : qAm (L ++ M) l ids = qAm L l ids := by
 induction ids with
 | nil => rfl
 | cons x ids ih =>
  have e : ∀ K, qAm K l (x :: ids) = expd K l x ++ qAm K l ids := fun K => by simp [qAm]
  rw [e, e, ih fun y hy => h y (by simp [hy]), qKd M hw hw2 x (h x (by simp))]
theorem restR_le {L : List Rl} (hw : Wf L) {bh : Bool} {x hv : Nat} {r : Rl} (h1 : 1 ≤ x) (hr : L[x - 1]? = some r) : ∀ y ∈ qIq bh hv r, y ≤ L.length := by
 intro y hy
 have hx := (List.getElem?_eq_some_iff.1 hr).1
 have hk := hw.ok _ r hr
 cases r with
 | letter b => simp [qIq] at hy
 | pair a b =>
  obtain ⟨g1, g2, g3, g4⟩ := hk
  simp only [qIq] at hy
  split at hy
  ·have := List.mem_singleton.1 hy
   split at this <;> omega
  ·simp at hy
 | power z k =>
  obtain ⟨g1, g2, g3⟩ := hk
  have := (List.mem_replicate.1 hy).2
  omega
theorem zAr {L : List Rl} (M : List Rl) (hw : Wf L) (hw2 : Wf (L ++ M)) {bh : Bool} {l root x : Nat} {fs : List Fm} (h : Lk L bh root x fs) : qGj (L ++ M) bh l fs = qGj L bh l fs := by
 induction h with
 | nil => rfl
 | @snoc x hv fs r h1 h2 h3 h4 h5 h6 ih =>
  rw [qCr, qCr, ih, qEg h3, qEg (qKz M h3), zDh M hw hw2 (restR_le hw h2 h3)]
theorem Lk.ext {L : List Rl} (M : List Rl) {bh : Bool} {root x : Nat} {fs : List Fm} (h : Lk L bh root x fs) : Lk (L ++ M) bh root x fs := by
 induction h with
 | nil => exact .nil
 | snoc h1 h2 h3 h4 h5 h6 ih => exact .snoc ih h2 (qKz M h3) h4 h5 h6
theorem Sig.ext {L : List Rl} (M : List Rl) (hw : Wf L) (hw2 : Wf (L ++ M)) {x : Nat} (h : Sig L x) : Sig (L ++ M) x := by
 refine ⟨h.pos, by have := h.le; rw [List.length_append]; omega, by rw [qDp M h.le]; exact h.lv, fun k hk => ?_, fun k hk => ?_⟩
 ·rw [qKd M hw hw2 x h.le]; exact (h.inv k hk).ext M hw2
 ·rw [qKd M hw hw2 x h.le, qKd M hw hw2 x h.le]
  exact (h.step k hk).ext M fun y hy => ((h.inv k hk).ok y hy).2.1
theorem EO.ext {L : List Rl} (M : List Rl) (hw : Wf L) {bh : Bool} {l root x : Nat} {fs : List Fm} (hs : Sig L root) (h : EO L bh l root x fs) : EO (L ++ M) bh l root x fs := by
 obtain ⟨i1, i2⟩ := h.ids hw hs
 refine ⟨?_, fun f hf => by rw [qDp M (i2 f hf).2]; exact h.hi f hf⟩
 rcases h.lk with h0 | ⟨h1, h2, h3⟩
 ·exact .inl h0
 ·exact .inr ⟨h1, h2.ext M, by rw [qDp M i1]; exact h3⟩
theorem EO.seq_ext {L : List Rl} (M : List Rl) (hw : Wf L) (hw2 : Wf (L ++ M)) {bh : Bool} {l root x : Nat} {fs : List Fm} (hs : Sig L root) (h : EO L bh l root x fs) : seqE (L ++ M) bh l x fs = seqE L bh l x fs := by
 obtain ⟨i1, i2⟩ := h.ids hw hs
 rcases h.lk with ⟨rfl, rfl⟩ | ⟨h1, h2, h3⟩
 ·rw [qGm, qGm]
 ·unfold seqE
  rw [qKd M hw hw2 x i1, zAr M hw hw2 h2]
theorem upF_ext {L : List Rl} (M : List Rl) {lv x : Nat} {fs : List Fm} (h : ∀ f ∈ fs, 1 ≤ f.id ∧ f.id ≤ L.length) : upF (L ++ M) lv x fs = upF L lv x fs := by
 rcases List.eq_nil_or_concat fs with rfl | ⟨gs, f, rfl⟩
 ·rfl
 ·rw [List.concat_eq_append] at *
  have hf := h f (by simp)
  rw [qMm, qMm, qDp M hf.2, qYg M hf.1 hf.2]
theorem BB.ext {L : List Rl} (M : List Rl) {lv : Nat} {fs : List Fm} (hi : ∀ f ∈ fs, 1 ≤ f.id ∧ f.id ≤ L.length) (h : BB L lv fs) : BB (L ++ M) lv fs := fun f hf hl => by
 have := hi f hf
 rw [qYg M this.1 this.2]
 rw [qDp M this.2] at hl
 exact h f hf hl
theorem RL.ext {L : List Rl} (M : List Rl) (hw : Wf L) (hw2 : Wf (L ++ M)) {l root x : Nat} {fs : List Fm} {Z : List Nat} (hs : Sig L root) (h : RL L l root x fs Z) (hz : ∀ y ∈ Z, y ≤ L.length) : RL (L ++ M) l root x fs Z := by
 obtain ⟨i1, i2⟩ := h.eo.ids hw hs
 refine ⟨h.eo.ext M hw hs, h.bb.ext M i2, ?_⟩
 rw [h.eo.seq_ext M hw hw2 hs, upF_ext M i2, (h.eo.up hw hs h.bb).1.seq_ext M hw hw2 hs]
 intro u v e1 e2
 have hu : u ≤ L.length := (h.eo.mem hw hs u (List.mem_of_getLast? e1)).2.1
 have hv : v ≤ L.length := hz v (List.mem_of_head? e2)
 have := h.bd u v e1 e2
 rw [qCl M hu, qCl M hv]
 exact this
theorem RR.ext {L : List Rl} (N : List Rl) (hw : Wf L) (hw2 : Wf (L ++ N)) {l root x : Nat} {fs : List Fm} {M : List Nat} (hs : Sig L root) (h : RR L l root x fs M) (hz : ∀ y ∈ M, y ≤ L.length) : RR (L ++ N) l root x fs M := by
 obtain ⟨i1, i2⟩ := h.eo.ids hw hs
 refine ⟨h.eo.ext N hw hs, h.bb.ext N i2, ?_⟩
 rw [h.eo.seq_ext N hw hw2 hs]
 intro u v e1 e2
 have hu : u ≤ L.length := hz u (List.mem_of_getLast? e1)
 have hv : v ≤ L.length := (h.eo.mem hw hs v (List.mem_of_head? e2)).2.1
 have := h.bd u v e1 e2
 rw [qCl N hu, qCl N hv]
 exact this
theorem Sq.le {L : List Rl} {lv : Nat} {ids o : List Nat} (h : Sq L lv ids o) : o.length ≤ ids.length := by
 unfold Sq at h
 split at h
 ·induction h with
  | nil => simp
  | run h1 _ _ _ ih => simp; omega
 ·induction h with
  | nil => simp
  | one _ _ ih => simp; omega
  | two _ _ _ ih => simp; omega
theorem Sq.none {L : List Rl} {lv : Nat} {ids : List Nat} (h : Sq L lv ids []) : ids = [] := by
 unfold Sq at h
 cases ids with
 | nil => rfl
 | cons x r =>
  split at h
  ·exact absurd rfl h.nonempty
  ·exact absurd rfl h.nonempty
theorem Sq.text {L : List Rl} (hw : Wf L) {lv : Nat} {ids o : List Nat} (h : Sq L lv ids o) : rowT L o = rowT L ids := by
 unfold Sq at h
 split at h
 ·obtain ⟨rs, rfl, _, _, h4⟩ := h.rns
  exact h4.text hw
 ·obtain ⟨a, o', h1, rfl⟩ := h.prs
  exact h1.text hw
theorem Dk.left {L M : List Rl} (h : Dk (L ++ M)) : Dk L := fun x y h1 h2 h3 h4 e => h x y h1 (by rw [List.length_append]; omega) h3 (by rw [List.length_append]; omega) (by rw [qCl M h2, qCl M h4]; exact e)
theorem Rch.down {L : List Rl} (hw : Wf L) {bs : List UInt8} {lv : Nat} {out : List Nat} (h : Rch L bs (lv + 1) out) (h1 : 1 ≤ lv) : 2 ≤ (qAm L (lv - 1) out).length := by
 generalize e : lv + 1 = k at h
 cases h with
 | start _ => omega
 | odd h' g1 g2 g3 =>
  obtain rfl := Nat.succ.inj e
  have hs : Stp L lv _ out := .inl ⟨g1, g3⟩
  rw [hs.down (h'.rows hw).1 h1]
  exact g2
 | even h' g1 g2 g3 g4 =>
  obtain rfl := Nat.succ.inj e
  have hs : Stp L lv _ _ := .inr ⟨g1, _, _, g4, rfl⟩
  rw [hs.down (h'.rows hw).1 h1]
  exact g2
def rowS (L : List Rl) (l : Nat) (A B : Sd) (M : Md) : List Nat := seqE L false l A.x A.fs ++ (qLm M.its ++ seqE L true l B.x B.fs)
structure SpI (L : List Rl) (bs : List UInt8) (l a b : Nat) (A B : Sd) (M : Md) : Prop where
 sa : Sig L a
 sb : Sig L b
 ea : EO L false l a A.x A.fs
 eb : EO L true l b B.x B.fs
 ch : Rch L bs (l + 1) (rowS L l A B M)
 tx : rowT L (rowS L l A B M) = bs
 sng : Sng M.its
 one : (l + 1) % 2 = 0 → ∀ it ∈ M.its, it.times = 1
 ne : M.its = [] → A.x ≠ 0 ∧ B.x ≠ 0
def upS (L : List Rl) (lv : Nat) (A : Sd) : Sd := ⟨(upF L lv A.x A.fs).1, (upF L lv A.x A.fs).2, A.p, A.c⟩
theorem up_ne {L : List Rl} {lv x : Nat} {fs : List Fm} (h : ∀ f ∈ fs, 1 ≤ f.id ∧ f.id ≤ L.length) (hx : x ≠ 0) : (upF L lv x fs).1 ≠ 0 := by
 rcases List.eq_nil_or_concat fs with rfl | ⟨gs, f, rfl⟩
 ·exact hx
 ·rw [List.concat_eq_append] at *
  have hf := h f (by simp)
  rw [qMm]
  split
  ·show f.id ≠ 0; omega
  ·exact hx
theorem shp_ne {L : List Rl} {lv : Nat} {its : List It} (h : Shp L lv its) (hf : qLm its = []) : its = [] := by
 have hp : ∀ it ∈ its, 1 ≤ it.times := fun it hit => by
  unfold Shp at h
  split at h
  ·exact (h it hit).2
  ·split at h
   ·exact (h it hit).1
   ·exact (h.1 it hit).2
 cases its with
 | nil => rfl
 | cons it its =>
  have := it_mem (its := it :: its) (it := it) (by simp) (hp it (by simp))
  rw [hf] at this
  simp at this
theorem SpI.mem {L : List Rl} (hw : Wf L) {bs : List UInt8} {l a b : Nat} {A B : Sd} {M : Md} (h : SpI L bs l a b A B M) : ∀ y ∈ rowS L l A B M, 1 ≤ y ∧ y ≤ L.length := fun y hy => by
 have := (h.ch.rows hw).1.ok y hy
 exact ⟨this.1, this.2.1⟩
theorem Rdy.same {L : List Rl} {l a b : Nat} {A B A' B' : Sd} {M M' : Md} (h : Rdy L l a b A B M A' B' M') : rowS L l A' B' M' = rowS L l A B M := h.row
theorem SpI.step {L : List Rl} (N : List Rl) (hw : Wf L) (hw2 : Wf (L ++ N)) {bs : List UInt8} {l a b : Nat} {A B A' B' : Sd} {M M' : Md} (h : SpI L bs l a b A B M) (h2 : 2 ≤ (rowS L l A B M).length) (hr : Rdy L l a b A B M A' B' M') {M2 : Md} (hs : Sq (L ++ N) (l + 1) (qLm M'.its) (qLm M2.its)) (hsn : Sng M2.its) (h1 : (l + 1 + 1) % 2 = 0 → ∀ it ∈ M2.its, it.times = 1) (hn : N.length + (qLm M2.its).length ≤ (qLm M'.its).length) :
  SpI (L ++ N) bs (l + 1) a b (upS (L ++ N) (l + 1) A') (upS (L ++ N) (l + 1) B') M2 ∧ N.length + (rowS (L ++ N) (l + 1) (upS (L ++ N) (l + 1) A') (upS (L ++ N) (l + 1) B') M2).length ≤ (rowS L l A B M).length := by
 have hmem := h.mem hw
 rw [← hr.same] at hmem
 have sa2 := h.sa.ext N hw hw2
 have sb2 := h.sb.ext N hw hw2
 have rl2 := hr.left.ext N hw hw2 h.sa (fun y hy => (hmem y (by unfold rowS; rw [List.mem_append]; exact .inr hy)).2)
 have rr2 := hr.right.ext N hw hw2 h.sb (fun y hy => (hmem y (by unfold rowS; simp [hy])).2)
 have eA := hr.left.eo.seq_ext N hw hw2 h.sa
 have eB := hr.right.eo.seq_ext N hw hw2 h.sb
 have hst := qWb hw2 sa2 sb2 (by rw [eB]; exact rl2) rr2 hs
 have ua := rl2.eo.up hw2 sa2 rl2.bb
 have ub := rr2.eo.up hw2 sb2 rr2.bb
 have erow : seqE (L ++ N) false l A'.x A'.fs ++ (qLm M'.its ++ seqE (L ++ N) true l B'.x B'.fs) = rowS L l A B M := by rw [eA, eB]; exact hr.row
 have hch := h.ch.ext N
 have htx : rowT (L ++ N) (rowS L l A B M) = bs := by rw [qWr N fun y hy => (h.mem hw y hy).2]; exact h.tx
 rw [← erow] at hch htx h2
 refine ⟨⟨sa2, sb2, ua.1, ub.1, ?_, ?_, hsn, h1, fun e => ?_⟩, ?_⟩
 ·exact hch.next h2 (fun y hy => by rw [erow] at hy; have := (h.mem hw y hy).2; rw [List.length_append]; omega) hst
 ·rw [← htx]; exact hst.text hw2
 ·rw [e] at hs
  obtain ⟨e1, rfl, rfl⟩ := hr.ne (shp_ne hr.shp hs.none)
  obtain ⟨n1, n2⟩ := h.ne e1
  exact ⟨up_ne (rl2.eo.ids hw2 sa2).2 n1, up_ne (rr2.eo.ids hw2 sb2).2 n2⟩
 ·rw [← erow]
  have la := ua.2.le
  have lb := ub.2.le
  unfold rowS upS
  simp only [List.length_append]
  omega
theorem SpI.start {L : List Rl} (hw : Wf L) {ta tb : List UInt8} {a b : Nat} {A B : Sd} (p : Option Addr) (c : Nat) (sa : Sig L a) (sb : Sig L b) (la : Lts L (expd L 0 a) ta) (lb : Lts L (expd L 0 b) tb) (da : Dn L false 0 a [] A.x A.fs) (db : Dn L true 0 b [] B.x B.fs) (ha : lvl L A.x ≤ ((0 : Nat) : Int)) (hb : lvl L B.x ≤ ((0 : Nat) : Int)) :
  SpI L (ta ++ tb) 0 a b A B ⟨[], p, c⟩ ∧ (rowS L 0 A B ⟨[], p, c⟩).length = ta.length + tb.length ∧ 2 ≤ (rowS L 0 A B ⟨[], p, c⟩).length := by
 obtain ⟨a1, a2, a3, _⟩ := da.ok hw sa .nil (by simp)
 obtain ⟨b1, b2, b3, _⟩ := db.ok hw sb .nil (by simp)
 have oa := a1.ok hw sa
 have ob := b1.ok hw sb
 have ea : seqE L false 0 A.x A.fs = expd L 0 a := by rw [← a3]; simp [seqE, qGj, cat]
 have eb : seqE L true 0 B.x B.fs = expd L 0 b := by rw [← b3]; simp [seqE, qGj, cat]
 have er : rowS L 0 A B ⟨[], p, c⟩ = expd L 0 a ++ expd L 0 b := by unfold rowS; rw [ea, eb]; rfl
 have hL := la.append lb
 have l1 := (qEu hw (l := 0) a sa.pos sa.le).1
 have l2 := (qEu hw (l := 0) b sb.pos sb.le).1
 refine ⟨⟨sa, sb, ⟨.inr ⟨oa.1, a1, ha⟩, a2⟩, ⟨.inr ⟨ob.1, b1, hb⟩, b2⟩, ?_, ?_, fun it h => by simp at h, fun _ it h => by simp at h, fun _ => ⟨?_, ?_⟩⟩, ?_, ?_⟩
 ·rw [er]; exact .start hL
 ·rw [er]; exact hL.text
 ·have := oa.1; omega
 ·have := ob.1; omega
 ·rw [er, List.length_append, la.length, lb.length]
 ·rw [er, List.length_append]; omega
end
section
open Go Go.RowKit Sl Eg
set_option maxRecDepth 10000
variable {E : Env} {Es : List Ent} {pp tb s most : Nat}
structure Sn (L : List Rl) (bs : List UInt8) (id : Nat) : Prop where
 sg : Sg L bs id
 tx : txt L id = bs
 gd : good L id
theorem Sn.ext {L : List Rl} (M : List Rl) {bs : List UInt8} {id : Nat} (h : Sn L bs id) : Sn (L ++ M) bs id := ⟨h.sg.ext M, by rw [qCp M h.gd.1]; exact h.tx, by have := h.gd.1; rw [List.length_append]; omega, by rw [qDp M h.gd.1]; exact h.gd.2⟩
theorem Sn.len {L : List Rl} {bs : List UInt8} {id : Nat} (h : Sn L bs id) : len L id = bs.length := by show (txt L id).length = _; rw [h.tx]
theorem Sn.zero {L : List Rl} {bs : List UInt8} (h : Sn L bs 0) : bs = [] := h.tx.symm
theorem Sn.parts {L : List Rl} (hw : Wf L) {bs : List UInt8} {id : Nat} (h : Sn L bs id) (h0 : id ≠ 0) : Sig L id ∧ Lts L (expd L 0 id) bs ∧ 1 ≤ bs.length := by
 rcases h.sg with ⟨_, e⟩ | ⟨lv, hc⟩
 ·exact absurd e h0
 ·obtain ⟨h1, h2⟩ := hc.sig hw
  exact ⟨h1, h2, List.length_pos_iff.2 hc.nonempty⟩
theorem Sn.lv {L : List Rl} (hw : Wf L) {bs : List UInt8} {id : Nat} (h : Sn L bs id) (hb : bs.length ≤ kE) : lvl L id ≤ 25544 := by
 by_cases h0 : id = 0
 ·subst h0
  show (0 : Int) ≤ 25544
  omega
 ·obtain ⟨h1, h2, _⟩ := h.parts hw h0
  exact h1.lv_le hw h2 hb
end
end Go.Proofs.YtkkjjablmmmmkaaGreatDoor
