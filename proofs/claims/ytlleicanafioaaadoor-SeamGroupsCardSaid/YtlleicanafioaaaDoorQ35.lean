import Derived.Test.YtlleicanafioaaaDoorQ34
set_option linter.all false
set_option maxHeartbeats 1000000
namespace Go.Proofs.YtlleicanafioaaaDoor
open Go Go.RowKit Sl Eg
set_option maxRecDepth 10000
section
theorem qGi {L : List Rl} (M : List Rl) (hw : Wf L) (hw2 : Wf (L ++ M)) {l : Nat} : ∀ x, x ≤ L.length → expd (L ++ M) l x = expd L l x := by
 intro x
 induction x using Nat.strongRecOn with
 | _ x ih =>
  intro hx
  rcases Nat.eq_zero_or_pos x with rfl | h1
  ·rfl
  obtain ⟨i, rfl⟩ : ∃ i, x = i + 1 := ⟨x - 1, by omega⟩
  have el := qCs M hx
  by_cases h : lvl L (i + 1) ≤ (l : Nat)
  ·rw [qBg h1 h, qBg h1 (by rw [el]; exact h)]
  have hr : L[i]? = some (L[i]'(by omega)) := List.getElem?_eq_getElem (by omega)
  generalize L[i]'(by omega) = r at hr
  have hk := hw.ok i r hr
  have hr2 := qHf M hr
  cases r with
  | letter b => have := (qCp hr).2; omega
  | pair a b =>
   obtain ⟨g1, g2, g3, g4⟩ := hk
   rw [qDf hw hr (by omega), qDf hw2 hr2 (by omega), ih a (by omega) (by omega), ih b (by omega) (by omega)]
  | power y k =>
   obtain ⟨g1, g2, g3⟩ := hk
   rw [qCk hw hr (by omega), qCk hw2 hr2 (by omega), ih y (by omega) (by omega)]
theorem zAs {L : List Rl} (M : List Rl) (hw : Wf L) (hw2 : Wf (L ++ M)) {l : Nat} {ids : List Nat} (h : ∀ x ∈ ids, x ≤ L.length) : qAh (L ++ M) l ids = qAh L l ids := by
 induction ids with
 | nil => rfl
 | cons x ids ih =>
  have e : ∀ K, qAh K l (x :: ids) = expd K l x ++ qAh K l ids := fun K => by simp [qAh]
  rw [e, e, ih fun y hy => h y (by simp [hy]), qGi M hw hw2 x (h x (by simp))]
theorem restR_le {L : List Rl} (hw : Wf L) {bh : Bool} {x hv : Nat} {r : Rl} (h1 : 1 ≤ x) (hr : L[x - 1]? = some r) : ∀ y ∈ qGq bh hv r, y ≤ L.length := by
 intro y hy
 have hx := (List.getElem?_eq_some_iff.1 hr).1
 have hk := hw.ok _ r hr
 cases r with
 | letter b => simp [qGq] at hy
 | pair a b =>
  obtain ⟨g1, g2, g3, g4⟩ := hk
  simp only [qGq] at hy
  split at hy
  ·have := List.mem_singleton.1 hy
   split at this <;> omega
  simp at hy
 | power z k =>
  obtain ⟨g1, g2, g3⟩ := hk
  have := (List.mem_replicate.1 hy).2
  omega
theorem zCe {L : List Rl} (M : List Rl) (hw : Wf L) (hw2 : Wf (L ++ M)) {bh : Bool} {l root x : Nat} {fs : List Fm} (h : Lk L bh root x fs) : qEe (L ++ M) bh l fs = qEe L bh l fs := by
 induction h with
 | nil => rfl
 | @snoc x hv fs r h1 h2 h3 h4 h5 h6 ih =>
  rw [qBk, qBk, ih, qBo h3, qBo (qHf M h3), zAs M hw hw2 (restR_le hw h2 h3)]
theorem Lk.ext {L : List Rl} (M : List Rl) {bh : Bool} {root x : Nat} {fs : List Fm} (h : Lk L bh root x fs) : Lk (L ++ M) bh root x fs := by
 induction h with
 | nil => exact .nil
 | snoc h1 h2 h3 h4 h5 h6 ih => exact .snoc ih h2 (qHf M h3) h4 h5 h6
theorem Sig.ext {L : List Rl} (M : List Rl) (hw : Wf L) (hw2 : Wf (L ++ M)) {x : Nat} (h : Sig L x) : Sig (L ++ M) x := by
 refine ⟨h.pos, by have := h.le; rw [List.length_append]; omega, by rw [qCs M h.le]; exact h.lv, fun k hk => ?_, fun k hk => ?_⟩
 ·rw [qGi M hw hw2 x h.le]; exact (h.inv k hk).ext M hw2
 rw [qGi M hw hw2 x h.le, qGi M hw hw2 x h.le]
 exact (h.step k hk).ext M fun y hy => ((h.inv k hk).ok y hy).2.1
theorem EO.ext {L : List Rl} (M : List Rl) (hw : Wf L) {bh : Bool} {l root x : Nat} {fs : List Fm} (hs : Sig L root) (h : EO L bh l root x fs) : EO (L ++ M) bh l root x fs := by
 obtain ⟨i1, i2⟩ := h.ids hw hs
 refine ⟨?_, fun f hf => by rw [qCs M (i2 f hf).2]; exact h.hi f hf⟩
 rcases h.lk with h0 | ⟨h1, h2, h3⟩
 ·exact .inl h0
 exact .inr ⟨h1, h2.ext M, by rw [qCs M i1]; exact h3⟩
theorem EO.seq_ext {L : List Rl} (M : List Rl) (hw : Wf L) (hw2 : Wf (L ++ M)) {bh : Bool} {l root x : Nat} {fs : List Fm} (hs : Sig L root) (h : EO L bh l root x fs) : seqE (L ++ M) bh l x fs = seqE L bh l x fs := by
 obtain ⟨i1, i2⟩ := h.ids hw hs
 rcases h.lk with ⟨rfl, rfl⟩ | ⟨h1, h2, h3⟩
 ·rw [qCn, qCn]
 unfold seqE
 rw [qGi M hw hw2 x i1, zCe M hw hw2 h2]
theorem upF_ext {L : List Rl} (M : List Rl) {lv x : Nat} {fs : List Fm} (h : ∀ f ∈ fs, 1 ≤ f.id ∧ f.id ≤ L.length) : upF (L ++ M) lv x fs = upF L lv x fs := by
 rcases List.eq_nil_or_concat fs with rfl | ⟨gs, f, rfl⟩
 ·rfl
 rw [List.concat_eq_append] at *
 have hf := h f (by simp)
 rw [qDx, qDx, qCs M hf.2, qRd M hf.1 hf.2]
theorem BB.ext {L : List Rl} (M : List Rl) {lv : Nat} {fs : List Fm} (hi : ∀ f ∈ fs, 1 ≤ f.id ∧ f.id ≤ L.length) (h : BB L lv fs) : BB (L ++ M) lv fs := fun f hf hl => by
 have := hi f hf
 rw [qRd M this.1 this.2]
 rw [qCs M this.2] at hl
 exact h f hf hl
theorem RL.ext {L : List Rl} (M : List Rl) (hw : Wf L) (hw2 : Wf (L ++ M)) {l root x : Nat} {fs : List Fm} {Z : List Nat} (hs : Sig L root) (h : RL L l root x fs Z) (hz : ∀ y ∈ Z, y ≤ L.length) : RL (L ++ M) l root x fs Z := by
 obtain ⟨i1, i2⟩ := h.eo.ids hw hs
 refine ⟨h.eo.ext M hw hs, h.bb.ext M i2, ?_⟩
 rw [h.eo.seq_ext M hw hw2 hs, upF_ext M i2, (h.eo.up hw hs h.bb).1.seq_ext M hw hw2 hs]
 intro u v e1 e2
 have hu : u ≤ L.length := (h.eo.mem hw hs u (List.mem_of_getLast? e1)).2.1
 have hv : v ≤ L.length := hz v (List.mem_of_head? e2)
 have := h.bd u v e1 e2
 rw [qAi M hu, qAi M hv]
 exact this
theorem RR.ext {L : List Rl} (N : List Rl) (hw : Wf L) (hw2 : Wf (L ++ N)) {l root x : Nat} {fs : List Fm} {M : List Nat} (hs : Sig L root) (h : RR L l root x fs M) (hz : ∀ y ∈ M, y ≤ L.length) : RR (L ++ N) l root x fs M := by
 obtain ⟨i1, i2⟩ := h.eo.ids hw hs
 refine ⟨h.eo.ext N hw hs, h.bb.ext N i2, ?_⟩
 rw [h.eo.seq_ext N hw hw2 hs]
 intro u v e1 e2
 have hu : u ≤ L.length := hz u (List.mem_of_getLast? e1)
 have hv : v ≤ L.length := (h.eo.mem hw hs v (List.mem_of_head? e2)).2.1
 have := h.bd u v e1 e2
 rw [qAi N hu, qAi N hv]
 exact this
theorem Sq.le {L : List Rl} {lv : Nat} {ids o : List Nat} (h : Sq L lv ids o) : o.length ≤ ids.length := by
 unfold Sq at h
 split at h
 ·induction h with
  | nil => simp
  | run h1 _ _ _ ih => simp; omega
 induction h with
 | nil => simp
 | one _ _ ih => simp; omega
 | two _ _ _ ih => simp; omega
theorem Sq.none {L : List Rl} {lv : Nat} {ids : List Nat} (h : Sq L lv ids []) : ids = [] := by
 unfold Sq at h
 cases ids with
 | nil => rfl
 | cons x r =>
  split at h
  ·exact absurd rfl h.nonempty
  exact absurd rfl h.nonempty
theorem Sq.text {L : List Rl} (hw : Wf L) {lv : Nat} {ids o : List Nat} (h : Sq L lv ids o) : rowT L o = rowT L ids := by
 unfold Sq at h
 split at h
 ·obtain ⟨rs, rfl, _, _, h4⟩ := h.rns
  exact h4.text hw
 obtain ⟨a, o', h1, rfl⟩ := h.prs
 exact h1.text hw
theorem Dk.left {L M : List Rl} (h : Dk (L ++ M)) : Dk L := fun x y h1 h2 h3 h4 e => h x y h1 (by rw [List.length_append]; omega) h3 (by rw [List.length_append]; omega) (by rw [qAi M h2, qAi M h4]; exact e)
theorem Grw.pot {its its' : List It} (h : Grw its its') : Go.Proofs.YtlleicanafioaaaDoor.pot its' ≤ Go.Proofs.YtlleicanafioaaaDoor.pot its + 4 := by
 obtain ⟨a, b, rfl, h1, h2⟩ := h
 have h3 := zBb a
 have h4 := zBb b
 rw [qDs, qDs]
 have e1 : Go.Proofs.YtlleicanafioaaaDoor.pot a = a.length + hvy a := rfl
 have e2 : Go.Proofs.YtlleicanafioaaaDoor.pot b = b.length + hvy b := rfl
 omega
theorem zCw {L : List Rl} {its : List It} {X Y : List Nat} {lv : Nat} (hi : Inv L lv (X ++ (qAa its ++ Y))) (hev : lv % 2 = 0) (hit : ItT L its) (hd : Dk L) : ∀ it ∈ its, it.next = 0 ∧ it.times = 1 := fun it hm => by
 obtain ⟨h1, h2, h3⟩ := hit it hm
 by_cases hn : it.next = 0
 ·exact ⟨hn, h2 hn⟩
 exfalso
 obtain ⟨m, hm2⟩ : ∃ m, it.times = m + 1 := ⟨it.times - 1, by omega⟩
 obtain ⟨a, b, rfl⟩ := List.append_of_mem hm
 have e : itF it = it.id :: it.next :: (List.replicate m [it.id, it.next]).flatten := by
  unfold itF
  rw [if_neg hn, hm2, List.replicate_succ, List.flatten_cons]
  rfl
 have er : X ++ (qAa (a ++ it :: b) ++ Y) = (X ++ qAa a) ++ (it.id :: it.next :: ((List.replicate m [it.id, it.next]).flatten ++ (qAa b ++ Y))) := by
  rw [qAm, qBj, e]; simp
 rw [er] at hi
 have o1 := hi.ok it.id (by simp)
 have o2 := hi.ok it.next (by simp)
 have eq : it.next = it.id := hd _ _ o2.1 o2.2.1 o1.1 o1.2.1 (h3 hn)
 rw [eq] at hi
 have := (hi.same (X ++ qAa a).length it.id (by rw [List.getElem?_append_right (Nat.le_refl _), Nat.sub_self]; rfl) (by rw [List.getElem?_append_right (by omega), Nat.add_sub_cancel_left]; rfl)).1
 omega
theorem qPr {its : List It} (h : ∀ it ∈ its, it.next = 0 ∧ it.times = 1) : (qAa its).length = its.length := by
 induction its with
 | nil => rfl
 | cons x l ih =>
  have hx := h x (by simp)
  rw [qBj, qDg hx.1, hx.2, List.length_append, ih fun y hy => h y (by simp [hy])]
  simp
  omega
theorem Rch.down {L : List Rl} (hw : Wf L) {bs : List UInt8} {lv : Nat} {out : List Nat} (h : Rch L bs (lv + 1) out) (h1 : 1 ≤ lv) : 2 ≤ (qAh L (lv - 1) out).length := by
 generalize e : lv + 1 = k at h
 cases h with
 | start _ => omega
 | odd h' g1 g2 g3 =>
  obtain rfl := Nat.succ.inj e
  have hs : Stp L lv _ out := .inl ⟨g1, g3⟩
  rw [hs.down (h'.rows hw).1 h1]
  exact g2
 | even h' g1 g2 g3 g4 =>
  obtain rfl := Nat.succ.inj e
  have hs : Stp L lv _ _ := .inr ⟨g1, _, _, g4, rfl⟩
  rw [hs.down (h'.rows hw).1 h1]
  exact g2
def rowS (L : List Rl) (l : Nat) (A B : Sd) (M : Md) : List Nat := seqE L false l A.x A.fs ++ (qAa M.its ++ seqE L true l B.x B.fs)
structure SpI (L : List Rl) (bs : List UInt8) (l a b : Nat) (A B : Sd) (M : Md) : Prop where
 sa : Sig L a
 sb : Sig L b
 ea : EO L false l a A.x A.fs
 eb : EO L true l b B.x B.fs
 ch : Rch L bs (l + 1) (rowS L l A B M)
 tx : rowT L (rowS L l A B M) = bs
 sng : Sng M.its
 one : (l + 1) % 2 = 0 → ∀ it ∈ M.its, it.times = 1
 ne : M.its = [] → A.x ≠ 0 ∧ B.x ≠ 0
def upS (L : List Rl) (lv : Nat) (A : Sd) : Sd := ⟨(upF L lv A.x A.fs).1, (upF L lv A.x A.fs).2, A.p, A.c⟩
theorem up_ne {L : List Rl} {lv x : Nat} {fs : List Fm} (h : ∀ f ∈ fs, 1 ≤ f.id ∧ f.id ≤ L.length) (hx : x ≠ 0) : (upF L lv x fs).1 ≠ 0 := by
 rcases List.eq_nil_or_concat fs with rfl | ⟨gs, f, rfl⟩
 ·exact hx
 rw [List.concat_eq_append] at *
 have hf := h f (by simp)
 rw [qDx]
 split
 ·show f.id ≠ 0; omega
 exact hx
theorem shp_ne {L : List Rl} {lv : Nat} {its : List It} (h : Shp L lv its) (hf : qAa its = []) : its = [] := by
 have hp : ∀ it ∈ its, 1 ≤ it.times := fun it hit => by
  unfold Shp at h
  split at h
  ·exact (h it hit).2
  split at h
  ·exact (h it hit).1
  exact (h.1 it hit).2
 cases its with
 | nil => rfl
 | cons it its =>
  have := qWw (its := it :: its) (it := it) (by simp) (hp it (by simp))
  rw [hf] at this
  simp at this
theorem SpI.mem {L : List Rl} (hw : Wf L) {bs : List UInt8} {l a b : Nat} {A B : Sd} {M : Md} (h : SpI L bs l a b A B M) : ∀ y ∈ rowS L l A B M, 1 ≤ y ∧ y ≤ L.length := fun y hy => by
 have := (h.ch.rows hw).1.ok y hy
 exact ⟨this.1, this.2.1⟩
theorem Rdy.same {L : List Rl} {l a b : Nat} {A B A' B' : Sd} {M M' : Md} (h : Rdy L l a b A B M A' B' M') : rowS L l A' B' M' = rowS L l A B M := h.row
theorem SpI.step {L : List Rl} (N : List Rl) (hw : Wf L) (hw2 : Wf (L ++ N)) {bs : List UInt8} {l a b : Nat} {A B A' B' : Sd} {M M' : Md} (h : SpI L bs l a b A B M) (h2 : 2 ≤ (rowS L l A B M).length) (hr : Rdy L l a b A B M A' B' M') {M2 : Md} (hs : Sq (L ++ N) (l + 1) (qAa M'.its) (qAa M2.its)) (hsn : Sng M2.its) (h1 : (l + 1 + 1) % 2 = 0 → ∀ it ∈ M2.its, it.times = 1) (hn : N.length + (qAa M2.its).length ≤ (qAa M'.its).length) :
  SpI (L ++ N) bs (l + 1) a b (upS (L ++ N) (l + 1) A') (upS (L ++ N) (l + 1) B') M2 ∧ N.length + (rowS (L ++ N) (l + 1) (upS (L ++ N) (l + 1) A') (upS (L ++ N) (l + 1) B') M2).length ≤ (rowS L l A B M).length := by
 have hmem := h.mem hw
 rw [← hr.same] at hmem
 have sa2 := h.sa.ext N hw hw2
 have sb2 := h.sb.ext N hw hw2
 have rl2 := hr.left.ext N hw hw2 h.sa (fun y hy => (hmem y (by unfold rowS; rw [List.mem_append]; exact .inr hy)).2)
 have rr2 := hr.right.ext N hw hw2 h.sb (fun y hy => (hmem y (by unfold rowS; simp [hy])).2)
 have eA := hr.left.eo.seq_ext N hw hw2 h.sa
 have eB := hr.right.eo.seq_ext N hw hw2 h.sb
 have hst := qVt hw2 sa2 sb2 (by rw [eB]; exact rl2) rr2 hs
 have ua := rl2.eo.up hw2 sa2 rl2.bb
 have ub := rr2.eo.up hw2 sb2 rr2.bb
 have erow : seqE (L ++ N) false l A'.x A'.fs ++ (qAa M'.its ++ seqE (L ++ N) true l B'.x B'.fs) = rowS L l A B M := by rw [eA, eB]; exact hr.row
 have hch := h.ch.ext N
 have htx : rowT (L ++ N) (rowS L l A B M) = bs := by rw [qMg N fun y hy => (h.mem hw y hy).2]; exact h.tx
 rw [← erow] at hch htx h2
 refine ⟨⟨sa2, sb2, ua.1, ub.1, ?_, ?_, hsn, h1, fun e => ?_⟩, ?_⟩
 ·exact hch.next h2 (fun y hy => by rw [erow] at hy; have := (h.mem hw y hy).2; rw [List.length_append]; omega) hst
 ·rw [← htx]; exact hst.text hw2
 ·rw [e] at hs
  obtain ⟨e1, rfl, rfl⟩ := hr.ne (shp_ne hr.shp hs.none)
  obtain ⟨n1, n2⟩ := h.ne e1
  exact ⟨up_ne (rl2.eo.ids hw2 sa2).2 n1, up_ne (rr2.eo.ids hw2 sb2).2 n2⟩
 rw [← erow]
 have la := ua.2.le
 have lb := ub.2.le
 unfold rowS upS
 simp only [List.length_append]
 omega
theorem SpI.nx {L K : List Rl} (hw : Wf L) {bs : List UInt8} {l a b : Nat} {A B A' B' : Sd} {M M' : Md} (h : SpI L bs l a b A B M) (hr : Rdy L l a b A B M A' B' M') {j : Nat} (hj : Nx (L ++ K) (l + 1) (qAa M'.its) j) : Nx (L ++ K) (l + 1) (rowS L l A B M) j := fun N O hw2 hs => by
 have hj2 := hj N
 rw [List.append_assoc] at hw2 hs hj2
 have hmem := h.mem hw
 rw [← hr.same] at hmem
 have sa2 := h.sa.ext (K ++ N) hw hw2
 have sb2 := h.sb.ext (K ++ N) hw hw2
 have rl2 := hr.left.ext (K ++ N) hw hw2 h.sa (fun y hy => (hmem y (by unfold rowS; rw [List.mem_append]; exact .inr hy)).2)
 have rr2 := hr.right.ext (K ++ N) hw hw2 h.sb (fun y hy => (hmem y (by unfold rowS; simp [hy])).2)
 have eA := hr.left.eo.seq_ext (K ++ N) hw hw2 h.sa
 have eB := hr.right.eo.seq_ext (K ++ N) hw hw2 h.sb
 have erow : seqE (L ++ (K ++ N)) false l A'.x A'.fs ++ (qAa M'.its ++ seqE (L ++ (K ++ N)) true l B'.x B'.fs) = rowS L l A B M := by rw [eA, eB]; exact hr.row
 have rl3 : RL (L ++ (K ++ N)) l a A'.x A'.fs (qAa M'.its ++ seqE (L ++ (K ++ N)) true l B'.x B'.fs) := by rw [eB]; exact rl2
 have ua := rl3.eo.up hw2 sa2 rl3.bb
 rw [← erow] at hs
 obtain ⟨O2, e2, hs2⟩ := ua.2.cutB hw2 hs rl3.bd
 obtain ⟨O3, O4, e3, hs3, _⟩ := hs2.cut rr2.bd
 rw [e2, e3]
 exact List.mem_append_right _ (List.mem_append_left _ (hj2 O3 hw2 hs3))
theorem SpI.one_left {L : List Rl} (hw : Wf L) {bs : List UInt8} {l a b : Nat} {A B : Sd} {M : Md} (h : SpI L bs l a b A B M) (hA : A.x = 0) (hB : B.x = 0) {it : It} (hM : M.its = [it]) (ht : it.times = 1) : Sg L bs it.id ∧ 1 ≤ it.id ∧ it.id ≤ L.length ∧ 0 ≤ lvl L it.id ∧ txt L it.id = bs ∧ (rowS L l A B M).length = 1 ∧ (1 ≤ l → (l : Int) ≤ lvl L it.id) := by
 have e : rowS L l A B M = [it.id] := by
  have h1 := h.ea
  have h2 := h.eb
  rw [hA] at h1
  rw [hB] at h2
  unfold rowS
  rw [hA, hB, h1.zero, h2.zero, qCn, qCn, hM, qBv, qDg (h.sng it (by rw [hM]; simp)).1, ht]
  rfl
 have hc := h.ch
 have hi := (hc.rows hw).1
 have ht2 := h.tx
 rw [e] at hc hi ht2
 have := hi.ok it.id (by simp)
 refine ⟨.inr ⟨_, hc⟩, this.1, this.2.1, this.2.2.1, by rw [← ht2, qFn], by rw [e]; rfl, fun hl => ?_⟩
 apply Classical.byContradiction
 intro hn
 have hdn := hc.down hw hl
 rw [qBm, qBg this.1 (by omega)] at hdn
 simp at hdn
theorem SpI.two_left {L : List Rl} {bs : List UInt8} {l a b : Nat} {A B : Sd} {M : Md} (h : SpI L bs l a b A B M) (hx : ¬ (A.x = 0 ∧ B.x = 0 ∧ ∃ it, M.its = [it] ∧ it.times = 1)) : 2 ≤ (rowS L l A B M).length := by
 have la : A.x ≠ 0 → 1 ≤ (seqE L false l A.x A.fs).length := fun hA => by
  have := h.ea.last hA
  cases e : seqE L false l A.x A.fs with
  | nil => rw [e] at this; simp at this
  | cons c d => simp
 have lb : B.x ≠ 0 → 1 ≤ (seqE L true l B.x B.fs).length := fun hB => by
  have := h.eb.head hB
  cases e : seqE L true l B.x B.fs with
  | nil => rw [e] at this; simp at this
  | cons c d => simp
 unfold rowS
 simp only [List.length_append]
 have hm := qEw (its := M.its) fun it hit => (h.sng it hit).2
 by_cases hM : M.its = []
 ·obtain ⟨n1, n2⟩ := h.ne hM
  have := la n1
  have := lb n2
  omega
 have hm1 : 1 ≤ M.its.length := List.length_pos_iff.2 hM
 by_cases hA : A.x = 0
 ·by_cases hB : B.x = 0
  ·rcases Nat.lt_or_ge 1 M.its.length with h2 | h2
   ·omega
   obtain ⟨it, e⟩ := List.length_eq_one_iff.1 (Nat.le_antisymm h2 hm1)
   have ht : it.times ≠ 1 := fun ht => hx ⟨hA, hB, it, e, ht⟩
   have h1 := h.sng it (by rw [e]; simp)
   rw [e, qBv, qDg h1.1, List.length_replicate]
   omega
  have := lb hB; omega
 have := la hA; omega
theorem SpI.start {L : List Rl} (hw : Wf L) {ta tb : List UInt8} {a b : Nat} {A B : Sd} (p : Option Addr) (c : Nat) (sa : Sig L a) (sb : Sig L b) (la : Lts L (expd L 0 a) ta) (lb : Lts L (expd L 0 b) tb) (da : Dn L false 0 a [] A.x A.fs) (db : Dn L true 0 b [] B.x B.fs) (ha : lvl L A.x ≤ ((0 : Nat) : Int)) (hb : lvl L B.x ≤ ((0 : Nat) : Int)) :
  SpI L (ta ++ tb) 0 a b A B ⟨[], p, c⟩ ∧ (rowS L 0 A B ⟨[], p, c⟩).length = ta.length + tb.length ∧ 2 ≤ (rowS L 0 A B ⟨[], p, c⟩).length := by
 obtain ⟨a1, a2, a3, _⟩ := da.ok hw sa .nil (by simp)
 obtain ⟨b1, b2, b3, _⟩ := db.ok hw sb .nil (by simp)
 have oa := a1.ok hw sa
 have ob := b1.ok hw sb
 have ea : seqE L false 0 A.x A.fs = expd L 0 a := by rw [← a3]; simp [seqE, qEe, cat]
 have eb : seqE L true 0 B.x B.fs = expd L 0 b := by rw [← b3]; simp [seqE, qEe, cat]
 have er : rowS L 0 A B ⟨[], p, c⟩ = expd L 0 a ++ expd L 0 b := by unfold rowS; rw [ea, eb]; rfl
 have hL := la.append lb
 have l1 := (qFf hw (l := 0) a sa.pos sa.le).1
 have l2 := (qFf hw (l := 0) b sb.pos sb.le).1
 refine ⟨⟨sa, sb, ⟨.inr ⟨oa.1, a1, ha⟩, a2⟩, ⟨.inr ⟨ob.1, b1, hb⟩, b2⟩, ?_, ?_, fun it h => by simp at h, fun _ it h => by simp at h, fun _ => ⟨?_, ?_⟩⟩, ?_, ?_⟩
 ·rw [er]; exact .start hL
 ·rw [er]; exact hL.text
 ·have := oa.1; omega
 ·have := ob.1; omega
 ·rw [er, List.length_append, la.length, lb.length]
 rw [er, List.length_append]; omega
end
section
variable {E : Env} {Es : List Ent} {pp tb s most S : Nat}
theorem pg_sq {L : List Rl} {lv : Nat} {ids o : List Nat} (h : lv % 2 = 0) (hp : Pg L (num lv) ids o) : Sq L lv ids o := by
 unfold Sq
 rw [if_neg (by omega)]
 exact hp
theorem rg_sq {L : List Rl} {lv : Nat} {ids o : List Nat} (h : lv % 2 = 1) (hp : Rg L ids o) : Sq L lv ids o := by
 unfold Sq
 rw [if_pos h]
 exact hp
theorem row_run {L : List Rl} {X A B Y : List Nat} {x t : Nat} : len L x * t ≤ (rowT L (X ++ (A ++ List.replicate t x ++ B ++ Y))).length := by
 have := qRi (L := L) (A := X ++ A) (B := B ++ Y) (x := x) (t := t)
 rw [len]
 simpa [List.append_assoc] using this
theorem row_two {L : List Rl} {X A B Y : List Nat} {x y : Nat} : len L x + len L y ≤ (rowT L (X ++ (A ++ [x, y] ++ B ++ Y))).length := by
 have := qRj (L := L) (ids := X ++ (A ++ [x, y] ++ B ++ Y)) (i := X.length + A.length) (x := x) (y := y) (by rw [List.getElem?_append_right (by omega)]; simp) (by rw [List.getElem?_append_right (by omega)]; simp [Nat.add_assoc, Nat.add_sub_cancel_left]; exact ap_1)
 rw [len, len]
 exact this
theorem ones_sng (out : List Nat) : Sng (qCt out) ∧ ∀ it ∈ qCt out, it.times = 1 := by
 refine ⟨fun it h => ?_, fun it h => ?_⟩
 ·obtain ⟨x, _, rfl⟩ := List.mem_map.1 h; exact ⟨rfl, Nat.le_refl _⟩
 obtain ⟨x, _, rfl⟩ := List.mem_map.1 h; rfl
theorem ct_merge (hE : Seat E) (hB : Base E.w0) {bs : List UInt8} {l a b : Nat} {A0 B0 A B : Sd} {M0 M : Md} (hI : SpI (rls Es) bs l a b A0 B0 M0) (h2 : 2 ≤ (rowS (rls Es) l A0 B0 M0).length) (hr : Rdy (rls Es) l a b A0 B0 M0 A B M) (hb : bs.length ≤ kK) (hn : (rowS (rls Es) l A0 B0 M0).length ≤ 800000000000) (hroom : RmS Es most (l + 1) (rowS (rls Es) l A0 B0 M0)) (hll : l + 1 < 1000000000000) :
  Ct E 75 [uPt S, .int .i64 ((l + 1 : Nat) : Int)] [cells pp [uPt s, uPt tb] 57, tabP tb s (rls Es), zU s most Es, cells S [uPt pp, uPt pp, .bool false, .slice A.p A.fs.length A.c, .int .i64 (A.x : Nat), .int .u64 (key (rls Es) A.x : Nat), uPt pp, .bool true, .slice B.p B.fs.length B.c, .int .i64 (B.x : Nat), .int .u64 (key (rls Es) B.x : Nat), .slice M.p M.its.length M.c] 113, sl A.p A.c 137 8 A.fs.length (qAc (rls Es) A.fs), sl B.p B.c 137 8 B.fs.length (qAc (rls Es) B.fs), sl M.p M.c 149 4 M.its.length (itsC (rls Es) M.its)]
   (fun v Q => ∃ (N : List Ent) (A' B' : Sd) (M' : Md), v = .nilIface ∧ SpI (rls (Es ++ N)) bs (l + 1) a b A' B' M' ∧ N.length + (rowS (rls (Es ++ N)) (l + 1) A' B' M').length ≤ (rowS (rls Es) l A0 B0 M0).length ∧ (Dk (rls Es) → N.length + pot M'.its ≤ pot M0.its + 4) ∧ (∀ j, Es.length < j → j ≤ (Es ++ N).length → Nx (rls (Es ++ N)) (l + 1) (rowS (rls Es) l A0 B0 M0) j) ∧ Q = [cells pp [uPt s, uPt tb] 57, tabP tb s (rls (Es ++ N)), zU s most (Es ++ N), cells S [uPt pp, uPt pp, .bool false, .slice A'.p A'.fs.length A'.c, .int .i64 (A'.x : Nat), .int .u64 (key (rls (Es ++ N)) A'.x : Nat), uPt pp, .bool true, .slice B'.p B'.fs.length B'.c, .int .i64 (B'.x : Nat), .int .u64 (key (rls (Es ++ N)) B'.x : Nat), .slice M'.p M'.its.length M'.c] 113, sl A'.p A'.c 137 8 A'.fs.length (qAc (rls (Es ++ N)) A'.fs), sl B'.p B'.c 137 8 B'.fs.length (qAc (rls (Es ++ N)) B'.fs), sl M'.p M'.c 149 4 M'.its.length (itsC (rls (Es ++ N)) M'.its)]) := by
 refine qAy (p := zU s most Es) uK (fun _ h => qAb h) (fun hsay => ?_)
 have hw := hsay.1
 have hrow := hr.same
 have hmem := hI.mem hw
 have htx := hI.tx
 rw [← hrow] at hmem hn htx
 have hR : ∀ x ∈ qAa M.its, 1 ≤ x ∧ x ≤ (rls Es).length := fun x hx => hmem x (by unfold rowS; simp [hx])
 have hfl : (qAa M.its).length ≤ (rowS (rls Es) l A B M).length := by unfold rowS; simp; omega
 have hadj : ∀ P x y R, qAa M.its = P ++ [x, y] ++ R → len (rls Es) x + len (rls Es) y ≤ kK := fun P x y R e => by
  unfold rowS at htx
  rw [e] at htx
  have := row_two (L := rls Es) (X := seqE (rls Es) false l A.x A.fs) (A := P) (B := R) (Y := seqE (rls Es) true l B.x B.fs) (x := x) (y := y)
  rw [htx] at this
  omega
 have hrun : ∀ P x t R, qAa M.its = P ++ List.replicate t x ++ R → len (rls Es) x * t ≤ kK := fun P x t R e => by
  unfold rowS at htx
  rw [e] at htx
  have := row_run (L := rls Es) (X := seqE (rls Es) false l A.x A.fs) (A := P) (B := R) (Y := seqE (rls Es) true l B.x B.fs) (x := x) (t := t)
  rw [htx] at this
  omega
 have hrm : RmS Es most (l + 1) (qAa M.its) := fun K hwK hK => hroom K hwK fun j j1 j2 => by
  have h3 := hK j j1 j2
  rw [kJ] at h3 ⊢
  exact hI.nx hw hr h3
 have hfl9 : (qAa M.its).length ≤ 800000000000 := by omega
 have hinv := (hI.ch.rows hw).1
 rw [← hrow] at hinv
 unfold rowS at hinv
 have hshp := hr.shp
 unfold Shp at hshp
 refine zR (hE.fn Tryd.func75) rfl rfl rfl (fun R => ?_)
 simp only [qAo, uV, uW]
 refine qN (qL (uA rfl (qO (qM (qN (qL (uA rfl (qO (qM ?_)))))))))
 refine qIe (fun q : List Ent × Md => [(0, uPt S), (1, .int .i64 ((l + 1 : Nat) : Int)), (5, .nilIface)]) (fun q => [cells pp [uPt s, uPt tb] 57, tabP tb s (rls (Es ++ q.1)), zU s most (Es ++ q.1), cells S [uPt pp, uPt pp, .bool false, .slice A.p A.fs.length A.c, .int .i64 (A.x : Nat), .int .u64 (key (rls Es) A.x : Nat), uPt pp, .bool true, .slice B.p B.fs.length B.c, .int .i64 (B.x : Nat), .int .u64 (key (rls Es) B.x : Nat), .slice q.2.p q.2.its.length q.2.c] 113, sl A.p A.c 137 8 A.fs.length (qAc (rls Es) A.fs), sl B.p B.c 137 8 B.fs.length (qAc (rls Es) B.fs), sl q.2.p q.2.c 149 4 q.2.its.length (itsC (rls (Es ++ q.1)) q.2.its), R]) (fun q => Sq (rls (Es ++ q.1)) (l + 1) (qAa M.its) (qAa q.2.its) ∧ Sng q.2.its ∧ ((l + 1 + 1) % 2 = 0 → ∀ it ∈ q.2.its, it.times = 1) ∧ q.1.length + (qAa q.2.its).length ≤ (qAa M.its).length ∧ (Dk (rls Es) → q.1.length + pot q.2.its ≤ pot M.its) ∧ Fresh Es.length (Es ++ q.1).length (qAa q.2.its)) ?_ ?_
 ·refine qN (qL ?_)
  refine uM rfl (uB (qVy rfl rfl (by omega) (by omega)) ?_)
  refine uB (y_eq rfl rfl) ?_
  refine qO (qM ?_)
  refine zH rfl (fun h0 => ?_) (fun h0 => ?_)
  ·have hodd : (l + 1) % 2 = 1 := by omega
   rw [if_pos hodd] at hshp
   refine qL (uM rfl (uM rfl ?_))
   refine uX (qSv hE hB (pp := pp) (S := S) (cs := [uPt pp, uPt pp, .bool false, .slice A.p A.fs.length A.c, .int .i64 (A.x : Nat), .int .u64 (key (rls Es) A.x : Nat), uPt pp, .bool true, .slice B.p B.fs.length B.c, .int .i64 (B.x : Nat), .int .u64 (key (rls Es) B.x : Nat), .slice M.p M.its.length M.c]) (its := M.its) (p := M.p) (c := M.c) hodd rfl rfl hshp hfl9 hR hrun hrm) rfl ?_
   rintro _ _ ⟨N, out, p', c', rfl, hN, hN2, hrg, hfr, rfl⟩
   simp only [uV, uW]
   have hlo : (qCt out).length = out.length := by simp [qCt]
   rw [← hlo] at *
   refine uM rfl (uB (qX rfl rfl) (uB (qX rfl rfl) (uB (zD rfl) ?_)))
   refine uB (uBf rfl) ?_
   refine uU (uS ?_)
   refine uA rfl (qO ?_)
   obtain ⟨o1, o2⟩ := ones_sng out
   refine qBq (ι := List Ent × Md) (N, ⟨qCt out, p', c'⟩) ⟨rg_sq hodd (by show Rg _ _ (qAa (qCt out)); rw [qHt]; exact hrg), o1, fun _ => o2, by show _ + (qAa (qCt out)).length ≤ _; rw [qHt]; omega, fun _ => by have := qRb o1; rw [qHt] at this; show N.length + pot (qCt out) ≤ _; omega, by show Fresh _ _ (qAa (qCt out)); rw [qHt]; exact hfr⟩ ⟨rfl, rfl, rfl, trivial⟩ ?_
   exact uI
  have hev : (l + 1) % 2 = 0 := by omega
  have hodd : ¬ (l + 1) % 2 = 1 := by omega
  have h2l : 2 ≤ l + 1 := by omega
  have hlt : l + 1 < 1099511627776 := by omega
  rw [if_neg hodd] at hshp
  refine qN (qL (uM rfl (uX (qSw hE h2l hev hlt) rfl ?_)))
  rintro _ _ ⟨⟨q1, q2, d, rfl, hd⟩, rfl⟩
  simp only [uV, uW]
  refine uM rfl (uB (qX rfl rfl) (uB (qX rfl rfl) (uB (qX rfl rfl) (uA rfl (uA rfl (uA rfl (qO (qM (qN (qL ?_))))))))))
  refine uM rfl (qO (qM ?_))
  cases d with
  | true =>
   have hnm := hd.1 rfl
   rw [if_pos hnm] at hshp
   refine zI rfl (qL (uM rfl (uM rfl ?_)))
   refine uX (qKo hE hB (pp := pp) (S := S) (cs := [uPt pp, uPt pp, .bool false, .slice A.p A.fs.length A.c, .int .i64 (A.x : Nat), .int .u64 (key (rls Es) A.x : Nat), uPt pp, .bool true, .slice B.p B.fs.length B.c, .int .i64 (B.x : Nat), .int .u64 (key (rls Es) B.x : Nat), .slice M.p M.its.length M.c]) (its := M.its) (p := M.p) (c := M.c) hev hnm rfl rfl hshp hfl9 hR hadj hrm) rfl ?_
   rintro _ _ ⟨N, l2, p', c', rfl, hN, hpg, hsn, hfr, rfl⟩
   simp only [uV, uW]
   refine uM rfl (uB (qX rfl rfl) (uB (qX rfl rfl) (uB (zD rfl) ?_)))
   refine uB (uBf rfl) ?_
   refine uU (uS ?_)
   refine uA rfl (qO ?_)
   refine qBq (ι := List Ent × Md) (N, ⟨l2, p', c'⟩) ⟨pg_sq hev (by rw [hnm]; exact hpg), hsn, (fun h => by omega), hN, fun hd => by have h1 := qRb hsn; have h2 := qPr (zCw hinv hev hshp hd); show N.length + pot l2 ≤ _; unfold pot at h1 ⊢; omega, hfr⟩ ⟨rfl, rfl, rfl, trivial⟩ ?_
   exact uI
  | false =>
   have hnm : num (l + 1) ≠ 122 := fun h => by have := hd.2 h; cases this
   rw [if_neg hnm] at hshp
   refine zG rfl (qL (uM rfl (uM rfl (uM rfl ?_))))
   refine uX (qQh hE hB (pp := pp) (S := S) (cs := [uPt pp, uPt pp, .bool false, .slice A.p A.fs.length A.c, .int .i64 (A.x : Nat), .int .u64 (key (rls Es) A.x : Nat), uPt pp, .bool true, .slice B.p B.fs.length B.c, .int .i64 (B.x : Nat), .int .u64 (key (rls Es) B.x : Nat), .slice M.p M.its.length M.c]) (its := M.its) (p := M.p) (c := M.c) rfl rfl hshp.1 hshp.2 hfl9 hR hadj hrm h2l hev hlt) rfl ?_
   rintro _ _ ⟨N, l2, p', c', rfl, hN, hpg, hsn, hfr, rfl⟩
   simp only [uV, uW]
   refine uM rfl (uB (qX rfl rfl) (uB (qX rfl rfl) (uB (zD rfl) ?_)))
   refine uB (uBf rfl) ?_
   refine uU (uS ?_)
   refine uA rfl (qO ?_)
   refine qBq (ι := List Ent × Md) (N, ⟨l2, p', c'⟩) ⟨pg_sq hev hpg, hsn, (fun h => by omega), hN, fun _ => by have h1 := qRb hsn; have h2 := qPr (its := M.its) fun it hit => ⟨(hshp.1 it hit).1, hshp.2 it hit⟩; show N.length + pot l2 ≤ _; unfold pot at h1 ⊢; omega, hfr⟩ ⟨rfl, rfl, rfl, trivial⟩ ?_
   exact uI
 rintro ⟨N, M'⟩ ⟨q1, q2, q3, q4, q5, q6⟩
 simp only at q1 q2 q3 q4 q5 q6 ⊢
 refine qFd (p := zU s most (Es ++ N)) uK (fun _ h => qAb h) ?_
 rintro ⟨hw2, -, -, -⟩
 have eL := kJ Es N
 rw [eL] at hw2 q1
 obtain ⟨i1, i2⟩ := hr.left.eo.ids hw hI.sa
 obtain ⟨j1, j2⟩ := hr.right.eo.ids hw hI.sb
 have sa2 : Sig (rls (Es ++ N)) a := by rw [eL]; exact hI.sa.ext _ hw hw2
 have sb2 : Sig (rls (Es ++ N)) b := by rw [eL]; exact hI.sb.ext _ hw hw2
 have ea2 : EO (rls (Es ++ N)) false l a A.x A.fs := by rw [eL]; exact hr.left.eo.ext _ hw hI.sa
 have eb2 : EO (rls (Es ++ N)) true l b B.x B.fs := by rw [eL]; exact hr.right.eo.ext _ hw hI.sb
 have hst := hI.step (rls N) hw hw2 h2 hr q1 q2 q3 (by rw [zT]; exact q4)
 rw [← eL, zT] at hst
 have k1 : key (rls (Es ++ N)) A.x = key (rls Es) A.x := by rw [eL]; exact qAi _ i1
 have k2 : key (rls (Es ++ N)) B.x = key (rls Es) B.x := by rw [eL]; exact qAi _ j1
 have k3 : qAc (rls (Es ++ N)) A.fs = qAc (rls Es) A.fs := by rw [eL]; exact qTp _ i2
 have k4 : qAc (rls (Es ++ N)) B.fs = qAc (rls Es) B.fs := by rw [eL]; exact qTp _ j2
 rw [← k1, ← k2, ← k3, ← k4]
 refine qN (qL (uM rfl (uB (zD rfl) ?_)))
 refine uB (uBf rfl) ?_
 refine uM rfl ?_
 refine uX (zAm hE hB (Es := Es ++ N) (b := S) (pre := [uPt pp]) (suf := [uPt pp, .bool true, .slice B.p B.fs.length B.c, .int .i64 (B.x : Nat), .int .u64 (key (rls (Es ++ N)) B.x : Nat), .slice M'.p M'.its.length M'.c]) (fs := A.fs) sa2 ea2) rfl ?_
 rintro _ _ ⟨rfl, rfl⟩
 simp only [uV, uW]
 refine qO (qM (qN (qL (uM rfl (uB (zD rfl) ?_)))))
 refine uB (uBf rfl) ?_
 refine uM rfl ?_
 refine uX (zAm hE hB (Es := Es ++ N) (b := S) (pre := [uPt pp, uPt pp, .bool false, .slice (upS (rls (Es ++ N)) (l + 1) A).p (upS (rls (Es ++ N)) (l + 1) A).fs.length (upS (rls (Es ++ N)) (l + 1) A).c, .int .i64 ((upS (rls (Es ++ N)) (l + 1) A).x : Nat), .int .u64 (key (rls (Es ++ N)) (upS (rls (Es ++ N)) (l + 1) A).x : Nat)]) (suf := [.slice M'.p M'.its.length M'.c]) (fs := B.fs) sb2 eb2) rfl ?_
 rintro _ _ ⟨rfl, rfl⟩
 simp only [uV, uW]
 refine qO (qM (qN (qL (uM rfl (uA rfl (qO (qM (kE ?_))))))))
 exact uZ rfl (.tmp rfl .nil) ⟨N, upS (rls (Es ++ N)) (l + 1) A, upS (rls (Es ++ N)) (l + 1) B, M', rfl, hst.1, hst.2, (fun hd => by have h1 := q5 hd; have h2 := (hr.grow hd).pot; show N.length + pot M'.its ≤ _; omega), (fun j j1 j2 => by rw [eL]; exact hI.nx hw hr (nx_sq q1 (fun x hx => by have := hR x hx; rw [List.length_append]; omega) (q6 j j1 j2))), rfl⟩
end
section
variable {E : Env} {Es : List Ent} {pp tb s most : Nat}
structure Sn (L : List Rl) (bs : List UInt8) (id : Nat) : Prop where
 sg : Sg L bs id
 tx : txt L id = bs
 gd : good L id
theorem Sn.ext {L : List Rl} (M : List Rl) {bs : List UInt8} {id : Nat} (h : Sn L bs id) : Sn (L ++ M) bs id := ⟨h.sg.ext M, by rw [qFa M h.gd.1]; exact h.tx, by have := h.gd.1; rw [List.length_append]; omega, by rw [qCs M h.gd.1]; exact h.gd.2⟩
theorem Sn.len {L : List Rl} {bs : List UInt8} {id : Nat} (h : Sn L bs id) : len L id = bs.length := by show (txt L id).length = _; rw [h.tx]
theorem Sn.zero {L : List Rl} {bs : List UInt8} (h : Sn L bs 0) : bs = [] := h.tx.symm
theorem Sn.parts {L : List Rl} (hw : Wf L) {bs : List UInt8} {id : Nat} (h : Sn L bs id) (h0 : id ≠ 0) : Sig L id ∧ Lts L (expd L 0 id) bs ∧ 1 ≤ bs.length := by
 rcases h.sg with ⟨_, e⟩ | ⟨lv, hc⟩
 ·exact absurd e h0
 obtain ⟨h1, h2⟩ := hc.sig hw
 exact ⟨h1, h2, List.length_pos_iff.2 hc.nonempty⟩
theorem Sn.lv {L : List Rl} (hw : Wf L) {bs : List UInt8} {id : Nat} (h : Sn L bs id) (hb : bs.length ≤ kK) : lvl L id ≤ 25544 := by
 by_cases h0 : id = 0
 ·subst h0
  show (0 : Int) ≤ 25544
  omega
 obtain ⟨h1, h2, _⟩ := h.parts hw h0
 exact h1.lv_le hw h2 hb
structure SpG where
 l : Nat
 M : List Ent
 A : Sd
 B : Sd
 C : Md
theorem zAb (hE : Seat E) (hB : Base E.w0) {a b : Nat} {ta tb' : List UInt8} (ha : Sn (rls Es) ta a) (hb : Sn (rls Es) tb' b) (hlen : ta.length + tb'.length ≤ 800000000000) (hroom : RmT Es most (ta ++ tb')) :
  Ct E 52 [uPt pp, .int .i64 (a : Nat), .int .i64 (len (rls Es) a : Nat), .int .i64 (b : Nat), .int .i64 0] [cells pp [uPt s, uPt tb] 57, tabP tb s (rls Es), zU s most Es]
   (fun v Q => ∃ M id, v = .tuple #[.int .i64 (id : Nat), .nilIface] ∧ M.length ≤ ta.length + tb'.length ∧ Sn (rls (Es ++ M)) (ta ++ tb') id ∧ (Dk (rls (Es ++ M)) → (M.length : Int) ≤ 4 * lvl (rls (Es ++ M)) id) ∧ (∀ j, Es.length < j → j ≤ (Es ++ M).length → InRow (rls (Es ++ M)) (ta ++ tb') j) ∧ Q = [cells pp [uPt s, uPt tb] 57, tabP tb s (rls (Es ++ M)), zU s most (Es ++ M)]) := by
 refine qAy (p := zU s most Es) uK (fun _ h => qAb h) (fun hsay => ?_)
 have hw := hsay.1
 have hmx : kK = 1152921504606846976 := rfl
 have lva := ha.lv hw (by omega)
 have lvb := hb.lv hw (by omega)
 have la := ha.len
 have lb := hb.len
 refine zR (hE.fn Tryd.func52) rfl rfl rfl (fun R => ?_)
 simp only [qAo, uV, uW]
 refine qN (qL (uA rfl (uA rfl (qO (qM (qN (qN (qL (uM rfl (uM rfl (uB (qGw (hE.t rfl) rfl rfl) ?_)))))))))))
 refine uM rfl (qO (qM (zN ?_)))
 refine qKi 3 ?_
 refine qFm ?_
 refine qN (qL (uB (y_lt rfl rfl) ?_))
 refine qO (qM (qN (zI rfl (zF (qM (qN (zN (qN (qL ?_)))))))))
 refine uB (qLy rfl rfl (hE.t rfl) (hE.t rfl) rfl (by omega) (by omega) rfl) ?_
 refine uA rfl (qO (qM (qN (qL (uM rfl (uM rfl (uX (qIm hE hB ha.gd) rfl ?_)))))))
 rintro _ _ ⟨rfl, rfl⟩
 simp only [uV, uW]
 refine uM rfl (uB (qX rfl rfl) (uB (qX rfl rfl) (uA rfl (uA rfl (qO (qM (qN (qL (uM rfl (uB (qAk rfl (hE.t rfl)) ?_))))))))))
 refine uM rfl (kT rfl rfl (uM rfl (kT rfl rfl (uB (y_gt rfl rfl) ?_))))
 refine uB (zB rfl rfl) ?_
 refine qO (qM ?_)
 refine zH rfl (fun g1 => ?_) (fun g1 => ?_)
 ·exfalso; omega
 refine zF (zL (qM (qL (uB (uAa rfl rfl) ?_))))
 refine uM rfl (qO ?_)
 refine a_rd ?_
 refine qFm ?_
 refine qN (qL (uB (y_lt rfl rfl) ?_))
 refine qO (qM (qN (zI rfl (zF (qM (qN (zN (qN (qL ?_)))))))))
 refine uB (qLy rfl rfl (hE.t rfl) (hE.t rfl) rfl (by omega) (by omega) rfl) ?_
 refine uA rfl (qO (qM (qN (qL (uM rfl (uM rfl (uX (qIm hE hB hb.gd) rfl ?_)))))))
 rintro _ _ ⟨rfl, rfl⟩
 simp only [uV, uW]
 refine uM rfl (uB (qX rfl rfl) (uB (qX rfl rfl) (uA rfl (uA rfl (qO (qM (qN (qL (uM rfl (uB (qAk rfl (hE.t rfl)) ?_))))))))))
 refine uM rfl (kT rfl rfl (uM rfl (kT rfl rfl (uB (y_gt rfl rfl) ?_))))
 refine uB (zB rfl rfl) ?_
 refine qO (qM ?_)
 refine zH rfl (fun g2 => ?_) (fun g2 => ?_)
 ·exfalso; omega
 refine zF (zL (qM (qL (uB (uAa rfl rfl) ?_))))
 refine uM rfl (qO ?_)
 refine a_rd ?_
 refine qFm ?_
 refine qN (qL (uB (y_lt rfl rfl) ?_))
 refine qO (qM (qN (zG rfl (kM (qU (qU (zK (qM (qN (qL (uM rfl (uM rfl ?_))))))))))))
 refine uX (qEi hE hb.gd.1) rfl ?_
 rintro _ _ ⟨rfl, rfl⟩
 simp only [uV, uW]
 refine uM rfl (uB (uAs rfl rfl) ?_)
 refine l_eq 44 (.int .i64 (len (rls Es) b : Nat)) rfl (zZ (by omega)) ?_
 refine uA rfl (qO (qM (qN (zN (qN (qL (uM rfl (uB (y_eq rfl rfl) ?_))))))))
 refine uM rfl ?_
 rcases Nat.eq_zero_or_pos a with rfl | hap
 ·obtain rfl := ha.zero
  have e0 : len (rls Es) 0 = 0 := la
  rw [e0]
  refine qAn 48 rfl (fun h1 => ?_) (fun h1 => ?_)
  ·refine kT rfl rfl ?_
   refine uM rfl (kT rfl rfl (uB (y_eq rfl rfl) ?_))
   refine uB (zA rfl rfl) ?_
   refine uA rfl (qO (qM (zI rfl (qN (qL (uM rfl (uA rfl (uA rfl (qO (qM (kE (zQ (qZ ?_)))))))))))))
   exact uZ rfl (.tmp rfl (.tmp rfl .nil)) ⟨[], b, rfl, Nat.zero_le _, by rw [List.append_nil]; exact hb, (fun _ => by have := hb.gd.2; rw [List.append_nil]; simp only [List.length_nil]; omega), (fun j j1 j2 => by simp at j2; omega), by rw [List.append_nil]⟩
  exfalso; exact h1 rfl
 obtain ⟨sa, na, ca⟩ := ha.parts hw (by omega)
 refine qAn 48 rfl (fun h1 => ?_) (fun h1 => ?_)
 ·exfalso; omega
 refine zW rfl rfl rfl rfl (zW rfl rfl rfl rfl ?_)
 refine uB (zB rfl rfl) ?_
 refine uA rfl (qO (qM (zG rfl (qN (qL (uM rfl (uB (y_eq rfl rfl) ?_)))))))
 refine uM rfl ?_
 rcases Nat.eq_zero_or_pos b with rfl | hbp
 ·obtain rfl := hb.zero
  have e0 : len (rls Es) 0 = 0 := lb
  rw [e0]
  refine qAn 56 rfl (fun h2 => ?_) (fun h2 => ?_)
  ·refine kT rfl rfl ?_
   refine uM rfl (kT rfl rfl (uM rfl (kT rfl rfl (uM rfl (kT rfl rfl (uX (qEi hE ha.gd.1) rfl ?_))))))
   rintro _ _ ⟨rfl, rfl⟩
   simp only [uV, uW]
   refine kT rfl rfl (uB (y_eq rfl rfl) ?_)
   refine uB (zA rfl rfl) ?_
   refine uA rfl (qO (qM ?_))
   refine zH rfl (fun h3 => ?_) (fun h3 => ?_)
   ·refine qN (qL ?_)
    refine uM rfl (uA rfl (uA rfl (qO (qM (kE (zQ (qZ ?_)))))))
    exact uZ rfl (.tmp rfl (.tmp rfl .nil)) ⟨[], a, rfl, Nat.zero_le _, by rw [List.append_nil, List.append_nil]; exact ha, (fun _ => by have := ha.gd.2; rw [List.append_nil]; simp only [List.length_nil]; omega), (fun j j1 j2 => by simp at j2; omega), by rw [List.append_nil]⟩
   exfalso; exact h3 rfl
  exfalso; exact h2 rfl
 obtain ⟨sb, nb, cb⟩ := hb.parts hw (by omega)
 refine qAn 56 rfl (fun h2 => ?_) (fun h2 => ?_)
 ·exfalso; omega
 refine zW rfl rfl rfl rfl (zW rfl rfl rfl rfl (zW rfl rfl rfl rfl (zW rfl rfl rfl rfl (zW rfl rfl rfl rfl ?_))))
 refine uB (zB rfl rfl) ?_
 refine uA rfl (qO (qM (zG rfl (qN (qL (uM rfl (uB (y_eq rfl rfl) ?_)))))))
 refine uM rfl ?_
 refine qAn 67 rfl (fun h3 => ?_) (fun h3 => ?_)
 ·exfalso; omega
 refine zW rfl rfl rfl rfl (zW rfl rfl rfl rfl ?_)
 refine uB (zB rfl rfl) ?_
 refine uA rfl (qO (qM (zG rfl (zF (zL (qM (qN (qL (uM rfl (uM rfl (uM rfl (uM rfl (uX (qJe hE hB sa) rfl ?_)))))))))))))
 rintro _ _ ⟨ya, ga, p1, c1, rfl, da, da0, rfl⟩
 simp only [uV, uW]
 refine uM rfl (uM rfl (uM rfl (uX (qJe hE hB sb) rfl ?_)))
 rintro _ _ ⟨yb, gb, p2, c2, rfl, db, db0, rfl⟩
 simp only [uV, uW]
 refine uB (qAl (hE.t rfl) rfl rfl) ?_
 refine uU (kI (hE.t rfl) (fun b17 => ?_))
 refine uU (uS ?_)
 refine qO (qM (qN (qL (uA rfl (qO (qM (zN ?_)))))))
 obtain ⟨hst, hsl, hs2⟩ := SpI.start (A := ⟨ya, ga, p1, c1⟩) (B := ⟨yb, gb, p2, c2⟩) hw none 0 sa sb na nb da db da0 db0
 refine qKh (qDq (t := 149) (sz := 4)) ?_
 refine qDb (fun x : SpG => [(0, uPt pp), (17, uPt b17), (18, .int .i64 ((x.l + 1 : Nat) : Int))]) (fun x => [cells pp [uPt s, uPt tb] 57, tabP tb s (rls (Es ++ x.M)), zU s most (Es ++ x.M), cells b17 [uPt pp, uPt pp, .bool false, .slice x.A.p x.A.fs.length x.A.c, .int .i64 (x.A.x : Nat), .int .u64 (key (rls (Es ++ x.M)) x.A.x : Nat), uPt pp, .bool true, .slice x.B.p x.B.fs.length x.B.c, .int .i64 (x.B.x : Nat), .int .u64 (key (rls (Es ++ x.M)) x.B.x : Nat), .slice x.C.p x.C.its.length x.C.c] 113, sl x.A.p x.A.c 137 8 x.A.fs.length (qAc (rls (Es ++ x.M)) x.A.fs), sl x.B.p x.B.c 137 8 x.B.fs.length (qAc (rls (Es ++ x.M)) x.B.fs), sl x.C.p x.C.c 149 4 x.C.its.length (itsC (rls (Es ++ x.M)) x.C.its), R]) (fun x => 30000 - x.l) (fun x => SpI (rls (Es ++ x.M)) (ta ++ tb') x.l a b x.A x.B x.C ∧ 2 ≤ (rowS (rls (Es ++ x.M)) x.l x.A x.B x.C).length ∧ x.M.length + (rowS (rls (Es ++ x.M)) x.l x.A x.B x.C).length ≤ ta.length + tb'.length ∧ (Dk (rls (Es ++ x.M)) → x.M.length + pot x.C.its ≤ 4 * x.l) ∧ (∀ j, Es.length < j → j ≤ (Es ++ x.M).length → InRow (rls (Es ++ x.M)) (ta ++ tb') j)) ⟨0, [], ⟨ya, ga, p1, c1⟩, ⟨yb, gb, p2, c2⟩, ⟨[], none, 0⟩⟩ ⟨by rw [List.append_nil]; exact hst, by rw [List.append_nil]; exact hs2, by rw [List.append_nil, hsl]; simp, fun _ => Nat.le_refl 0, fun j j1 j2 => by simp at j2; omega⟩ ⟨rfl, rfl, rfl, trivial⟩ ?_ ?_
 ·rw [List.append_nil]
  exact uI
 rintro ⟨l, M, A, B, C⟩ ⟨hI, h2r, hrm, hpt, hnw⟩
 simp only at hI h2r hrm hpt hnw ⊢
 refine qFd (p := zU s most (Es ++ M)) uK (fun _ h => qAb h) ?_
 rintro ⟨hw2, -, -, -⟩
 have hbl : (ta ++ tb').length ≤ kK := by rw [List.length_append]; omega
 have hlv := hI.ch.lv_le hw2 hbl h2r
 have hel : (Es ++ M).length = Es.length + M.length := List.length_append
 have hids : ∀ x ∈ qAa C.its, 1 ≤ x ∧ x ≤ (rls (Es ++ M)).length := fun x hx => hI.mem hw2 x (by unfold rowS; simp [hx])
 have hrl : (seqE (rls (Es ++ M)) false l A.x A.fs ++ (qAa C.its ++ seqE (rls (Es ++ M)) true l B.x B.fs)).length ≤ 800000000000 := by show (rowS (rls (Es ++ M)) l A B C).length ≤ _; omega
 have hrs : RmS (Es ++ M) most (l + 1) (rowS (rls (Es ++ M)) l A B C) := fun K hwK hK => by
  rw [List.append_assoc] at hwK ⊢
  refine hroom (M ++ K) hwK fun j j1 j2 => ?_
  rw [← List.append_assoc] at j2 ⊢
  rcases Nat.lt_or_ge (Es ++ M).length j with h3 | h3
  ·have h4 := hK j h3 j2
   rw [kJ] at h4 ⊢
   exact qWv (hI.ch.ext _) h2r h4
  rw [kJ]
  exact (hnw j j1 h3).ext _
 refine qN (zN (qN (qL (uM rfl ?_))))
 refine uX (qSt hE hB (Es := Es ++ M) (S := b17) hI.sa hI.sb hI.ea hI.eb hI.sng hI.one hids hrl (by omega) (by omega)) rfl ?_
 rintro _ _ ⟨A1, B1, C1, rfl, hr, rfl⟩
 simp only [uV, uW]
 refine qO (qM (qN (qN (qL (uM rfl ?_)))))
 refine uX (ct_merge hE hB (Es := Es ++ M) (S := b17) (most := most) hI h2r hr hbl (by omega) hrs (by omega)) rfl ?_
 rintro _ _ ⟨N, A2, B2, C2, rfl, hI2, hN, hN2, hN3, rfl⟩
 have hnw2 : (∀ j, Es.length < j → j ≤ (Es ++ (M ++ N)).length → InRow (rls (Es ++ (M ++ N))) (ta ++ tb') j) := fun j j1 j2 => by
  rw [← List.append_assoc] at j2 ⊢
  rcases Nat.lt_or_ge (Es ++ M).length j with h3 | h3
  ·have h4 := hN3 j h3 j2
   rw [kJ] at h4 ⊢
   exact qWv (hI.ch.ext _) h2r h4
  rw [kJ]
  exact (hnw j j1 h3).ext _
 rw [List.append_assoc] at hI2 hN ⊢
 simp only [uV, uW]
 refine qId (p := zU s most (Es ++ (M ++ N))) uK (fun _ h => qAb h) ?_
 rintro ⟨hw3, -, -, -⟩
 refine uA rfl (qO (qM (qN (qL (uM rfl (uB (qAk rfl (hE.t rfl)) ?_))))))
 refine qO (qM (zG rfl (zF (qM (qN (qL (uB (uBf rfl) ?_)))))))
 refine uB (uBf rfl) ?_
 refine uL ?_
 refine uB (y_eq rfl rfl) ?_
 refine uM rfl ?_
 have hpt2 : Dk (rls (Es ++ (M ++ N))) → (M ++ N).length + pot C2.its ≤ 4 * (l + 1) := fun hd => by
  rw [← List.append_assoc, kJ (Es ++ M)] at hd
  have h1 := hpt hd.left
  have h2 := hN2 hd.left
  rw [List.length_append]
  omega
 have again : ¬ (A2.x = 0 ∧ B2.x = 0 ∧ ∃ it, C2.its = [it] ∧ it.times = 1) → SpI (rls (Es ++ (M ++ N))) (ta ++ tb') (l + 1) a b A2 B2 C2 ∧ 2 ≤ (rowS (rls (Es ++ (M ++ N))) (l + 1) A2 B2 C2).length ∧ (M ++ N).length + (rowS (rls (Es ++ (M ++ N))) (l + 1) A2 B2 C2).length ≤ ta.length + tb'.length ∧ (Dk (rls (Es ++ (M ++ N))) → (M ++ N).length + pot C2.its ≤ 4 * (l + 1)) ∧ (∀ j, Es.length < j → j ≤ (Es ++ (M ++ N)).length → InRow (rls (Es ++ (M ++ N))) (ta ++ tb') j) := fun h => ⟨hI2, hI2.two_left h, by rw [List.length_append]; omega, hpt2, hnw2⟩
 obtain ⟨its2, p3, c3⟩ := C2
 simp only at hI2 hN hpt2 again ⊢
 refine qAn 94 rfl (fun h4 => ?_) (fun h4 => ?_)
 ·have hA : A2.x = 0 := by omega
  refine kT rfl rfl (uB (uBf rfl) ?_)
  refine kT rfl rfl (uB (uBf rfl) ?_)
  refine kT rfl rfl (uL ?_)
  refine kT rfl rfl (uB (y_eq rfl rfl) ?_)
  refine uB (zA rfl rfl) ?_
  refine uM rfl ?_
  refine qAn 100 rfl (fun h5 => ?_) (fun h5 => ?_)
  ·have hB2 : B2.x = 0 := by omega
   refine kT rfl rfl (uB (uBf rfl) ?_)
   refine kT rfl rfl (uL ?_)
   refine kT rfl rfl (uB (uBl rfl) ?_)
   refine kT rfl rfl (uB (y_eq rfl rfl) ?_)
   refine uB (zA rfl rfl) ?_
   refine uM rfl ?_
   refine qAn 106 rfl (fun h6 => ?_) (fun h6 => ?_)
   ·obtain ⟨it, rfl⟩ : ∃ it, its2 = [it] := List.length_eq_one_iff.1 (by omega)
    refine qId (p := sl p3 c3 149 4 [it].length (itsC (rls (Es ++ (M ++ N))) [it])) uK (fun _ h => qCc h (by simp)) ?_
    rintro ⟨g, rfl⟩
    rw [qBe]
    have hl1 : (1 : Int) ≤ (([it].length : Nat) : Int) := by simp
    refine kT rfl rfl (uB (uBf rfl) ?_)
    refine kT rfl rfl (uL ?_)
    refine kT rfl rfl (uB (uAi rfl rfl) ?_)
    refine kT rfl rfl (uB (uBf rfl) ?_)
    refine kT rfl rfl (uL ?_)
    refine kT rfl rfl (uB (y_eq rfl rfl) ?_)
    refine uB (zA rfl rfl) ?_
    refine qO (qM ?_)
    refine zH rfl (fun h7 => ?_) (fun h7 => ?_)
    ·obtain ⟨r1, r2, r3, r4, r5, r6, r7⟩ := hI2.one_left hw3 hA hB2 rfl (by omega)
     refine qN (qL (uB (uBf rfl) ?_))
     refine uL ?_
     refine uB (uAi rfl rfl) ?_
     refine uB (uBf rfl) ?_
     refine uL ?_
     refine uA rfl (uA rfl (qO (qM (kE (zQ (qZ (qZ (zQ ?_))))))))
     exact uZ rfl (.tmp rfl (.tmp rfl .nil)) ⟨M ++ N, it.id, rfl, by rw [List.length_append]; omega, ⟨r1, r5, r3, r4⟩, (fun hd => by have h1 := hpt2 hd; have h2 := r7 (by omega); omega), hnw2, rfl⟩
    have hag := again (fun ⟨_, _, i, e, ht⟩ => by cases e; exact h7 (by rw [ht]; rfl))
    refine zF (zL (qM (qL (uM rfl (uB (uAa rfl rfl) ?_)))))
    refine uA rfl (qO ?_)
    refine qCj 18 (.int .i64 ((l + 1 + 1 : Nat) : Int)) rfl (zZ (by omega)) ?_
    refine zV (ι := SpG) (j := ⟨l + 1, M ++ N, A2, B2, ⟨[it], some ⟨g, 0, none⟩, c3⟩⟩) hag (by show 30000 - (l + 1) < 30000 - l; omega) ⟨rfl, rfl, rfl, trivial⟩ ?_
    rw [← qBe]
    exact uI
   have hag := again (fun ⟨_, _, i, e, ht⟩ => by rw [e] at h6; exact h6 rfl)
   refine zW rfl rfl rfl rfl (zW rfl rfl rfl rfl (zW rfl rfl rfl rfl (zW rfl rfl rfl rfl (zW rfl rfl rfl rfl (zW rfl rfl rfl rfl ?_)))))
   refine uB (zB rfl rfl) ?_
   refine qO (qM (zG rfl (zF (zL (qM (qL (uM rfl (uB (uAa rfl rfl) ?_))))))))
   refine uA rfl (qO ?_)
   refine qCj 18 (.int .i64 ((l + 1 + 1 : Nat) : Int)) rfl (zZ (by omega)) ?_
   refine zV (ι := SpG) (j := ⟨l + 1, M ++ N, A2, B2, ⟨its2, p3, c3⟩⟩) hag (by show 30000 - (l + 1) < 30000 - l; omega) ⟨rfl, rfl, rfl, trivial⟩ ?_
   exact uI
  have hag := again (fun ⟨_, h, _⟩ => h5 (by rw [h]; rfl))
  refine zW rfl rfl rfl rfl (zW rfl rfl rfl rfl (zW rfl rfl rfl rfl (zW rfl rfl rfl rfl ?_)))
  refine uB (zB rfl rfl) ?_
  refine uM rfl ?_
  refine zW rfl rfl rfl rfl (zW rfl rfl rfl rfl (zW rfl rfl rfl rfl (zW rfl rfl rfl rfl (zW rfl rfl rfl rfl (zW rfl rfl rfl rfl ?_)))))
  refine uB (zB rfl rfl) ?_
  refine qO (qM (zG rfl (zF (zL (qM (qL (uM rfl (uB (uAa rfl rfl) ?_))))))))
  refine uA rfl (qO ?_)
  refine qCj 18 (.int .i64 ((l + 1 + 1 : Nat) : Int)) rfl (zZ (by omega)) ?_
  refine zV (ι := SpG) (j := ⟨l + 1, M ++ N, A2, B2, ⟨its2, p3, c3⟩⟩) hag (by show 30000 - (l + 1) < 30000 - l; omega) ⟨rfl, rfl, rfl, trivial⟩ ?_
  exact uI
 have hag := again (fun ⟨h, _⟩ => h4 (by rw [h]; rfl))
 refine zW rfl rfl rfl rfl (zW rfl rfl rfl rfl (zW rfl rfl rfl rfl (zW rfl rfl rfl rfl ?_)))
 refine uB (zB rfl rfl) ?_
 refine uM rfl ?_
 refine zW rfl rfl rfl rfl (zW rfl rfl rfl rfl (zW rfl rfl rfl rfl (zW rfl rfl rfl rfl ?_)))
 refine uB (zB rfl rfl) ?_
 refine uM rfl ?_
 refine zW rfl rfl rfl rfl (zW rfl rfl rfl rfl (zW rfl rfl rfl rfl (zW rfl rfl rfl rfl (zW rfl rfl rfl rfl (zW rfl rfl rfl rfl ?_)))))
 refine uB (zB rfl rfl) ?_
 refine qO (qM (zG rfl (zF (zL (qM (qL (uM rfl (uB (uAa rfl rfl) ?_))))))))
 refine uA rfl (qO ?_)
 refine qCj 18 (.int .i64 ((l + 1 + 1 : Nat) : Int)) rfl (zZ (by omega)) ?_
 refine zV (ι := SpG) (j := ⟨l + 1, M ++ N, A2, B2, ⟨its2, p3, c3⟩⟩) hag (by show 30000 - (l + 1) < 30000 - l; omega) ⟨rfl, rfl, rfl, trivial⟩ ?_
 exact uI
end
section
variable {E : Env} {Es : List Ent} {pp tb s most : Nat}
def JoinPost (pp s tb most : Nat) (Es : List Ent) (n : Nat) (bs : List UInt8) (v : Value) (Q : List HP) : Prop := ∃ M id, v = .tuple #[.int .i64 (id : Nat), .nilIface] ∧ M.length ≤ n ∧ Sn (rls (Es ++ M)) bs id ∧ (Dk (rls (Es ++ M)) → (M.length : Int) ≤ 4 * lvl (rls (Es ++ M)) id) ∧ (∀ j, Es.length < j → j ≤ (Es ++ M).length → InRow (rls (Es ++ M)) bs j) ∧ Q = [cells pp [uPt s, uPt tb] 57, tabP tb s (rls (Es ++ M)), zU s most (Es ++ M)]
theorem qUu (hE : Seat E) (hB : Base E.w0) {a b : Nat} {ta tb' : List UInt8} (ha : Sn (rls Es) ta a) (hb : Sn (rls Es) tb' b) (hlen : ta.length + tb'.length ≤ 800000000000) (hroom : RmT Es most (ta ++ tb')) :
  Ct E 30 [uPt pp, .int .i64 (a : Nat), .int .i64 (b : Nat)] [cells pp [uPt s, uPt tb] 57, tabP tb s (rls Es), zU s most Es] (JoinPost pp s tb most Es (ta.length + tb'.length) (ta ++ tb')) := by
 refine zR (hE.fn Tryd.func30) rfl rfl rfl (fun R => ?_)
 simp only [qAo, uV, uW]
 refine qN (qL (uA rfl (uA rfl (qO (qM (qN (qL (uM rfl (uM rfl (uM rfl (uM rfl (uX (qEi hE ha.gd.1) rfl ?_))))))))))))
 rintro _ _ ⟨rfl, rfl⟩
 simp only [uV, uW]
 refine uM rfl (uX (zAb hE hB ha hb hlen hroom) rfl ?_)
 rintro _ _ ⟨M, id, rfl, hM, hs, hdk, hnw, rfl⟩
 simp only [uV, uW]
 refine uB (qX rfl rfl) (uB (qX rfl rfl) (uA rfl (uA rfl (qO (qM (kE ?_))))))
 exact uZ rfl (.tmp rfl (.tmp rfl .nil)) ⟨M, id, rfl, hM, hs, hdk, hnw, rfl⟩
theorem ct_ladd (hE : Seat E) {a b : Nat} (h : a + b ≤ kK) : Ct E 29 [.int .i64 (a : Nat), .int .i64 (b : Nat)] [] (fun v Q => v = .tuple #[.int .i64 ((a + b : Nat) : Int), .nilIface] ∧ Q = []) := by
 apply qKp
 intro w
 rw [hE.P]
 exact qKr a b w h
theorem qKm (hE : Seat E) (hB : Base E.w0) {a b : Nat} {ta tb' : List UInt8} (ha : Sn (rls Es) ta a) (hb : Sn (rls Es) tb' b) (hlen : ta.length + tb'.length ≤ 800000000000) (hroom : RmT Es most (ta ++ tb')) :
  Ct E 11 [uPt pp, .int .i64 (a : Nat), .int .i64 (b : Nat)] [cells pp [uPt s, uPt tb] 57, tabP tb s (rls Es), zU s most Es] (JoinPost pp s tb most Es (ta.length + tb'.length) (ta ++ tb')) := by
 have hmx : kK = 1152921504606846976 := rfl
 have hi1 := ha.gd.1
 have hj1 := hb.gd.1
 have la := ha.len
 have lb := hb.len
 rw [zT] at hi1 hj1
 refine zR (hE.fn Tryd.func11) rfl rfl rfl (fun R => ?_)
 simp only [qAo, uV, uW]
 refine qN (qL (uA rfl (uA rfl (qO (qM (qN (qN (qL (uM rfl (uX (qBb hE) rfl ?_))))))))))
 rintro _ _ ⟨rfl, rfl⟩
 simp only [uV, uW]
 apply qD
 ·(first | exact qBa rfl (hE.t rfl) | exact qDy rfl (hE.t rfl))
 ·rfl
 refine qO (qM (zG rfl (zF (qM (qN (qN (qL (uM rfl (uM rfl ?_)))))))))
 apply qD
 ·(first | exact qAl (hE.t rfl) rfl rfl | exact qGw (hE.t rfl) rfl rfl)
 ·rfl
 refine uM rfl (qO (qM (zN ?_)))
 refine qKi 3 ?_
 refine qFm ?_
 refine qN (qL (uB (y_lt rfl rfl) ?_))
 refine qO (qM (qN (zI rfl (zF (qM (qN (zN (qN (qL ?_)))))))))
 refine uB (qLy rfl rfl (hE.t rfl) (hE.t rfl) rfl (by omega) (by omega) rfl) ?_
 refine uA rfl (qO (qM (qN (qL (uM rfl (uB (y_lt rfl rfl) ?_))))))
 refine uM rfl ?_
 refine qAn 28 rfl (fun h1 => ?_) (fun h1 => ?_)
 ·exact absurd h1 (by omega)
 refine kT rfl rfl (uM rfl (kT rfl rfl (uM rfl (kT rfl rfl (uX (qBb hE) rfl ?_)))))
 rintro _ _ ⟨rfl, rfl⟩
 simp only [uV, uW]
 refine kT rfl rfl (uX (qSu hE) rfl ?_)
 rintro _ _ ⟨rfl, rfl⟩
 simp only [uV, uW]
 refine kT rfl rfl (uB (y_gt rfl rfl) ?_)
 apply qD
 ·(first | exact zA rfl rfl | exact zB rfl rfl)
 ·rfl
 refine qO (qM ?_)
 refine zH rfl (fun h2 => ?_) (fun h2 => ?_)
 ·exact absurd h2 (by omega)
 refine zF (zL (qM (qL (uB (uAa rfl rfl) ?_))))
 refine uM rfl (qO ?_)
 refine a_rd ?_
 refine qFm ?_
 refine qN (qL (uB (y_lt rfl rfl) ?_))
 refine qO (qM (qN (zI rfl (zF (qM (qN (zN (qN (qL ?_)))))))))
 refine uB (qLy rfl rfl (hE.t rfl) (hE.t rfl) rfl (by omega) (by omega) rfl) ?_
 refine uA rfl (qO (qM (qN (qL (uM rfl (uB (y_lt rfl rfl) ?_))))))
 refine uM rfl ?_
 refine qAn 28 rfl (fun h3 => ?_) (fun h3 => ?_)
 ·exact absurd h3 (by omega)
 refine kT rfl rfl (uM rfl (kT rfl rfl (uM rfl (kT rfl rfl (uX (qBb hE) rfl ?_)))))
 rintro _ _ ⟨rfl, rfl⟩
 simp only [uV, uW]
 refine kT rfl rfl (uX (qSu hE) rfl ?_)
 rintro _ _ ⟨rfl, rfl⟩
 simp only [uV, uW]
 refine kT rfl rfl (uB (y_gt rfl rfl) ?_)
 apply qD
 ·(first | exact zA rfl rfl | exact zB rfl rfl)
 ·rfl
 refine qO (qM ?_)
 refine zH rfl (fun h4 => ?_) (fun h4 => ?_)
 ·exact absurd h4 (by omega)
 refine zF (zL (qM (qL (uB (uAa rfl rfl) ?_))))
 refine uM rfl (qO ?_)
 refine a_rd ?_
 refine qFm ?_
 refine qN (qL (uB (y_lt rfl rfl) ?_))
 refine qO (qM (qN (zG rfl (kM (qU (qU (zK (qM (qN (qN (qL (uM rfl (uM rfl ?_)))))))))))))
 apply qD
 ·(first | exact qAl (hE.t rfl) rfl rfl | exact qGw (hE.t rfl) rfl rfl)
 ·rfl
 refine uM rfl (qO (qM (zN ?_)))
 refine qKi 3 ?_
 refine qFm ?_
 refine qN (qL (uB (y_lt rfl rfl) ?_))
 refine qO (qM (qN (zI rfl (zF (qM (qN (zN (qN (qL ?_)))))))))
 refine uB (qLy rfl rfl (hE.t rfl) (hE.t rfl) rfl (by omega) (by omega) rfl) ?_
 refine uA rfl (qO (qM (qN (qL (uM rfl (uM rfl (uX (qIm hE hB ha.gd) rfl ?_)))))))
 rintro _ _ ⟨rfl, rfl⟩
 simp only [uV, uW]
 refine uM rfl (uB (qX rfl rfl) (uB (qX rfl rfl) (uA rfl (uA rfl (qO (qM (qN (qL (uM rfl ?_)))))))))
 apply qD
 ·(first | exact qAk rfl (hE.t rfl) | exact qCf rfl (hE.t rfl))
 ·rfl
 refine qO (qM (zG rfl (zF (zL (qM (qL (uB (uAa rfl rfl) ?_)))))))
 refine uM rfl (qO ?_)
 refine a_rd ?_
 refine qFm ?_
 refine qN (qL (uB (y_lt rfl rfl) ?_))
 refine qO (qM (qN (zI rfl (zF (qM (qN (zN (qN (qL ?_)))))))))
 refine uB (qLy rfl rfl (hE.t rfl) (hE.t rfl) rfl (by omega) (by omega) rfl) ?_
 refine uA rfl (qO (qM (qN (qL (uM rfl (uM rfl (uX (qIm hE hB hb.gd) rfl ?_)))))))
 rintro _ _ ⟨rfl, rfl⟩
 simp only [uV, uW]
 refine uM rfl (uB (qX rfl rfl) (uB (qX rfl rfl) (uA rfl (uA rfl (qO (qM (qN (qL (uM rfl ?_)))))))))
 apply qD
 ·(first | exact qAk rfl (hE.t rfl) | exact qCf rfl (hE.t rfl))
 ·rfl
 refine qO (qM (zG rfl (zF (zL (qM (qL (uB (uAa rfl rfl) ?_)))))))
 refine uM rfl (qO ?_)
 refine a_rd ?_
 refine qFm ?_
 refine qN (qL (uB (y_lt rfl rfl) ?_))
 refine qO (qM (qN (zG rfl (kM (qU (qU (zK (qM (qN (qN (qL (uM rfl (uM rfl ?_)))))))))))))
 refine uX (qEi hE ha.gd.1) rfl ?_
 rintro _ _ ⟨rfl, rfl⟩
 simp only [uV, uW]
 refine uM rfl (uM rfl (uX (qEi hE hb.gd.1) rfl ?_))
 rintro _ _ ⟨rfl, rfl⟩
 simp only [uV, uW]
 refine uX (ct_ladd hE (by omega)) rfl ?_
 rintro _ _ ⟨rfl, rfl⟩
 simp only [uV, uW]
 refine uM rfl (uB (qX rfl rfl) (uB (qX rfl rfl) (uA rfl (uA rfl (qO (qM (qN (qL (uM rfl ?_)))))))))
 apply qD
 ·(first | exact qAk rfl (hE.t rfl) | exact qCf rfl (hE.t rfl))
 ·rfl
 refine qO (qM (zG rfl (zF (qM (qN (qL (uM rfl (uM rfl (uM rfl (uX (qUu hE hB ha hb hlen hroom) rfl ?_))))))))))
 rintro _ _ ⟨M, id, rfl, hM, hs, hdk, hnw, rfl⟩
 simp only [uV, uW]
 refine uB (qX rfl rfl) (uB (qX rfl rfl) (uA rfl (uA rfl (qO (qM (kE ?_))))))
 exact uZ rfl (.tmp rfl (.tmp rfl .nil)) ⟨M, id, rfl, hM, hs, hdk, hnw, rfl⟩
end
end Go.Proofs.YtlleicanafioaaaDoor
