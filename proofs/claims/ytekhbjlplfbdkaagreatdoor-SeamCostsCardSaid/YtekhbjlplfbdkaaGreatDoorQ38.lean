/- Plain: the signature of a repeated text. No program here. -/
import Derived.Test.YtekhbjlplfbdkaaGreatDoorQ35
set_option linter.unusedVariables false
set_option linter.unusedSimpArgs false
namespace Go.Proofs.YtekhbjlplfbdkaaGreatDoor
open Go Go.RowKit Sl Eg
def rep {α : Type} (k : Nat) (l : List α) : List α := (List.replicate k l).flatten
theorem rep_zero {α : Type} (l : List α) : rep 0 l = [] := rfl
theorem rep_succ {α : Type} (k : Nat) (l : List α) : rep (k + 1) l = l ++ rep k l := by simp [rep, List.replicate_succ]
theorem rep_one {α : Type} (l : List α) : rep 1 l = l := by simp [rep]
theorem rep_add {α : Type} (a b : Nat) (l : List α) : rep (a + b) l = rep a l ++ rep b l := by simp [rep, ← List.replicate_append_replicate]
theorem rep_mul {α : Type} (a b : Nat) (l : List α) : rep a (rep b l) = rep (a * b) l := by
  induction a with
  | zero => rw [Nat.zero_mul]; rfl
  | succ a ih => rw [rep_succ, ih, Nat.succ_mul, Nat.add_comm, rep_add]
theorem rep_length {α : Type} (k : Nat) (l : List α) : (rep k l).length = k * l.length := by
  induction k with
  | zero => simp [rep]
  | succ k ih => rw [rep_succ, List.length_append, ih, Nat.succ_mul]; omega
theorem rep_hd {α : Type} {l : List α} (h : l ≠ []) (k : Nat) : (rep (k + 1) l).head? = l.head? := by
  rw [rep_succ]
  cases l with
  | nil => exact absurd rfl h
  | cons a l => rfl
theorem rep_unit (k x : Nat) : rep k [x] = List.replicate k x := flatten_ones k x
theorem Sq.rep {L : List Rl} {lv : Nat} {X X' : List Nat} (h : Sq L lv X X') (hb : Bdry L lv X X' X) (hx : X ≠ []) : ∀ k, Sq L lv (Go.Proofs.YtekhbjlplfbdkaaGreatDoor.rep k X) (Go.Proofs.YtekhbjlplfbdkaaGreatDoor.rep k X')
  | 0 => .nil _ _
  | k + 1 => by
    rw [rep_succ, rep_succ]
    refine h.join (Sq.rep h hb hx k) fun u v e1 e2 => ?_
    cases k with
    | zero => simp [rep_zero] at e2
    | succ k => rw [rep_hd hx] at e2; exact hb u v e1 e2
theorem Lts.rep {L : List Rl} {ids : List Nat} {bs : List UInt8} (h : Lts L ids bs) : ∀ k, Lts L (Go.Proofs.YtekhbjlplfbdkaaGreatDoor.rep k ids) (Go.Proofs.YtekhbjlplfbdkaaGreatDoor.rep k bs)
  | 0 => .nil
  | k + 1 => by rw [rep_succ, rep_succ]; exact h.append (Lts.rep h k)
theorem rows_rep {L : List Rl} (hw : Wf L) {x k : Nat} {t : List UInt8} (hs : Sig L x) (hl : Lts L (expd L 0 x) t) (h2 : 2 ≤ k) {m : Nat} (hb : ∀ l, l < m → Bdry L (l + 1) (expd L l x) (expd L (l + 1) x) (expd L l x)) : ∀ l, l ≤ m → Rch L (rep k t) (l + 1) (rep k (expd L l x))
  | 0, _ => .start (hl.rep k)
  | l + 1, h => by
    have ih := rows_rep hw hs hl h2 hb l (by omega)
    have hp := (expd_pos hw (l := l) x hs.pos hs.le).1
    have hi := hs.inv (l + 1) (by omega)
    have hst := hs.step (l + 1) (by omega)
    rw [Nat.add_sub_cancel] at hi hst
    refine ih.next ?_ (fun y hy => ?_) (hst.rep (hb l (by omega)) (by intro e; rw [e] at hp; simp at hp) k)
    · rw [rep_length]
      have : 2 * 1 ≤ k * (expd L l x).length := Nat.mul_le_mul h2 hp
      omega
    · unfold rep at hy
      rw [List.mem_flatten] at hy
      obtain ⟨l', h1, h3⟩ := hy
      rw [(List.mem_replicate.1 h1).2] at h3
      exact (hi.ok y h3).2.1
theorem rep_sig {L : List Rl} (hw : Wf L) {x k m j : Nat} {t : List UInt8} (hs : Sig L x) (hl : Lts L (expd L 0 x) t) (ht : txt L x = t) (h2 : 2 ≤ k) (hm : lvl L x = (m : Nat)) (he : m % 2 = 0) (hb : ∀ l, l < m → Bdry L (l + 1) (expd L l x) (expd L (l + 1) x) (expd L l x)) (hp : L[j]? = some (.power x k)) : Sn L (rep k t) (j + 1) := by
  have h1 := rows_rep hw hs hl h2 hb m (Nat.le_refl m)
  rw [expd_low hs.pos (by omega), rep_unit] at h1
  have hq : Sq L (m + 1) (List.replicate k x) [j + 1] := by
    have := Rg.run (L := L) (x := x) (t := k) (id := j + 1) (r := []) (o := []) (by omega) (.inr ⟨h2, j, rfl, hp⟩) (by simp) .nil
    rw [List.append_nil] at this
    unfold Sq
    rw [if_pos (by omega)]
    exact this
  have h3 := h1.next (by simp; exact h2) (fun y hy => by rw [(List.mem_replicate.1 hy).2]; exact hs.le) hq
  have hok := (h3.rows hw).1.ok (j + 1) (by simp)
  refine ⟨.inr ⟨_, h3⟩, ?_, hok.2.1, hok.2.2.1⟩
  rw [txt_power hp (hw.ok _ _ hp), ht]
  rfl
theorem Lts.split {L : List Rl} {a b : List Nat} {bs : List UInt8} (h : Lts L (a ++ b) bs) : ∃ u v, Lts L a u ∧ Lts L b v ∧ bs = u ++ v := by
  generalize e : a ++ b = c at h
  induction h generalizing b with
  | nil =>
    obtain ⟨rfl, rfl⟩ := List.append_eq_nil_iff.1 e
    exact ⟨[], [], .nil, .nil, rfl⟩
  | @snoc ids bs i c h1 h2 ih =>
    rcases List.eq_nil_or_concat b with rfl | ⟨b', y, rfl⟩
    · rw [List.append_nil] at e
      subst e
      exact ⟨_, [], .snoc h1 h2, .nil, by simp⟩
    · rw [List.concat_eq_append, ← List.append_assoc] at *
      obtain ⟨e1, e2⟩ := List.append_inj' e rfl
      simp at e2
      subst e2
      obtain ⟨u, v, g1, g2, rfl⟩ := ih e1
      exact ⟨u, v ++ [c], g1, .snoc g2 h2, by simp⟩
theorem pow_parts {L : List Rl} (hw : Wf L) {x y n : Nat} {t : List UInt8} (hs : Sig L x) (hl : Lts L (expd L 0 x) t) (ht : txt L x = t) (hr : L[x - 1]? = some (.power y n)) :
    ∃ m, Sig L y ∧ lvl L y = (m : Nat) ∧ m % 2 = 0 ∧ 2 ≤ n ∧ Lts L (expd L 0 y) (txt L y) ∧ t = rep n (txt L y) ∧ ∀ l, l < m → Bdry L (l + 1) (expd L l y) (expd L (l + 1) y) (expd L l y) := by
  obtain ⟨q1, q2⟩ := lvl_power hw hs.pos hr hs.lv
  have hk := hw.ok _ _ hr
  obtain ⟨k1, k2, k3⟩ := hk
  have hx1 := hs.pos
  have hy0 : 0 ≤ lvl L y := by
    have := (key_power hr (hw.ok _ _ hr)).2
    rw [show x - 1 + 1 = x by omega] at this
    have hlv := hs.lv
    rw [this] at hlv
    split at hlv
    · rename_i h; exact h.1
    · omega
  obtain ⟨m, hm⟩ : ∃ m : Nat, lvl L y = (m : Nat) := ⟨(lvl L y).toNat, by omega⟩
  have hyl : y ≤ L.length := by have := (List.getElem?_eq_some_iff.1 hr).1; omega
  have ex : ∀ l, l ≤ m → expd L l x = rep n (expd L l y) := fun l h => by
    rw [show x = x - 1 + 1 by omega]
    exact expd_power hw hr (by rw [show x - 1 + 1 = x by omega]; omega)
  obtain ⟨p, rfl⟩ : ∃ p, n = p + 2 := ⟨n - 2, by omega⟩
  have par : ∀ l, l < m → Sq L (l + 1) (expd L l y) (expd L (l + 1) y) ∧ Inv L (l + 1) (expd L l y) ∧ Bdry L (l + 1) (expd L l y) (expd L (l + 1) y) (expd L l y) := fun l h => by
    have hst := hs.step (l + 1) (by omega)
    have hin := hs.inv (l + 1) (by omega)
    rw [Nat.add_sub_cancel, ex l (by omega)] at hst hin
    rw [ex (l + 1) (by omega)] at hst
    rw [rep_succ (p + 1) (expd L (l + 1) y)] at hst
    have hin1 := hin
    rw [rep_succ] at hin1
    obtain ⟨X, W, e, s1, s2, b⟩ := hst.split hw
    rw [e] at hin
    have d1 := s1.down hin.left (by omega)
    rw [Nat.add_sub_cancel, expd_trans hw (by omega) y hyl] at d1
    subst d1
    rw [rep_succ (p + 1)] at e
    have e2 : W = rep (p + 1) (expd L l y) := (List.append_cancel_left e).symm
    subst e2
    refine ⟨s1, hin1.left, fun u v e1 e3 => b u v e1 ?_⟩
    have hp := (expd_pos hw (l := l) y k1 hyl).1
    rw [rep_hd (by intro e; rw [e] at hp; simp at hp)]
    exact e3
  refine ⟨m, ⟨k1, hyl, hy0, fun k hk => ?_, fun k hk => ?_⟩, hm, by omega, k3, ?_, ?_, fun l h => (par l h).2.2⟩
  · rcases Nat.lt_or_ge (k - 1) m with h | h
    · have := (par (k - 1) h).2.1
      rwa [show k - 1 + 1 = k by omega] at this
    · rw [expd_low k1 (by omega)]
      exact .one hw k1 hyl hy0 (by omega)
  · rcases Nat.lt_or_ge (k - 1) m with h | h
    · have := (par (k - 1) h).1
      rwa [show k - 1 + 1 = k by omega] at this
    · rw [expd_low k1 (by omega), expd_low k1 (by omega)]
      exact .one L k y
  · rw [ex 0 (Nat.zero_le m), rep_succ] at hl
    obtain ⟨u, v, g1, _, _⟩ := hl.split
    have e1 := g1.text
    have : rowT L (expd L 0 y) = txt L y := by
      have hst : ∀ l, l ≤ m → rowT L (expd L l y) = rowT L (expd L 0 y) := fun l => by
        induction l with
        | zero => intro _; rfl
        | succ l ih => intro h; rw [← ih (by omega)]; exact (par l (by omega)).1.text hw
      rw [← hst m (Nat.le_refl m), expd_low k1 (by omega), rowT_one]
    rw [← this, e1]
    exact g1
  · rw [← ht]
    have := txt_power hr (hw.ok _ _ hr)
    rw [show x - 1 + 1 = x by omega] at this
    exact this
end Go.Proofs.YtekhbjlplfbdkaaGreatDoor
namespace Go.Proofs.YtekhbjlplfbdkaaGreatDoor
open Go Go.RowKit Sl Eg
set_option maxRecDepth 10000
variable {E : Env} {Es : List Ent} {pp tb s most : Nat}
theorem expd_short {L : List Rl} {x : Nat} (hs : Sig L x) : ∀ l, (expd L l x).length ≤ (expd L 0 x).length
  | 0 => Nat.le_refl _
  | l + 1 => by
    have := (hs.step (l + 1) (by omega)).le
    rw [Nat.add_sub_cancel] at this
    have := expd_short hs l
    omega
def Apt (L : List Rl) (x m : Nat) : Prop := lvl L x = (m : Nat) ∧ m % 2 = 0 ∧ ∀ l, l < m → Bdry L (l + 1) (expd L l x) (expd L (l + 1) x) (expd L l x)
structure ApG where
  l : Nat
  A : Sd
  B : Sd
  C : Md
structure ApI (L : List Rl) (x m : Nat) (q : ApG) : Prop where
  le : q.l ≤ m
  ea : EO L false q.l x q.A.x q.A.fs
  eb : EO L true q.l x q.B.x q.B.fs
  ra : seqE L false q.l q.A.x q.A.fs = expd L q.l x
  rb : seqE L true q.l q.B.x q.B.fs = expd L q.l x
  em : q.C.its = []
  bd : ∀ l, l < q.l → Bdry L (l + 1) (expd L l x) (expd L (l + 1) x) (expd L l x)
theorem ApI.next {L : List Rl} (hw : Wf L) {x m l : Nat} {A B A' B' : Sd} {C C' : Md} (hs : Sig L x) (h : ApI L x m ⟨l, A, B, C⟩) (hl : l < m) (hr : Rdy L l x x A B C A' B' C') (he : C'.its = []) : ApI L x m ⟨l + 1, upS L (l + 1) A', upS L (l + 1) B', C'⟩ := by
  obtain ⟨_, rfl, rfl⟩ := hr.ne he
  have h1 := hr.left.eo.up hw hs hr.left.bb
  have h2 := hr.right.eo.up hw hs hr.right.bb
  have hst := hs.step (l + 1) (by omega)
  rw [Nat.add_sub_cancel] at hst
  have ra := h.ra
  have rb := h.rb
  simp only at ra rb
  have q1 := h1.2
  have q2 := h2.2
  rw [ra] at q1
  rw [rb] at q2
  have e1 := q1.fn hw hst
  have e2 := q2.fn hw hst
  refine ⟨hl, h1.1, h2.1, e1, e2, he, fun k hk => ?_⟩
  rcases Nat.lt_or_ge k l with hlt | hge
  · exact h.bd k hlt
  · have hk' : k < l + 1 := hk
    obtain rfl : k = l := by omega
    have hb := hr.left.bd
    rw [he, flatI_nil, List.nil_append, ra, rb, e1] at hb
    exact hb
theorem ct_apart (hE : Seat E) (hB : Base E.w0) {x : Nat} {t : List UInt8} (hx : Sn (rls Es) t x) (h0 : x ≠ 0) (hlen : t.length ≤ 400000000) :
    Ct E 29 [.pointer (some ⟨pp, 0, none⟩), .int .i64 (x : Nat)] [cells pp [.pointer (some ⟨s, 0, none⟩), .pointer (some ⟨tb, 0, none⟩)] 59, tabP tb s (rls Es), storeP s most Es]
      (fun v Q => ∃ d : Bool, v = .bool d ∧ (d = true → ∃ m, Apt (rls Es) x m) ∧ Q = [cells pp [.pointer (some ⟨s, 0, none⟩), .pointer (some ⟨tb, 0, none⟩)] 59, tabP tb s (rls Es), storeP s most Es]) := by
  refine ct_fact (p := storeP s most Es) (by ((repeat constructor); done)) (fun _ h => storeP_says h) (fun hsay => ?_)
  have hw := hsay.1
  have hmx : maxLength = 1152921504606846976 := rfl
  have lvx := hx.lv hw (by omega)
  obtain ⟨hs, hl, _⟩ := hx.parts hw h0
  have hl0 := hl.length
  obtain ⟨m, hm⟩ : ∃ m : Nat, lvl (rls Es) x = (m : Nat) := ⟨(lvl (rls Es) x).toNat, by have := hs.lv; omega⟩
  refine fn_enter (hE.fn Tryz.func29) rfl rfl rfl (fun R => ?_)
  simp only [argsL, List.cons_append, List.nil_append]
  refine w_seq (wR ?_)
  refine lY (yA rfl) rfl ?_
  refine l_nil (aT (w_seq (wR ?_)))
  refine lY (yM rfl) rfl ?_
  refine lY (yM rfl) rfl ?_
  apply lL (by kernel_rfl) rfl
  apply ld_call (ct_ssize hE hx.gd.1) rfl (hE.f (by kernel_rfl))
  · ((repeat constructor); done)
  rintro _ _ ⟨rfl, rfl⟩
  simp only [List.cons_append, List.nil_append]
  refine lY (yA rfl) rfl ?_
  refine l_nil (aT (w_seq (wR ?_)))
  refine lY (yM rfl) rfl ?_
  refine lY (yM rfl) rfl ?_
  refine lY (yM rfl) rfl ?_
  refine lY (yM rfl) rfl ?_
  apply lL (by kernel_rfl) rfl
  apply ld_call (ct_newEnd hE hB hs) rfl (hE.f (by kernel_rfl))
  · ((repeat constructor); done)
  rintro _ _ ⟨ya, ga, p1, c1, rfl, da, da0, rfl⟩
  simp only [List.cons_append, List.nil_append]
  refine lY (yM rfl) rfl ?_
  refine lY (yM rfl) rfl ?_
  refine lY (yM rfl) rfl ?_
  apply lL (by kernel_rfl) rfl
  apply ld_call (ct_newEnd hE hB hs) rfl (hE.f (by kernel_rfl))
  · ((repeat constructor); done)
  rintro _ _ ⟨yb, gb, p2, c2, rfl, db, db0, rfl⟩
  simp only [List.cons_append, List.nil_append]
  apply lY
  · (first | exact y_build (hE.t rfl) rfl rfl | exact y_buildA (hE.t rfl) rfl rfl)
  · rfl
  apply lL (by kernel_rfl) rfl
  refine ld_alloc (hE.t rfl) (fun b6 => ?_)
  apply lL (by kernel_rfl) rfl
  (first | (apply ld_store rfl rfl (hE.t rfl) rfl; (focus ((repeat constructor); done)); (focus rfl); (focus (exact Nat.le_of_ble_eq_true rfl))) | (apply ld_store_sl rfl rfl (hE.t rfl) rfl; (focus ((repeat constructor); done)); (focus rfl); (focus (first | omega | (simp only [cellsL, length_setMany, List.length_cons, List.length_nil]; omega)))))
  refine l_nil (aT (w_seq (wR ?_)))
  refine lY (yM rfl) rfl ?_
  refine lY (yM rfl) rfl ?_
  apply lL (by kernel_rfl) rfl
  apply ld_call (ct_TopN hE hB hx.gd) rfl (hE.f (by kernel_rfl))
  · ((repeat constructor); done)
  rintro _ _ ⟨rfl, rfl⟩
  simp only [List.cons_append, List.nil_append]
  rw [hm]
  refine lY (yM rfl) rfl ?_
  refine lY (y_extract rfl rfl) rfl ?_
  refine lY (y_extract rfl rfl) rfl ?_
  refine lY (yA rfl) rfl ?_
  refine lY (yA rfl) rfl ?_
  refine l_nil (aT (w_seq (w_seq (wR ?_))))
  refine lY (yM rfl) rfl ?_
  apply lY
  · (first | exact y_ok_ne rfl (hE.t rfl) | exact y_err_ne rfl (hE.t rfl))
  · rfl
  refine lY (yM rfl) rfl ?_
  skip
  refine l_on rfl rfl ?_
  refine lY (yM rfl) rfl ?_
  refine l_on rfl rfl ?_
  refine lY (y_rem rfl rfl (by omega) (by omega)) rfl ?_
  refine l_on rfl rfl ?_
  refine lY (y_ne rfl rfl) rfl ?_
  apply lY
  · (first | exact y_pick_t rfl rfl | exact y_pick_f rfl rfl)
  · rfl
  refine l_nil (aT ?_)
  refine w_cond_d rfl (fun hod => ?_) (fun hod => ?_)
  · skip
    refine w_seq (wR ?_)
    refine lY (yA rfl) rfl ?_
    refine l_nil (aT (w_ret (a_then_ret ?_)))
    apply a_ret
    · rfl
    · (apply Rs.tmp rfl; exact Rs.nil)
    · exact ⟨false, rfl, (fun h => by cases h), rfl⟩
    · (apply ent; (repeat constructor); done)
  skip
  have hev : m % 2 = 0 := by omega
  refine w_skip (aT (w_seq (w_seq (wR ?_))))
  refine lY (yA rfl) rfl ?_
  refine l_nil (aT (w_block ?_))
  obtain ⟨hst, _, _⟩ := SpI.start (A := ⟨ya, ga, p1, c1⟩) (B := ⟨yb, gb, p2, c2⟩) hw none 0 hs hs hl hl da db da0 db0
  obtain ⟨_, _, a3, _⟩ := da.ok hw hs .nil (by simp)
  obtain ⟨_, _, b3, _⟩ := db.ok hw hs .nil (by simp)
  have ea : seqE (rls Es) false 0 ya ga = expd (rls Es) 0 x := by rw [← a3]; simp [seqE, restS, cat]
  have eb : seqE (rls Es) true 0 yb gb = expd (rls Es) 0 x := by rw [← b3]; simp [seqE, restS, cat]
  refine w_heap (ent_nil (t := 172) (sz := 4)) ?_
  skip
  refine w_loop (fun q : ApG => [(6, .pointer (some ⟨b6, 0, none⟩)), (7, .int .i64 (m : Nat)), (9, .int .i64 ((q.l + 1 : Nat) : Int))]) (fun q => [cells pp [.pointer (some ⟨s, 0, none⟩), .pointer (some ⟨tb, 0, none⟩)] 59, tabP tb s (rls Es), storeP s most Es, cells b6 [.pointer (some ⟨pp, 0, none⟩), .pointer (some ⟨pp, 0, none⟩), .bool false, .slice q.A.p q.A.fs.length q.A.c, .int .i64 (q.A.x : Nat), .int .u64 (key (rls Es) q.A.x : Nat), .pointer (some ⟨pp, 0, none⟩), .bool true, .slice q.B.p q.B.fs.length q.B.c, .int .i64 (q.B.x : Nat), .int .u64 (key (rls Es) q.B.x : Nat), .slice q.C.p q.C.its.length q.C.c] 127, sl q.A.p q.A.c 160 8 q.A.fs.length (pathC (rls Es) q.A.fs), sl q.B.p q.B.c 160 8 q.B.fs.length (pathC (rls Es) q.B.fs), sl q.C.p q.C.c 172 4 q.C.its.length (itsC (rls Es) q.C.its), R]) (fun q => m - q.l) (ApI (rls Es) x m) ⟨0, ⟨ya, ga, p1, c1⟩, ⟨yb, gb, p2, c2⟩, ⟨[], none, 0⟩⟩ ⟨Nat.zero_le _, hst.ea, hst.eb, ea, eb, rfl, fun l h => by cases h⟩ ⟨rfl, rfl, rfl, trivial⟩ ?_ ?_
  · (apply ent; (repeat constructor); done)
  rintro ⟨l, A, B, C⟩ hI
  have hle := hI.le
  have hea := hI.ea
  have heb := hI.eb
  have hra := hI.ra
  have hrb := hI.rb
  have hem := hI.em
  simp only at hle hea heb hra hrb hem ⊢
  have hsh := expd_short hs l
  have hsng : Sng C.its := fun it h => by rw [hem] at h; simp at h
  have hone : (l + 1) % 2 = 0 → ∀ it ∈ C.its, it.times = 1 := fun _ it h => by rw [hem] at h; simp at h
  have hids : ∀ y ∈ flatI C.its, 1 ≤ y ∧ y ≤ (rls Es).length := fun y h => by rw [hem, flatI_nil] at h; simp at h
  have hrl : (seqE (rls Es) false l A.x A.fs ++ (flatI C.its ++ seqE (rls Es) true l B.x B.fs)).length ≤ 1000000000 := by
    rw [hem, flatI_nil, List.nil_append, hra, hrb, List.length_append]; omega
  skip
  refine w_seq (w_seq (wR ?_))
  refine lY (yM rfl) rfl ?_
  refine lY (yM rfl) rfl ?_
  refine lY (y_le rfl rfl) rfl ?_
  refine l_nil (aT ?_)
  refine w_cond_d rfl (fun hlt => ?_) (fun hlt => ?_)
  · skip
    have hlm : l < m := by omega
    refine w_skip (aT (w_seq (w_block (w_seq (wR ?_)))))
    refine lY (yM rfl) rfl ?_
    apply lL (by kernel_rfl) rfl
    apply ld_call (ct_gather hE hB (Es := Es) (S := b6) hs hs hea heb hsng hone hids hrl (by omega) (by omega)) rfl (hE.f (by kernel_rfl))
    · ((repeat constructor); done)
    rintro _ _ ⟨A1, B1, C1, rfl, hr, rfl⟩
    simp only [List.cons_append, List.nil_append]
    refine l_nil (aT (w_seq (w_seq (wR ?_))))
    refine lY (yF rfl (hE.t rfl) rfl) rfl ?_
    apply lY
    · (apply y_load rfl (hE.t rfl) rfl; (repeat (first | rfl | assumption | constructor)); done)
    · rfl
    refine lY (y_len_slice rfl (hE.t rfl)) rfl ?_
    refine lY (y_gt rfl rfl) rfl ?_
    refine l_nil (aT ?_)
    refine w_cond_d rfl (fun hc => ?_) (fun hc => ?_)
    · skip
      refine w_seq (wR ?_)
      refine lY (yA rfl) rfl ?_
      refine l_nil (aT (w_ret (a_then_ret (a_block_ret (a_then_ret (a_then_ret (a_block_ret ?_)))))))
      refine a_then_ret ?_
      apply a_ret
      · rfl
      · (apply Rs.tmp rfl; exact Rs.nil)
      · exact ⟨false, rfl, (fun h => by cases h), rfl⟩
      · (apply ent; (repeat constructor); done)
    · skip
      have he : C1.its = [] := List.eq_nil_of_length_eq_zero (by omega)
      have hnx := hI.next hw hs hlm hr he
      refine w_skip (aT (w_seq (wR ?_)))
      refine lY (yF rfl (hE.t rfl) rfl) rfl ?_
      refine lY (yM rfl) rfl ?_
      apply lL (by kernel_rfl) rfl
      apply ld_call (ct_up hE hB (Es := Es) (b := b6) (pre := [.pointer (some ⟨pp, 0, none⟩)]) (suf := [.pointer (some ⟨pp, 0, none⟩), .bool true, .slice B1.p B1.fs.length B1.c, .int .i64 (B1.x : Nat), .int .u64 (key (rls Es) B1.x : Nat), .slice C1.p C1.its.length C1.c]) (fs := A1.fs) hs hr.left.eo) rfl (hE.f (by kernel_rfl))
      · ((repeat constructor); done)
      rintro _ _ ⟨rfl, rfl⟩
      simp only [List.cons_append, List.nil_append]
      refine l_nil (aT (wR ?_))
      refine lY (yF rfl (hE.t rfl) rfl) rfl ?_
      refine lY (yM rfl) rfl ?_
      apply lL (by kernel_rfl) rfl
      apply ld_call (ct_up hE hB (Es := Es) (b := b6) (pre := [.pointer (some ⟨pp, 0, none⟩), .pointer (some ⟨pp, 0, none⟩), .bool false, .slice (upS (rls Es) (l + 1) A1).p (upS (rls Es) (l + 1) A1).fs.length (upS (rls Es) (l + 1) A1).c, .int .i64 ((upS (rls Es) (l + 1) A1).x : Nat), .int .u64 (key (rls Es) (upS (rls Es) (l + 1) A1).x : Nat)]) (suf := [.slice C1.p C1.its.length C1.c]) (fs := B1.fs) hs hr.right.eo) rfl (hE.f (by kernel_rfl))
      · ((repeat constructor); done)
      rintro _ _ ⟨rfl, rfl⟩
      simp only [List.cons_append, List.nil_append]
      refine l_nil (a_block (aT (wR ?_)))
      refine lY (yM rfl) rfl ?_
      refine lY (y_add rfl rfl (by omega) (by omega)) rfl ?_
      refine lY (yA rfl) rfl ?_
      refine l_nil ?_
      refine wa_eq 9 (.int .i64 ((l + 1 + 1 : Nat) : Int)) rfl (int_eq (by omega)) ?_
      refine a_round (ι := ApG) (j := ⟨l + 1, upS (rls Es) (l + 1) A1, upS (rls Es) (l + 1) B1, C1⟩) hnx (by show m - (l + 1) < m - l; omega) ⟨rfl, rfl, rfl, trivial⟩ ?_
      (apply ent; (repeat constructor); done)
  · skip
    obtain rfl : l = m := by omega
    refine w_exit (a_then_exit (a_then_exit (a_block_exit (aT (w_seq (wR ?_))))))
    refine lY (yA rfl) rfl ?_
    refine l_nil (aT (w_ret ?_))
    apply a_end
    · rfl
    · (apply Rs.tmp rfl; exact Rs.nil)
    · exact ⟨true, rfl, (fun _ => ⟨l, hm, hev, hI.bd⟩), rfl⟩
    · (apply ent; (repeat constructor); done)
end Go.Proofs.YtekhbjlplfbdkaaGreatDoor
namespace Sl
open Go Go.RowKit
variable {E : Env} {n : Nat} {L : Fr} {S : List HP} {ty : TypeId} {pos : String} {af : Array Edge} {d : Option Nat} {gd : Option (Nat × Bool)}
theorem y_shr_any {x y : Operand} {xt yt : TypeId} {i j : Nat} {kx ky : IntKind} (hx : ev L x = some (.int kx (i : Nat))) (hy : ev L y = some (.int ky (j : Nat))) (hj : j ≤ kx.bits) :
    Yl E n L S ⟨d, .binOp .shr xt x y yt, ty, pos, af, gd⟩ (.int kx ((i / 2 ^ j : Nat) : Int)) := fun a w g _ => by
  have e : (i : Int) / 2 ^ min ((j : Nat) : Int).toNat kx.bits = ((i / 2 ^ j : Nat) : Int) := by
    rw [Int.toNat_natCast, show min j kx.bits = j from Nat.min_eq_left hj, Int.natCast_ediv, Int.natCast_pow]; rfl
  have h := shift_shr_any kx ky (i : Int) ((j : Nat) : Int) (Int.natCast_nonneg j)
  rw [e] at h
  simp [execOp, eqGuard, binOp, g.ev hx, g.ev hy, h]
theorem and_one_i (i : Nat) : IntKind.i64.wrap ((BitVec.ofInt IntKind.i64.bits (i : Int) &&& BitVec.ofInt IntKind.i64.bits 1).toNat : Nat) = ((i % 2 : Nat) : Int) := by
  have h1 : (BitVec.ofInt IntKind.i64.bits (i : Int) &&& BitVec.ofInt IntKind.i64.bits 1).toNat = i % 2 := by
    show (BitVec.ofInt 64 (i : Int) &&& BitVec.ofInt 64 1).toNat = i % 2
    rw [BitVec.toNat_and, BitVec.ofInt_natCast, BitVec.toNat_ofNat, show (BitVec.ofInt 64 1).toNat = 1 from rfl, Nat.and_one_is_mod]
    omega
  rw [h1]
  exact wrap_in (by omega) (by omega)
theorem y_and_i {x y : Operand} {xt yt : TypeId} {i : Nat} (hx : ev L x = some (.int .i64 (i : Nat))) (hy : ev L y = some (.int .i64 1)) :
    Yl E n L S ⟨d, .binOp .and xt x y yt, ty, pos, af, gd⟩ (.int .i64 ((i % 2 : Nat) : Int)) := fun a w g q => by
  have := y_and (xt := xt) (yt := yt) (ty := ty) (pos := pos) (af := af) (d := d) (gd := gd) (S := S) hx hy a w g q
  rw [and_one_i] at this
  exact this
end Sl
namespace Go.Proofs.YtekhbjlplfbdkaaGreatDoor
open Go Go.RowKit Sl Eg
set_option maxRecDepth 10000
variable {E : Env}
def len8 : ByteArray := ⟨([0, 1] ++ (List.replicate 2 2 ++ (List.replicate 4 3 ++ (List.replicate 8 4 ++ (List.replicate 16 5 ++ (List.replicate 32 6 ++ (List.replicate 64 7 ++ List.replicate 128 8)))))) : List UInt8).toArray⟩
theorem len8_all : (List.range 256).all (fun k => k == 0 || (match len8[k]? with | some c => decide (1 ≤ c.toNat) && (decide (2 ^ (c.toNat - 1) ≤ k) && decide (k < 2 ^ c.toNat)) | none => false)) = true := by decide +kernel
theorem len8_at {k : Nat} (h1 : 1 ≤ k) (h2 : k < 256) : ∃ c n, len8[k]? = some c ∧ c.toNat = n + 1 ∧ 2 ^ n ≤ k ∧ k < 2 ^ (n + 1) := by
  have h := List.all_eq_true.1 len8_all k (List.mem_range.2 h2)
  have hk : (k == 0) = false := by simp; omega
  rw [hk, Bool.false_or] at h
  cases e : len8[k]? with
  | none => rw [e] at h; simp at h
  | some c =>
    rw [e] at h
    simp only [Bool.and_eq_true, decide_eq_true_eq] at h
    obtain ⟨g1, g2, g3⟩ := h
    refine ⟨c, c.toNat - 1, rfl, by omega, g2, ?_⟩
    rw [show c.toNat - 1 + 1 = c.toNat by omega]
    exact g3
theorem wrap_8 {i : Nat} (h : i < 256) : IntKind.u8.wrap ((i : Nat) : Int) = (i : Nat) := by
  simp [IntKind.wrap, IntKind.bits, IntKind.signed]
  omega
theorem ct_Len64 (hE : Seat E) {k : Nat} (h1 : 1 ≤ k) (h2 : k ≤ 256) : Ct E 94 [.int .u64 (k : Nat)] [] (fun v Q => ∃ n : Nat, v = .int .i64 ((n + 1 : Nat) : Int) ∧ 2 ^ n ≤ k ∧ k < 2 ^ (n + 1) ∧ Q = []) := by
  refine fn_enter (hE.fn Tryz.func94) rfl rfl rfl (fun R => ?_)
  simp only [argsL, List.cons_append, List.nil_append]
  refine w_seq (wR ?_)
  refine lY (yA rfl) rfl ?_
  refine l_nil (aT (w_seq (w_seq (wR ?_))))
  refine lY (yM rfl) rfl ?_
  refine lY (y_ge rfl rfl) rfl ?_
  refine l_nil (aT ?_)
  refine w_cond_d rfl (fun g1 => ?_) (fun g1 => ?_)
  · exfalso; omega
  skip
  refine w_skip (aT (w_seq (w_seq (wR ?_))))
  refine lY (yM rfl) rfl ?_
  refine lY (y_ge rfl rfl) rfl ?_
  refine l_nil (aT ?_)
  refine w_cond_d rfl (fun g2 => ?_) (fun g2 => ?_)
  · exfalso; omega
  skip
  refine w_skip (aT (w_seq (w_seq (wR ?_))))
  refine lY (yM rfl) rfl ?_
  refine lY (y_ge rfl rfl) rfl ?_
  refine l_nil (aT ?_)
  refine w_cond_d rfl (fun g3 => ?_) (fun g3 => ?_)
  · skip
    obtain rfl : k = 256 := by omega
    refine w_seq (wR ?_)
    refine lY (yM rfl) rfl ?_
    apply lY
    · exact y_shr_any (i := 256) (j := 8) rfl rfl (by decide)
    · rfl
    obtain ⟨c, n, f0, hcn, hn1, hn2⟩ := len8_at (k := 1) (by omega) (by omega)
    have hcb := c.toNat_lt
    have hn0 : n = 0 := by
      rcases Nat.eq_zero_or_pos n with h | h
      · exact h
      · have := Nat.pow_le_pow_right (n := 2) (by omega) h
        omega
    refine lY (yA rfl) rfl ?_
    refine l_nil (aT (wR ?_))
    refine lY (yM rfl) rfl ?_
    refine lY (y_add rfl rfl (by omega) (by omega)) rfl ?_
    refine lY (yA rfl) rfl ?_
    refine l_nil (aT ?_)
    refine w_seq (wR ?_)
    refine lY (yM rfl) rfl ?_
    refine lY (yM rfl) rfl ?_
    apply lY
    · exact y_conv rfl (hE.t rfl) (hE.t rfl) (wrap_8 (by decide : (1 : Nat) < 256))
    · rfl
    apply lY
    · exact y_indexStr (bs := len8) rfl rfl (hE.t rfl) (by omega) f0
    · rfl
    apply lY
    · exact y_conv (i := (c.toNat : Int)) rfl (hE.t rfl) (hE.t rfl) (wrap_in (by omega) (by omega))
    · rfl
    apply lY
    · exact y_add (j := (c.toNat : Int)) rfl rfl (by omega) (by omega)
    · rfl
    refine lY (yA rfl) rfl ?_
    refine l_nil (aT (w_ret ?_))
    apply a_ret
    · rfl
    · (apply Rs.tmp rfl; exact Rs.nil)
    · exact ⟨8, by rw [hcn, hn0]; simp [one], by decide, by decide, rfl⟩
    · (apply ent; (repeat constructor); done)
  · skip
    obtain ⟨c, n, f0, hcn, hn1, hn2⟩ := len8_at h1 (by omega)
    have hcb := c.toNat_lt
    refine w_skip (aT (w_seq (wR ?_)))
    refine lY (yM rfl) rfl ?_
    refine lY (yM rfl) rfl ?_
    apply lY
    · exact y_conv rfl (hE.t rfl) (hE.t rfl) (wrap_8 (by omega))
    · rfl
    apply lY
    · exact y_indexStr (bs := len8) rfl rfl (hE.t rfl) (by omega) f0
    · rfl
    apply lY
    · exact y_conv (i := (c.toNat : Int)) rfl (hE.t rfl) (hE.t rfl) (wrap_in (by omega) (by omega))
    · rfl
    apply lY
    · exact y_add (j := (c.toNat : Int)) rfl rfl (by omega) (by omega)
    · rfl
    refine lY (yA rfl) rfl ?_
    refine l_nil (aT (w_ret ?_))
    apply a_ret
    · rfl
    · (apply Rs.tmp rfl; exact Rs.nil)
    · exact ⟨n, by rw [hcn]; simp [one], hn1, hn2, rfl⟩
    · (apply ent; (repeat constructor); done)
end Go.Proofs.YtekhbjlplfbdkaaGreatDoor
namespace Go.Proofs.YtekhbjlplfbdkaaGreatDoor
open Go Go.RowKit Sl Eg
set_option maxRecDepth 10000
variable {E : Env} {Es : List Ent} {pp tb s most : Nat}
theorem ct_Log (hE : Seat E) {k : Nat} (h1 : 1 ≤ k) (h2 : k ≤ 256) : Ct E 61 [.int .i64 (k : Nat)] [] (fun v Q => ∃ n : Nat, v = .int .i64 (n : Nat) ∧ 2 ^ n ≤ k ∧ k < 2 ^ (n + 1) ∧ Q = []) := by
  refine fn_enter (hE.fn Tryz.func61) rfl rfl rfl (fun R => ?_)
  simp only [argsL, List.cons_append, List.nil_append]
  refine w_seq (wR ?_)
  refine lY (yA rfl) rfl ?_
  refine l_nil (aT (w_seq (w_seq (wR ?_))))
  refine lY (yM rfl) rfl ?_
  refine lY (y_lt rfl rfl) rfl ?_
  refine l_nil (aT ?_)
  refine w_cond_d rfl (fun g1 => ?_) (fun g1 => ?_)
  · exfalso; omega
  skip
  refine w_skip (aT (w_seq (wR ?_)))
  refine lY (yM rfl) rfl ?_
  apply lY
  · exact y_conv (i := ((k : Nat) : Int)) rfl (hE.t rfl) (hE.t rfl) (wrap_uu (by omega) (by omega))
  · rfl
  skip
  apply lL (by kernel_rfl) rfl
  apply ld_call (ct_Len64 hE h1 h2) rfl (hE.f (by kernel_rfl))
  · ((repeat constructor); done)
  rintro _ _ ⟨n, rfl, hn1, hn2, rfl⟩
  have hn : n ≤ 256 := by have := Nat.lt_two_pow_self (n := n); omega
  simp only [List.cons_append, List.nil_append]
  refine lY (y_sub rfl rfl (by omega) (by omega)) rfl ?_
  refine lY (yA rfl) rfl ?_
  refine l_nil (aT (w_ret ?_))
  apply a_ret
  · rfl
  · (apply Rs.tmp rfl; exact Rs.nil)
  · exact ⟨n, by simp only [one]; exact congrArg (Value.int IntKind.i64) (by omega), hn1, hn2, rfl⟩
  · (apply ent; (repeat constructor); done)
theorem ct_lvalid (hE : Seat E) {n : Nat} (h : n ≤ maxLength) : Ct E 51 [.int .i64 (n : Nat)] [] (fun v Q => v = .bool true ∧ Q = []) := by
  apply ct_same
  intro w
  rw [hE.P]
  exact length_valid n w h
theorem ct_lmul (hE : Seat E) {a k : Nat} (h : a * k ≤ 1000000000) (ha : a ≤ 1000000000) (hk : k ≤ 1000000000) : Ct E 25 [.int .i64 (a : Nat), .int .i64 (k : Nat)] [] (fun v Q => v = .tuple #[.int .i64 ((a * k : Nat) : Int), .nilIface] ∧ Q = []) := by
  have hmx : maxLength = 1152921504606846976 := rfl
  have hc : ((a * k : Nat) : Int) = (a : Int) * (k : Int) := Int.natCast_mul a k
  refine fn_enter (hE.fn Tryz.func25) rfl rfl rfl (fun R => ?_)
  simp only [argsL, List.cons_append, List.nil_append]
  refine w_seq (wR ?_)
  refine lY (yA rfl) rfl ?_
  refine lY (yA rfl) rfl ?_
  refine l_nil (aT (w_seq (w_seq (wR ?_))))
  refine lY (yM rfl) rfl ?_
  apply lL (by kernel_rfl) rfl
  apply ld_call (ct_lvalid hE (by omega)) rfl (hE.f (by kernel_rfl))
  · ((repeat constructor); done)
  rintro _ _ ⟨rfl, rfl⟩
  simp only [List.cons_append, List.nil_append]
  refine lY (y_not rfl) rfl ?_
  refine lY (yM rfl) rfl ?_
  skip
  refine l_on rfl rfl ?_
  refine lY (yM rfl) rfl ?_
  refine l_on rfl rfl ?_
  refine lY (y_lt rfl rfl) rfl ?_
  apply lY
  · (first | exact y_pick_t rfl rfl | exact y_pick_f rfl rfl)
  · rfl
  refine l_nil (aT ?_)
  refine w_cond_d rfl (fun g1 => ?_) (fun g1 => ?_)
  · exfalso; omega
  skip
  refine w_skip (aT (w_seq (w_seq (wR ?_))))
  refine lY (yM rfl) rfl ?_
  refine lY (y_eq rfl rfl) rfl ?_
  refine l_nil (aT ?_)
  refine w_cond_d rfl (fun g2 => ?_) (fun g2 => ?_)
  · skip
    have h0 : a = 0 := by omega
    subst h0
    refine w_seq (wR ?_)
    refine lY (yA rfl) rfl ?_
    refine lY (yA rfl) rfl ?_
    refine l_nil (aT (w_ret (a_then_ret ?_)))
    apply a_ret
    · rfl
    · (apply Rs.tmp rfl; apply Rs.tmp rfl; exact Rs.nil)
    · exact ⟨by simp [one], rfl⟩
    · (apply ent; (repeat constructor); done)
  · skip
    have ha1 : (1 : Int) ≤ (a : Int) := by omega
    have hq : (1000000000 : Int) ≤ 1152921504606846976 / (a : Int) := by
      rw [Int.le_ediv_iff_mul_le (by omega)]
      omega
    refine w_skip (aT (w_seq (w_seq (wR ?_))))
    refine lY (yM rfl) rfl ?_
    refine lY (yM rfl) rfl ?_
    refine lY (y_quo rfl rfl (by omega) (by omega) (by omega)) rfl ?_
    refine lY (y_gt rfl rfl) rfl ?_
    refine l_nil (aT ?_)
    refine w_cond_d rfl (fun g3 => ?_) (fun g3 => ?_)
    · exfalso; omega
    · skip
      refine w_skip (aT (w_seq (wR ?_)))
      refine lY (yM rfl) rfl ?_
      refine lY (yM rfl) rfl ?_
      apply lY
      · exact y_mul rfl rfl (by omega) (by omega)
      · rfl
      refine lY (yA rfl) rfl ?_
      refine lY (yA rfl) rfl ?_
      refine l_nil (aT (w_ret ?_))
      rw [← hc]
      apply a_ret
      · rfl
      · (apply Rs.tmp rfl; apply Rs.tmp rfl; exact Rs.nil)
      · exact ⟨rfl, rfl⟩
      · (apply ent; (repeat constructor); done)
theorem Sn.upl {Es M : List Ent} {bs : List UInt8} {x : Nat} (h : Sn (rls Es) bs x) : Sn (rls (Es ++ M)) bs x := by rw [rls_append]; exact h.ext _
structure DoG where
  i : Nat
  M : List Ent
  y : Nat
theorem half_pow (k i : Nat) : k / 2 ^ i = 2 * (k / 2 ^ (i + 1)) + k / 2 ^ i % 2 := by
  rw [Nat.pow_succ, ← Nat.div_div_eq_div_mul]
  omega
theorem ct_double (hE : Seat E) (hB : Base E.w0) {x k : Nat} {t : List UInt8} (hx : Sn (rls Es) t x) (h2 : 2 ≤ k) (hk : k ≤ 256) (hlen : k * t.length ≤ 1000000000) (hroom : Es.length + 4 * (k * t.length) ≤ most) :
    Ct E 30 [.pointer (some ⟨pp, 0, none⟩), .int .i64 (x : Nat), .int .i64 (k : Nat)] [cells pp [.pointer (some ⟨s, 0, none⟩), .pointer (some ⟨tb, 0, none⟩)] 59, tabP tb s (rls Es), storeP s most Es]
      (fun v Q => ∃ M id, v = .tuple #[.int .i64 (id : Nat), .nilIface] ∧ M.length ≤ 4 * (k * t.length) ∧ Sn (rls (Es ++ M)) (rep k t) id ∧ Q = [cells pp [.pointer (some ⟨s, 0, none⟩), .pointer (some ⟨tb, 0, none⟩)] 59, tabP tb s (rls (Es ++ M)), storeP s most (Es ++ M)]) := by
  refine fn_enter (hE.fn Tryz.func30) rfl rfl rfl (fun R => ?_)
  simp only [argsL, List.cons_append, List.nil_append]
  refine w_seq (wR ?_)
  refine lY (yA rfl) rfl ?_
  refine lY (yA rfl) rfl ?_
  refine l_nil (aT (w_seq (wR ?_)))
  refine lY (yM rfl) rfl ?_
  refine lY (yA rfl) rfl ?_
  refine l_nil (aT (w_seq (w_seq (wR ?_))))
  refine lY (yM rfl) rfl ?_
  apply lL (by kernel_rfl) rfl
  apply ld_call (ct_Log hE (by omega) hk) rfl (hE.f (by kernel_rfl))
  · ((repeat constructor); done)
  rintro _ _ ⟨n, rfl, hn1, hn2, rfl⟩
  simp only [List.cons_append, List.nil_append]
  have hc1 : k / 2 ^ n = 1 := by
    have h3 : k < 2 * 2 ^ n := by rw [Nat.pow_succ] at hn2; omega
    exact Nat.div_eq_of_lt_le (by omega) (by omega)
  have hn16 : n ≤ 16 := by
    apply Classical.byContradiction
    intro h
    have := Nat.pow_le_pow_right (n := 2) (by omega) (show 17 ≤ n by omega)
    omega
  refine lY (y_sub rfl rfl (by omega) (by omega)) rfl ?_
  refine lY (yA rfl) rfl ?_
  refine l_nil (aT (w_block ?_))
  skip
  refine w_loop (fun q : DoG => [(0, .pointer (some ⟨pp, 0, none⟩)), (1, .int .i64 (x : Nat)), (2, .int .i64 (k : Nat)), (8, .int .i64 (q.y : Nat)), (9, .int .i64 (((q.i : Nat) : Int) - 1))]) (fun q => [cells pp [.pointer (some ⟨s, 0, none⟩), .pointer (some ⟨tb, 0, none⟩)] 59, tabP tb s (rls (Es ++ q.M)), storeP s most (Es ++ q.M), R]) (fun q => q.i) (fun q => q.i ≤ n ∧ Sn (rls (Es ++ q.M)) (rep (k / 2 ^ q.i) t) q.y ∧ q.M.length ≤ 4 * (k / 2 ^ q.i * t.length)) ⟨n, [], x⟩ ⟨Nat.le_refl _, by rw [hc1, rep_one, List.append_nil]; exact hx, Nat.zero_le _⟩ ⟨rfl, rfl, rfl, rfl, rfl, trivial⟩ ?_ ?_
  · rw [List.append_nil]
    (apply ent; (repeat constructor); done)
  rintro ⟨i1, M, y⟩ ⟨hin, hy, hM⟩
  simp only at hin hy hM ⊢
  skip
  refine w_seq (w_seq (wR ?_))
  refine lY (yM rfl) rfl ?_
  refine lY (y_ge rfl rfl) rfl ?_
  refine l_nil (aT ?_)
  refine w_cond_d rfl (fun hlt => ?_) (fun hlt => ?_)
  · skip
    obtain ⟨i, rfl⟩ : ∃ i, i1 = i + 1 := ⟨i1 - 1, by omega⟩
    have hh := half_pow k i
    obtain ⟨c, hc⟩ : ∃ c, c = k / 2 ^ (i + 1) := ⟨_, rfl⟩
    obtain ⟨b, hb⟩ : ∃ b, b = k / 2 ^ i % 2 := ⟨_, rfl⟩
    have hb2 : b < 2 := by rw [hb]; omega
    have hle : k / 2 ^ i ≤ k := Nat.div_le_self _ _
    rw [← hc] at hy hM
    rw [← hc, ← hb] at hh
    have hmul : (2 * c + b) * t.length ≤ k * t.length := Nat.mul_le_mul_right _ (by omega)
    have hex : (2 * c + b) * t.length = 2 * (c * t.length) + b * t.length := by rw [Nat.add_mul, Nat.mul_assoc]
    have hbt : b * t.length ≤ t.length := by
      have := Nat.mul_le_mul_right t.length (show b ≤ 1 by omega)
      omega
    have hrl := rep_length c t
    have hel : (Es ++ M).length = Es.length + M.length := List.length_append
    have n1 : (rep c t).length + (rep c t).length ≤ 1000000000 := by omega
    have r1 : (Es ++ M).length + ((rep c t).length + (rep c t).length) ≤ most := by omega
    refine w_skip (aT (w_seq (w_block (w_seq (wR ?_)))))
    refine lY (yM rfl) rfl ?_
    refine lY (yM rfl) rfl ?_
    refine lY (yM rfl) rfl ?_
    apply lL (by kernel_rfl) rfl
    apply ld_call (ct_join (Es := Es ++ M) hE hB hy hy n1 r1) rfl (hE.f (by kernel_rfl))
    · ((repeat constructor); done)
    rintro _ _ ⟨N, z, rfl, hN, hz, -, rfl⟩
    rw [List.append_assoc] at hz ⊢
    rw [← rep_add, ← Nat.two_mul] at hz
    simp only [List.cons_append, List.nil_append]
    refine lY (yM rfl) rfl ?_
    refine lY (y_extract rfl rfl) rfl ?_
    refine lY (y_extract rfl rfl) rfl ?_
    refine lY (yA rfl) rfl ?_
    refine lY (yA rfl) rfl ?_
    refine l_nil (aT (w_seq (w_seq (wR ?_))))
    refine lY (yM rfl) rfl ?_
    apply lY
    · (first | exact y_ok_ne rfl (hE.t rfl) | exact y_err_ne rfl (hE.t rfl))
    · rfl
    refine l_nil (aT ?_)
    refine w_cond_f rfl ?_
    refine w_skip (aT (w_seq (wR ?_)))
    refine lY (yM rfl) rfl ?_
    refine lY (yA rfl) rfl ?_
    refine l_nil (aT (w_seq (w_seq (wR ?_))))
    refine lY (yM rfl) rfl ?_
    refine l_eq 9 (.int .i64 ((i : Nat) : Int)) rfl (int_eq (by omega)) ?_
    refine lY (yM rfl) rfl ?_
    refine lY (y_shr_any rfl rfl (by show _ ≤ 64; omega)) rfl ?_
    apply lY
    · (first | exact y_and_i rfl rfl | exact y_and rfl rfl)
    · rfl
    refine lY (y_eq rfl rfl) rfl ?_
    refine l_nil (aT ?_)
    rw [← hb]
    refine w_cond_d rfl (fun h0 => ?_) (fun h0 => ?_)
    · skip
      obtain rfl : b = 0 := by omega
      rw [Nat.add_zero] at hh
      refine w_exit (a_then_exit (a_block_exit (aT (wR ?_))))
      refine lY (yM rfl) rfl ?_
      refine lY (y_sub rfl rfl (by omega) (by omega)) rfl ?_
      refine lY (yA rfl) rfl ?_
      refine l_nil ?_
      refine a_round (ι := DoG) (j := ⟨i, M ++ N, z⟩) ⟨by show i ≤ n; omega, by show Sn _ (rep (k / 2 ^ i) t) z; rw [hh]; exact hz, by show (M ++ N).length ≤ 4 * (k / 2 ^ i * t.length); rw [hh, List.length_append, Nat.mul_assoc]; omega⟩ (by show i < i + 1; omega) ⟨rfl, rfl, rfl, rfl, rfl, trivial⟩ ?_
      (apply ent; (repeat constructor); done)
    · skip
      obtain rfl : b = 1 := by omega
      have hx2 : Sn (rls (Es ++ (M ++ N))) t x := hx.upl
      have hrl2 := rep_length (2 * c) t
      have e2 : 2 * c * t.length = 2 * (c * t.length) := Nat.mul_assoc _ _ _
      have hel2 : (Es ++ (M ++ N)).length = Es.length + M.length + N.length := by simp; omega
      have n2 : (rep (2 * c) t).length + t.length ≤ 1000000000 := by omega
      have r2 : (Es ++ (M ++ N)).length + ((rep (2 * c) t).length + t.length) ≤ most := by omega
      refine w_skip (aT (w_seq (wR ?_)))
      refine lY (yM rfl) rfl ?_
      refine lY (yM rfl) rfl ?_
      refine lY (yM rfl) rfl ?_
      apply lL (by kernel_rfl) rfl
      apply ld_call (ct_join (Es := Es ++ (M ++ N)) hE hB hz hx2 n2 r2) rfl (hE.f (by kernel_rfl))
      · ((repeat constructor); done)
      rintro _ _ ⟨N2, z2, rfl, hN2, hz2, -, rfl⟩
      rw [List.append_assoc, List.append_assoc] at hz2 ⊢
      have e3 : rep (2 * c) t ++ t = rep (2 * c + 1) t := by rw [rep_add, rep_one]
      rw [e3, ← hh] at hz2
      simp only [List.cons_append, List.nil_append]
      refine lY (yM rfl) rfl ?_
      refine lY (y_extract rfl rfl) rfl ?_
      refine lY (y_extract rfl rfl) rfl ?_
      refine lY (yA rfl) rfl ?_
      refine lY (yA rfl) rfl ?_
      refine l_nil (aT (w_seq (wR ?_)))
      refine lY (yM rfl) rfl ?_
      apply lY
      · (first | exact y_ok_ne rfl (hE.t rfl) | exact y_err_ne rfl (hE.t rfl))
      · rfl
      refine l_nil (aT ?_)
      refine w_cond_f rfl ?_
      refine w_skip (a_block (aT (wR ?_)))
      refine lY (yM rfl) rfl ?_
      refine lY (y_sub rfl rfl (by omega) (by omega)) rfl ?_
      refine lY (yA rfl) rfl ?_
      refine l_nil ?_
      refine a_round (ι := DoG) (j := ⟨i, M ++ (N ++ N2), z2⟩) ⟨by show i ≤ n; omega, hz2, by show (M ++ (N ++ N2)).length ≤ 4 * (k / 2 ^ i * t.length); rw [hh, List.length_append, List.length_append, hex]; omega⟩ (by show i < i + 1; omega) ⟨rfl, rfl, rfl, rfl, rfl, trivial⟩ ?_
      (apply ent; (repeat constructor); done)
  · skip
    obtain rfl : i1 = 0 := by omega
    rw [Nat.pow_zero, Nat.div_one] at hy hM
    refine w_exit (a_then_exit (a_then_exit (a_block_exit (aT (w_seq (wR ?_))))))
    refine lY (yM rfl) rfl ?_
    refine lY (yA rfl) rfl ?_
    refine lY (yA rfl) rfl ?_
    refine l_nil (aT (w_ret ?_))
    apply a_ret
    · rfl
    · (apply Rs.tmp rfl; apply Rs.tmp rfl; exact Rs.nil)
    · exact ⟨M, y, rfl, hM, hy, rfl⟩
    · (apply ent; (repeat constructor); done)
end Go.Proofs.YtekhbjlplfbdkaaGreatDoor
namespace Go.Proofs.YtekhbjlplfbdkaaGreatDoor
open Go Go.RowKit Sl Eg
set_option maxRecDepth 10000
variable {E : Env} {Es : List Ent} {pp tb s most : Nat}
theorem Apt.ext {L : List Rl} (M : List Rl) (hw : Wf L) (hw2 : Wf (L ++ M)) {x m : Nat} (hs : Sig L x) (h : Apt L x m) : Apt (L ++ M) x m := by
  obtain ⟨h1, h2, h3⟩ := h
  refine ⟨by rw [lvl_ext M hs.le]; exact h1, h2, fun l hl => ?_⟩
  rw [expd_ext M hw hw2 x hs.le, expd_ext M hw hw2 x hs.le]
  have hin := hs.inv (l + 1) (by omega)
  rw [Nat.add_sub_cancel] at hin
  intro u v e1 e2
  rw [key_ext M (hin.ok u (List.mem_of_getLast? e1)).2.1, key_ext M (hin.ok v (List.mem_of_head? e2)).2.1]
  exact h3 l hl u v e1 e2
def RepPost (pp s tb most : Nat) (Es : List Ent) (k : Nat) (t : List UInt8) (v : Value) (Q : List HP) : Prop := ∃ M id, v = .tuple #[.int .i64 (id : Nat), .nilIface] ∧ M.length ≤ 4 * (k * t.length) + 1 ∧ Sn (rls (Es ++ M)) (rep k t) id ∧ Q = [cells pp [.pointer (some ⟨s, 0, none⟩), .pointer (some ⟨tb, 0, none⟩)] 59, tabP tb s (rls (Es ++ M)), storeP s most (Es ++ M)]
theorem rep_nil {α : Type} (k : Nat) : rep k ([] : List α) = [] := by
  induction k with
  | zero => rfl
  | succ k ih => rw [rep_succ, ih]; rfl
theorem ct_Repeat (hE : Seat E) (hB : Base E.w0) {x k : Nat} {t : List UInt8} (hx : Sn (rls Es) t x) (hk1 : 1 ≤ k) (hk : k ≤ 256) (hlen : k * t.length ≤ 1000000000) (hlt : t.length ≤ 400000000) (hroom : Es.length + 4 * (k * t.length) + 1 ≤ most) :
    Ct E 9 [.pointer (some ⟨pp, 0, none⟩), .int .i64 (x : Nat), .int .i64 (k : Nat)] [cells pp [.pointer (some ⟨s, 0, none⟩), .pointer (some ⟨tb, 0, none⟩)] 59, tabP tb s (rls Es), storeP s most Es] (RepPost pp s tb most Es k t) := by
  refine ct_fact (p := storeP s most Es) (by ((repeat constructor); done)) (fun _ h => storeP_says h) (fun hsay => ?_)
  have hw := hsay.1
  have htx := hsay.2.1
  have hmx : maxLength = 1152921504606846976 := rfl
  have hx1 := hx.gd.1
  have lx := hx.len
  have lvx := hx.lv hw (by omega)
  have hrm4 : Es.length + 4 * (k * t.length) ≤ most := by omega
  have hcm : len (rls Es) x * k = k * t.length := by rw [lx, Nat.mul_comm]
  rw [rls_length] at hx1
  refine fn_enter (hE.fn Tryz.func9) rfl rfl rfl (fun R => ?_)
  simp only [argsL, List.cons_append, List.nil_append]
  refine w_seq (wR ?_)
  refine lY (yA rfl) rfl ?_
  refine lY (yA rfl) rfl ?_
  refine l_nil (aT (w_seq (w_seq (wR ?_))))
  refine lY (yM rfl) rfl ?_
  apply lL (by kernel_rfl) rfl
  apply ld_call (ct_Store hE) rfl (hE.f (by kernel_rfl))
  · ((repeat constructor); done)
  rintro _ _ ⟨rfl, rfl⟩
  simp only [List.cons_append, List.nil_append]
  apply lY
  · (first | exact y_eq_ptr rfl (hE.t rfl) | exact y_eq_nil rfl (hE.t rfl))
  · rfl
  refine l_nil (aT ?_)
  refine w_cond_f rfl ?_
  refine w_skip (aT (w_seq (w_seq (wR ?_))))
  refine lY (yM rfl) rfl ?_
  refine lY (y_lt rfl rfl) rfl ?_
  refine lY (yM rfl) rfl ?_
  refine l_split 20 rfl (fun h1 => ?_) (fun h1 => ?_)
  · exfalso; omega
  skip
  refine l_on rfl rfl ?_
  refine lY (yM rfl) rfl ?_
  refine l_on rfl rfl ?_
  refine lY (yM rfl) rfl ?_
  refine l_on rfl rfl ?_
  apply lL (by kernel_rfl) rfl
  apply ld_call (ct_Store hE) rfl (hE.f (by kernel_rfl))
  · ((repeat constructor); done)
  rintro _ _ ⟨rfl, rfl⟩
  simp only [List.cons_append, List.nil_append]
  refine l_on rfl rfl ?_
  apply lL (by kernel_rfl) rfl
  apply ld_call (ct_len hE) rfl (hE.f (by kernel_rfl))
  · ((repeat constructor); done)
  rintro _ _ ⟨rfl, rfl⟩
  simp only [List.cons_append, List.nil_append]
  refine l_on rfl rfl ?_
  refine lY (y_gt rfl rfl) rfl ?_
  apply lY
  · (first | exact y_pick_t rfl rfl | exact y_pick_f rfl rfl)
  · rfl
  refine l_nil (aT ?_)
  refine w_cond_d rfl (fun h2 => ?_) (fun h2 => ?_)
  · exfalso; omega
  skip
  refine w_skip (aT (w_seq (wR ?_)))
  refine lY (yM rfl) rfl ?_
  refine lY (yM rfl) rfl ?_
  apply lL (by kernel_rfl) rfl
  apply ld_call (ct_TopN hE hB hx.gd) rfl (hE.f (by kernel_rfl))
  · ((repeat constructor); done)
  rintro _ _ ⟨rfl, rfl⟩
  simp only [List.cons_append, List.nil_append]
  refine lY (yM rfl) rfl ?_
  refine lY (y_extract rfl rfl) rfl ?_
  refine lY (y_extract rfl rfl) rfl ?_
  refine lY (yA rfl) rfl ?_
  refine lY (yA rfl) rfl ?_
  refine l_nil (aT (w_seq (w_seq (wR ?_))))
  refine lY (yM rfl) rfl ?_
  apply lY
  · (first | exact y_ok_ne rfl (hE.t rfl) | exact y_err_ne rfl (hE.t rfl))
  · rfl
  refine l_nil (aT ?_)
  refine w_cond_f rfl ?_
  refine w_skip (aT (w_seq (w_seq (wR ?_))))
  refine lY (yM rfl) rfl ?_
  refine lY (y_lt rfl rfl) rfl ?_
  refine l_nil (aT ?_)
  refine w_cond_d rfl (fun h3 => ?_) (fun h3 => ?_)
  · exfalso; omega
  skip
  refine w_skip (aT (w_seq (w_seq (wR ?_))))
  refine lY (yM rfl) rfl ?_
  refine lY (yM rfl) rfl ?_
  apply lL (by kernel_rfl) rfl
  apply ld_call (ct_ssize hE hx.gd.1) rfl (hE.f (by kernel_rfl))
  · ((repeat constructor); done)
  rintro _ _ ⟨rfl, rfl⟩
  simp only [List.cons_append, List.nil_append]
  refine lY (yM rfl) rfl ?_
  apply lL (by kernel_rfl) rfl
  apply ld_call (ct_lmul hE (by omega) (by omega) (by omega)) rfl (hE.f (by kernel_rfl))
  · ((repeat constructor); done)
  rintro _ _ ⟨rfl, rfl⟩
  simp only [List.cons_append, List.nil_append]
  refine lY (yM rfl) rfl ?_
  refine lY (y_extract rfl rfl) rfl ?_
  refine lY (y_extract rfl rfl) rfl ?_
  refine lY (yA rfl) rfl ?_
  refine lY (yA rfl) rfl ?_
  refine l_nil (aT (w_seq (wR ?_)))
  refine lY (yM rfl) rfl ?_
  apply lY
  · (first | exact y_ok_ne rfl (hE.t rfl) | exact y_err_ne rfl (hE.t rfl))
  · rfl
  refine l_nil (aT ?_)
  refine w_cond_f rfl ?_
  refine w_skip (aT (w_seq (w_seq (wR ?_))))
  refine lY (yM rfl) rfl ?_
  refine lY (y_eq rfl rfl) rfl ?_
  refine lY (yM rfl) rfl ?_
  refine l_split 53 rfl (fun h4 => ?_) (fun h4 => ?_)
  · skip
    obtain rfl : x = 0 := by omega
    obtain rfl := hx.zero
    refine l_off rfl rfl rfl rfl (l_off rfl rfl rfl rfl ?_)
    apply lY
    · (first | exact y_pick_t rfl rfl | exact y_pick_f rfl rfl)
    · rfl
    refine l_nil (aT ?_)
    refine w_cond_t rfl ?_
    refine w_seq (wR ?_)
    refine lY (yA rfl) rfl ?_
    refine lY (yA rfl) rfl ?_
    refine l_nil (aT (w_ret (a_then_ret ?_)))
    apply a_ret
    · rfl
    · (apply Rs.tmp rfl; apply Rs.tmp rfl; exact Rs.nil)
    · exact ⟨[], 0, rfl, Nat.zero_le _, by rw [rep_nil, List.append_nil]; exact hx, by rw [List.append_nil]⟩
    · (apply ent; (repeat constructor); done)
  skip
  have hx0 : x ≠ 0 := by omega
  refine l_on rfl rfl ?_
  refine lY (yM rfl) rfl ?_
  refine l_on rfl rfl ?_
  refine lY (y_eq rfl rfl) rfl ?_
  apply lY
  · (first | exact y_pick_t rfl rfl | exact y_pick_f rfl rfl)
  · rfl
  refine l_nil (aT ?_)
  refine w_cond_d rfl (fun h5 => ?_) (fun h5 => ?_)
  · exfalso; omega
  skip
  refine w_skip (aT (w_seq (w_seq (wR ?_))))
  refine lY (yM rfl) rfl ?_
  refine lY (y_eq rfl rfl) rfl ?_
  refine lY (yM rfl) rfl ?_
  refine l_split 59 rfl (fun h6 => ?_) (fun h6 => ?_)
  · skip
    obtain rfl : k = 1 := by omega
    refine l_off rfl rfl rfl rfl (l_off rfl rfl rfl rfl ?_)
    apply lY
    · (first | exact y_pick_t rfl rfl | exact y_pick_f rfl rfl)
    · rfl
    refine l_nil (aT ?_)
    refine w_cond_t rfl ?_
    refine w_seq (wR ?_)
    refine lY (yM rfl) rfl ?_
    refine lY (yA rfl) rfl ?_
    refine lY (yA rfl) rfl ?_
    refine l_nil (aT (w_ret (a_then_ret ?_)))
    apply a_ret
    · rfl
    · (apply Rs.tmp rfl; apply Rs.tmp rfl; exact Rs.nil)
    · exact ⟨[], x, rfl, Nat.zero_le _, by rw [rep_one, List.append_nil]; exact hx, by rw [List.append_nil]⟩
    · (apply ent; (repeat constructor); done)
  skip
  have hk2 : 2 ≤ k := by omega
  refine l_on rfl rfl ?_
  refine lY (yM rfl) rfl ?_
  refine l_on rfl rfl ?_
  refine lY (y_gt rfl rfl) rfl ?_
  apply lY
  · (first | exact y_pick_t rfl rfl | exact y_pick_f rfl rfl)
  · rfl
  refine l_nil (aT ?_)
  refine w_cond_d rfl (fun h7 => ?_) (fun h7 => ?_)
  · exfalso; omega
  skip
  obtain ⟨hs, hl, ht1⟩ := hx.parts hw hx0
  obtain ⟨i, rfl⟩ : ∃ i, x = i + 1 := ⟨x - 1, by omega⟩
  have hil : i < Es.length := by omega
  obtain ⟨en, hent⟩ : ∃ e, Es[i]? = some e := ⟨_, List.getElem?_eq_getElem hil⟩
  have het : en.t = t := by rw [htx i en hent]; exact hx.tx
  have hrr := rls_get hent
  refine w_skip (aT (w_seq (w_seq (wR ?_))))
  refine lY (yM rfl) rfl ?_
  apply lL (by kernel_rfl) rfl
  apply ld_call (ct_Store hE) rfl (hE.f (by kernel_rfl))
  · ((repeat constructor); done)
  rintro _ _ ⟨rfl, rfl⟩
  simp only [List.cons_append, List.nil_append]
  refine lY (yM rfl) rfl ?_
  apply lL (by kernel_rfl) rfl
  apply ld_call (ct_rule hE hent) rfl (hE.f (by kernel_rfl))
  · ((repeat constructor); done)
  rintro _ _ ⟨rfl, rfl⟩
  simp only [List.cons_append, List.nil_append]
  refine lY (yM rfl) rfl ?_
  refine lY (y_extract rfl rfl) rfl ?_
  refine lY (y_extract rfl rfl) rfl ?_
  apply lL (by kernel_rfl) rfl
  refine ld_alloc (hE.t rfl) (fun b12 => ?_)
  apply lL (by kernel_rfl) rfl
  (first | (apply ld_store rfl rfl (hE.t rfl) rfl; (focus ((repeat constructor); done)); (focus rfl); (focus (exact Nat.le_of_ble_eq_true rfl))) | (apply ld_store_sl rfl rfl (hE.t rfl) rfl; (focus ((repeat constructor); done)); (focus rfl); (focus (first | omega | (simp only [cellsL, length_setMany, List.length_cons, List.length_nil]; omega)))))
  refine lY (yA rfl) rfl ?_
  refine l_nil (aT (w_seq (wR ?_)))
  refine lY (yM rfl) rfl ?_
  apply lY
  · (first | exact y_ok_eq rfl (hE.t rfl) | exact y_err_eq rfl (hE.t rfl))
  · rfl
  refine lY (yM rfl) rfl ?_
  skip
  refine l_on rfl rfl ?_
  refine lY (yF rfl (hE.t rfl) rfl) rfl ?_
  refine l_on rfl rfl ?_
  apply lY
  · (apply y_load rfl (hE.t rfl) rfl; (repeat (first | rfl | assumption | constructor)); done)
  · rfl
  refine l_on rfl rfl ?_
  refine lY (y_eq rfl rfl) rfl ?_
  apply lY
  · (first | exact y_pick_t rfl rfl | exact y_pick_f rfl rfl)
  · rfl
  refine l_nil (aT ?_)
  refine w_cond_d rfl (fun hkd => ?_) (fun hkd => ?_)
  · skip
    obtain ⟨y, n, er⟩ : ∃ y n, en.r = .power y n := by
      cases e : en.r with
      | letter b => rw [e] at hkd; simp [Rl.kind] at hkd
      | pair a b => rw [e] at hkd; simp [Rl.kind] at hkd
      | power y n => exact ⟨y, n, rfl⟩
    rw [er] at hrr ⊢
    obtain ⟨m, p1, p2, p3, p4, p5, p6, p7⟩ := pow_parts (x := i + 1) hw hs hl hx.tx hrr
    obtain ⟨i2, rfl⟩ : ∃ i, y = i + 1 := ⟨y - 1, by have := p1.pos; omega⟩
    have hil2 : i2 < Es.length := by have := p1.le; rw [rls_length] at this; omega
    obtain ⟨en2, hent2⟩ : ∃ e, Es[i2]? = some e := ⟨_, List.getElem?_eq_getElem hil2⟩
    have het2 : en2.t = txt (rls Es) (i2 + 1) := htx i2 en2 hent2
    have htl : t.length = n * en2.t.length := by have e := congrArg List.length p6; rw [rep_length] at e; rw [het2]; exact e
    have hy1 : 1 ≤ en2.t.length := by
      rcases Nat.eq_zero_or_pos en2.t.length with h | h
      · rw [h, Nat.mul_zero] at htl; omega
      · exact h
    have hn4 : n ≤ 400000000 := by
      have := Nat.mul_le_mul_left n hy1
      omega
    have hnk : n * k ≤ 400000000 * 256 := Nat.mul_le_mul hn4 hk
    have hnk2 : 2 ≤ n * k := by have := Nat.mul_le_mul p4 hk1; omega
    have hpl : en2.t.length * (n * k) ≤ maxLength := by
      have : en2.t.length * (n * k) = k * t.length := by rw [htl, ← Nat.mul_assoc, Nat.mul_comm en2.t.length n, Nat.mul_comm]
      omega
    have hpw := ct_power (s := s) (most := most) hE hent2 hnk2 hpl (by omega)
    have hnc : ((n * k : Nat) : Int) = (n : Int) * (k : Int) := Int.natCast_mul n k
    have hb0 : (0 : Int) ≤ (n : Int) * (k : Int) := by omega
    have hb1 : (n : Int) * (k : Int) ≤ 400000000 * 256 := by omega
    rw [hnc] at hpw
    have hb2 : (0 : Int) ≤ (((Rl.power (i2 + 1) n).times : Nat) : Int) * (k : Int) := hb0
    have hb3 : (((Rl.power (i2 + 1) n).times : Nat) : Int) * (k : Int) ≤ 400000000 * 256 := hb1
    skip
    refine w_seq ?_
    refine w_held ([cells pp [.pointer (some ⟨s, 0, none⟩), .pointer (some ⟨tb, 0, none⟩)] 59, cells b12 [.int .i64 (Rl.kind ((Rl.power (i2 + 1) n)) : Nat), .int .u8 (Rl.byte ((Rl.power (i2 + 1) n)) : Nat), .int .i64 (Rl.left ((Rl.power (i2 + 1) n)) : Nat), .int .i64 (Rl.right ((Rl.power (i2 + 1) n)) : Nat), .int .i64 (Rl.times ((Rl.power (i2 + 1) n)) : Nat)] 73]) ?_ ?_
    · (apply ent; (repeat constructor); done)
    apply d_take 0 rfl
    · exact yM rfl
    · with_reducible (repeat (first | exact cB | apply cT | apply cK))
    · kernel_rfl
    · rfl
    apply d_take 2 rfl
    · exact yF rfl (hE.t rfl) rfl
    · with_reducible (repeat (first | exact cB | apply cT | apply cK))
    · kernel_rfl
    · rfl
    apply d_take 3 rfl
    · (apply y_load rfl (hE.t rfl) rfl; (repeat (first | rfl | assumption | constructor)); done)
    · with_reducible (repeat (first | exact cB | apply cT | apply cK))
    · kernel_rfl
    · rfl
    apply d_take 4 rfl
    · exact yF rfl (hE.t rfl) rfl
    · with_reducible (repeat (first | exact cB | apply cT | apply cK))
    · kernel_rfl
    · rfl
    apply d_take 5 rfl
    · (apply y_load rfl (hE.t rfl) rfl; (repeat (first | rfl | assumption | constructor)); done)
    · with_reducible (repeat (first | exact cB | apply cT | apply cK))
    · kernel_rfl
    · rfl
    apply d_take 6 rfl
    · exact yM rfl
    · with_reducible (repeat (first | exact cB | apply cT | apply cK))
    · kernel_rfl
    · rfl
    apply d_take 7 rfl
    · exact y_mul rfl rfl (by omega) (by omega)
    · with_reducible (repeat (first | exact cB | apply cT | apply cK))
    · kernel_rfl
    · rfl
    apply d_loud 1 rfl (by kernel_rfl) rfl
    apply ld_call (ct_Store hE) rfl (hE.f (by kernel_rfl))
    · ((repeat constructor); done)
    rintro _ _ ⟨rfl, rfl⟩
    simp only [List.cons_append, List.nil_append]
    refine ⟨by (apply ent; (repeat constructor); done), ?_⟩
    apply d_loud 8 rfl (by kernel_rfl) rfl
    apply ld_call (hpw) rfl (hE.f (by kernel_rfl))
    · ((repeat constructor); done)
    rintro _ _ ⟨M2, id, rfl, hM2, hid, hrl, rfl⟩
    obtain ⟨j, rfl⟩ : ∃ j, id = j + 1 := ⟨id - 1, by omega⟩
    rw [Nat.add_sub_cancel] at hrl
    simp only [List.cons_append, List.nil_append]
    refine ⟨by (apply ent; (repeat constructor); done), ?_⟩
    apply d_take 9 rfl
    · exact y_extract rfl rfl
    · with_reducible (repeat (first | exact cB | apply cT | apply cK))
    · kernel_rfl
    · rfl
    apply d_take 10 rfl
    · exact y_extract rfl rfl
    · with_reducible (repeat (first | exact cB | apply cT | apply cK))
    · kernel_rfl
    · rfl
    apply d_take 11 rfl
    · exact yA rfl
    · with_reducible (repeat (first | exact cB | apply cT | apply cK))
    · kernel_rfl
    · rfl
    apply d_take 12 rfl
    · exact yA rfl
    · with_reducible (repeat (first | exact cB | apply cT | apply cK))
    · kernel_rfl
    · rfl
    refine d_nil (by kernel_rfl) ?_
    refine aT (w_ret (a_then_ret ?_))
    refine wa_say (p := storeP s most (Es ++ M2)) (by ((repeat constructor); done)) (fun _ h => storeP_says h) ?_
    rintro ⟨hw2, -, -, -⟩
    have hx2 := hx.upl (M := M2)
    obtain ⟨hs2, hl2, _⟩ := hx2.parts hw2 hx0
    obtain ⟨m, r1, r2, r3, r4, r5, r6, r7⟩ := pow_parts (x := i + 1) hw2 hs2 hl2 hx2.tx (by rw [rls_append]; exact get_ext _ hrr)
    have hsn := rep_sig hw2 r1 r5 rfl hnk2 r2 r3 r7 hrl
    have ert : rep (n * k) (txt (rls (Es ++ M2)) (i2 + 1)) = rep k t := by rw [Nat.mul_comm, ← rep_mul, ← r6]
    rw [ert] at hsn
    refine wa_heap (ent_head (p := tabP tb s (rls Es)) (p' := tabP tb s (rls (Es ++ M2))) (by ((repeat constructor); done)) (fun _ h => by rw [rls_append Es]; exact tabP_ext _ h)) ?_
    apply a_ret
    · rfl
    · (apply Rs.tmp rfl; apply Rs.tmp rfl; exact Rs.nil)
    · exact ⟨M2, j + 1, rfl, by omega, hsn, rfl⟩
    · (apply ent; (repeat constructor); done)
  · skip
    refine w_skip (aT (w_seq (w_seq (wR ?_))))
    refine lY (yM rfl) rfl ?_
    refine lY (yM rfl) rfl ?_
    apply lL (by kernel_rfl) rfl
    apply ld_call (ct_apart hE hB hx hx0 hlt) rfl (hE.f (by kernel_rfl))
    · ((repeat constructor); done)
    rintro _ _ ⟨d, rfl, hd, rfl⟩
    simp only [List.cons_append, List.nil_append]
    refine l_nil (aT ?_)
    skip
    cases d with
    | true =>
      obtain ⟨m, hap⟩ := hd rfl
      have hpl : en.t.length * k ≤ maxLength := by rw [het, Nat.mul_comm]; omega
      have hpw := ct_power (s := s) (most := most) hE hent hk2 hpl (by omega)
      refine w_cond_t rfl ?_
      refine w_seq (wR ?_)
      refine lY (yM rfl) rfl ?_
      apply lL (by kernel_rfl) rfl
      apply ld_call (ct_Store hE) rfl (hE.f (by kernel_rfl))
      · ((repeat constructor); done)
      rintro _ _ ⟨rfl, rfl⟩
      simp only [List.cons_append, List.nil_append]
      refine lY (yM rfl) rfl ?_
      refine lY (yM rfl) rfl ?_
      apply lL (by kernel_rfl) rfl
      apply ld_call (hpw) rfl (hE.f (by kernel_rfl))
      · ((repeat constructor); done)
      rintro _ _ ⟨M2, id, rfl, hM2, hid, hrl, rfl⟩
      obtain ⟨j, rfl⟩ : ∃ j, id = j + 1 := ⟨id - 1, by omega⟩
      rw [Nat.add_sub_cancel] at hrl
      simp only [List.cons_append, List.nil_append]
      refine lY (y_extract rfl rfl) rfl ?_
      refine lY (y_extract rfl rfl) rfl ?_
      refine lY (yA rfl) rfl ?_
      refine lY (yA rfl) rfl ?_
      refine l_nil (aT (w_ret (a_then_ret ?_)))
      refine wa_say (p := storeP s most (Es ++ M2)) (by ((repeat constructor); done)) (fun _ h => storeP_says h) ?_
      rintro ⟨hw2, -, -, -⟩
      have hx2 := hx.upl (M := M2)
      obtain ⟨hs2, hl2, _⟩ := hx2.parts hw2 hx0
      have hap2 : Apt (rls (Es ++ M2)) (i + 1) m := by
        rw [rls_append] at hw2 ⊢
        exact hap.ext _ hw hw2 hs
      have hsn := rep_sig hw2 hs2 hl2 hx2.tx hk2 hap2.1 hap2.2.1 hap2.2.2 hrl
      refine wa_heap (ent_head (p := tabP tb s (rls Es)) (p' := tabP tb s (rls (Es ++ M2))) (by ((repeat constructor); done)) (fun _ h => by rw [rls_append Es]; exact tabP_ext _ h)) ?_
      apply a_ret
      · rfl
      · (apply Rs.tmp rfl; apply Rs.tmp rfl; exact Rs.nil)
      · exact ⟨M2, j + 1, rfl, by omega, hsn, rfl⟩
      · (apply ent; (repeat constructor); done)
    | false =>
      skip
      refine w_cond_f rfl ?_
      refine w_skip (aT (w_seq (wR ?_)))
      refine lY (yM rfl) rfl ?_
      refine lY (yM rfl) rfl ?_
      refine lY (yM rfl) rfl ?_
      apply lL (by kernel_rfl) rfl
      apply ld_call (ct_double hE hB hx hk2 hk hlen hrm4) rfl (hE.f (by kernel_rfl))
      · ((repeat constructor); done)
      rintro _ _ ⟨M, id, rfl, hM, hs2, rfl⟩
      simp only [List.cons_append, List.nil_append]
      refine lY (y_extract rfl rfl) rfl ?_
      refine lY (y_extract rfl rfl) rfl ?_
      refine lY (yA rfl) rfl ?_
      refine lY (yA rfl) rfl ?_
      refine l_nil (aT (w_ret ?_))
      apply a_ret
      · rfl
      · (apply Rs.tmp rfl; apply Rs.tmp rfl; exact Rs.nil)
      · exact ⟨M, id, rfl, by omega, hs2, rfl⟩
      · (apply ent; (repeat constructor); done)
end Go.Proofs.YtekhbjlplfbdkaaGreatDoor
