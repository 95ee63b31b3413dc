/- Package codec: Rules; varint.PutBytes; plain lemmas for Encode. -/
import Derived.Test.YtkkjjablmmmmkaaGreatDoorQ13
import Derived.Test.YtkkjjablmmmmkaaGreatDoorQ63
set_option linter.unusedVariables false
set_option linter.unusedSimpArgs false
namespace Go.Proofs.YtkkjjablmmmmkaaGreatDoor
section
open Go Go.RowKit Sl Eg
set_option maxRecDepth 10000
variable {E : Env} {Es : List Ent} {pp tb s most m bm : Nat} {f : Int → Option Value}
theorem ct_PutBytes (hE : Seat E) {g c : Nat} {bs : List UInt8} (hn : bs.length ≤ 1099511627776) : Ct E 38 [.slice (some ⟨g, 0, none⟩) bs.length c] [ro g (byC bs)] (fun v Q => ∃ g' c', v = .slice (some ⟨g', 0, none⟩) (bputs bs).length c' ∧ Q = [ro g (byC bs), sl (some ⟨g', 0, none⟩) c' 5 1 (bputs bs).length (byC (bputs bs))]) := by
 have h10 := vput_ten (n := bs.length) (by omega)
 have hp := vput_pos bs.length
 have hbl := byC_len bs
 have hbb : (bputs bs).length = (vput bs.length).length + bs.length := List.length_append
 have hb1 : ((vput bs.length).length + (byC bs).length) * 1 ≤ 140737488355328 := by omega
 have hb2 : (vput bs.length).length + (byC bs).length ≤ maxLen := by unfold maxLen; omega
 refine zN (hE.fn Tryz.func38) rfl rfl rfl (fun R => ?_)
 simp only [argsL, List.cons_append, List.nil_append]
 refine qK (qI ?_)
 refine qA (qC rfl) rfl ?_
 refine qL (qJ (qK (qI ?_)))
 refine qA (qB rfl) rfl ?_
 refine qA (qQ rfl (hE.t rfl)) rfl ?_
 refine qA (kK rfl (hE.t rfl) (hE.t rfl) (by first | exact kL (by omega) (by omega) | exact kM (by omega) (by omega))) rfl ?_
 apply qH (by kernel_rfl) rfl
 apply qY (ct_vput (n := bs.length) hE (by omega)) rfl (hE.f (by kernel_rfl))
 ·((repeat constructor); done)
 rintro _ _ ⟨g2, c2, rfl, rfl⟩
 simp only [List.cons_append, List.nil_append]
 refine qA (qB rfl) rfl ?_
 apply qH (by kernel_rfl) rfl
 refine ld_append_any (us := byC bs) (q := ro g (byC bs)) (hE.t rfl) (hE.t rfl) rfl rfl rfl hbl.symm (fun _ => ⟨g, 0, rfl, rd_ro⟩) (by ((repeat constructor); done)) (by ((repeat constructor); done)) (byC_cells bs) hb1 hb2 (fun p1 c1 m1 x1 hm1 hx1 => ?_)
 obtain rfl : m1 = (bputs bs).length := by omega
 obtain rfl : x1 = byC (bputs bs) := hx1.trans (byC_append _ _).symm
 refine l_say (p := sl p1 c1 5 1 (bputs bs).length (byC (bputs bs))) (by ((repeat constructor); done)) (fun _ h => sl_form h (by omega)) ?_
 rintro ⟨g', rfl⟩
 refine qA (qC rfl) rfl ?_
 refine qL (qJ (zY ?_))
 apply zZ
 ·rfl
 ·(apply Rs.tmp rfl; exact Rs.nil)
 ·exact ⟨g', c1, rfl, rfl⟩
 ·(apply ent; (repeat constructor); done)
theorem ys_ok {M : List Ent} {l : List (List UInt8 × Int)} {ys : List Nat} (hl : ∀ p ∈ l, 0 ≤ p.2 → p.2 ≤ (Es.length : Nat) → Eg.len (rls Es) p.2.toNat ≤ 256) (hI : InR Es.length l) (hyl : ys.length = l.length) (hs : SigL (rls (Es ++ M)) (rawN l) ys) : ∀ y ∈ ys, y ≤ (Es ++ M).length ∧ Eg.len (rls (Es ++ M)) y ≤ 256 := fun y hy => by
 obtain ⟨i, hi⟩ := List.getElem?_of_mem hy
 have hil := (List.getElem?_eq_some_iff.1 hi).1
 obtain ⟨p, hp⟩ : ∃ p, l[i]? = some p := ⟨_, List.getElem?_eq_getElem (by omega)⟩
 have hpm := List.mem_of_getElem? hp
 have hx : (rawN l)[i]? = some p.2.toNat := by unfold rawN; rw [List.getElem?_map, hp]; rfl
 have h := hs i _ y hx hi
 have hIp := hI p hpm
 refine ⟨by have := h.2.2.1.1; rwa [zP] at this, ?_⟩
 unfold Eg.len
 rw [h.2.1, kD, txt_ext _ (by rw [zP]; omega)]
 exact hl p hpm hIp.1 hIp.2
theorem ct_Rules (hE : Seat E) (hB : Base E.w0) {l : List (List UInt8 × Int)} {a : Option Addr} {c : Nat} {q : HP} (hq : Rdb E.w0 a (nlC l) q) (hn : l.length ≤ 1000)
  (hl : ∀ p ∈ l, 0 ≤ p.2 → p.2 ≤ Es.length → Eg.len (rls Es) p.2.toNat ≤ 256) (hroom : Es.length + 512 * l.length ≤ most) (hk : Kn (rls Es) f) :
  Ct E 16 [.pointer (some ⟨m, 0, none⟩), .slice a l.length c] [cells pp [.pointer (some ⟨s, 0, none⟩), .pointer (some ⟨tb, 0, none⟩)] 106, tabP tb s (rls Es), zQ s most Es, cells m [.pointer (some ⟨pp, 0, none⟩), .map (some bm)] 103, mapF bm .i64 f, q]
   (fun v Q => (∃ e, SgE Es.length l e ∧ v = .tuple #[.int .i64 0, .iface 36 (.int .i64 e)] ∧ Q = [cells pp [.pointer (some ⟨s, 0, none⟩), .pointer (some ⟨tb, 0, none⟩)] 106, tabP tb s (rls Es), zQ s most Es, cells m [.pointer (some ⟨pp, 0, none⟩), .map (some bm)] 103, mapF bm .i64 f, q]) ∨
    ∃ M f' ys, SgO Es.length l ∧ v = .tuple #[.int .i64 ((kF (rls (Es ++ M)) ys []).length : Nat), .nilIface] ∧ M.length ≤ 512 * l.length ∧ Kn (rls (Es ++ M)) f' ∧ ys.length = l.length ∧ SigL (rls (Es ++ M)) (rawN l) ys ∧ Q = [cells pp [.pointer (some ⟨s, 0, none⟩), .pointer (some ⟨tb, 0, none⟩)] 106, tabP tb s (rls (Es ++ M)), zQ s most (Es ++ M), cells m [.pointer (some ⟨pp, 0, none⟩), .map (some bm)] 103, mapF bm .i64 f', q]) := by
 refine zN (hE.fn Tryz.func16) rfl rfl rfl (fun R => ?_)
 simp only [argsL, List.cons_append, List.nil_append]
 refine qK (qI ?_)
 refine qA (qC rfl) rfl ?_
 refine qA (qC rfl) rfl ?_
 refine qL (qJ (qK (qI ?_)))
 refine qA (qB rfl) rfl ?_
 refine qA (qB rfl) rfl ?_
 apply qH (by kernel_rfl) rfl
 apply qY (ct_signatures (s := s) (tb := tb) (most := most) (f := f) (m := m) (pp := pp) (bm := bm) hE hB hq hn hl hroom hk) rfl (hE.f (by kernel_rfl))
 ·((repeat constructor); done)
 rintro _ _ (⟨e, he, rfl, rfl⟩ | ⟨M, f', ys, p', c', ho, rfl, hM, hkn, hyl, hsl, rfl⟩)
 ·skip
  simp only [List.cons_append, List.nil_append]
  refine qA (qB rfl) rfl ?_
  refine qA (qS rfl rfl) rfl ?_
  refine qA (qS rfl rfl) rfl ?_
  refine qA (qS rfl rfl) rfl ?_
  refine qA (qC rfl) rfl ?_
  refine qA (qC rfl) rfl ?_
  refine qA (qC rfl) rfl ?_
  refine qL (qJ (qK (qK (qI ?_))))
  refine qA (qB rfl) rfl ?_
  apply qA
  ·exact y_err_ne rfl (hE.t rfl)
  ·rfl
  refine qL (qJ ?_)
  refine zE rfl ?_
  refine qK (qI ?_)
  refine qA (qB rfl) rfl ?_
  refine qA (qC rfl) rfl ?_
  refine qA (qC rfl) rfl ?_
  refine qL (qJ (zY (qU ?_)))
  apply zZ
  ·rfl
  ·(apply Rs.tmp rfl; apply Rs.tmp rfl; exact Rs.nil)
  ·exact .inl ⟨e, he, rfl, rfl⟩
  ·(apply ent; (repeat constructor); done)
 ·skip
  have hyo := ys_ok hl ho.2.2 hyl hsl
  simp only [List.cons_append, List.nil_append]
  refine qA (qB rfl) rfl ?_
  refine qA (qS rfl rfl) rfl ?_
  refine qA (qS rfl rfl) rfl ?_
  refine qA (qS rfl rfl) rfl ?_
  refine qA (qC rfl) rfl ?_
  refine qA (qC rfl) rfl ?_
  refine qA (qC rfl) rfl ?_
  refine qL (qJ (qK (qK (qI ?_))))
  refine qA (qB rfl) rfl ?_
  apply qA
  ·exact y_ok_ne rfl (hE.t rfl)
  ·rfl
  refine qL (qJ ?_)
  refine zC rfl ?_
  refine zB (qJ (qK (qI ?_)))
  refine qA (qB rfl) rfl ?_
  refine qA (qB rfl) rfl ?_
  apply qH (by kernel_rfl) rfl
  apply qY (ct_listing (s := s) (most := most) (Es := Es ++ M) hE hyl hyo hn) rfl (hE.f (by kernel_rfl))
  ·((repeat constructor); done)
  rintro _ _ ⟨pl, cl, rfl, rfl⟩
  simp only [List.cons_append, List.nil_append]
  refine qA (qQ rfl (hE.t rfl)) rfl ?_
  refine qA (qC rfl) rfl ?_
  refine qA (qC rfl) rfl ?_
  refine qL (qJ (zY ?_))
  apply zZ
  ·rfl
  ·(apply Rs.tmp rfl; apply Rs.tmp rfl; exact Rs.nil)
  ·exact .inr ⟨M, f', ys, ho, rfl, hM, hkn, hyl, hsl, rfl⟩
  ·(apply ent; (repeat constructor); done)
theorem nuF_at {ids : List Nat} {k x : Nat} (h : ids[k]? = some x) (hn : ids.Nodup) : setF (nuF (ids.take k)) (x : Nat) (.int .i64 ((k + 1 : Nat) : Int)) = nuF (ids.take (k + 1)) := by
 have hk := (List.getElem?_eq_some_iff.1 h).1
 have e : (ids.take k).length = k := by simp; omega
 have htk : ids.take (k + 1) = ids.take k ++ [x] := by rw [List.take_add_one, h]; rfl
 have hx : x ∉ ids.take k := fun hm => by
  have : (ids.take k ++ [x]).Nodup := htk ▸ hn.sublist (List.take_sublist _ _)
  exact (List.nodup_append.1 this).2.2 x hm x (by simp) rfl
 have := nuF_set hx
 rw [e] at this
 rw [this, htk]
theorem renum_kind (I : List Nat) (r : Rl) : (renum I r).kind = r.kind := by cases r <;> rfl
theorem renum_byte (I : List Nat) (r : Rl) : (renum I r).byte = r.byte := by cases r <;> rfl
theorem renum_times (I : List Nat) (r : Rl) : (renum I r).times = r.times := by cases r <;> rfl
theorem renum_left {I : List Nat} (h : 0 ∉ I) (r : Rl) : (renum I r).left = numb I r.left := by cases r <;> first | rfl | exact (numb_zero.2 h).symm
theorem renum_right {I : List Nat} (h : 0 ∉ I) (r : Rl) : (renum I r).right = numb I r.right := by cases r <;> first | rfl | exact (numb_zero.2 h).symm
theorem renum_ok {I A : List Nat} {x n : Nat} {r : Rl} (hI : I = A ++ [x]) (ho : r.ok n) (hk : ∀ k ∈ kids r, k ∈ A) : (renum I r).ok (A.length + 1) ∧ ∀ B, renum (I ++ B) r = renum I r := by
 subst hI
 have key : ∀ k ∈ A, 1 ≤ numb (A ++ [x]) k ∧ numb (A ++ [x]) k ≤ A.length := fun k hk => by
  rw [numb_app hk]
  have := numb_le A k
  have : numb A k ≠ 0 := fun e => numb_zero.1 e hk
  omega
 have app : ∀ B, ∀ k ∈ A, numb (A ++ [x] ++ B) k = numb (A ++ [x]) k := fun B k hk => numb_app (by simp [hk])
 cases r with
 | letter b => exact ⟨trivial, fun _ => rfl⟩
 | pair a b =>
  have h1 := key a (hk a (by simp [kids]))
  have h2 := key b (hk b (by simp [kids]))
  refine ⟨⟨h1.1, by omega, h2.1, by omega⟩, fun B => ?_⟩
  simp only [renum, app B a (hk a (by simp [kids])), app B b (hk b (by simp [kids]))]
 | power a k =>
  have h1 := key a (hk a (by simp [kids]))
  simp only [Rl.ok] at ho
  refine ⟨⟨h1.1, by omega, ho.2.2⟩, fun B => ?_⟩
  simp only [renum, app B a (hk a (by simp [kids]))]
theorem rulB_len (i : Nat) (hi : i ≤ 1099511627776) (r : Rl) (ht : r.times ≤ 1152921504606846976) : 0 < (rulB i r).length ∧ (rulB i r).length ≤ 21 := by
 cases r with
 | letter b => simp [rulB]
 | pair a b =>
  have h1 := vput_ten (n := i - a) (by omega)
  have h2 := vput_ten (n := i - b) (by omega)
  simp only [rulB, List.length_cons, List.length_append]; omega
 | power a k =>
  simp only [Rl.times] at ht
  have h1 := vput_ten (n := i - a) (by omega)
  have h2 := vput_ten (n := k - 2) (by omega)
  simp only [rulB, List.length_cons, List.length_append]; omega
def nmY (l : List (List UInt8 × Int)) (ys : List Nat) : List (List UInt8 × Nat) := (l.map (·.1)).zip ys
theorem encN_snoc (ids : List Nat) (A : List (List UInt8 × Nat)) (p : List UInt8 × Nat) : encN ids (A ++ [p]) = encN ids A ++ bputs p.1 ++ vput (numb ids p.2) := by simp [encN, bputs]
theorem nmY_take {l : List (List UInt8 × Int)} {ys : List Nat} {k y : Nat} {p : List UInt8 × Int} (hp : l[k]? = some p) (hy : ys[k]? = some y) : (nmY l ys).take (k + 1) = (nmY l ys).take k ++ [(p.1, y)] := by
 have : (nmY l ys)[k]? = some (p.1, y) := by
  unfold nmY
  rw [List.getElem?_zip_eq_some]
  exact ⟨by rw [List.getElem?_map, hp]; rfl, hy⟩
 rw [List.take_add_one, this]
 rfl
end
section
open Go Go.RowKit Sl Eg
set_option maxRecDepth 10000
variable {E : Env} {Es : List Ent} {pp tb s most m bm : Nat} {f : Int → Option Value}
structure EnG where
 k : Nat
 done : List UInt8
 g : Nat
 c : Nat
theorem ct_Encode (hE : Seat E) (hB : Base E.w0) {l : List (List UInt8 × Int)} {a : Option Addr} {ca : Nat} {q : HP} (hq : Rdb E.w0 a (nlC l) q) (hn : l.length ≤ 1000)
  (hl : ∀ p ∈ l, 0 ≤ p.2 → p.2 ≤ Es.length → Eg.len (rls Es) p.2.toNat ≤ 256) (hroom : Es.length + 512 * l.length ≤ most) (hk : Kn (rls Es) f) :
  Ct E 14 [.pointer (some ⟨m, 0, none⟩), .slice a l.length ca] [cells pp [.pointer (some ⟨s, 0, none⟩), .pointer (some ⟨tb, 0, none⟩)] 106, tabP tb s (rls Es), zQ s most Es, cells m [.pointer (some ⟨pp, 0, none⟩), .map (some bm)] 103, mapF bm .i64 f, q]
   (fun v Q => (∃ e, SgE Es.length l e ∧ v = .tuple #[.slice none 0 0, .iface 36 (.int .i64 e)] ∧ Q = [cells pp [.pointer (some ⟨s, 0, none⟩), .pointer (some ⟨tb, 0, none⟩)] 106, tabP tb s (rls Es), zQ s most Es, cells m [.pointer (some ⟨pp, 0, none⟩), .map (some bm)] 103, mapF bm .i64 f, q]) ∨
    ∃ M f' ys g c B, SgO Es.length l ∧ v = .tuple #[.slice (some ⟨g, 0, none⟩) B.length c, .nilIface] ∧ B = encB (rls (Es ++ M)) (kF (rls (Es ++ M)) ys []) (nmY l ys) ∧ M.length ≤ 512 * l.length ∧ Kn (rls (Es ++ M)) f' ∧ ys.length = l.length ∧ SigL (rls (Es ++ M)) (rawN l) ys ∧ Q = [cells pp [.pointer (some ⟨s, 0, none⟩), .pointer (some ⟨tb, 0, none⟩)] 106, tabP tb s (rls (Es ++ M)), zQ s most (Es ++ M), cells m [.pointer (some ⟨pp, 0, none⟩), .map (some bm)] 103, mapF bm .i64 f', q, sl (some ⟨g, 0, none⟩) c 5 1 B.length (byC B)]) := by
 refine zN (hE.fn Tryz.func14) rfl rfl rfl (fun R => ?_)
 simp only [argsL, List.cons_append, List.nil_append]
 refine qK (qI ?_)
 refine qA (qC rfl) rfl ?_
 refine qA (qC rfl) rfl ?_
 refine qL (qJ (qK (qI ?_)))
 refine qA (qB rfl) rfl ?_
 refine qA (qB rfl) rfl ?_
 apply qH (by kernel_rfl) rfl
 apply qY (ct_signatures (s := s) (tb := tb) (most := most) (f := f) (m := m) (pp := pp) (bm := bm) hE hB hq hn hl hroom hk) rfl (hE.f (by kernel_rfl))
 ·((repeat constructor); done)
 rintro _ _ (⟨e, he, rfl, rfl⟩ | ⟨M, f', ys, p', c', ho, rfl, hM, hkn, hyl, hsl, rfl⟩)
 ·skip
  simp only [List.cons_append, List.nil_append]
  refine qA (qB rfl) rfl ?_
  refine qA (qS rfl rfl) rfl ?_
  refine qA (qS rfl rfl) rfl ?_
  refine qA (qS rfl rfl) rfl ?_
  refine qA (qC rfl) rfl ?_
  refine qA (qC rfl) rfl ?_
  refine qA (qC rfl) rfl ?_
  refine qL (qJ (qK (qK (qI ?_))))
  refine qA (qB rfl) rfl ?_
  apply qA
  ·exact y_err_ne rfl (hE.t rfl)
  ·rfl
  refine qL (qJ ?_)
  refine zE rfl ?_
  refine qK (qI ?_)
  refine qA (qB rfl) rfl ?_
  refine qA (qC rfl) rfl ?_
  refine qA (qC rfl) rfl ?_
  refine qL (qJ (zY (qU ?_)))
  apply zZ
  ·rfl
  ·(apply Rs.tmp rfl; apply Rs.tmp rfl; exact Rs.nil)
  ·exact .inl ⟨e, he, rfl, rfl⟩
  ·(apply ent; (repeat constructor); done)
 ·skip
  have hyo := ys_ok hl ho.2.2 hyl hsl
  simp only [List.cons_append, List.nil_append]
  refine qA (qB rfl) rfl ?_
  refine qA (qS rfl rfl) rfl ?_
  refine qA (qS rfl rfl) rfl ?_
  refine qA (qS rfl rfl) rfl ?_
  refine qA (qC rfl) rfl ?_
  refine qA (qC rfl) rfl ?_
  refine qA (qC rfl) rfl ?_
  refine qL (qJ (qK (qK (qI ?_))))
  refine qA (qB rfl) rfl ?_
  apply qA
  ·exact y_ok_ne rfl (hE.t rfl)
  ·rfl
  refine qL (qJ ?_)
  refine zC rfl ?_
  refine zB (qJ (qK (qI ?_)))
  refine qA (qB rfl) rfl ?_
  refine qA (qB rfl) rfl ?_
  apply qH (by kernel_rfl) rfl
  apply qY (ct_listing (s := s) (most := most) (Es := Es ++ M) hE hyl hyo hn) rfl (hE.f (by kernel_rfl))
  ·((repeat constructor); done)
  rintro _ _ ⟨pl, cl, rfl, rfl⟩
  simp only [List.cons_append, List.nil_append]
  refine l_say (p := zQ s most (Es ++ M)) (by ((repeat constructor); done)) (fun _ h => storeP_says h) (fun hsay => ?_)
  have hmr : maxRules = 1048576 := rfl
  have hLl := zP (Es ++ M)
  have hao : AccOk (rls (Es ++ M)) (kF (rls (Es ++ M)) ys []) := AccOk.visits hsay.1 (fun y hy => by have := (hyo y hy).1; omega)
  have hord := visits_ord hsay.1 ys [] (ord_nil _)
  obtain ⟨ids, hids⟩ : ∃ ids, ids = kF (rls (Es ++ M)) ys [] := ⟨_, rfl⟩
  rw [← hids] at hao hord ⊢
  have hal := hao.len
  have h0i : 0 ∉ ids := fun h => by have := (hao.2 0 h).1; omega
  refine qA (qC rfl) rfl ?_
  refine qL (qJ (qK (qI ?_)))
  refine qA (qB rfl) rfl ?_
  refine qA (qQ rfl (hE.t rfl)) rfl ?_
  apply qH (by kernel_rfl) rfl
  refine ld_newMapN .i64 (kt := 37) (et := 3) (by rw [hE.P]; kernel_rfl) rfl (fun b35 => ?_)
  refine qA (qC rfl) rfl ?_
  refine qL (qJ ?_)
  rw [nuF_nil]
  refine qK (qI ?_)
  refine qA (qB rfl) rfl ?_
  refine qA (qQ rfl (hE.t rfl)) rfl ?_
  refine qA (kK rfl (hE.t rfl) (hE.t rfl) (by first | exact kL (by omega) (by omega) | exact kM (by omega) (by omega))) rfl ?_
  apply qH (by kernel_rfl) rfl
  apply qY (ct_vput (n := ids.length) hE (by omega)) rfl (hE.f (by kernel_rfl))
  ·((repeat constructor); done)
  rintro _ _ ⟨g0, c0, rfl, rfl⟩
  simp only [List.cons_append, List.nil_append]
  have hv10 := vput_ten (n := ids.length) (by omega)
  refine qA (qC rfl) rfl ?_
  refine qL (qJ (qK (qK (qI ?_))))
  refine qA (qB rfl) rfl ?_
  refine qA (qQ rfl (hE.t rfl)) rfl ?_
  refine qA (qB rfl) rfl ?_
  refine qL (qJ (zJ ?_))
  skip
  refine w_loop (fun x : EnG => [(1, .slice a l.length ca), (6, .pointer (some ⟨s, 0, none⟩)), (7, .slice p' l.length c'), (10, .map (some b35)), (11, .slice (some ⟨x.g, 0, none⟩) x.done.length x.c), (40, .slice pl ids.length cl), (41, .int .i64 (ids.length : Nat)), (42, .int .i64 (x.k : Nat))])
   (fun x => [zQ s most (Es ++ M), cells pp [.pointer (some ⟨s, 0, none⟩), .pointer (some ⟨tb, 0, none⟩)] 106, tabP tb s (rls (Es ++ M)), cells m [.pointer (some ⟨pp, 0, none⟩), .map (some bm)] 103, mapF bm .i64 f', q, sl p' c' 37 1 l.length (idC ys), mapF b35 .i64 (nuF (ids.take x.k)), sl (some ⟨x.g, 0, none⟩) x.c 5 1 x.done.length (byC x.done), sl pl cl 37 1 ids.length (idC ids), R]) (fun x => ids.length - x.k)
   (fun x => x.k ≤ ids.length ∧ x.done = vput ids.length ++ encR (rls (Es ++ M)) ids x.k ∧ x.done.length ≤ 10 + 21 * x.k) ⟨0, vput ids.length, g0, c0⟩ ⟨Nat.zero_le _, by simp [encR], by simp only; omega⟩ ⟨rfl, rfl, rfl, rfl, rfl, rfl, rfl, rfl, trivial⟩ (by (apply ent; (repeat constructor); done)) ?_
  rintro ⟨k, done, g, c⟩ ⟨hk1, hdone, hdl⟩
  simp only at hk1 hdone hdl ⊢
  skip
  refine qK (qI ?_)
  refine qA (y_lt rfl rfl) rfl ?_
  refine qL (qJ (qK ?_))
  refine zD rfl (fun h => ?_) (fun h => ?_)
  ·skip
   have hkl : k < ids.length := by omega
   obtain ⟨x, hx⟩ : ∃ x, ids[k]? = some x := ⟨_, List.getElem?_eq_getElem hkl⟩
   have hxx := hao.2 x (List.mem_of_getElem? hx)
   obtain ⟨i, rfl⟩ : ∃ i, x = i + 1 := ⟨x - 1, by omega⟩
   have hent : (Es ++ M)[i]? = some ((Es ++ M)[i]'(by omega)) := List.getElem?_eq_getElem (by omega)
   generalize (Es ++ M)[i]'(by omega) = en at hent
   have hri := rls_get hent
   have hsplit : ids = ids.take k ++ (i + 1) :: ids.drop (k + 1) := by
    have := List.take_append_drop k ids
    rw [drop_one hx] at this
    exact this.symm
   have hkids := hord _ _ _ _ hsplit hri
   have htk : ids.take (k + 1) = ids.take k ++ [i + 1] := by rw [List.take_add_one, hx]; rfl
   have htl : (ids.take k).length = k := by simp; omega
   obtain ⟨hro, hrn⟩ := renum_ok htk (hsay.1.ok _ _ hri) hkids
   rw [htl] at hro
   have hrn2 : renum ids en.r = renum (ids.take (k + 1)) en.r := by
    have := hrn (ids.drop (k + 1))
    rwa [List.take_append_drop] at this
   have h0t : 0 ∉ ids.take (k + 1) := fun h => h0i (List.mem_of_mem_take h)
   have hrt : (renum (ids.take (k + 1)) en.r).times ≤ 1152921504606846976 := by
    rw [renum_times]
    have hsh := hsay.1.short (i + 1)
    have hmx : kE = 1152921504606846976 := rfl
    have hok := hsay.1.ok _ _ hri
    generalize en.r = r at hri hok ⊢
    cases r with
    | letter b => simp [Rl.times]
    | pair a b => simp [Rl.times]
    | power x t =>
     have e := len_power hri hok
     simp only [Rl.ok] at hok
     have h1 := hsay.1.pos x hok.1 (by omega)
     have h2 : t * 1 ≤ t * Eg.len (rls (Es ++ M)) x := Nat.mul_le_mul_left _ h1
     simp only [Rl.times]
     have e2 : Eg.len (rls (Es ++ M)) (i + 1) = (txt (rls (Es ++ M)) (i + 1)).length := rfl
     have e3 : t * Eg.len (rls (Es ++ M)) x = Eg.len (rls (Es ++ M)) (i + 1) := by rw [e]
     omega
   have hrl := rulB_len (k + 1) (by omega) (renum (ids.take (k + 1)) en.r) hrt
   refine w_say (p := sl pl cl 37 1 ids.length (idC ids)) (by ((repeat constructor); done)) (fun _ h => sl_form h (by omega)) ?_
   rintro ⟨gx, rfl⟩
   have f0 := idC_get hx (0 + ((k : Nat) : Int).toNat) (by omega)
   have f1 := idC_get hx (((k : Nat) : Int).toNat) (by omega)
   refine zB (qJ (qK (zJ (qK (qI ?_)))))
   refine qA (qB rfl) rfl ?_
   apply qA
   ·exact zL rfl rfl (hE.t rfl) (by omega) (by omega)
   ·rfl
   apply qA
   ·(apply qN rfl (hE.t rfl) rfl; (repeat (first | rfl | assumption | constructor)); done)
   ·rfl
   refine qA (qC rfl) rfl ?_
   refine qA (qC rfl) rfl ?_
   refine qL (qJ ?_)
   refine qK (qI ?_)
   refine qA (qB rfl) rfl ?_
   refine qA (qB rfl) rfl ?_
   refine qA (qB rfl) rfl ?_
   refine qA (y_add rfl rfl (by omega) (by omega)) rfl ?_
   refine l_eq 50 (.int .i64 ((k + 1 : Nat) : Int)) rfl (zV (by omega)) ?_
   apply qH (by kernel_rfl) rfl
   apply ld_setMap (kt := 37) (et := 3) (by rw [hE.P]; kernel_rfl) (by rw [hE.P]; kernel_rfl) rfl rfl rfl
   ·((repeat constructor); done)
   refine qL (qJ ?_)
   rw [nuF_at hx hao.1]
   refine qK (qI ?_)
   refine qA (qB rfl) rfl ?_
   refine qA (qB rfl) rfl ?_
   apply qH (by kernel_rfl) rfl
   apply qY (ct_rule hE hent) rfl (hE.f (by kernel_rfl))
   ·((repeat constructor); done)
   rintro _ _ ⟨rfl, rfl⟩
   simp only [List.cons_append, List.nil_append]
   have hf1 : nuF (ids.take (k + 1)) ((en.r.left : Nat) : Int) = nuF (ids.take (k + 1)) ((en.r.left : Nat) : Int) := rfl
   have hf2 : nuF (ids.take (k + 1)) ((en.r.right : Nat) : Int) = nuF (ids.take (k + 1)) ((en.r.right : Nat) : Int) := rfl
   refine qA (qB rfl) rfl ?_
   refine qA (qS rfl rfl) rfl ?_
   refine qA (qS rfl rfl) rfl ?_
   apply qH (by kernel_rfl) rfl
   refine kC (hE.t rfl) (fun b14 => ?_)
   apply qH (by kernel_rfl) rfl
   (apply zK rfl rfl (hE.t rfl) rfl; (focus ((repeat constructor); done)); (focus rfl); (focus (exact Nat.le_of_ble_eq_true rfl)))
   refine qA (qC rfl) rfl ?_
   refine qL (qJ ?_)
   refine qK (qI ?_)
   refine qA (qB rfl) rfl ?_
   refine qA (qD rfl (hE.t rfl) rfl) rfl ?_
   apply qA
   ·(apply qN rfl (hE.t rfl) rfl; (repeat (first | rfl | assumption | constructor)); done)
   ·rfl
   refine qA (y_find (kt := 37) (et := 3) (z := .int .i64 0) (by rw [hE.P]; kernel_rfl) (by rw [hE.P]; kernel_rfl) (fun w => by rw [hE.P]; kernel_rfl) rfl rfl (by ((repeat constructor); done)) (by assumption)) rfl ?_
   refine l_eq 60 (.int .i64 (numb (ids.take (k + 1)) en.r.left : Nat)) rfl (nuF_get _ _) ?_
   refine qA (qD rfl (hE.t rfl) rfl) rfl ?_
   apply qH (by kernel_rfl) rfl
   (apply zK rfl rfl (hE.t rfl) rfl; (focus ((repeat constructor); done)); (focus rfl); (focus (exact Nat.le_of_ble_eq_true rfl)))
   refine qL (qJ ?_)
   refine qK (qI ?_)
   refine qA (qB rfl) rfl ?_
   refine qA (qD rfl (hE.t rfl) rfl) rfl ?_
   apply qA
   ·(apply qN rfl (hE.t rfl) rfl; (repeat (first | rfl | assumption | constructor)); done)
   ·rfl
   refine qA (y_find (kt := 37) (et := 3) (z := .int .i64 0) (by rw [hE.P]; kernel_rfl) (by rw [hE.P]; kernel_rfl) (fun w => by rw [hE.P]; kernel_rfl) rfl rfl (by ((repeat constructor); done)) (by assumption)) rfl ?_
   refine l_eq 65 (.int .i64 (numb (ids.take (k + 1)) en.r.right : Nat)) rfl (nuF_get _ _) ?_
   refine qA (qD rfl (hE.t rfl) rfl) rfl ?_
   apply qH (by kernel_rfl) rfl
   (apply zK rfl rfl (hE.t rfl) rfl; (focus ((repeat constructor); done)); (focus rfl); (focus (exact Nat.le_of_ble_eq_true rfl)))
   refine qL (qJ ?_)
   refine w_heap (kA (p := cells b14 [.int .i64 (en.r.kind : Nat), .int .u8 (en.r.byte : Nat), .int .i64 (numb (ids.take (k + 1)) en.r.left : Nat), .int .i64 (numb (ids.take (k + 1)) en.r.right : Nat), .int .i64 (en.r.times : Nat)] 82) (p' := cells b14 [.int .i64 (Rl.kind ((renum (ids.take (k + 1)) en.r)) : Nat), .int .u8 (Rl.byte ((renum (ids.take (k + 1)) en.r)) : Nat), .int .i64 (Rl.left ((renum (ids.take (k + 1)) en.r)) : Nat), .int .i64 (Rl.right ((renum (ids.take (k + 1)) en.r)) : Nat), .int .i64 (Rl.times ((renum (ids.take (k + 1)) en.r)) : Nat)] 82) (by ((repeat constructor); done)) (fun _ h => by rw [renum_kind, renum_byte, renum_left h0t, renum_right h0t, renum_times]; exact h)) ?_
   refine qK (qI ?_)
   apply qA
   ·(apply zU rfl (hE.t rfl) rfl; (repeat (first | rfl | assumption | constructor)); done)
   ·rfl
   refine qA (qB rfl) rfl ?_
   refine qA (y_add rfl rfl (by omega) (by omega)) rfl ?_
   refine l_eq 70 (.int .i64 ((k + 1 : Nat) : Int)) rfl (zV (by omega)) ?_
   skip
   apply qH (by kernel_rfl) rfl
   apply qY (ct_rPut (r := renum (ids.take (k + 1)) en.r) (n := k + 1) hE hro (by omega) (by omega) hrt) rfl (hE.f (by kernel_rfl))
   ·((repeat constructor); done)
   rintro _ _ ⟨gr, cr, rfl, rfl⟩
   simp only [List.cons_append, List.nil_append]
   refine qA (qB rfl) rfl ?_
   refine qA (qS rfl rfl) rfl ?_
   refine qA (qS rfl rfl) rfl ?_
   refine qA (qC rfl) rfl ?_
   refine qA (qC rfl) rfl ?_
   refine qL (qJ (qI ?_))
   refine qA (qB rfl) rfl ?_
   refine qA (qB rfl) rfl ?_
   apply qH (by kernel_rfl) rfl
   apply ld_append_sl (hE.t rfl) (hE.t rfl) rfl rfl rfl
   ·((repeat constructor); done)
   ·((repeat constructor); done)
   ·exact byC_cells _
   ·exact hrl.1
   ·omega
   ·unfold maxLen; omega
   intro g1 c1 m' x' hm' hx'
   obtain rfl : m' = (done ++ rulB (k + 1) (renum (ids.take (k + 1)) en.r)).length := hm'.trans List.length_append.symm
   obtain rfl : x' = byC (done ++ rulB (k + 1) (renum (ids.take (k + 1)) en.r)) := hx'.trans (byC_append _ _).symm
   clear hm' hx'
   refine qA (qC rfl) rfl ?_
   refine qL (zH (qJ (qI ?_)))
   refine qA (y_add rfl rfl (by omega) (by omega)) rfl ?_
   refine qA (qB rfl) rfl ?_
   refine qL ?_
   refine zR (ι := EnG) (j := ⟨k + 1, done ++ rulB (k + 1) (renum (ids.take (k + 1)) en.r), g1, c1⟩) ⟨by simp only; omega, by simp only; rw [encR_succ hx hri, ← List.append_assoc, ← hdone, hrn2], by simp only [List.length_append]; omega⟩ (by simp only; omega) ⟨rfl, rfl, rfl, rfl, rfl, rfl, rfl, congrArg some (zV (by simp only; omega)), trivial⟩ ?_
   (apply ent; (repeat constructor); done)
  ·skip
   obtain rfl : k = ids.length := by omega
   rw [List.take_length]
   clear h hk1
   have hv2 := vput_ten (n := l.length) (by omega)
   refine kH (qP (qP (zG (qJ (qK (qI ?_))))))
   refine qA (qB rfl) rfl ?_
   refine qA (qB rfl) rfl ?_
   refine qA (qQ rfl (hE.t rfl)) rfl ?_
   refine qA (kK rfl (hE.t rfl) (hE.t rfl) (by first | exact kL (by omega) (by omega) | exact kM (by omega) (by omega))) rfl ?_
   apply qH (by kernel_rfl) rfl
   apply qY (ct_vput (n := l.length) hE (by omega)) rfl (hE.f (by kernel_rfl))
   ·((repeat constructor); done)
   rintro _ _ ⟨g2, c2, rfl, rfl⟩
   simp only [List.cons_append, List.nil_append]
   skip
   apply qH (by kernel_rfl) rfl
   apply ld_append_sl (hE.t rfl) (hE.t rfl) rfl rfl rfl
   ·((repeat constructor); done)
   ·((repeat constructor); done)
   ·exact byC_cells _
   ·exact (vput_pos _)
   ·omega
   ·unfold maxLen; omega
   intro g3 c3 m' x' hm' hx'
   obtain rfl : m' = (done ++ vput l.length).length := hm'.trans List.length_append.symm
   obtain rfl : x' = byC (done ++ vput l.length) := hx'.trans (byC_append _ _).symm
   clear hm' hx'
   have hd3 : (done ++ vput l.length).length = done.length + (vput l.length).length := List.length_append
   refine qA (qC rfl) rfl ?_
   refine qL (qJ (qK (qK (qI ?_))))
   refine qA (qB rfl) rfl ?_
   refine qA (qQ rfl (hE.t rfl)) rfl ?_
   refine qA (qB rfl) rfl ?_
   refine qL (qJ (zJ ?_))
   skip
   refine w_loop (fun x : EnG => [(7, .slice p' l.length c'), (10, .map (some b35)), (11, .slice (some ⟨x.g, 0, none⟩) x.done.length x.c), (84, .slice a l.length ca), (85, .int .i64 (l.length : Nat)), (86, .int .i64 (x.k : Nat))])
    (fun x => [zQ s most (Es ++ M), cells pp [.pointer (some ⟨s, 0, none⟩), .pointer (some ⟨tb, 0, none⟩)] 106, tabP tb s (rls (Es ++ M)), cells m [.pointer (some ⟨pp, 0, none⟩), .map (some bm)] 103, mapF bm .i64 f', q, sl p' c' 37 1 l.length (idC ys), mapF b35 .i64 (nuF ids), sl (some ⟨x.g, 0, none⟩) x.c 5 1 x.done.length (byC x.done), R]) (fun x => l.length - x.k)
    (fun x => x.k ≤ l.length ∧ x.done = done ++ vput l.length ++ encN ids ((nmY l ys).take x.k) ∧ x.done.length ≤ 10 + 21 * ids.length + 10 + 52 * x.k) ⟨0, done ++ vput l.length, g3, c3⟩ ⟨Nat.zero_le _, by simp [encN], by simp only; omega⟩ ⟨rfl, rfl, rfl, rfl, rfl, rfl, trivial⟩ (by (apply ent; (repeat constructor); done)) ?_
   rintro ⟨k, dn, g, c⟩ ⟨hk1, hdn, hdl2⟩
   simp only at hk1 hdn hdl2 ⊢
   skip
   refine qK (qI ?_)
   refine qA (y_lt rfl rfl) rfl ?_
   refine qL (qJ (qK ?_))
   refine zD rfl (fun h => ?_) (fun h => ?_)
   ·skip
    have hkl : k < l.length := by omega
    obtain ⟨p, hp⟩ : ∃ p, l[k]? = some p := ⟨_, List.getElem?_eq_getElem hkl⟩
    obtain ⟨y, hy⟩ : ∃ y, ys[k]? = some y := ⟨_, List.getElem?_eq_getElem (by omega)⟩
    have hpl := (ho.1 p (List.mem_of_getElem? hp)).2.1
    obtain ⟨go, o, rfl, hq'⟩ := hq (nlC_ne (by omega))
    have fm := nlC_two hp
    have hnb := numb_le ids y
    have hv1 := vput_ten (n := p.1.length) (by omega)
    have hv3 := vput_ten (n := numb ids y) (by omega)
    have hbl : (bputs p.1).length = (vput p.1.length).length + p.1.length := List.length_append
    have hbp : 0 < (bputs p.1).length := by have := vput_pos p.1.length; omega
    refine w_say (p := sl p' c' 37 1 l.length (idC ys)) (by ((repeat constructor); done)) (fun _ h => sl_form h (by omega)) ?_
    rintro ⟨gy, rfl⟩
    have f0 := idC_get hy (0 + ((k : Nat) : Int).toNat) (by omega)
    have f1 := idC_get hy (((k : Nat) : Int).toNat) (by omega)
    have hf1 : nuF ids ((y : Nat) : Int) = nuF ids ((y : Nat) : Int) := rfl
    skip
    refine zB (qJ (qK (zJ (qK (qI ?_)))))
    refine qA (qB rfl) rfl ?_
    refine qA (qO rfl rfl (hE.t rfl) (by omega) (by omega)) rfl ?_
    apply qA
    ·(apply kN rfl (hE.t rfl) rfl (by assumption); (focus ((repeat constructor); done)); (focus exact fm); (focus rfl); (focus omega))
    ·rfl
    apply qH (by kernel_rfl) rfl
    refine kC (hE.t rfl) (fun b19 => ?_)
    refine qA (qC rfl) rfl ?_
    apply qH (by kernel_rfl) rfl
    (apply zK rfl rfl (hE.t rfl) rfl; (focus ((repeat constructor); done)); (focus rfl); (focus (exact Nat.le_of_ble_eq_true rfl)))
    refine qL (qJ ?_)
    refine qK (qI ?_)
    refine qA (qB rfl) rfl ?_
    refine qA (qD rfl (hE.t rfl) rfl) rfl ?_
    apply qA
    ·(apply qN rfl (hE.t rfl) rfl; (repeat (first | rfl | assumption | constructor)); done)
    ·rfl
    apply qH (by kernel_rfl) rfl
    refine ld_bytes rfl (hE.t rfl) (hE.t rfl) (hE.t rfl) (fun gb cb => ?_)
    skip
    apply qH (by kernel_rfl) rfl
    apply qY (ct_PutBytes (g := gb) (c := cb) (bs := p.1) hE (by omega)) rfl (hE.f (by kernel_rfl))
    ·((repeat constructor); done)
    rintro _ _ ⟨g4, c4, rfl, rfl⟩
    simp only [List.cons_append, List.nil_append]
    skip
    apply qH (by kernel_rfl) rfl
    apply ld_append_sl (hE.t rfl) (hE.t rfl) rfl rfl rfl
    ·((repeat constructor); done)
    ·((repeat constructor); done)
    ·exact byC_cells _
    ·exact hbp
    ·omega
    ·unfold maxLen; omega
    intro g5 c5 m' x' hm' hx'
    obtain rfl : m' = (dn ++ bputs p.1).length := hm'.trans List.length_append.symm
    obtain rfl : x' = byC (dn ++ bputs p.1) := hx'.trans (byC_append _ _).symm
    clear hm' hx'
    have hd5 : (dn ++ bputs p.1).length = dn.length + (bputs p.1).length := List.length_append
    refine qA (qC rfl) rfl ?_
    refine qL (qJ ?_)
    refine qI ?_
    refine qA (qB rfl) rfl ?_
    refine qA (qB rfl) rfl ?_
    refine qA (qB rfl) rfl ?_
    refine qA (qB rfl) rfl ?_
    apply qA
    ·exact zL rfl rfl (hE.t rfl) (by omega) (by omega)
    ·rfl
    apply qA
    ·(apply qN rfl (hE.t rfl) rfl; (repeat (first | rfl | assumption | constructor)); done)
    ·rfl
    refine qA (y_find (kt := 37) (et := 3) (z := .int .i64 0) (by rw [hE.P]; kernel_rfl) (by rw [hE.P]; kernel_rfl) (fun w => by rw [hE.P]; kernel_rfl) rfl rfl (by ((repeat constructor); done)) (by assumption)) rfl ?_
    refine l_eq 103 (.int .i64 (numb ids y : Nat)) rfl (nuF_get _ _) ?_
    refine qA (kK rfl (hE.t rfl) (hE.t rfl) (by first | exact kL (by omega) (by omega) | exact kM (by omega) (by omega))) rfl ?_
    apply qH (by kernel_rfl) rfl
    apply qY (ct_vput (n := numb ids y) hE (by omega)) rfl (hE.f (by kernel_rfl))
    ·((repeat constructor); done)
    rintro _ _ ⟨g6, c6, rfl, rfl⟩
    simp only [List.cons_append, List.nil_append]
    skip
    apply qH (by kernel_rfl) rfl
    apply ld_append_sl (hE.t rfl) (hE.t rfl) rfl rfl rfl
    ·((repeat constructor); done)
    ·((repeat constructor); done)
    ·exact byC_cells _
    ·exact (vput_pos _)
    ·omega
    ·unfold maxLen; omega
    intro g7 c7 m' x' hm' hx'
    obtain rfl : m' = (dn ++ bputs p.1 ++ vput (numb ids y)).length := hm'.trans List.length_append.symm
    obtain rfl : x' = byC (dn ++ bputs p.1 ++ vput (numb ids y)) := hx'.trans (byC_append _ _).symm
    clear hm' hx'
    have hd7 : (dn ++ bputs p.1 ++ vput (numb ids y)).length = (dn ++ bputs p.1).length + (vput (numb ids y)).length := List.length_append
    refine qA (qC rfl) rfl ?_
    refine qL (zH (qJ (qI ?_)))
    refine qA (y_add rfl rfl (by omega) (by omega)) rfl ?_
    refine qA (qB rfl) rfl ?_
    refine qL ?_
    refine zR (ι := EnG) (j := ⟨k + 1, dn ++ bputs p.1 ++ vput (numb ids y), g7, c7⟩) ⟨by simp only; omega, by simp only; rw [nmY_take hp hy, encN_snoc, hdn]; simp only [List.append_assoc], by simp only; omega⟩ (by simp only; omega) ⟨rfl, rfl, rfl, rfl, rfl, congrArg some (zV (by simp only; omega)), trivial⟩ ?_
    (apply ent; (repeat constructor); done)
   ·skip
    obtain rfl : k = l.length := by omega
    have hnl : (nmY l ys).take l.length = nmY l ys := List.take_of_length_le (by unfold nmY; simp; omega)
    have hB : dn = encB (rls (Es ++ M)) ids (nmY l ys) := by
     have hnn : (nmY l ys).length = l.length := by unfold nmY; simp; omega
     rw [hdn, hnl, hdone, encB, hnn]
    refine kH (qP (qP (zG (qJ (qK (qI ?_))))))
    refine qA (qB rfl) rfl ?_
    refine qA (qC rfl) rfl ?_
    refine qA (qC rfl) rfl ?_
    refine qL (qJ (zY ?_))
    apply zZ
    ·rfl
    ·(apply Rs.tmp rfl; apply Rs.tmp rfl; exact Rs.nil)
    ·exact .inr ⟨M, f', ys, g, c, dn, ho, rfl, by rw [hB, hids], hM, hkn, hyl, hsl, rfl⟩
    ·(apply ent; (repeat constructor); done)
end
end Go.Proofs.YtkkjjablmmmmkaaGreatDoor
