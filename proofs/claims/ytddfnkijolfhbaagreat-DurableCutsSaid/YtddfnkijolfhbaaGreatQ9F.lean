import Derived.Test.YtddfnkijolfhbaaGreatQ86
import Derived.Test.YtddfnkijolfhbaaGreatQ9E
set_option linter.all false
set_option maxHeartbeats 1000000
namespace Go.Proofs.YtddfnkijolfhbaaGreat
open Go Go.RowKit Sl Eg
set_option maxRecDepth 10000
section
set_option maxRecDepth 100000
theorem underEn : Tryz.prog.underlying 51 = some (.struct (Tryz.prog.fieldsOf 51)) := by kernel_rfl
theorem heldEn : Tryz.prog.stoodInHeld 51 = false := by kernel_rfl
theorem fieldsEn : (Tryz.prog.fieldsOf 51).toList = [⟨"Name", 9, 0, false, "", "", 0⟩, ⟨"Text", 9, 1, false, "", "", 16⟩] := by kernel_rfl
def entV (p : List UInt8 × List UInt8) : Value := .agg #[.string ⟨⟨p.1⟩⟩, .string ⟨⟨p.2⟩⟩]
theorem zAk (a b : List UInt8 × List UInt8) (w : World) : (Op.equal 51 (entV a) (entV b)).run Tryz.prog w = .ok (decide (a = b)) w := by
 obtain ⟨a1, a2⟩ := a
 obtain ⟨b1, b2⟩ := b
 have h : decide ((a1, a2) = (b1, b2)) = (((⟨⟨a1⟩⟩ : ByteArray) == ⟨⟨b1⟩⟩) && ((⟨⟨a2⟩⟩ : ByteArray) == ⟨⟨b2⟩⟩)) := by
  rw [qTm, qTm, Bool.eq_iff_iff]
  simp
 rw [h]
 unfold Op.equal Op.maxDepth entV
 rw [show (10000 : Nat) = 9999 + 1 from rfl, run_equalIn_struct _ _ _ _ _ underEn heldEn, fieldsEn]
 simp only [Op.eqFields]
 simp [go_sem]
 rw [qTm, qTm]
 by_cases e1 : a1 = b1
 ·by_cases e2 : a2 = b2
  ·simp [e1, e2]
  simp [e1, e2]
 simp [e1]
variable {E : Env} {Es : List Ent} {s most : Nat}
theorem y_ne_ent (hE : Seat E) {n : Nat} {L : Fr} {S : List HP} {ty : TypeId} {pos : String} {af : Array Edge} {d : Option Nat} {gd : Option (Nat × Bool)} {x y : Operand} {yt : TypeId} {a b : List UInt8 × List UInt8} (hx : ev L x = some (entV a)) (hy : ev L y = some (entV b)) :
  Yl E n L S ⟨d, .binOp .neq 51 x y yt, ty, pos, af, gd⟩ (.bool (!decide (a = b))) := fun ac w g _ => by
 have h1 : (eqGuard .neq 51 x y (entV a) (entV b)).run E.P w = .ok () w := by
  have hg : E.P.eqGuardType E.P.depth 51 = false := by rw [hE.P]; kernel_rfl
  unfold eqGuard entV
  simp [program, Sem.run, hg]
 have h2 : binOp .neq 51 (entV a) (entV b) = (do pure (.bool (!(← Op.equal 51 (entV a) (entV b))))) := rfl
 have h3 := zAk a b w
 rw [← hE.P] at h3
 simp [execOp, h1, h2, h3, g.ev hx, g.ev hy]
def ssC (l : List (List UInt8 × List UInt8)) : List Value := l.flatMap fun p => [.string ⟨⟨p.1⟩⟩, .string ⟨⟨p.2⟩⟩]
theorem ssC_snoc (l : List (List UInt8 × List UInt8)) (p : List UInt8 × List UInt8) : ssC (l ++ [p]) = ssC l ++ [.string ⟨⟨p.1⟩⟩, .string ⟨⟨p.2⟩⟩] := by simp [ssC]
theorem ssC_len (l : List (List UInt8 × List UInt8)) : (ssC l).length = l.length * 2 := by
 induction l with
 | nil => rfl
 | cons a l ih =>
  have : ssC (a :: l) = [.string ⟨⟨a.1⟩⟩, .string ⟨⟨a.2⟩⟩] ++ ssC l := rfl
  rw [this, List.length_append, ih, List.length_cons]
  simp
  omega
theorem zBp {l : List (List UInt8 × List UInt8)} {i : Nat} {p : List UInt8 × List UInt8} (h : l[i]? = some p) (o : Nat) (ho : o = i * 2) : (ssC l)[o]? = some (.string ⟨⟨p.1⟩⟩) ∧ (ssC l)[o + 1]? = some (.string ⟨⟨p.2⟩⟩) := by
 subst ho
 have hi := (List.getElem?_eq_some_iff.1 h).1
 have hsp : l = l.take i ++ (p :: l.drop (i + 1)) := by
  have := List.take_append_drop i l
  rw [qDy h] at this
  exact this.symm
 have hl : (ssC (l.take i)).length = i * 2 := by rw [ssC_len, List.length_take]; omega
 have e : ssC l = ssC (l.take i) ++ ([.string ⟨⟨p.1⟩⟩, .string ⟨⟨p.2⟩⟩] ++ ssC (l.drop (i + 1))) := by
  conv => lhs; rw [hsp]
  unfold ssC
  rw [List.flatMap_append]
  rfl
 rw [e]
 constructor
 ·rw [List.getElem?_append_right (by omega), hl, Nat.sub_self]; rfl
 rw [List.getElem?_append_right (by omega), hl, show i * 2 + 1 - i * 2 = 1 by omega]; rfl
theorem ct_rSame (hE : Seat E) {A B : List (List UInt8 × List UInt8)} {q r : Option Addr} {c e : Nat} (hn : A.length ≤ 1000000) :
  Ct E 28 [.slice q A.length c, .slice r B.length e] [sl q c 51 2 A.length (ssC A), sl r e 51 2 B.length (ssC B)]
   (fun v Q => v = .bool (decide (A = B)) ∧ Q = [sl q c 51 2 A.length (ssC A), sl r e 51 2 B.length (ssC B)]) := by
 refine qBi (p := sl q c 51 2 A.length (ssC A)) uK (fun _ h => fun hpos => qAz h hpos) (fun hq => ?_)
 refine qBi (p := sl r e 51 2 B.length (ssC B)) uK (fun _ h => fun hpos => qAz h hpos) (fun hr => ?_)
 refine zP (hE.fn Tryz.func28) rfl rfl rfl (fun R => ?_)
 simp only [qAe, uV, uW]
 refine qL (qJ (uA rfl (qM (qK (qL (qL (qJ (uM rfl (uB (uBl rfl) ?_)))))))))
 refine uM rfl (uB (uBl rfl) ?_)
 refine uB (y_ne rfl rfl) ?_
 refine qM (qK ?_)
 refine zF rfl (fun h0 => ?_) (fun h0 => ?_)
 ·refine qL (qJ ?_)
  refine uA rfl (qM (qK (kC (qX ?_))))
  apply kD
  ·rfl
  ·(apply Rs.tmp rfl; exact Rs.nil)
  ·refine ⟨congrArg Value.bool (decide_eq_false fun h => ?_).symm, rfl⟩
   subst h
   exact h0 rfl
  exact uI
 have hAB : A.length = B.length := by omega
 refine zC (qK (qL (qL (qJ (uA rfl (qM (qK (zL ?_))))))))
 refine qAj (fun i : Nat => [(0, .slice q A.length c), (1, .slice r B.length e), (5, .int .i64 (i : Nat))]) (fun i => [sl q c 51 2 A.length (ssC A), sl r e 51 2 B.length (ssC B), R]) (fun i => A.length - i) (fun i => i ≤ A.length ∧ A.take i = B.take i) 0 ⟨Nat.zero_le _, rfl⟩ ⟨rfl, rfl, rfl, trivial⟩ uI ?_
 rintro i ⟨hi, heq⟩
 refine qL (qL (qJ (uM rfl (uM rfl (uB (uBl rfl) ?_)))))
 refine uB (y_lt rfl rfl) ?_
 refine qM (qK ?_)
 refine zF rfl (fun h1 => ?_) (fun h1 => ?_)
 ·have hil : i < A.length := by omega
  obtain ⟨x, hx⟩ : ∃ x, A[i]? = some x := ⟨_, List.getElem?_eq_getElem hil⟩
  obtain ⟨y, hy⟩ : ∃ x, B[i]? = some x := ⟨_, List.getElem?_eq_getElem (by omega)⟩
  obtain ⟨gq, rfl⟩ := hq (by omega)
  obtain ⟨gr, rfl⟩ := hr (by omega)
  obtain ⟨f0, f1⟩ := zBp hx (0 + ((i : Nat) : Int).toNat * 2) (by omega)
  obtain ⟨f2, f3⟩ := zBp hy (0 + ((i : Nat) : Int).toNat * 2) (by omega)
  refine zC (qK (qL (zL (qL ?_))))
  refine uH ([sl (some ⟨gq, 0, none⟩) c 51 2 A.length (ssC A), sl (some ⟨gr, 0, none⟩) e 51 2 B.length (ssC B)]) ?_
  refine uD 0 rfl (qC rfl) ?_
  refine uD 1 rfl (qC rfl) ?_
  refine uD 2 rfl (uAi rfl rfl) ?_
  refine uD 3 rfl (uG) ?_
  refine uD 4 rfl (qC rfl) ?_
  refine uD 5 rfl (qC rfl) ?_
  refine uD 6 rfl (uAi rfl rfl) ?_
  refine uD 7 rfl (uG) ?_
  refine uD 8 rfl (y_ne_ent hE rfl rfl) ?_
  refine qCc (by kernel_rfl) ?_
  refine qK ?_
  refine qBe rfl (fun h2 => ?_) (fun h2 => ?_)
  ·refine qL (qJ ?_)
   refine uA rfl (qM (qK (kC (zO (qX (qX (zO (qX ?_))))))))
   apply kD
   ·rfl
   ·(apply Rs.tmp rfl; exact Rs.nil)
   ·refine ⟨congrArg Value.bool (decide_eq_false fun h => h2 ?_).symm, rfl⟩
    subst h
    rw [hx] at hy
    exact Option.some.inj hy
   exact uI
  refine zC (zJ (qK (qJ ?_)))
  refine uM rfl (uB (uAa rfl rfl) ?_)
  refine uA rfl (qM ?_)
  refine zT (ι := Nat) (j := i + 1) ⟨by omega, ?_⟩ (by omega) ⟨rfl, rfl, congrArg some (zX (by omega)), trivial⟩ uI
  rw [List.take_add_one, List.take_add_one, hx, hy, heq, h2]
 obtain rfl : i = A.length := by omega
 rw [List.take_length, hAB, List.take_length] at heq
 refine kJ (qQ (qQ (zI (qK (qL (qJ (uA rfl (qM (qK (kC ?_))))))))))
 exact uZ rfl (.tmp rfl .nil) ⟨congrArg Value.bool (decide_eq_true heq).symm, rfl⟩
theorem qZs (hE : Seat E) {fv : Value} : Ct E 82 [uPt s, .int .i64 0, .int .i64 0, .int .i64 0, fv] [] (fun v Q => v = .nilIface ∧ Q = []) := by
 refine zP (hE.fn Tryz.func82) rfl rfl rfl (fun R => ?_)
 simp only [qAe, uV, uW]
 refine qL (qJ (uA rfl (qM (qK (qL (qJ (uM rfl (uM rfl (uM rfl (uB (qBc (hE.t rfl) rfl rfl) ?_))))))))))
 refine uU ?_
 refine qW (hE.t rfl) (hE.t rfl) rfl rfl rfl (fun b22 => ?_)
 refine uA rfl (qM (qK (qL (zL ?_))))
 refine qAk (kE (p := cells b22 [.int .i64 0, .int .i64 0, .int .i64 0, .int .i64 1] 204) (p' := sl (some ⟨b22, 0, none⟩) 1 204 4 1 [.int .i64 0, .int .i64 0, .int .i64 0, .int .i64 1]) uK (qAr rfl (by unfold maxLen; omega))) ?_
 refine qFb 2 ?_
 refine qGr ?_
 refine qL (qL (qJ (uM rfl (uB (uBl rfl) ?_))))
 refine uB (y_gt rfl rfl) ?_
 refine qM (qK (zG rfl (zC (qK (zL (qL (qJ (uM rfl (uM rfl (uB (uBl rfl) ?_))))))))))
 refine uB (uAs rfl rfl) ?_
 refine uB (uAi rfl rfl) ?_
 refine l_eq 30 (uPt b22) rfl rfl ?_
 refine uB (uG) ?_
 refine uU (kG (hE.t rfl) (fun b12 => ?_))
 refine uU (uS ?_)
 refine qM (qK (qL (qJ (uM rfl (uM rfl (uB (uBl rfl) ?_))))))
 refine uB (uAs rfl rfl) ?_
 refine uB (qDg 0 rfl rfl (hE.t rfl) (by omega) (by omega)) ?_
 refine uA rfl (qM (qK (qL (qL (qJ (uB (uBf rfl) ?_))))))
 refine uL ?_
 refine uB (y_eq rfl rfl) ?_
 refine uM rfl ?_
 refine zU rfl rfl rfl rfl (zU rfl rfl rfl rfl (zU rfl rfl rfl rfl ?_))
 refine uB (qY rfl rfl) ?_
 refine qM (qK (zG rfl (kJ (qQ (zI ?_)))))
 refine a_rd ?_
 refine qGr ?_
 refine qL (qL (qJ (uM rfl (uB (uBl rfl) ?_))))
 refine uB (y_gt rfl rfl) ?_
 refine qM (qK (zD rfl (kJ (qQ (qQ (zI (qK (qL (qJ (uA rfl (qM (qK (kC ?_)))))))))))))
 exact uZ rfl (.tmp rfl .nil) ⟨rfl, rfl⟩
theorem qTq (hE : Seat E) : Ct E 47 [uPt s, .int .i64 0, .int .i64 0, .int .i64 0] [zS s most Es]
  (fun v Q => ∃ g, v = .tuple #[.slice (some ⟨g, 0, none⟩) 0 0, .nilIface] ∧ Q = [zS s most Es, sl (some ⟨g, 0, none⟩) 0 5 1 0 (byC [])]) := by
 refine zP (hE.fn Tryz.func47) rfl rfl rfl (fun R => ?_)
 simp only [qAe, uV, uW]
 refine qL (qJ (uU ?_))
 refine qBt rfl (fun b4 => ?_)
 refine uA rfl (uA rfl (qM (qK (qL (qJ (uL ?_))))))
 refine uM rfl (uX (qOj hE) rfl ?_)
 rintro _ _ ⟨rfl, rfl⟩
 simp only [uV, uW]
 refine uM rfl (uB (qV rfl rfl) (uB (qV rfl rfl) (uU (kG (hE.t rfl) (fun b10 => ?_)))))
 refine uU (uS ?_)
 refine uA rfl (qM (qK (qL (qL (qJ (uM rfl (uB (qAf rfl (hE.t rfl)) ?_)))))))
 refine qM (qK (zD rfl (zC (qK (qL (qL (qJ (uM rfl (uM rfl (uB (uBf rfl) ?_))))))))))
 refine uL ?_
 refine uX (qMh (n := 0) hE (by omega)) rfl ?_
 rintro _ _ ⟨rfl, rfl⟩
 simp only [uV, uW]
 refine uA rfl (qM (qK (qL (qJ (uM rfl (uB (qAf rfl (hE.t rfl)) ?_))))))
 refine qM (qK (zD rfl (zC (qK (qL (qL (qJ (uM rfl (uB (y_gt rfl rfl) ?_)))))))))
 refine qM (qK (zD rfl (zC (qK (qL (qJ (uM rfl (uU ?_))))))))
 refine qLk (hE.t rfl) (hE.t rfl) rfl rfl (by first | omega | exact Nat.le_of_ble_eq_true rfl) (by (unfold maxLen; first | omega | exact Nat.le_of_ble_eq_true rfl)) (fun b35 us35 hu35 => ?_)
 refine uU (kG (hE.t rfl) (fun b13 => ?_))
 refine uU (uS ?_)
 refine qM (qK (qL (qJ (uL ?_))))
 refine uM rfl (uM rfl (uM rfl (uB (qPi rfl) ?_)))
 refine uX (qZs hE) rfl ?_
 rintro _ _ ⟨rfl, rfl⟩
 simp only [uV, uW]
 refine qAx (kE (p := sl (some ⟨b35, 0, none⟩) 0 5 1 0 us35) (p' := sl (some ⟨b35, 0, none⟩) 0 5 1 0 (byC [])) uK (qVz (Nat.zero_le _) rfl (by simp))) ?_
 refine uA rfl (qM (qK (qL (qL (qJ (uM rfl (uB (qAf rfl (hE.t rfl)) ?_)))))))
 refine qM (qK (zD rfl (zC (qK (qL (qJ (uL ?_)))))))
 refine uA rfl (uA rfl (qM (qK (kC ?_))))
 exact uZ rfl (.tmp rfl (.tmp rfl .nil)) ⟨b35, rfl, rfl⟩
end
section
variable {E : Env} {Es : List Ent} {s most : Nat}
theorem qZr (hE : Seat E) {d a n : Nat} {nm k t : List UInt8} {f : List UInt8 → Option Nat} {ch : List UInt8 → Bool} {V : List Nat} (hk : okN k) (ht : t.length ≤ 65536) (hroom : Es.length + 2 * t.length ≤ most) :
  Ct E 26 [uPt d, .string ⟨⟨k⟩⟩, .string ⟨⟨t⟩⟩] [dsP d a nm s f ch V n, zS s most Es]
   (fun v Q => ∃ (M : List Ent) (id : Nat), v = .nilIface ∧ (M.length ≤ 2 * t.length ∧ id ≤ (Es ++ M).length ∧ txt (rls (Es ++ M)) id = t) ∧ Q = [dsP d a nm s (setN f (k, id)) (fun x => x == k || ch x) V n, zS s most (Es ++ M)]) := by
 refine zP (hE.fn Tryz.func26) rfl rfl rfl (fun R => ?_)
 simp only [qAe, uV, uW]
 refine qL (qJ (uA rfl (qM (qK (qL (qJ (uM rfl (uX (qIr hE) rfl ?_))))))))
 rintro _ _ ⟨rfl, rfl⟩
 simp only [uV, uW]
 refine uM rfl (uU ?_)
 refine zAr rfl (hE.t rfl) (hE.t rfl) (hE.t rfl) (fun gb cb hcb => ?_)
 refine uX (qZb (bs := t) (a := some ⟨gb, 0, none⟩) (c := cb) (q := ro gb (t.map fun b => Value.int .u8 (b.toNat : Nat))) hE zBf ht hcb hroom) rfl ?_
 rintro _ _ ⟨M, id, rfl, hM, hid, rfl⟩
 simp only [uV, uW]
 refine uM rfl (uB (qV rfl rfl) (uB (qV rfl rfl) (uA rfl (uA rfl (qM (qK (qL (qL (qJ (uM rfl ?_))))))))))
 refine uB (qAf rfl (hE.t rfl)) ?_
 refine qM (qK (zD rfl (zC (qK (qL (qJ (uM rfl (uM rfl (uM rfl (uX (ct_dSet (id := id) hE hk hid.le) rfl ?_))))))))))
 rintro _ _ ⟨rfl, rfl⟩
 simp only [uV, uW]
 refine uA rfl (qM (qK (kC ?_)))
 exact uZ rfl (.tmp rfl .nil) ⟨M, id, rfl, ⟨hM, hid.le, hid.tx⟩, rfl⟩
end
section
theorem Fit_snoc {t : Tx49} : ∀ {ts : List Tx49} {c : Cn}, Fit c.G ts → Tx49Ok (qAa c ts).G t → (t.body (qAa c ts).G.length).length ≤ 1000000000 → t.sets.length ≤ 1000000 → t.drops.length ≤ 1000000 → Fit c.G (ts ++ [t])
 | [], c, _, h1, h2, h3, h4 => ⟨h1, h2, h3, h4, trivial⟩
 | u :: ts, c, h, h1, h2, h3, h4 => ⟨h.1, h.2.1, h.2.2.1, h.2.2.2.1, Fit_snoc (c := c.app u) h.2.2.2.2 h1 h2 h3 h4⟩
structure Fil (x0 : Option Fl) (ts : List Tx49) : Prop where
 has : hasF x0 (pays 0 ts)
 syn : allS x0
 fit : Fit [] ts
 pay : ∀ p ∈ pays 0 ts, 1 ≤ p.length ∧ p.length ≤ 1048576
theorem hasF.len {x0 : Option Fl} {ps : List (List UInt8)} (h : hasF x0 ps) : flen x0 = (frs ps).length := by
 rcases h with ⟨rfl, rfl⟩ | ⟨x, rfl, h⟩
 ·rfl
 show x.data.length = _
 rw [h]
theorem hasF.app {x0 : Option Fl} {ps : List (List UInt8)} (h : hasF x0 ps) (p : List UInt8) : (apF x0 (frm p)).data = frs (ps ++ [p]) := by
 rw [qDd, qGl]
 rcases h with ⟨rfl, rfl⟩ | ⟨x, rfl, h⟩
 ·rfl
 show x.data ++ frm p = _
 rw [h]
theorem qWp (ts : List Tx49) : (qAa Cn.nil ts).G.length = (ts.map fun t => t.new.length).sum := by
 rw [qYt]
 exact Nat.zero_add _
theorem Fil.snoc {x0 : Option Fl} {ts : List Tx49} {t : Tx49} (h : Fil x0 ts) (h1 : Tx49Ok (qAa Cn.nil ts).G t) (h2 : (t.body (qAa Cn.nil ts).G.length).length ≤ 1048573) (h3 : t.sets.length ≤ 1000000) (h4 : t.drops.length ≤ 1000000) :
  Fil (some ⟨(apF x0 (frm (t.pay (qAa Cn.nil ts).G.length))).data, (apF x0 (frm (t.pay (qAa Cn.nil ts).G.length))).data.length⟩) (ts ++ [t]) := by
 have e : pays 0 (ts ++ [t]) = pays 0 ts ++ [t.pay (qAa Cn.nil ts).G.length] := by
  rw [qNd, Nat.zero_add, ← qWp]
  rfl
 refine ⟨.inr ⟨_, rfl, ?_⟩, fun y hy => by cases hy; rfl, Fit_snoc (c := Cn.nil) h.fit h1 (by omega) h3 h4, fun p hp => ?_⟩
 ·rw [e]
  exact h.has.app _
 rw [e] at hp
 rcases List.mem_append.1 hp with hp | hp
 ·exact h.pay p hp
 simp at hp
 subst hp
 have : (t.pay (qAa Cn.nil ts).G.length).length = (t.body (qAa Cn.nil ts).G.length).length + 3 := rfl
 omega
theorem Fil.nil : Fil none [] := ⟨.inl ⟨rfl, rfl⟩, (fun y h => by cases h), trivial, (fun p h => by cases h)⟩
variable {L : List Rl} {V W : List Nat} {f : List UInt8 → Option Nat} {ch : List UInt8 → Bool} {c : Cn} {l : List (List UInt8)}
theorem cmt_ok (h : Dst L V f ch c) (hW : Lis L (V ++ W)) (hok : ∀ x ∈ l, okN x) : Tx49Ok c.G (cmtT L V W f l) := by
 have hg : c.G ++ (cmtT L V W f l).new = gram L (V ++ W) := by
  rw [h.gr]
  exact (qMs h.lis hW).symm
 refine ⟨by rw [hg]; exact hW.gwf, fun p hp => ?_, fun x hx => hok x (List.mem_filter.1 hx).1⟩
 obtain ⟨x, hx, hp⟩ := List.mem_filterMap.1 hp
 rw [Option.map_eq_some_iff] at hp
 obtain ⟨id, hid, rfl⟩ := hp
 refine ⟨hok x hx, ?_⟩
 rw [hg, qDn]
 exact qIi _ _
theorem qVi : (cmtT L V W f l).sets.length ≤ l.length ∧ (cmtT L V W f l).drops.length ≤ l.length := ⟨List.length_filterMap_le _ _, List.length_filter_le _ _⟩
structure DB (L : List Rl) (V : List Nat) (f : List UInt8 → Option Nat) (ch : List UInt8 → Bool) (x0 : Option Fl) (tm : List UInt8 → Option (List UInt8)) (k j : Nat) : Prop where
 fil : ∃ ts, Fil x0 ts ∧ Dst L V f ch (qAa Cn.nil ts)
 len : L.length ≤ 200 * k
 siz : flen x0 ≤ 200000 * j
 fin : finF f k
 fic : finC ch k
 nms : ∀ x, f x ≠ none → okN x
 tms : txm L f = tm
def FB (x0 : Option Fl) (tm : List UInt8 → Option (List UInt8)) (k j : Nat) : Prop :=
 ∃ ts, Fil x0 ts ∧ Wf (qAa Cn.nil ts).G ∧ Dst (qAa Cn.nil ts).G (idV (qAa Cn.nil ts).G.length) (qAa Cn.nil ts).N (fun _ => false) (qAa Cn.nil ts) ∧ (qAa Cn.nil ts).G.length ≤ 200 * k ∧ flen x0 ≤ 200000 * j ∧ finF (qAa Cn.nil ts).N k ∧ (∀ x, (qAa Cn.nil ts).N x ≠ none → okN x) ∧ txm (qAa Cn.nil ts).G (qAa Cn.nil ts).N = tm
variable {x0 : Option Fl} {tm : List UInt8 → Option (List UInt8)} {k j : Nat}
theorem txm_ne {L : List Rl} {f : List UInt8 → Option Nat} {x : List UInt8} : txm L f x ≠ none ↔ f x ≠ none := by
 unfold txm
 cases f x <;> simp
theorem DB.file (h : DB L V f (fun _ => false) x0 tm k j) : FB x0 tm k j := by
 obtain ⟨ts, h1, h2⟩ := h.fil
 obtain ⟨g1, g2, g3⟩ := h2.reopen
 have hne : ∀ x, (qAa Cn.nil ts).N x ≠ none ↔ f x ≠ none := fun x => by rw [← txm_ne (L := (qAa Cn.nil ts).G), g3, txm_ne]
 refine ⟨ts, h1, g1, g2, ?_, h.siz, ?_, fun x hx => h.nms x ((hne x).1 hx), g3.trans h.tms⟩
 ·rw [h2.gr, qDn]
  have := h2.lis.acc.len
  have := h.len
  omega
 obtain ⟨D, d1, d2⟩ := h.fin
 exact ⟨D, d1, fun x hx => d2 x ((hne x).1 hx)⟩
theorem finC.zero (k : Nat) : finC (fun _ => false) k := ⟨[], Nat.zero_le _, fun x h => by cases h⟩
theorem FB.more {k' j' : Nat} (h : FB x0 tm k j) (hk : k ≤ k') (hj : j ≤ j') : FB x0 tm k' j' := by
 obtain ⟨ts, g1, g2, g3, g4, g5, ⟨D, d1, d2⟩, g7, g8⟩ := h
 exact ⟨ts, g1, g2, g3, by omega, by omega, ⟨D, by omega, d2⟩, g7, g8⟩
theorem FB.nil : FB none (fun _ => none) 0 0 := by
 refine ⟨[], Fil.nil, ?_, ?_, Nat.le_refl _, Nat.le_refl _, ⟨[], Nat.le_refl _, fun x h => absurd rfl h⟩, fun x h => absurd rfl h, rfl⟩
 ·exact zCj
 exact dst_nil zCj
theorem DB.set {M : List Rl} {id : Nat} {n t : List UInt8} (h : DB L V f ch x0 tm k j) (hw : Wf (L ++ M)) (hM : M.length ≤ 200) (hid : id ≤ (L ++ M).length) (ht : txt (L ++ M) id = t) (hn : okN n) : DB (L ++ M) V (setN f (n, id)) (fun x => x == n || ch x) x0 (fun x => if x = n then some t else tm x) (k + 1) j := by
 obtain ⟨ts, h1, h2⟩ := h.fil
 have h3 := h2.ext M hw
 refine ⟨⟨ts, h1, h3.set hid⟩, ?_, h.siz, h.fin.set _, h.fic.set hn, fun x hx => ?_, ?_⟩
 ·rw [List.length_append]
  have := h.len
  omega
 ·unfold setN at hx
  by_cases e : x = n
  ·rw [e]; exact hn
  rw [if_neg e] at hx
  exact h.nms x hx
 funext x
 unfold txm setN
 by_cases e : x = n
 ·rw [if_pos e, if_pos e, ← ht]; rfl
 rw [if_neg e, if_neg e, ← h.tms]
 unfold txm
 cases hf : f x with
 | none => rfl
 | some i =>
  show some (txt (L ++ M) i) = some (txt L i)
  rw [qIm M (h2.ids x i hf)]
theorem finC.ok (h : finC ch k) {x : List UInt8} (hx : ch x = true) : okN x := by
 obtain ⟨D, _, hD⟩ := h
 exact (hD x hx).2
theorem DB.commit (h : DB L V f ch x0 tm k j) (hk : k ≤ 40) (hl : l.Nodup) (hm : ∀ x, x ∈ l ↔ ch x = true) (hW : Lis L (V ++ W)) (hin : ∀ x id, ch x = true → f x = some id → id = 0 ∨ id ∈ V ++ W) (hb : ((cmtT L V W f l).body V.length).length ≤ 30 + 21 * L.length + 94 * k) (hll : l.length ≤ k) :
  DB L (V ++ W) f (fun _ => false) (some ⟨(apF x0 (frm ((cmtT L V W f l).pay V.length))).data, (apF x0 (frm ((cmtT L V W f l).pay V.length))).data.length⟩) tm k (j + 1) := by
 obtain ⟨ts, h1, h2⟩ := h.fil
 have hVl : (qAa Cn.nil ts).G.length = V.length := by rw [h2.gr, qDn]
 obtain ⟨e1, e2⟩ := qVi (L := L) (V := V) (W := W) (f := f) (l := l)
 have hL := h.len
 have hok := cmt_ok h2 hW (l := l) fun x hx => h.fic.ok ((hm x).1 hx)
 have h3 := h1.snoc hok (by rw [hVl]; omega) (by omega) (by omega)
 have hs1 := h.siz
 have hs2 := h1.has.len
 have hfl := qCp ((cmtT L V W f l).pay V.length)
 have hpl : ((cmtT L V W f l).pay V.length).length = ((cmtT L V W f l).body V.length).length + 3 := rfl
 rw [hVl] at h3
 refine ⟨⟨ts ++ [cmtT L V W f l], h3, ?_⟩, hL, ?_, h.fin, finC.zero k, h.nms, h.tms⟩
 ·rw [qOe]
  exact h2.commit hl hm hW hin
 show (apF x0 (frm ((cmtT L V W f l).pay V.length))).data.length ≤ _
 rw [h1.has.app, qDd, qGl, List.length_append, ← hs2]
 omega
theorem DB.checkF (h : DB L V f ch x0 tm k j) (hk : k ≤ 40) (hl : Kys (nmF f) l) (hW : Lis L W) (hin : ∀ x id, f x = some id → id = 0 ∨ id ∈ W) (hb : ((cmtT L [] W f l).body 0).length ≤ 30 + 21 * L.length + 94 * k) (hll : l.length ≤ k) :
  Fil (some ⟨frm ((cmtT L [] W f l).pay 0), (frm ((cmtT L [] W f l).pay 0)).length⟩) [cmtT L [] W f l] ∧ Dst L W f (fun _ => false) (qAa Cn.nil [cmtT L [] W f l]) ∧ (frm ((cmtT L [] W f l).pay 0)).length ≤ 200000 := by
 obtain ⟨ts, h1, h2⟩ := h.fil
 have hmem : ∀ x, x ∈ l ↔ (f x).isSome = true := fun x => by
  rw [hl.mem, qGq]
  cases f x <;> simp
 have h0 : Dst L [] f (fun x => (f x).isSome) (qAa Cn.nil []) := by
  refine ⟨⟨hW.wf, ⟨.nil, fun y h => by cases h⟩, fun A n B r e => by simp at e⟩, rfl, fun x hx => ?_, fun x id hx hid => ?_, h2.ids⟩
  ·cases hf : f x with
   | none => rfl
   | some id => rw [hf] at hx; cases hx
  rw [hid] at hx; cases hx
 obtain ⟨e1, e2⟩ := qVi (L := L) (V := []) (W := W) (f := f) (l := l)
 have hL := h.len
 have hok := cmt_ok h0 (W := W) hW (l := l) fun x hx => h.nms x fun e => by
  have := (hmem x).1 hx
  rw [e] at this
  cases this
 have h3 := Fil.nil.snoc hok (by show ((cmtT L [] W f l).body 0).length ≤ _; omega) (by omega) (by omega)
 have hfl := qCp ((cmtT L [] W f l).pay 0)
 have hpl : ((cmtT L [] W f l).pay 0).length = ((cmtT L [] W f l).body 0).length + 3 := rfl
 refine ⟨h3, ?_, by omega⟩
 have := h0.commit hl.nd hmem (W := W) hW fun x id _ hid => hin x id hid
 rw [← qOe] at this
 exact this
theorem DB.check (h : DB L V f ch x0 tm k j) (hk : k ≤ 40) (hl : Kys (nmF f) l) (hW : Lis L W) (hin : ∀ x id, f x = some id → id = 0 ∨ id ∈ W) (hb : ((cmtT L [] W f l).body 0).length ≤ 30 + 21 * L.length + 94 * k) (hll : l.length ≤ k) :
  DB L W f (fun _ => false) (some ⟨frm ((cmtT L [] W f l).pay 0), (frm ((cmtT L [] W f l).pay 0)).length⟩) tm k (j + 1) := by
 obtain ⟨h1, h2, h3⟩ := h.checkF hk hl hW hin hb hll
 refine ⟨⟨_, h1, h2⟩, h.len, ?_, h.fin, finC.zero k, h.nms, h.tms⟩
 show (frm ((cmtT L [] W f l).pay 0)).length ≤ _
 omega
end
section
variable {E : Env}
theorem qGj {f : FuncId} {args : List Value} {Pre : List HP} {Φ Φ' : Value → List HP → Prop} (h : Ct E f args Pre Φ) (hi : ∀ v Q, Φ v Q → ∀ (R : HP) k, qAd (Q ++ [R]) k → ∃ Q', Φ' v Q' ∧ ∀ k, qAd (Q ++ [R]) k → qAd (Q' ++ [R]) k) : Ct E f args Pre Φ' := fun R w s =>
 (h R w s).mono fun e w' ⟨v, Qs, h1, h2, h3⟩ => let ⟨Q', a, b⟩ := hi v Qs h2 R _ h3.hp; ⟨v, Q', h1, a, h3.imp b⟩
theorem qMe {f : FuncId} {args : List Value} {Pre : List HP} {Φ : Value → List HP → Prop} (F : List HP) (h : Ct E f args Pre Φ) : Ct E f args (Pre ++ F) (fun v Q => ∃ Q0, Φ v Q0 ∧ Q = Q0 ++ F) := fun R w s =>
 (h (qAd (F ++ [R])) w (s.imp fun k x => qCt (by rw [List.append_assoc] at x; exact x))).mono fun e w' ⟨v, Qs, h1, h2, h4⟩ => ⟨v, Qs ++ F, h1, ⟨Qs, h2, rfl⟩, by rw [List.append_assoc]; exact h4.imp fun k x => qEl x⟩
theorem qZv {f : FuncId} {args : List Value} {Pre Pre' : List HP} {Φ : Value → List HP → Prop} (hs : ∀ (R : HP) k, qAd (Pre ++ [R]) k → qAd (Pre' ++ [R]) k) (h : Ct E f args Pre' Φ) : Ct E f args Pre Φ := fun R w s => h R w (s.imp (hs R))
theorem qTf {p : HP} {H H' : List HP} {φ : Prop} {k : PH} (ht : Take p H H') (h : ∀ k, p k → φ) (x : qAd H k) : φ := by
 obtain ⟨_, _, _, _, hp, _⟩ := ht.out x
 exact h _ hp
theorem qDz {l m : List HP} (h : ∀ k, qAd l k → qAd m k) (k : PH) (x : qAd l k) : qAd m k := h k x
def flN : List UInt8 := [115, 116, 111, 114, 101]
theorem okFl : okN flN := ⟨by decide, by decide⟩
structure DbG where
 Es : List Ent
 s : Nat
 V : List Nat
 f : List UInt8 → Option Nat
 ch : List UInt8 → Bool
 x0 : Option Fl
def dbP (d a : Nat) (tm tm0 : List UInt8 → Option (List UInt8)) (k j : Nat) : HP := fun h => ∃ i : DbG, (DB (rls i.Es) i.V i.f i.ch i.x0 tm k j ∧ FB i.x0 tm0 k j) ∧ qAd [dsP d a flN i.s i.f i.ch i.V (flen i.x0), zS i.s 1048576 i.Es, fsP a flN (flN ++ qAc) i.x0 none Pwr.on] h
def fileP (a : Nat) (tm0 : List UInt8 → Option (List UInt8)) (k j : Nat) : HP := fun h => ∃ x0 : Option Fl, FB x0 tm0 k j ∧ fsP a flN (flN ++ qAc) x0 none Pwr.on h
theorem qJx {d a : Nat} {tm tm0 : List UInt8 → Option (List UInt8)} {k j : Nat} (i : DbG) (h1 : DB (rls i.Es) i.V i.f i.ch i.x0 tm k j) (h2 : FB i.x0 tm0 k j) (R : List HP) (h : PH) (x : qAd ([dsP d a flN i.s i.f i.ch i.V (flen i.x0), zS i.s 1048576 i.Es, fsP a flN (flN ++ qAc) i.x0 none Pwr.on] ++ R) h) : qAd (dbP d a tm tm0 k j :: R) h :=
 qCl (ps := [dsP d a flN i.s i.f i.ch i.V (flen i.x0), zS i.s 1048576 i.Es, fsP a flN (flN ++ qAc) i.x0 none Pwr.on]) (r := R) (p := dbP d a tm tm0 k j) (fun _ y => ⟨i, ⟨h1, h2⟩, y⟩) x
def updT (tm : List UInt8 → Option (List UInt8)) (n t : List UInt8) : List UInt8 → Option (List UInt8) := fun x => if x = n then some t else tm x
theorem qZk (hE : Seat E) {d a k j : Nat} {tm tm0 : List UInt8 → Option (List UInt8)} {n t : List UInt8} (hn : okN n) (ht : t.length ≤ 100) (hk : k ≤ 40) :
  Ct E 26 [uPt d, .string ⟨⟨n⟩⟩, .string ⟨⟨t⟩⟩] [dbP d a tm tm0 k j] (fun v Q => v = .nilIface ∧ Q = [dbP d a (updT tm n t) tm0 (k + 1) j]) := by
 refine Sl.ct_open (p := dbP d a tm tm0 k j) (ps := fun i : {i : DbG // DB (rls i.Es) i.V i.f i.ch i.x0 tm k j ∧ FB i.x0 tm0 k j} => [dsP d a flN i.1.s i.1.f i.1.ch i.1.V (flen i.1.x0), zS i.1.s 1048576 i.1.Es, fsP a flN (flN ++ qAc) i.1.x0 none Pwr.on]) (fun k ⟨i, hi, h⟩ => ⟨⟨i, hi⟩, h⟩) ?_
 rintro ⟨⟨Es, s, V, f, ch, x0⟩, hd, hb⟩
 simp only at hd hb ⊢
 refine qBi (p := zS s 1048576 Es) uK (fun _ h => qBs h) (fun hsay => ?_)
 have hl := hd.len
 rw [zR] at hl
 refine qGj (qMe [fsP a flN (flN ++ qAc) x0 none Pwr.on] (qZr (Es := Es) (s := s) (most := 1048576) (t := t) hE hn (by omega) (by omega))) ?_
 rintro v Q ⟨_, ⟨M, id, rfl, ⟨hM, hid, htx⟩, rfl⟩, rfl⟩ R h hx
 have hsay2 := qTf (p := zS s 1048576 (Es ++ M)) uK (fun _ h => qBs h) hx
 have hw2 := hsay2.1
 rw [kH] at hw2 htx
 have hd2 := hd.set (M := rls M) hw2 (by rw [zR]; omega) (by rw [← kH, zR]; exact hid) htx hn
 rw [← kH] at hd2
 refine ⟨_, ⟨rfl, rfl⟩, fun h x => ?_⟩
 refine qJx ⟨Es ++ M, s, V, setN f (n, id), fun x => x == n || ch x, x0⟩ hd2 (hb.more (Nat.le_succ k) (Nat.le_refl j)) [R] h ?_
 exact qDz uI h x
theorem on2 : Pwr.on.fin.fin = Pwr.on := rfl
theorem qYo (x0 : Option Fl) (bs : List UInt8) : (apF x0 bs).data.length = flen x0 + bs.length := by
 cases x0 with
 | none => exact (Nat.zero_add _).symm
 | some x => exact List.length_append
theorem qWz (hE : Seat E) {d a k j : Nat} {tm tm0 : List UInt8 → Option (List UInt8)} (hk : k ≤ 40) (hj : j ≤ 70) :
  Ct E 20 [uPt d] [dbP d a tm tm0 k j] (fun v Q => v = .nilIface ∧ Q = [dbP d a tm tm k (j + 1)]) := by
 refine Sl.ct_open (p := dbP d a tm tm0 k j) (ps := fun i : {i : DbG // DB (rls i.Es) i.V i.f i.ch i.x0 tm k j ∧ FB i.x0 tm0 k j} => [dsP d a flN i.1.s i.1.f i.1.ch i.1.V (flen i.1.x0), zS i.1.s 1048576 i.1.Es, fsP a flN (flN ++ qAc) i.1.x0 none Pwr.on]) (fun k ⟨i, hi, h⟩ => ⟨⟨i, hi⟩, h⟩) ?_
 rintro ⟨⟨Es, s, V, f, ch, x0⟩, hd, hb⟩
 simp only at hd hb ⊢
 have hl := hd.len
 rw [zR] at hl
 have hz := hd.siz
 obtain ⟨ts, h1, h2⟩ := hd.fil
 have hids : ∀ x id, f x = some id → id ≤ Es.length := fun x id h => by
  have := h2.ids x id h
  rwa [zR] at this
 refine qGj (qOf (Es := Es) (s := s) (most := 1048576) (p := Pwr.on) (n1 := flN ++ qAc) (x1 := none) (m := k) hE Pwr.on_up Pwr.on_up okFl h2.lis hids hd.fic (by omega) rfl (by omega)) ?_
 rintro v Q ⟨rfl, ⟨hch, rfl⟩ | ⟨W, l, ⟨l1, l2, l3, l4, l5, l6⟩, rfl⟩⟩ R h hx
 ·obtain rfl : ch = fun _ => false := funext hch
  refine ⟨_, ⟨rfl, rfl⟩, fun h x => ?_⟩
  have hd2 : DB (rls Es) V f (fun _ => false) x0 tm k (j + 1) := ⟨hd.fil, hd.len, by omega, hd.fin, hd.fic, hd.nms, hd.tms⟩
  refine qJx ⟨Es, s, V, f, fun _ => false, x0⟩ hd2 hd2.file [R] h ?_
  exact qDz uI h x
 have hd2 := hd.commit hk l1 l2 l3 l4 (by rw [zR]; exact l5) l6
 refine ⟨_, ⟨rfl, rfl⟩, fun h x => ?_⟩
 refine qJx ⟨Es, s, V ++ W, f, fun _ => false, _⟩ hd2 hd2.file [R] h ?_
 rw [on2, ← qYo] at x
 exact qDz uI h x
theorem qZi (hE : Seat E) {d a k j kn kc : Nat} {kq : Option Addr} {tm tm0 : List UInt8 → Option (List UInt8)} :
  Ct E 32 [uPt a, .slice kq kn kc] [dbP d a tm tm0 k j] (fun v Q => v = .tuple #[] ∧ Q = [fileP a tm0 k j]) := by
 refine Sl.ct_open (p := dbP d a tm tm0 k j) (ps := fun i : {i : DbG // DB (rls i.Es) i.V i.f i.ch i.x0 tm k j ∧ FB i.x0 tm0 k j} => [dsP d a flN i.1.s i.1.f i.1.ch i.1.V (flen i.1.x0), zS i.1.s 1048576 i.1.Es, fsP a flN (flN ++ qAc) i.1.x0 none Pwr.on]) (fun k ⟨i, hi, h⟩ => ⟨⟨i, hi⟩, h⟩) ?_
 rintro ⟨⟨Es, s, V, f, ch, x0⟩, hd, hb⟩
 simp only at hd hb ⊢
 obtain ⟨ts, h1, h2⟩ := hb
 refine qZv (Pre' := [fsP a flN (flN ++ qAc) x0 none Pwr.on]) (fun R => by (apply ent; (repeat constructor); done)) ?_
 refine qGj (qTv hE h1.syn (fun y h => by cases h)) ?_
 rintro v Q ⟨rfl, rfl⟩ R h hx
 exact ⟨_, ⟨rfl, rfl⟩, fun h x => qAp (fun k y => ⟨x0, ⟨ts, h1, h2⟩, y⟩) x⟩
end
section
variable {E : Env} {Es : List Ent} {s most : Nat}
theorem qXi (hE : Seat E) {id : Nat} (hid : id ≤ Es.length) : Ct E 31 [uPt s, .int .i64 (id : Nat)] [zS s most Es]
  (fun v Q => ∃ w1 w2 w3 w4 w5 : Int, v = .tuple #[.agg #[.int .i64 ((txt (rls Es) id).length : Nat), .int .i64 w1, .int .i64 w2, .int .i64 w3, .int .u64 w4, .int .u64 w5], .nilIface] ∧ Q = [zS s most Es]) := by
 rcases Nat.eq_zero_or_pos id with rfl | h
 ·exact (qOj hE).mono fun v Q ⟨h1, h2⟩ => ⟨_, _, _, _, _, h1, h2⟩
 obtain ⟨i, rfl⟩ : ∃ i, id = i + 1 := ⟨id - 1, by omega⟩
 obtain ⟨x, hx⟩ : ∃ x, Es[i]? = some x := ⟨_, List.getElem?_eq_getElem (by omega)⟩
 refine qBi (p := zS s most Es) uK (fun _ h => qBs h) (fun hsay => ?_)
 rw [← hsay.2.1 i x hx]
 exact (qMm hE hx).mono fun v Q ⟨h1, h2⟩ => ⟨_, _, _, _, _, h1, h2⟩
theorem qTr (hE : Seat E) {id : Nat} (hid : id ≤ Es.length) (hl : (txt (rls Es) id).length ≤ 65536) : Ct E 47 [uPt s, .int .i64 (id : Nat), .int .i64 0, .int .i64 ((txt (rls Es) id).length : Nat)] [zS s most Es]
  (fun v Q => ∃ g c, v = .tuple #[.slice (some ⟨g, 0, none⟩) (txt (rls Es) id).length c, .nilIface] ∧ Q = [zS s most Es, sl (some ⟨g, 0, none⟩) c 5 1 (txt (rls Es) id).length (byC (txt (rls Es) id))]) := by
 rcases Nat.eq_zero_or_pos id with rfl | h
 ·exact (qTq hE).mono fun v Q ⟨g, h1, h2⟩ => ⟨g, 0, h1, h2⟩
 obtain ⟨i, rfl⟩ : ∃ i, id = i + 1 := ⟨id - 1, by omega⟩
 obtain ⟨x, hx⟩ : ∃ x, Es[i]? = some x := ⟨_, List.getElem?_eq_getElem (by omega)⟩
 exact qWq hE hx hl
theorem qPq (hE : Seat E) {a k j : Nat} {tm0 : List UInt8 → Option (List UInt8)} (hj : j ≤ 1000) :
  Ct E 12 [uPt a] [fileP a tm0 k j] (fun v Q => ∃ d, v = .tuple #[uPt d, .bool true] ∧ Q = [dbP d a tm0 tm0 k j]) := by
 refine Sl.ct_open (p := fileP a tm0 k j) (ps := fun i : {x0 : Option Fl // FB x0 tm0 k j} => [fsP a flN (flN ++ qAc) i.1 none Pwr.on]) (fun k ⟨i, hi, h⟩ => ⟨⟨i, hi⟩, zBq h⟩) ?_
 rintro ⟨x0, hb⟩
 obtain ⟨ts, h1, h2, h3, h4, h5, h6, h7, h8⟩ := id hb
 have hr := h2.room
 have hmr : qBu = 1048576 := rfl
 have hlen := h1.has.len
 simp only
 refine zP (hE.fn Tryz.func12) rfl rfl rfl (fun R => ?_)
 simp only [qAe, uV, uW]
 refine qL (qJ (uA rfl (uA rfl (qM (qK (qL (qJ (uM rfl ?_))))))))
 refine uX (ct_dOpen (n0 := flN) (x0 := x0) (ts := ts) (most := 1048576) hE okFl.1 (by decide) h1.has h1.pay (by omega) h1.fit h2 hr (Nat.le_refl _) h3.ids) rfl ?_
 rintro _ _ ⟨d, s, Es, rfl, hEs, rfl⟩
 have hd : DB (rls Es) (idV (qAa Cn.nil ts).G.length) (qAa Cn.nil ts).N (fun _ => false) x0 tm0 k j := by
  rw [hEs]
  exact ⟨⟨ts, h1, h3⟩, h4, h5, h6, finC.zero k, h7, h8⟩
 rw [← hlen]
 simp only [uV, uW]
 refine qAx (fun k x => qJx ⟨Es, s, idV (qAa Cn.nil ts).G.length, (qAa Cn.nil ts).N, fun _ => false, x0⟩ hd hb [R] k (qDz uI k x)) ?_
 refine uM rfl (uB (qV rfl rfl) (uB (qV rfl rfl) (uA rfl (uA rfl (qM (qK (qL (qJ (uM rfl (uM rfl ?_))))))))))
 refine uB (qRc rfl (hE.t rfl)) ?_
 refine uM rfl (kQ rfl rfl (uM rfl (kQ rfl rfl (uB (qWk rfl (hE.t rfl)) ?_))))
 refine uB (qY rfl rfl) ?_
 refine uA rfl (uA rfl (qM (qK (kC ?_))))
 exact uZ rfl (.tmp rfl (.tmp rfl .nil)) ⟨d, rfl, rfl⟩
def entL (L : List Rl) (f : List UInt8 → Option Nat) (l : List (List UInt8)) : List (List UInt8 × List UInt8) := l.filterMap fun x => (f x).map fun id => (x, txt L id)
theorem zAj {L : List Rl} {f : List UInt8 → Option Nat} {l : List (List UInt8)} {i id : Nat} {x : List UInt8} (h : l[i]? = some x) (hid : f x = some id) : entL L f (l.take (i + 1)) = entL L f (l.take i) ++ [(x, txt L id)] := by
 unfold entL
 rw [List.take_add_one, h, List.filterMap_append]
 congr 1
 show List.filterMap _ [x] = _
 rw [List.filterMap_cons_some (by rw [hid]; rfl), List.filterMap_nil]
theorem entL_len {L : List Rl} {f : List UInt8 → Option Nat} {l : List (List UInt8)} (h : ∀ x ∈ l, ∃ id, f x = some id) : (entL L f l).length = l.length := by
 unfold entL
 induction l with
 | nil => rfl
 | cons a l ih =>
  obtain ⟨id, hid⟩ := h a List.mem_cons_self
  rw [List.filterMap_cons_some (by rw [hid]; rfl), List.length_cons, List.length_cons, ih fun x hx => h x (List.mem_cons_of_mem _ hx)]
structure EtG where
 i : Nat
 p : Option Addr
 c : Nat
theorem qWv (hE : Seat E) {d a n m : Nat} {nm : List UInt8} {f : List UInt8 → Option Nat} {ch : List UInt8 → Bool} {V : List Nat} (hf : finF f m) (hm : m ≤ 1000) (hids : ∀ x id, f x = some id → id ≤ Es.length ∧ (txt (rls Es) id).length ≤ 5000) :
  Ct E 27 [uPt d] [dsP d a nm s f ch V n, zS s most Es]
   (fun v Q => ∃ l q c, v = .tuple #[.slice q (entL (rls Es) f l).length c, .bool true] ∧ Kys (nmF f) l ∧ Q = [dsP d a nm s f ch V n, zS s most Es, sl q c 51 2 (entL (rls Es) f l).length (ssC (entL (rls Es) f l))]) := by
 refine zP (hE.fn Tryz.func27) rfl rfl rfl (fun R => ?_)
 simp only [qAe, uV, uW]
 refine qL (qJ (uA rfl (uA rfl (qM (qK (qL (qL (qJ (uM rfl (uB (qAy rfl (hE.t rfl)) ?_))))))))))
 refine uM rfl (kQ rfl rfl (uM rfl (kQ rfl rfl (uX (qIr hE) rfl ?_))))
 rintro _ _ ⟨rfl, rfl⟩
 simp only [uV, uW]
 refine kQ rfl rfl (uB (qAy rfl (hE.t rfl)) ?_)
 refine uB (qZ rfl rfl) ?_
 refine qM (qK (zD rfl (zC (qK (qL (qJ (uA rfl (qM (qK (qL (qJ (uM rfl ?_))))))))))))
 refine uX (qMa hE hf (by omega)) rfl ?_
 rintro _ _ ⟨l, q, c, rfl, hl, rfl⟩
 have hll : l.length ≤ m := by
  obtain ⟨D, d1, d2⟩ := hf
  have := qDp hl.nd (B := D) fun x hx => d2 x (qGq.1 ((hl.mem x).1 hx))
  omega
 have hsm : ∀ x ∈ l, ∃ id, f x = some id := fun x hx => by
  have := qGq.1 ((hl.mem x).1 hx)
  cases e : f x with
  | none => exact absurd e this
  | some id => exact ⟨id, rfl⟩
 have htl : ∀ i, i ≤ l.length → (entL (rls Es) f (l.take i)).length = i := fun i hi => by
  rw [entL_len fun x hx => hsm x (List.mem_of_mem_take hx), List.length_take]
  omega
 simp only [uV, uW]
 refine qGh (p := sl q c 9 1 l.length (nmC l)) uK (fun _ h => fun hpos => qAz h hpos) ?_
 intro hq
 refine uA rfl (qM (qK (qL (qL (qJ (uA rfl (qM (qK (zL ?_)))))))))
 refine qAk (qCh (t := 51) (sz := 2)) ?_
 refine qAj (fun x : EtG => [(0, uPt d), (4, .slice x.p (entL (rls Es) f (l.take x.i)).length x.c), (5, .slice q l.length c), (6, .int .i64 (x.i : Nat))]) (fun x => [dsP d a nm s f ch V n, zS s most Es, sl q c 9 1 l.length (nmC l), sl x.p x.c 51 2 (entL (rls Es) f (l.take x.i)).length (ssC (entL (rls Es) f (l.take x.i))), R]) (fun x => l.length - x.i) (fun x => x.i ≤ l.length) ⟨0, none, 0⟩ (Nat.zero_le _) ⟨rfl, rfl, rfl, rfl, trivial⟩ uI ?_
 rintro ⟨i, p, c1⟩ hi
 simp only at hi ⊢
 refine qL (qL (qJ (uM rfl (uM rfl (uB (uBl rfl) ?_)))))
 refine uB (y_lt rfl rfl) ?_
 refine qM (qK ?_)
 refine zF rfl (fun h1 => ?_) (fun h1 => ?_)
 ·obtain ⟨x, hx⟩ : ∃ x, l[i]? = some x := ⟨_, List.getElem?_eq_getElem (by omega)⟩
  obtain ⟨gq, rfl⟩ := hq (by omega)
  have f0 := qJf hx (((i : Nat) : Int).toNat) (by omega)
  obtain ⟨id, hid⟩ := hsm x (List.mem_of_getElem? hx)
  obtain ⟨g1, g2⟩ := hids x id hid
  have hil := htl i hi
  refine zC (qK (qL (zL (qL (qJ (uM rfl (uM rfl (uM rfl (uB (uAj rfl rfl) ?_)))))))))
  refine uL ?_
  refine uX (ct_dGet hE hid) rfl ?_
  rintro _ _ ⟨rfl, rfl⟩
  simp only [uV, uW]
  refine uM rfl (uB (qV rfl rfl) (uB (qV rfl rfl) (uA rfl (uA rfl (qM (qK (qL (qL (qJ (uM rfl ?_))))))))))
  refine uB (qAf rfl (hE.t rfl)) ?_
  refine qM (qK (zD rfl (zC (qK (qL (qJ (uM rfl (uX (qIr hE) rfl ?_))))))))
  rintro _ _ ⟨rfl, rfl⟩
  simp only [uV, uW]
  refine uM rfl (uX (qXi hE g1) rfl ?_)
  rintro _ _ ⟨w1, w2, w3, w4, w5, rfl, rfl⟩
  simp only [uV, uW]
  refine uM rfl (uB (qV rfl rfl) (uB (qV rfl rfl) (uU (kG (hE.t rfl) (fun b9 => ?_)))))
  refine uU (uS ?_)
  refine uA rfl (qM (qK (qL (qL (qJ (uM rfl (uB (qAf rfl (hE.t rfl)) ?_)))))))
  refine uM rfl (kQ rfl rfl (uB (uBf rfl) ?_))
  refine kQ rfl rfl (uL ?_)
  refine kQ rfl rfl (uB (y_gt rfl rfl) ?_)
  refine uB (qZ rfl rfl) ?_
  refine qM (qK ?_)
  refine zF rfl (fun h2 => ?_) (fun h2 => ?_)
  ·exfalso
   omega
  refine zC (qK (qL ?_))
  refine uH ([cells b9 [.int .i64 ((txt (rls Es) id).length : Nat), .int .i64 w1, .int .i64 w2, .int .i64 w3, .int .u64 w4, .int .u64 w5] 64]) ?_
  refine uD 0 rfl (qC rfl) ?_
  refine uD 2 rfl (qC rfl) ?_
  refine uD 3 rfl (uBf rfl) ?_
  refine uD 4 rfl (uY) ?_
  apply kL 1 rfl (by kernel_rfl) rfl
  refine uC (qIr hE) rfl ?_
  rintro _ _ ⟨rfl, rfl⟩
  simp only [uV, uW]
  refine uE ?_
  apply kL 5 rfl (by kernel_rfl) rfl
  refine uC (qTr hE g1 (by omega)) rfl ?_
  rintro _ _ ⟨gb, cb, rfl, rfl⟩
  simp only [uV, uW]
  refine uE ?_
  refine uD 6 rfl (qC rfl) ?_
  refine uD 7 rfl (qV rfl rfl) ?_
  refine uD 8 rfl (qV rfl rfl) ?_
  refine uD 9 rfl (qD rfl) ?_
  refine uD 10 rfl (qD rfl) ?_
  refine qCc (by kernel_rfl) ?_
  refine qK (qL (qL (qJ (uM rfl (uB (qAf rfl (hE.t rfl)) ?_)))))
  refine qM (qK (zD rfl ?_))
  have hqb : Rdb E.w0 (some ⟨gb, 0, none⟩) (byC (txt (rls Es) id)) (sl (some ⟨gb, 0, none⟩) cb 5 1 (txt (rls Es) id).length (byC (txt (rls Es) id))) := qCv (qAg _) (fun _ => ⟨gb, rfl⟩)
  refine zC (qK ?_)
  refine uH ([sl (some ⟨gq, 0, none⟩) c 9 1 l.length (nmC l), sl (some ⟨gb, 0, none⟩) cb 5 1 (txt (rls Es) id).length (byC (txt (rls Es) id))]) ?_
  refine uD 0 rfl (qC rfl) ?_
  refine uD 1 rfl (qC rfl) ?_
  refine uD 2 rfl (qC rfl) ?_
  refine uD 3 rfl (uAj rfl rfl) ?_
  refine uD 4 rfl (uY) ?_
  refine uD 5 rfl (qC rfl) ?_
  refine uD 6 rfl (qIo (q := sl (some ⟨gb, 0, none⟩) cb 5 1 (txt (rls Es) id).length (byC (txt (rls Es) id))) (src := 57) (dst := 9) (e := 5) rfl (hE.t rfl) (hE.t rfl) (hE.t rfl) (by assumption) (by ((repeat constructor); done))) ?_
  refine uD 7 rfl (qBc (hE.t rfl) rfl rfl) ?_
  apply kL 8 rfl (by kernel_rfl) rfl
  refine qW (hE.t rfl) (hE.t rfl) rfl rfl rfl (fun b70 => ?_)
  refine uE ?_
  apply kL 9 rfl (by kernel_rfl) rfl
  apply zV (hE.t rfl) (hE.t rfl) rfl rfl rfl
  ·exact uK
  ·exact uK
  ·rfl
  ·rfl
  ·omega
  ·omega
  ·(unfold maxLen; omega)
  intro g71 c71 n71 x71 hn71 hx71
  refine uE ?_
  refine uD 10 rfl (qD rfl) ?_
  refine qCc (by kernel_rfl) ?_
  refine zJ (qK (qJ (uM rfl (uB (uAa rfl rfl) ?_))))
  refine uA rfl (qM ?_)
  have e1 := zAj (L := rls Es) hx hid
  obtain rfl : n71 = (entL (rls Es) f (l.take (i + 1))).length := by rw [hn71, e1, List.length_append]; rfl
  obtain rfl : x71 = ssC (entL (rls Es) f (l.take (i + 1))) := by rw [hx71, e1, ssC_snoc]; rfl
  refine zT (ι := EtG) (j := ⟨i + 1, some ⟨g71, 0, none⟩, c71⟩) (by simp only; omega) (by simp only; omega) ⟨rfl, rfl, rfl, congrArg some (zX (by simp only; omega)), trivial⟩ uI
 obtain rfl : i = l.length := by omega
 rw [List.take_length]
 refine kJ (qQ (qQ (zI (qK (qL (qJ (uM rfl (uA rfl (uA rfl (qM (qK (kC ?_))))))))))))
 exact uZ rfl (.tmp rfl (.tmp rfl .nil)) ⟨l, p, c1, rfl, hl, rfl⟩
end
section
variable {E : Env}
structure EnS (tm : List UInt8 → Option (List UInt8)) (A : List (List UInt8 × List UInt8)) : Prop where
 nd : (A.map (·.1)).Nodup
 srt : (A.map (·.1)).Pairwise fun a b => cmpT a b ≤ 0
 mem : ∀ x t, (x, t) ∈ A ↔ tm x = some t
theorem EnS.fn {tm : List UInt8 → Option (List UInt8)} {A B : List (List UInt8 × List UInt8)} (h : EnS tm A) (g : EnS tm B) : A = B := by
 have hA : A.Nodup := List.Pairwise.of_map (S := fun a b : List UInt8 => a ≠ b) (fun p : List UInt8 × List UInt8 => p.1) (fun a b h e => h (by rw [e])) h.nd
 have hB : B.Nodup := List.Pairwise.of_map (S := fun a b : List UInt8 => a ≠ b) (fun p : List UInt8 × List UInt8 => p.1) (fun a b h e => h (by rw [e])) g.nd
 have hp : A.Perm B := (List.perm_ext_iff_of_nodup hA hB).2 fun ⟨x, t⟩ => by rw [h.mem, g.mem]
 refine List.Perm.eq_of_pairwise (le := fun a b : List UInt8 × List UInt8 => cmpT a.1 b.1 ≤ 0) (fun a b ha hb h1 h2 => ?_) (List.pairwise_map.1 h.srt) (List.pairwise_map.1 g.srt) hp
 have e : a.1 = b.1 := by
  have := qFg a.1 b.1
  exact qLs.1 (by omega)
 obtain ⟨a1, a2⟩ := a
 obtain ⟨b1, b2⟩ := b
 simp only at e
 subst e
 have h3 := (h.mem _ _).1 ha
 have h4 := (g.mem _ _).1 hb
 rw [h3] at h4
 cases h4
 rfl
theorem entL_map {L : List Rl} {f : List UInt8 → Option Nat} {l : List (List UInt8)} (h : ∀ x ∈ l, ∃ id, f x = some id) : (entL L f l).map (·.1) = l := by
 unfold entL
 induction l with
 | nil => rfl
 | cons a l ih =>
  obtain ⟨id, hid⟩ := h a List.mem_cons_self
  rw [List.filterMap_cons_some (by rw [hid]; rfl), List.map_cons, ih fun x hx => h x (List.mem_cons_of_mem _ hx)]
theorem entL_ens {L : List Rl} {f : List UInt8 → Option Nat} {l : List (List UInt8)} (hl : Kys (nmF f) l) : EnS (txm L f) (entL L f l) := by
 have hs : ∀ x ∈ l, ∃ id, f x = some id := fun x hx => by
  have := qGq.1 ((hl.mem x).1 hx)
  cases e : f x with
  | none => exact absurd e this
  | some id => exact ⟨id, rfl⟩
 have hm := entL_map (L := L) hs
 refine ⟨by rw [hm]; exact hl.nd, by rw [hm]; exact hl.srt, fun x t => ⟨fun h => ?_, fun h => ?_⟩⟩
 ·obtain ⟨y, hy, h⟩ := List.mem_filterMap.1 h
  rw [Option.map_eq_some_iff] at h
  obtain ⟨id, hid, e⟩ := h
  cases e
  unfold txm
  rw [hid]
  rfl
 unfold txm at h
 rw [Option.map_eq_some_iff] at h
 obtain ⟨id, hid, rfl⟩ := h
 exact List.mem_filterMap.2 ⟨x, (hl.mem x).2 (qGq.2 (by rw [hid]; simp)), by rw [hid]; rfl⟩
theorem qMg (hE : Seat E) {d a k j : Nat} {tm tm0 : List UInt8 → Option (List UInt8)} (hk : k ≤ 40) (ht : ∀ x t, tm x = some t → t.length ≤ 5000) :
  Ct E 27 [uPt d] [dbP d a tm tm0 k j] (fun v Q => ∃ A q c, v = .tuple #[.slice q A.length c, .bool true] ∧ (EnS tm A ∧ A.length ≤ k) ∧ Q = [dbP d a tm tm0 k j, sl q c 51 2 A.length (ssC A)]) := by
 refine Sl.ct_open (p := dbP d a tm tm0 k j) (ps := fun i : {i : DbG // DB (rls i.Es) i.V i.f i.ch i.x0 tm k j ∧ FB i.x0 tm0 k j} => [dsP d a flN i.1.s i.1.f i.1.ch i.1.V (flen i.1.x0), zS i.1.s 1048576 i.1.Es, fsP a flN (flN ++ qAc) i.1.x0 none Pwr.on]) (fun k ⟨i, hi, h⟩ => ⟨⟨i, hi⟩, h⟩) ?_
 rintro ⟨⟨Es, s, V, f, ch, x0⟩, hd, hb⟩
 simp only at hd hb ⊢
 obtain ⟨ts, h1, h2⟩ := hd.fil
 have hids : ∀ x id, f x = some id → id ≤ Es.length ∧ (txt (rls Es) id).length ≤ 5000 := fun x id h => by
  have h3 := h2.ids x id h
  rw [zR] at h3
  refine ⟨h3, ht x _ ?_⟩
  rw [← hd.tms]
  unfold txm
  rw [h]
  rfl
 refine qGj (qMe [fsP a flN (flN ++ qAc) x0 none Pwr.on] (qWv (Es := Es) (s := s) (most := 1048576) (m := k) hE hd.fin (by omega) hids)) ?_
 rintro v Q ⟨_, ⟨l, q, c, rfl, hl, rfl⟩, rfl⟩ R h hx
 have hel : (entL (rls Es) f l).length ≤ k := by
  obtain ⟨D, d1, d2⟩ := hd.fin
  have h1 := qDp hl.nd (B := D) fun x hx => d2 x (qGq.1 ((hl.mem x).1 hx))
  have h2 : (entL (rls Es) f l).length ≤ l.length := List.length_filterMap_le _ _
  omega
 refine ⟨_, ⟨entL (rls Es) f l, q, c, rfl, ⟨by rw [← hd.tms]; exact entL_ens hl, hel⟩, rfl⟩, fun h x => ?_⟩
 refine qJx ⟨Es, s, V, f, ch, x0⟩ hd hb [sl q c 51 2 (entL (rls Es) f l).length (ssC (entL (rls Es) f l)), R] h ?_
 exact qDz uI h x
def tm00 : List UInt8 → Option (List UInt8) := fun _ => none
theorem qZj (hE : Seat E) : Ct E 9 [] [] (fun v Q => ∃ a, v = uPt a ∧ Q = [fileP a tm00 0 0]) := by
 refine qGj (ct_fsNew (n0 := flN) (n1 := flN ++ qAc) hE) ?_
 rintro v Q ⟨a, rfl, rfl⟩ R h hx
 exact ⟨_, ⟨a, rfl, rfl⟩, fun h x => qAp (fun k y => ⟨none, FB.nil, y⟩) x⟩
theorem ens_one (n t : List UInt8) : EnS (updT tm00 n t) [(n, t)] := by
 refine ⟨by simp, by simp, fun x u => ?_⟩
 unfold updT tm00
 by_cases e : x = n
 ·subst e
  simp [eq_comm]
 simp [e]
theorem okA : okN [97] := ⟨by decide, by decide⟩
theorem ct_alive (hE : Seat E) : Ct E 8 [] [] (fun v Q => v = .bool true ∧ Q = []) := by
 have hxx : ∀ x t, updT tm00 [97] [120, 120] x = some t → t.length ≤ 5000 := fun x t h => by
  unfold updT tm00 at h
  split at h
  ·cases h
   decide
  cases h
 refine zP (hE.fn Tryz.func8) rfl rfl rfl (fun R => ?_)
 simp only [qAe, uV, uW]
 refine qL (qJ (uA rfl (qM (qK (qL (qJ (uX (qZj hE) rfl ?_)))))))
 rintro _ _ ⟨a, rfl, rfl⟩
 simp only [uV, uW]
 refine uA rfl (qM (qK (qL (qL (qJ (uM rfl (uB (qAy rfl (hE.t rfl)) ?_)))))))
 refine qM (qK (zD rfl (zC (qK (qL (qJ (uM rfl (uX (qPq (k := 0) (j := 0) (tm0 := tm00) hE (by omega)) rfl ?_))))))))
 rintro _ _ ⟨d, rfl, rfl⟩
 simp only [uV, uW]
 refine uM rfl (uB (qV rfl rfl) (uB (qV rfl rfl) (uA rfl (uA rfl (qM (qK (qL (qL (qJ (uM rfl (uB (qBm rfl) ?_)))))))))))
 refine uM rfl (kQ rfl rfl (uM rfl (kQ rfl rfl ?_)))
 refine uX (qZk (k := 0) (j := 0) (tm := tm00) (tm0 := tm00) (n := [97]) (t := [120, 120]) hE okA (by decide) (by omega)) rfl ?_
 rintro _ _ ⟨rfl, rfl⟩
 simp only [uV, uW]
 refine kQ rfl rfl (uB (qAf rfl (hE.t rfl)) ?_)
 refine uB (qZ rfl rfl) ?_
 refine uM rfl (kQ rfl rfl (uM rfl (kQ rfl rfl ?_)))
 refine uX (qWz (k := 1) (j := 0) (tm := updT tm00 [97] [120, 120]) (tm0 := tm00) hE (by omega) (by omega)) rfl ?_
 rintro _ _ ⟨rfl, rfl⟩
 simp only [uV, uW]
 refine kQ rfl rfl (uB (qAf rfl (hE.t rfl)) ?_)
 refine uB (qZ rfl rfl) ?_
 refine uM rfl (kQ rfl rfl (uM rfl (kQ rfl rfl ?_)))
 refine uX (qZk (k := 1) (j := 1) (tm := updT tm00 [97] [120, 120]) (tm0 := updT tm00 [97] [120, 120]) (n := [97]) (t := [121]) hE okA (by decide) (by omega)) rfl ?_
 rintro _ _ ⟨rfl, rfl⟩
 simp only [uV, uW]
 refine kQ rfl rfl (uB (qAf rfl (hE.t rfl)) ?_)
 refine uB (qZ rfl rfl) ?_
 refine qM (qK (zD rfl (zC (qK (qL (qJ (uM rfl ?_)))))))
 refine uX (qZi (k := 2) (j := 1) (tm := updT (updT tm00 [97] [120, 120]) [97] [121]) (tm0 := updT tm00 [97] [120, 120]) hE) rfl ?_
 rintro _ _ ⟨rfl, rfl⟩
 simp only [uV, uW]
 refine qM (qK (qL (qJ (uM rfl (uX (qPq (k := 2) (j := 1) (tm0 := updT tm00 [97] [120, 120]) hE (by omega)) rfl ?_)))))
 rintro _ _ ⟨d2, rfl, rfl⟩
 simp only [uV, uW]
 refine uM rfl (uB (qV rfl rfl) (uB (qV rfl rfl) (uA rfl (uA rfl (qM (qK (qL (qL (qJ (uM rfl (uB (qBm rfl) ?_)))))))))))
 refine qM (qK (zD rfl (zC (qK (qL (qJ (uM rfl ?_)))))))
 refine uX (qMg (k := 2) (j := 1) (tm := updT tm00 [97] [120, 120]) (tm0 := updT tm00 [97] [120, 120]) hE (by omega) hxx) rfl ?_
 rintro _ _ ⟨A, q, c, rfl, ⟨hA, -⟩, rfl⟩
 obtain rfl := hA.fn (ens_one [97] [120, 120])
 simp only [uV, uW]
 refine uM rfl (uB (qV rfl rfl) (uB (qV rfl rfl) (uA rfl (uA rfl (qM (qK (qL (qJ (uM rfl (uM rfl (kQ rfl rfl (uM rfl ?_))))))))))))
 refine kQ rfl rfl (uB (qBc (hE.t rfl) rfl rfl) ?_)
 refine kQ rfl rfl (uU ?_)
 refine qW (hE.t rfl) (hE.t rfl) rfl rfl rfl (fun b48 => ?_)
 refine kQ rfl rfl ?_
 refine qAx (kE (p := cells b48 [.string ⟨⟨[97]⟩⟩, .string ⟨⟨[120, 120]⟩⟩] 51) (p' := sl (some ⟨b48, 0, none⟩) 1 51 2 [(([97] : List UInt8), ([120, 120] : List UInt8))].length (ssC [(([97] : List UInt8), ([120, 120] : List UInt8))])) uK (qAr rfl (by unfold maxLen; omega))) ?_
 refine uX (ct_rSame (A := [(([97] : List UInt8), ([120, 120] : List UInt8))]) (B := [(([97] : List UInt8), ([120, 120] : List UInt8))]) hE (by decide)) rfl ?_
 rintro _ _ ⟨rfl, rfl⟩
 simp only [uV, uW]
 refine uB (qY rfl rfl) ?_
 refine uA rfl (qM (qK (kC ?_)))
 exact uZ rfl (.tmp rfl .nil) ⟨congrArg Value.bool (by decide), rfl⟩
end
end Go.Proofs.YtddfnkijolfhbaaGreat
