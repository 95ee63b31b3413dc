import Derived.Test.YtddfnkijolfhbaaGreatQ61
import Derived.Test.YtddfnkijolfhbaaGreatQ84
set_option linter.all false
set_option maxHeartbeats 1000000
namespace Go.Proofs.YtddfnkijolfhbaaGreat
open Go Go.RowKit Sl Eg
set_option maxRecDepth 10000
variable {E : Env} {Es : List Ent} {s most : Nat}
def Dl (n d : Nat) : Prop := n ≤ 2 ^ d ∧ (d = 0 ∨ 2 ^ (d - 1) < n)
theorem Dl.join {n k d1 d2 : Nat} (h1 : Dl k d1) (hk : k = n / 2) (hn : 2 ≤ n) (h2 : Dl (n - k) d2) : d1 ≤ d2 + 1 ∧ d2 ≤ d1 + 1 ∧ Dl n (1 + max d1 d2) := by
 obtain ⟨a1, a2⟩ := h1
 obtain ⟨b1, b2⟩ := h2
 have le : d1 ≤ d2 := by
  refine Classical.byContradiction fun h => ?_
  have p := Nat.pow_le_pow_right (n := 2) (by omega) (show d2 ≤ d1 - 1 by omega)
  omega
 have ge : d2 ≤ d1 + 1 := by
  refine Classical.byContradiction fun h => ?_
  have p := Nat.pow_le_pow_right (n := 2) (by omega) (show d1 + 1 ≤ d2 - 1 by omega)
  have q : 2 ^ (d1 + 1) = 2 ^ d1 * 2 := Nat.pow_succ ..
  have r : 0 < 2 ^ d1 := Nat.pow_pos (by omega)
  omega
 have hm : 1 + max d1 d2 = d2 + 1 := by omega
 have q : 2 ^ (d2 + 1) = 2 ^ d2 * 2 := Nat.pow_succ ..
 rw [hm]
 refine ⟨by omega, ge, by rw [q]; omega, .inr ?_⟩
 rw [Nat.add_sub_cancel]
 rcases Nat.eq_zero_or_pos d2 with rfl | h
 ·show 1 < n
  omega
 have r : 2 ^ (d2 - 1) < n - k := b2.resolve_left (by omega)
 have e : 2 ^ d2 = 2 ^ (d2 - 1) * 2 := by rw [← Nat.pow_succ]; congr 1; omega
 omega
theorem qZc (hE : Seat E) : ∀ (n : Nat) {Es : List Ent} {bs : List UInt8} {g o c : Nat} {q : HP}, bs.length = n → 1 ≤ n → n ≤ 65536 → n ≤ c → (∀ k, q k → RdAt E.w0 g o (byC bs) k) → Es.length + 2 * n ≤ most →
  Ct E 48 [uPt s, .slice (some ⟨g, o, none⟩) n c] [zS s most Es, q]
   (fun v Q => ∃ (M : List Ent) (id d : Nat), v = .tuple #[.int .i64 (id : Nat), .nilIface] ∧ M.length + 1 ≤ 2 * n ∧ Bl (rls (Es ++ M)) id bs d ∧ Dl n d ∧ Q = [zS s most (Es ++ M), q]) := by
 intro n
 induction n using Nat.strongRecOn with
 | ind n ih =>
 intro Es bs g o c q hbn hn1 hn2 hnc hq hroom
 have hbl := qAg bs
 have hmx : kI = 1152921504606846976 := rfl
 refine zP (hE.fn Tryz.func48) rfl rfl rfl (fun R => ?_)
 simp only [qAe, uV, uW]
 refine qL (qJ (uA rfl (uA rfl (qM (qK (qL (qL (qJ (uM rfl (uB (uBl rfl) ?_))))))))))
 refine uB (y_eq rfl rfl) ?_
 refine qM (qK ?_)
 refine zF rfl (fun h => ?_) (fun h => ?_)
 ·obtain ⟨b, rfl⟩ := List.length_eq_one_iff.1 (show bs.length = 1 by omega)
  have f0 : (byC [b])[0]? = some (.int .u8 (b.toNat : Nat)) := rfl
  have hr1 : Es.length < most := by omega
  refine qL (qJ (uM rfl (uM rfl (uB (uAi rfl rfl) ?_))))
  apply qB
  ·(apply zK rfl (hE.t rfl) rfl (by assumption); (focus ((repeat constructor); done)); (first | ((focus exact f0); (focus omega)) | ((focus exact f1); (focus omega)) | ((focus assumption); (focus omega))))
  ·rfl
  refine uX (qZp (s := s) (most := most) (Es := Es) hE b hr1) rfl ?_
  rintro _ _ ⟨M, id, rfl, hM, hid, hrl, rfl⟩
  simp only [uV, uW]
  refine uB (qV rfl rfl) (uB (qV rfl rfl) (uA rfl (uA rfl (qM (qK (kC (qX ?_)))))))
  have hbl : Bl (rls (Es ++ M)) id [b] 0 := by
   obtain ⟨i, rfl⟩ : ∃ i, id = i + 1 := ⟨id - 1, by omega⟩
   rw [Nat.add_sub_cancel] at hrl
   exact ⟨hid, Ev.letter hrl, qCm hrl, by rw [dep, qHh hrl]⟩
  exact uZ rfl (.tmp rfl (.tmp rfl .nil)) ⟨M, id, 0, rfl, by omega, hbl, ⟨by omega, .inl rfl⟩, rfl⟩
 obtain ⟨k, hk⟩ : ∃ k, k = n / 2 := ⟨_, rfl⟩
 have hk1 : 1 ≤ k ∧ k < n ∧ n - k < n := by omega
 have hl1 : (bs.take k).length = k := by rw [List.length_take]; omega
 have hl2 : (bs.drop k).length = n - k := by rw [List.length_drop]; omega
 have hq1 : ∀ x, q x → RdAt E.w0 g o (byC (bs.take k)) x := fun x hx i v hv => by
  have e : byC (bs.take k) = (byC bs).take k := by simp [byC, List.map_take]
  rw [e, List.getElem?_take] at hv
  split at hv
  ·exact hq x hx i v hv
  cases hv
 have hq2 : ∀ x, q x → RdAt E.w0 g (o + k) (byC (bs.drop k)) x := fun x hx i v hv => by
  have e : byC (bs.drop k) = (byC bs).drop k := by simp [byC, List.map_drop]
  rw [e, List.getElem?_drop] at hv
  have := hq x hx (k + i) v hv
  rwa [← Nat.add_assoc] at this
 refine zC (qK (qL (qJ (uM rfl (uM rfl (uM rfl (uB (uBl rfl) ?_)))))))
 refine uB (qHe rfl rfl (by omega) (by omega) (by omega)) ?_
 refine l_eq 24 (.int .i64 (k : Nat)) rfl (zX (by omega)) ?_
 refine uB (qDg k rfl rfl (hE.t rfl) rfl (by omega)) ?_
 refine uX (ih k hk1.2.1 (Es := Es) (bs := bs.take k) (g := g) (o := o) (c := c) (q := q) hl1 hk1.1 (by omega) (by omega) hq1 (by omega)) rfl ?_
 rintro _ _ ⟨M1, i1, d1, rfl, hM1, hb1, hd1, rfl⟩
 simp only [uV, uW]
 refine uM rfl (uB (qV rfl rfl) (uB (qV rfl rfl) (uA rfl (uA rfl (qM (qK (qL (qL (qJ (uM rfl ?_))))))))))
 refine uB (qAf rfl (hE.t rfl)) ?_
 refine qM (qK (zD rfl (zC (qK (qL (qJ (uM rfl (uM rfl (uM rfl (uB (uBl rfl) ?_))))))))))
 refine uB (qHe rfl rfl (by omega) (by omega) (by omega)) ?_
 refine l_eq 37 (.int .i64 (k : Nat)) rfl (zX (by omega)) ?_
 refine uB (qLb (l := k) (h := n) rfl (hE.t rfl) ⟨_, rfl⟩ rfl (by omega) (by omega)) ?_
 refine l_eq 38 (.slice (some ⟨g, o + k, none⟩) (n - k) (c - k)) rfl (by rw [if_neg (by omega), Nat.mul_one, Sl.addr_add]) ?_
 have hr2 : (Es ++ M1).length + 2 * (n - k) ≤ most := by rw [List.length_append]; omega
 refine uX (ih (n - k) hk1.2.2 (Es := Es ++ M1) (bs := bs.drop k) (g := g) (o := o + k) (c := c - k) (q := q) hl2 (by omega) (by omega) (by omega) hq2 hr2) rfl ?_
 rintro _ _ ⟨M2, i2, d2, rfl, hM2, hb2, hd2, rfl⟩
 simp only [uV, uW]
 refine uM rfl (uB (qV rfl rfl) (uB (qV rfl rfl) (uA rfl (uA rfl (qM (qK (qL (qL (qJ (uM rfl ?_))))))))))
 refine uB (qAf rfl (hE.t rfl)) ?_
 refine qM (qK (zD rfl ?_))
 obtain ⟨c1, c2, c3⟩ := hd1.join hk (by omega) hd2
 have hb1' := hb1.more M2
 have hlen : (bs.take k).length + (bs.drop k).length ≤ kI := by rw [hl1, hl2]; omega
 have hr3 : (Es ++ M1 ++ M2).length < most := by rw [List.length_append, List.length_append]; omega
 refine zC (qK (qL (qJ (uM rfl (uM rfl (uM rfl ?_))))))
 refine uX (ct_bpair (s := s) (most := most) (Es := Es ++ M1 ++ M2) hE hb1' hb2 c1 c2 hlen hr3) rfl ?_
 rintro _ _ ⟨M3, id, d, rfl, hM3, hb3, hlo, hhi, rfl⟩
 simp only [uV, uW]
 obtain rfl : d = 1 + max d1 d2 := by omega
 rw [List.take_append_drop] at hb3
 have ea : Es ++ M1 ++ M2 ++ M3 = Es ++ (M1 ++ (M2 ++ M3)) := by simp only [List.append_assoc]
 rw [ea] at hb3 ⊢
 refine uB (qV rfl rfl) (uB (qV rfl rfl) (uA rfl (uA rfl (qM (qK (kC ?_))))))
 exact uZ rfl (.tmp rfl (.tmp rfl .nil)) ⟨M1 ++ (M2 ++ M3), id, _, rfl, by simp only [List.length_append]; omega, hb3, c3, rfl⟩
theorem qZb (hE : Seat E) {bs : List UInt8} {a : Option Addr} {c : Nat} {q : HP} (hq : Rdb E.w0 a (byC bs) q) (hn : bs.length ≤ 65536) (hc : bs.length ≤ c) (hroom : Es.length + 2 * bs.length ≤ most) :
  Ct E 29 [uPt s, .slice a bs.length c] [zS s most Es, q]
   (fun v Q => ∃ (M : List Ent) (id : Nat), v = .tuple #[.int .i64 (id : Nat), .nilIface] ∧ M.length ≤ 2 * bs.length ∧ Be (rls (Es ++ M)) id bs ∧ Q = [zS s most (Es ++ M), q]) := by
 refine zP (hE.fn Tryz.func29) rfl rfl rfl (fun R => ?_)
 simp only [qAe, uV, uW]
 refine qL (qJ (uA rfl (uA rfl (qM (qK (qL (qL (qJ (uM rfl (uB (qAy rfl (hE.t rfl)) ?_))))))))))
 refine qM (qK (zD rfl (zC (qK (qL (qL (qJ (uM rfl (uB (uBl rfl) ?_)))))))))
 refine uB (y_gt rfl rfl) ?_
 refine qM (qK ?_)
 refine zF rfl (fun h1 => ?_) (fun h1 => ?_)
 ·exfalso; omega
 refine zC (qK (qL (qL (qJ (uM rfl (uB (uBl rfl) ?_))))))
 refine uB (y_eq rfl rfl) ?_
 refine qM (qK ?_)
 refine zF rfl (fun h2 => ?_) (fun h2 => ?_)
 ·obtain rfl : bs = [] := List.eq_nil_of_length_eq_zero (by omega)
  refine qL (qJ (uA rfl (uA rfl (qM (qK (kC (qX ?_)))))))
  apply kD
  ·rfl
  ·(apply Rs.tmp rfl; apply Rs.tmp rfl; exact Rs.nil)
  ·exact ⟨[], 0, rfl, Nat.zero_le _, Be.zero _, rfl⟩
  rw [List.append_nil]
  exact uI
 obtain ⟨g, o, rfl, hq'⟩ := hq (fun e => h2 (by have := qAg bs; rw [e] at this; simp at this; omega))
 refine zC (qK (qL (qJ (uM rfl (uM rfl ?_)))))
 refine uX (qZc (s := s) (most := most) hE bs.length (Es := Es) (bs := bs) (g := g) (o := o) (c := c) (q := q) rfl (by omega) hn hc hq' hroom) rfl ?_
 rintro _ _ ⟨M, id, d, rfl, hM, hbl, hd, rfl⟩
 simp only [uV, uW]
 refine uB (qV rfl rfl) (uB (qV rfl rfl) (uA rfl (uA rfl (qM (qK (kC ?_))))))
 exact uZ rfl (.tmp rfl (.tmp rfl .nil)) ⟨M, id, rfl, by omega, hbl.be, rfl⟩
end Go.Proofs.YtddfnkijolfhbaaGreat
