import Derived.Test.YtkkjjablmmmmkaaGreatDoorQ73
set_option linter.all false
namespace Go.Proofs.YtkkjjablmmmmkaaGreatDoor
open Go Go.RowKit Sl Eg
set_option maxRecDepth 10000
section
variable {E : Env} {Es : List Ent} {s most : Nat}
inductive MkOk (L : List Rl) (T : List Nat) : Rl → Rl → Prop where
 | letter (b : UInt8) : MkOk L T (.letter b) (.letter b)
 | pair {a b x y : Nat} : T[a]? = some x → T[b]? = some y → 1 ≤ x → x ≤ L.length → 1 ≤ y → y ≤ L.length → len L x + len L y ≤ kJ → MkOk L T (.pair a b) (.pair x y)
 | power {a k x : Nat} : T[a]? = some x → 1 ≤ x → x ≤ L.length → 2 ≤ k → k ≤ 1152921504606846976 → len L x * k ≤ kJ → MkOk L T (.power a k) (.power x k)
theorem ct_xPut (hE : Seat E) {r r' : Rl} {T : List Nat} {gt ct : Nat} (hTl : T.length ≤ 1000000) (hm : MkOk (rls Es) T r r') (hroom : Es.length < most) : Ct E 92 [uPt s, .agg #[.int .i64 (Rl.kind (r) : Nat), .int .u8 (Rl.byte (r) : Nat), .int .i64 (Rl.left (r) : Nat), .int .i64 (Rl.right (r) : Nat), .int .i64 (Rl.times (r) : Nat)], .slice (some ⟨gt, 0, none⟩) T.length ct] [zT s most Es, sl (some ⟨gt, 0, none⟩) ct 37 1 T.length (idC T)]
  (fun v Q => ∃ (M : List Ent) (id : Nat), v = .tuple #[.int .i64 id, .nilIface] ∧ M.length ≤ 1 ∧ 1 ≤ id ∧ (rls (Es ++ M))[id - 1]? = some r' ∧ Q = [zT s most (Es ++ M), sl (some ⟨gt, 0, none⟩) ct 37 1 T.length (idC T)]) := by
 refine qBt (p := zT s most Es) uK (fun _ h => qAj h) (fun hsay => ?_)
 have hT100 := hTl
 cases hm with
 | letter b =>
  refine zQ (hE.fn Tryz.func92) rfl rfl rfl (fun R => ?_)
  simp only [qAa, uV, uW]
  simp only [Rl.kind, Rl.byte, Rl.left, Rl.right, Rl.times]
  refine qK (qI (uU ?_))
  refine qAs rfl (fun b4 => ?_)
  refine uA rfl (uA rfl (qL (qJ (qK (qK (qI (uB (uBf rfl) ?_)))))))
  refine uL ?_
  refine qL (qJ (zM (qK (qI (uB (y_eq rfl rfl) ?_)))))
  refine uA rfl (qL (qJ (zH rfl (qK (qI (uM rfl (uB (uBf rfl) ?_)))))))
  refine uL ?_
  refine uX (qNa (s := s) (most := most) (Es := Es) hE b hroom) rfl ?_
  rintro _ _ ⟨M, id, rfl, h1, h2, h3, rfl⟩
  simp only [uV, uW]
  refine uB (qU rfl rfl) (uB (qU rfl rfl) (uA rfl (uA rfl (qL (qJ (kD (zP (qW ?_))))))))
  exact uZ rfl (.tmp rfl (.tmp rfl .nil)) ⟨M, id, rfl, h1, h2, h3, rfl⟩
 | @pair a b x y ha hb x1 x2 y1 y2 hl =>
  have hat := (List.getElem?_eq_some_iff.1 ha).1
  have hbt := (List.getElem?_eq_some_iff.1 hb).1
  obtain ⟨x, rfl⟩ : ∃ k, x = k + 1 := ⟨x - 1, by omega⟩
  obtain ⟨y, rfl⟩ : ∃ k, y = k + 1 := ⟨y - 1, by omega⟩
  rw [zS] at x2 y2
  obtain ⟨e1, he1⟩ : ∃ x', Es[x]? = some x' := ⟨_, List.getElem?_eq_getElem (by omega)⟩
  obtain ⟨e2, he2⟩ : ∃ x', Es[y]? = some x' := ⟨_, List.getElem?_eq_getElem (by omega)⟩
  have hlen : e1.t.length + e2.t.length ≤ kJ := by rw [hsay.2.1 _ _ he1, hsay.2.1 _ _ he2]; exact hl
  have f0 := qAl ha (((a : Nat) : Int).toNat) (by omega)
  have f1 := qAl hb (((b : Nat) : Int).toNat) (by omega)
  refine zQ (hE.fn Tryz.func92) rfl rfl rfl (fun R => ?_)
  simp only [qAa, uV, uW]
  simp only [Rl.kind, Rl.byte, Rl.left, Rl.right, Rl.times]
  refine qK (qI (uU ?_))
  refine qAs rfl (fun b4 => ?_)
  refine uA rfl (uA rfl (qL (qJ (qK (qK (qI (uB (uBf rfl) ?_)))))))
  refine uL ?_
  refine qL (qJ (zM (qK (qI (uB (y_eq rfl rfl) ?_)))))
  refine uA rfl (qL (qJ (zF rfl (qK (qI (uB (y_eq rfl rfl) ?_))))))
  refine uA rfl (qL (qJ (zH rfl (qK ?_))))
  refine uH ([cells b4 [.int .i64 ((2 : Nat) : Int), .int .u8 ((0 : Nat) : Int), .int .i64 (a : Nat), .int .i64 (b : Nat), .int .i64 ((0 : Nat) : Int)] 82, sl (some ⟨gt, 0, none⟩) ct 37 1 T.length (idC T)]) ?_
  refine uD 0 rfl (qB rfl) ?_
  refine uD 1 rfl (qB rfl) ?_
  refine uD 2 rfl (uBf rfl) ?_
  refine uD 3 rfl (uY) ?_
  refine uD 4 rfl (uAj rfl rfl) ?_
  refine uD 5 rfl (uY) ?_
  refine uD 6 rfl (qB rfl) ?_
  refine uD 7 rfl (uBf rfl) ?_
  refine uD 8 rfl (uY) ?_
  refine uD 9 rfl (uAj rfl rfl) ?_
  refine uD 10 rfl (uY) ?_
  apply kP 11 rfl (by kernel_rfl) rfl
  refine uC (qVo (s := s) (most := most) (Es := Es) hE he1 he2 hlen hroom) rfl ?_
  rintro _ _ ⟨M, id, rfl, h1, h2, h3, rfl⟩
  simp only [uV, uW]
  refine uE ?_
  refine uD 12 rfl (qU rfl rfl) ?_
  refine uD 13 rfl (qU rfl rfl) ?_
  refine uD 14 rfl (qC rfl) ?_
  refine uD 15 rfl (qC rfl) ?_
  refine qCz (by kernel_rfl) ?_
  refine qJ (kD (zP (qW ?_)))
  exact uZ rfl (.tmp rfl (.tmp rfl .nil)) ⟨M, id, rfl, h1, h2, h3, rfl⟩
 | @power a k x ha x1 x2 hk hk2 hl =>
  have hat := (List.getElem?_eq_some_iff.1 ha).1
  obtain ⟨x, rfl⟩ : ∃ k, x = k + 1 := ⟨x - 1, by omega⟩
  rw [zS] at x2
  obtain ⟨e1, he1⟩ : ∃ x', Es[x]? = some x' := ⟨_, List.getElem?_eq_getElem (by omega)⟩
  have hlen : e1.t.length * k ≤ kJ := by rw [hsay.2.1 _ _ he1]; exact hl
  have f0 := qAl ha (((a : Nat) : Int).toNat) (by omega)
  refine zQ (hE.fn Tryz.func92) rfl rfl rfl (fun R => ?_)
  simp only [qAa, uV, uW]
  simp only [Rl.kind, Rl.byte, Rl.left, Rl.right, Rl.times]
  refine qK (qI (uU ?_))
  refine qAs rfl (fun b4 => ?_)
  refine uA rfl (uA rfl (qL (qJ (qK (qK (qI (uB (uBf rfl) ?_)))))))
  refine uL ?_
  refine qL (qJ (zM (qK (qI (uB (y_eq rfl rfl) ?_)))))
  refine uA rfl (qL (qJ (zF rfl (qK (qI (uB (y_eq rfl rfl) ?_))))))
  refine uA rfl (qL (qJ (zF rfl (zD (zK (qJ (qK ?_)))))))
  refine uH ([cells b4 [.int .i64 ((3 : Nat) : Int), .int .u8 ((0 : Nat) : Int), .int .i64 (a : Nat), .int .i64 ((0 : Nat) : Int), .int .i64 (k : Nat)] 82, sl (some ⟨gt, 0, none⟩) ct 37 1 T.length (idC T)]) ?_
  refine uD 0 rfl (qB rfl) ?_
  refine uD 1 rfl (qB rfl) ?_
  refine uD 2 rfl (uBf rfl) ?_
  refine uD 3 rfl (uY) ?_
  refine uD 4 rfl (uAj rfl rfl) ?_
  refine uD 5 rfl (uY) ?_
  refine uD 6 rfl (uBf rfl) ?_
  refine uD 7 rfl (uY) ?_
  apply kP 8 rfl (by kernel_rfl) rfl
  refine uC (qRd (s := s) (most := most) (Es := Es) hE he1 hk hlen hroom) rfl ?_
  rintro _ _ ⟨M, id, rfl, h1, h2, h3, rfl⟩
  simp only [uV, uW]
  refine uE ?_
  refine uD 9 rfl (qU rfl rfl) ?_
  refine uD 10 rfl (qU rfl rfl) ?_
  refine uD 11 rfl (qC rfl) ?_
  refine uD 12 rfl (qC rfl) ?_
  refine qCz (by kernel_rfl) ?_
  refine qJ (kD ?_)
  exact uZ rfl (.tmp rfl (.tmp rfl .nil)) ⟨M, id, rfl, h1, h2, h3, rfl⟩
theorem zBu (hE : Seat E) {r r' : Rl} {T : List Nat} {gt ct : Nat} (hTl : T.length ≤ 1000000) (hm : MkOk (rls Es) T r r') (hroom : Es.length < most) : Ct E 41 [uPt s, .agg #[.int .i64 (Rl.kind (r) : Nat), .int .u8 (Rl.byte (r) : Nat), .int .i64 (Rl.left (r) : Nat), .int .i64 (Rl.right (r) : Nat), .int .i64 (Rl.times (r) : Nat)], .slice (some ⟨gt, 0, none⟩) T.length ct] [zT s most Es, sl (some ⟨gt, 0, none⟩) ct 37 1 T.length (idC T)]
  (fun v Q => ∃ (M : List Ent) (id : Nat), v = .tuple #[.int .i64 id, .nilIface] ∧ M.length ≤ 1 ∧ 1 ≤ id ∧ (rls (Es ++ M))[id - 1]? = some r' ∧ Q = [zT s most (Es ++ M), sl (some ⟨gt, 0, none⟩) ct 37 1 T.length (idC T)]) := by
 refine qBt (p := zT s most Es) uK (fun _ h => qAj h) (fun hsay => ?_)
 have hT100 := hTl
 cases hm with
 | letter b =>
  refine zQ (hE.fn Tryz.func41) rfl rfl rfl (fun R => ?_)
  simp only [qAa, uV, uW]
  simp only [Rl.kind, Rl.byte, Rl.left, Rl.right, Rl.times]
  refine qK (qI (uU ?_))
  refine qAs rfl (fun b4 => ?_)
  refine uA rfl (uA rfl (qL (qJ (qK (qK (qI (uB (uBf rfl) ?_)))))))
  refine uL ?_
  refine qL (qJ (zM (qK (qI (uB (y_eq rfl rfl) ?_)))))
  refine uA rfl (qL (qJ (zH rfl (qK (qI (uM rfl (uB (uBf rfl) ?_)))))))
  refine uL ?_
  refine uX (qNa (s := s) (most := most) (Es := Es) hE b hroom) rfl ?_
  rintro _ _ ⟨M, id, rfl, h1, h2, h3, rfl⟩
  simp only [uV, uW]
  refine uB (qU rfl rfl) (uB (qU rfl rfl) (uA rfl (uA rfl (qL (qJ (kD (zP (qW ?_))))))))
  exact uZ rfl (.tmp rfl (.tmp rfl .nil)) ⟨M, id, rfl, h1, h2, h3, rfl⟩
 | @pair a b x y ha hb x1 x2 y1 y2 hl =>
  have hat := (List.getElem?_eq_some_iff.1 ha).1
  have hbt := (List.getElem?_eq_some_iff.1 hb).1
  obtain ⟨x, rfl⟩ : ∃ k, x = k + 1 := ⟨x - 1, by omega⟩
  obtain ⟨y, rfl⟩ : ∃ k, y = k + 1 := ⟨y - 1, by omega⟩
  rw [zS] at x2 y2
  obtain ⟨e1, he1⟩ : ∃ x', Es[x]? = some x' := ⟨_, List.getElem?_eq_getElem (by omega)⟩
  obtain ⟨e2, he2⟩ : ∃ x', Es[y]? = some x' := ⟨_, List.getElem?_eq_getElem (by omega)⟩
  have hlen : e1.t.length + e2.t.length ≤ kJ := by rw [hsay.2.1 _ _ he1, hsay.2.1 _ _ he2]; exact hl
  have f0 := qAl ha (((a : Nat) : Int).toNat) (by omega)
  have f1 := qAl hb (((b : Nat) : Int).toNat) (by omega)
  refine zQ (hE.fn Tryz.func41) rfl rfl rfl (fun R => ?_)
  simp only [qAa, uV, uW]
  simp only [Rl.kind, Rl.byte, Rl.left, Rl.right, Rl.times]
  refine qK (qI (uU ?_))
  refine qAs rfl (fun b4 => ?_)
  refine uA rfl (uA rfl (qL (qJ (qK (qK (qI (uB (uBf rfl) ?_)))))))
  refine uL ?_
  refine qL (qJ (zM (qK (qI (uB (y_eq rfl rfl) ?_)))))
  refine uA rfl (qL (qJ (zF rfl (qK (qI (uB (y_eq rfl rfl) ?_))))))
  refine uA rfl (qL (qJ (zH rfl (qK ?_))))
  refine uH ([cells b4 [.int .i64 ((2 : Nat) : Int), .int .u8 ((0 : Nat) : Int), .int .i64 (a : Nat), .int .i64 (b : Nat), .int .i64 ((0 : Nat) : Int)] 82, sl (some ⟨gt, 0, none⟩) ct 37 1 T.length (idC T)]) ?_
  refine uD 0 rfl (qB rfl) ?_
  refine uD 1 rfl (qB rfl) ?_
  refine uD 2 rfl (uBf rfl) ?_
  refine uD 3 rfl (uY) ?_
  refine uD 4 rfl (uAj rfl rfl) ?_
  refine uD 5 rfl (uY) ?_
  refine uD 6 rfl (qB rfl) ?_
  refine uD 7 rfl (uBf rfl) ?_
  refine uD 8 rfl (uY) ?_
  refine uD 9 rfl (uAj rfl rfl) ?_
  refine uD 10 rfl (uY) ?_
  apply kP 11 rfl (by kernel_rfl) rfl
  refine uC (qVo (s := s) (most := most) (Es := Es) hE he1 he2 hlen hroom) rfl ?_
  rintro _ _ ⟨M, id, rfl, h1, h2, h3, rfl⟩
  simp only [uV, uW]
  refine uE ?_
  refine uD 12 rfl (qU rfl rfl) ?_
  refine uD 13 rfl (qU rfl rfl) ?_
  refine uD 14 rfl (qC rfl) ?_
  refine uD 15 rfl (qC rfl) ?_
  refine qCz (by kernel_rfl) ?_
  refine qJ (kD (zP (qW ?_)))
  exact uZ rfl (.tmp rfl (.tmp rfl .nil)) ⟨M, id, rfl, h1, h2, h3, rfl⟩
 | @power a k x ha x1 x2 hk hk2 hl =>
  have hat := (List.getElem?_eq_some_iff.1 ha).1
  obtain ⟨x, rfl⟩ : ∃ k, x = k + 1 := ⟨x - 1, by omega⟩
  rw [zS] at x2
  obtain ⟨e1, he1⟩ : ∃ x', Es[x]? = some x' := ⟨_, List.getElem?_eq_getElem (by omega)⟩
  have hlen : e1.t.length * k ≤ kJ := by rw [hsay.2.1 _ _ he1]; exact hl
  have f0 := qAl ha (((a : Nat) : Int).toNat) (by omega)
  refine zQ (hE.fn Tryz.func41) rfl rfl rfl (fun R => ?_)
  simp only [qAa, uV, uW]
  simp only [Rl.kind, Rl.byte, Rl.left, Rl.right, Rl.times]
  refine qK (qI (uU ?_))
  refine qAs rfl (fun b4 => ?_)
  refine uA rfl (uA rfl (qL (qJ (qK (qK (qI (uB (uBf rfl) ?_)))))))
  refine uL ?_
  refine qL (qJ (zM (qK (qI (uB (y_eq rfl rfl) ?_)))))
  refine uA rfl (qL (qJ (zF rfl (qK (qI (uB (y_eq rfl rfl) ?_))))))
  refine uA rfl (qL (qJ (zF rfl (zD (zK (qJ (qK ?_)))))))
  refine uH ([cells b4 [.int .i64 ((3 : Nat) : Int), .int .u8 ((0 : Nat) : Int), .int .i64 (a : Nat), .int .i64 ((0 : Nat) : Int), .int .i64 (k : Nat)] 82, sl (some ⟨gt, 0, none⟩) ct 37 1 T.length (idC T)]) ?_
  refine uD 0 rfl (qB rfl) ?_
  refine uD 1 rfl (qB rfl) ?_
  refine uD 2 rfl (uBf rfl) ?_
  refine uD 3 rfl (uY) ?_
  refine uD 4 rfl (uAj rfl rfl) ?_
  refine uD 5 rfl (uY) ?_
  refine uD 6 rfl (uBf rfl) ?_
  refine uD 7 rfl (uY) ?_
  apply kP 8 rfl (by kernel_rfl) rfl
  refine uC (qRd (s := s) (most := most) (Es := Es) hE he1 hk hlen hroom) rfl ?_
  rintro _ _ ⟨M, id, rfl, h1, h2, h3, rfl⟩
  simp only [uV, uW]
  refine uE ?_
  refine uD 9 rfl (qU rfl rfl) ?_
  refine uD 10 rfl (qU rfl rfl) ?_
  refine uD 11 rfl (qC rfl) ?_
  refine uD 12 rfl (qC rfl) ?_
  refine qCz (by kernel_rfl) ?_
  refine qJ (kD ?_)
  exact uZ rfl (.tmp rfl (.tmp rfl .nil)) ⟨M, id, rfl, h1, h2, h3, rfl⟩
end
section
variable {E : Env} {s : Nat}
def tkL (Z : Nat → Nat) (n k : Nat) : List Nat := (List.range n).map fun j => if j ≤ k then Z j else 0
theorem qKk (Z : Nat → Nat) (n k : Nat) : (tkL Z n k).length = n := by simp [tkL]
theorem qXw {Z : Nat → Nat} (h : Z 0 = 0) (n : Nat) : List.replicate n (Value.int .i64 0) = idC (tkL Z n 0) := by
 apply List.ext_getElem?
 intro i
 unfold idC tkL
 rw [List.map_map, List.getElem?_map, List.getElem?_replicate]
 rcases Nat.lt_or_ge i n with hi | hi
 ·rw [if_pos hi, List.getElem?_range hi]
  simp only [Option.map_some, Function.comp]
  split
  ·rename_i h0
   obtain rfl : i = 0 := by omega
   rw [h]
   rfl
  rfl
 rw [if_neg (by omega), List.getElem?_eq_none (by simpa using hi)]; rfl
theorem qYv {Z : Nat → Nat} {n k j : Nat} (hj : j < n) (hk : j ≤ k) : (tkL Z n k)[j]? = some (Z j) := by
 unfold tkL
 rw [List.getElem?_map, List.getElem?_range hj]
 simp [hk]
theorem zDn {Z : Nat → Nat} {n k : Nat} (hk : k + 1 < n) (o : Nat) (ho : o = k + 1) {v : Int} (hv : v = (Z (k + 1) : Nat)) : zZ (idC (tkL Z n k)) o (zR (.int .i64 v)) = idC (tkL Z n (k + 1)) := by
 subst ho hv
 apply List.ext_getElem?
 intro i
 simp only [zZ, zR]
 unfold idC
 rw [List.getElem?_set, List.length_map, qKk, List.getElem?_map, List.getElem?_map]
 unfold tkL
 rw [List.getElem?_map, List.getElem?_map]
 rcases Nat.lt_or_ge i n with hi | hi
 ·rw [List.getElem?_range hi]
  simp only [Option.map_some]
  by_cases e : k + 1 = i
  ·subst e
   rw [if_pos rfl, if_pos hk, if_pos (Nat.le_refl _)]
  rw [if_neg e]
  by_cases h2 : i ≤ k
  ·rw [if_pos h2, if_pos (by omega)]
  rw [if_neg h2, if_neg (by omega)]
 rw [if_neg (by omega), List.getElem?_eq_none (by simpa using hi)]
 rfl
theorem imp_ok {G : List Rl} (hw : Wf G) {k : Nat} {r : Rl} (hr : G[k]? = some r) : MkOk (G.take k) (tkL id (G.length + 1) k) r r := by
 have hk := (List.getElem?_eq_some_iff.1 hr).1
 have hok := hw.ok k r hr
 have htl : (G.take k).length = k := by rw [List.length_take]; omega
 have hlt : ∀ a, a ≤ k → len (G.take k) a = len G a := fun a ha => by
  have := qNy (L := G.take k) (G.drop k) (i := a) (by omega)
  rw [List.take_append_drop] at this
  exact this.symm
 have hsh := hw.short (k + 1)
 cases r with
 | letter b => exact .letter b
 | pair a b =>
  have e := qGn hr hok
  simp only [Rl.ok] at hok
  exact .pair (qYv (by omega) (by omega)) (qYv (by omega) (by omega)) hok.1 (by omega) hok.2.2.1 (by omega) (by rw [hlt a (by omega), hlt b (by omega)]; omega)
 | power a t =>
  have e := qDl hr hok
  simp only [Rl.ok] at hok
  have hp := hw.pos a hok.1 (by omega)
  have h2 : t * 1 ≤ t * len G a := Nat.mul_le_mul_left _ hp
  have hmx : kJ = 1152921504606846976 := rfl
  exact .power (qYv (by omega) (by omega)) hok.1 (by omega) hok.2.2 (by omega) (by rw [hlt a (by omega), Nat.mul_comm]; omega)
theorem qZc {G : List Rl} (hw : Wf G) {k : Nat} {r : Rl} (hr : G[k]? = some r) {Es M : List Ent} (h : rls Es = G.take k) (hM : M.length ≤ 1) {id : Nat} (h1 : 1 ≤ id) (hid : (rls (Es ++ M))[id - 1]? = some r) : id = k + 1 ∧ rls (Es ++ M) = G.take (k + 1) := by
 have hk := (List.getElem?_eq_some_iff.1 hr).1
 have htl : (G.take k).length = k := by rw [List.length_take]; omega
 have hEl : Es.length = k := by rw [← zS, h, htl]
 have hnot : ∀ j, j < k → G[j]? ≠ some r := fun j hj e => by
  have := hw.nodup _ _ _ e hr
  omega
 rw [kI, h] at hid ⊢
 rcases Nat.lt_or_ge (id - 1) k with hlt | hge
 ·rw [List.getElem?_append_left (by omega), List.getElem?_take, if_pos hlt] at hid
  exact absurd hid (hnot _ hlt)
 rw [List.getElem?_append_right (by omega), htl] at hid
 have hl := (List.getElem?_eq_some_iff.1 hid).1
 rw [zS] at hl
 obtain ⟨e, rfl⟩ : ∃ e, M = [e] := List.length_eq_one_iff.1 (by omega)
 have h0 : id - 1 - k = 0 := by simp at hl; omega
 rw [h0] at hid
 have her : e.r = r := by simpa [rls] using hid
 refine ⟨by omega, ?_⟩
 rw [List.take_add_one, hr]
 simp [rls, her]
structure ImG where
 k : Nat
 Es : List Ent
theorem zCe (hE : Seat E) {G : List Rl} (hw : Wf G) (hGl : G.length ≤ 100000) {p : Option Addr} {c : Nat} : Ct E 67 [uPt s, .slice p G.length c] [zT s G.length [], sl p c 82 5 G.length (rusC G)]
  (fun v Q => ∃ Es, v = .tuple #[.int .i64 (G.length : Nat), .nilIface] ∧ rls Es = G ∧ Q = [zT s G.length Es, sl p c 82 5 G.length (rusC G)]) := by
 have hml : G.length + 1 ≤ maxLen := by unfold maxLen; omega
 refine qBt (p := sl p c 82 5 G.length (rusC G)) uK (fun _ h => fun hpos => qAi h hpos) (fun hp => ?_)
 refine zQ (hE.fn Tryz.func67) rfl rfl rfl (fun R => ?_)
 simp only [qAa, uV, uW]
 refine qK (qI (uA rfl (uA rfl (qL (qJ (qK (qK (qI (uM rfl (uB (qBr rfl (hE.t rfl)) ?_))))))))))
 refine qL (qJ (zF rfl (zD (qJ (qK (qK (qI (uM rfl (uB (uBl rfl) ?_)))))))))
 refine uM rfl (qL (qJ (zM ?_)))
 refine qAc (fun k : Nat => [(0, uPt s), (1, .slice p G.length c), (17, .slice p G.length c), (18, .int .i64 (G.length : Nat)), (19, .int .i64 (k : Nat))]) (fun k => [zT s G.length [], sl p c 82 5 G.length (rusC G), R]) (fun k => G.length - k) (fun k => k ≤ G.length) 0 (Nat.zero_le _) ⟨rfl, rfl, rfl, rfl, rfl, trivial⟩ uI ?_
 rintro k hk
 refine qK (qI (uB (y_lt rfl rfl) ?_))
 refine qL (qJ (qK ?_))
 refine zG rfl (fun h1 => ?_) (fun h1 => ?_)
 ·have hkl : k < G.length := by omega
  obtain ⟨g, rfl⟩ := hp (by omega)
  obtain ⟨r, hr⟩ : ∃ x, G[k]? = some x := ⟨_, List.getElem?_eq_getElem hkl⟩
  obtain ⟨f0, f1, f2, f3, f4⟩ := qFy hr (0 + ((k : Nat) : Int).toNat * 5) (by omega)
  refine zD (qJ (qK (zM (qK (qI (uM rfl (uB (uAi rfl rfl) ?_)))))))
  refine uB (uG) ?_
  refine uU (kH (hE.t rfl) (fun b7 => ?_))
  refine uA rfl (uU (uS ?_))
  refine qL (qJ (qK (qI (uB (uG) ?_))))
  refine uM rfl (uB (uAa rfl rfl) ?_)
  refine l_eq 26 (.int .i64 ((k + 1 : Nat) : Int)) rfl (zY (by omega)) ?_
  refine uX (qJl (r := r) (n := k + 1) hE (hw.ok k r hr) (by omega) (by omega)) rfl ?_
  rintro _ _ ⟨rfl, rfl⟩
  simp only [uV, uW]
  refine uA rfl (qL (qJ (qK (qI (uM rfl (uB (qAg rfl (hE.t rfl)) ?_))))))
  refine qL (qJ (zF rfl (zD (zK (qJ (qI (uB (uAa rfl rfl) ?_)))))))
  refine uM rfl (qL ?_)
  refine zU (ι := Nat) (j := k + 1) (by omega) (by omega) ⟨rfl, rfl, rfl, rfl, congrArg some (zY (by omega)), trivial⟩ uI
 refine kM (qP (qP (zJ (qJ (qK (qI (uM rfl (uB (uBl rfl) ?_))))))))
 refine uB (uAa rfl rfl) ?_
 refine l_eq 34 (.int .i64 ((G.length + 1 : Nat) : Int)) rfl (zY (by omega)) ?_
 refine uU ?_
 refine qMp (hE.t rfl) (hE.t rfl) rfl (by omega) hml (fun b35 => ?_)
 rw [qXw (Z := id) rfl]
 refine uA rfl (qL (qJ (qK (qK (qI (uM rfl (uB (uBl rfl) ?_)))))))
 refine uM rfl (qL (qJ (zM ?_)))
 refine qAc (fun x : ImG => [(0, uPt s), (1, .slice p G.length c), (9, .slice (some ⟨b35, 0, none⟩) (G.length + 1) (G.length + 1)), (36, .slice p G.length c), (37, .int .i64 (G.length : Nat)), (38, .int .i64 (x.k : Nat))]) (fun x => [zT s G.length x.Es, sl p c 82 5 G.length (rusC G), sl (some ⟨b35, 0, none⟩) (G.length + 1) 37 1 (G.length + 1) (idC (tkL id (G.length + 1) x.k)), R]) (fun x => G.length - x.k) (fun x => x.k ≤ G.length ∧ rls x.Es = G.take x.k) ⟨0, []⟩ ⟨Nat.zero_le _, rfl⟩ ⟨rfl, rfl, rfl, rfl, rfl, rfl, trivial⟩ uI ?_
 clear hk h1 k
 rintro ⟨k, Es⟩ ⟨hk, hEs⟩
 simp only at hk hEs ⊢
 refine qK (qI (uB (y_lt rfl rfl) ?_))
 refine qL (qJ (qK ?_))
 refine zG rfl (fun h1 => ?_) (fun h1 => ?_)
 ·have hkl : k < G.length := by omega
  obtain ⟨g, rfl⟩ := hp (by omega)
  obtain ⟨r, hr⟩ : ∃ x, G[k]? = some x := ⟨_, List.getElem?_eq_getElem hkl⟩
  obtain ⟨f0, f1, f2, f3, f4⟩ := qFy hr (0 + ((k : Nat) : Int).toNat * 5) (by omega)
  have hmk := imp_ok hw hr
  rw [← hEs] at hmk
  have hEl : Es.length = k := by rw [← zS, hEs, List.length_take]; omega
  have htl := qKk id (G.length + 1) k
  refine zD (qJ (qK (zM (qK (qI (uM rfl (uB (uAi rfl rfl) ?_)))))))
  refine uB (uG) ?_
  refine uU (kH (hE.t rfl) (fun b11 => ?_))
  refine uA rfl (uU (uS ?_))
  refine qL (qJ (qK (qI (uM rfl (uB (uG) ?_)))))
  refine uM rfl ?_
  refine l_eq 46 (.slice (some ⟨b35, 0, none⟩) (tkL id (G.length + 1) k).length (G.length + 1)) rfl (by rw [htl]) ?_
  refine qMa (kF (p := sl (some ⟨b35, 0, none⟩) (G.length + 1) 37 1 (G.length + 1) (idC (tkL id (G.length + 1) k))) (p' := sl (some ⟨b35, 0, none⟩) (G.length + 1) 37 1 (tkL id (G.length + 1) k).length (idC (tkL id (G.length + 1) k))) uK (fun _ h => by rw [htl]; exact h)) ?_
  refine uX (ct_xPut (s := s) (most := G.length) (Es := Es) (r := r) (r' := r) (T := tkL id (G.length + 1) k) (gt := b35) (ct := G.length + 1) hE (by omega) hmk (by omega)) rfl ?_
  rintro _ _ ⟨M, i, rfl, hM, hi1, hid, rfl⟩
  obtain ⟨rfl, hEM⟩ := qZc hw hr hEs hM hi1 hid
  rw [htl]
  simp only [uV, uW]
  refine uM rfl (uB (qU rfl rfl) (uB (qU rfl rfl) (uA rfl (uA rfl (qL (qJ (qK (qK (qI (uM rfl ?_))))))))))
  refine uB (qAg rfl (hE.t rfl)) ?_
  refine qL (qJ (zF rfl (zD (qJ (qI (uM rfl (uM rfl (uB (uAa rfl rfl) ?_))))))))
  refine uM rfl (uB (uAj rfl rfl) ?_)
  refine uU (uJ ?_)
  refine qL (zK (qJ ?_))
  rw [zDn (Z := id) (n := G.length + 1) (k := k) (v := ((k + 1 : Nat) : Int)) (by omega) ((((k : Nat) : Int) + 1).toNat) (by omega) rfl]
  refine qI (uB (uAa rfl rfl) ?_)
  refine uM rfl (qL ?_)
  refine zU (ι := ImG) (j := ⟨k + 1, Es ++ M⟩) ⟨by simp only; omega, hEM⟩ (by simp only; omega) ⟨rfl, rfl, rfl, rfl, rfl, congrArg some (zY (by simp only; omega)), trivial⟩ uI
 obtain rfl : k = G.length := by omega
 rw [List.take_length] at hEs
 have hat : (tkL id (G.length + 1) G.length)[G.length]? = some G.length := qYv (by omega) (Nat.le_refl _)
 have f5 := qAl hat (((G.length : Nat) : Int).toNat) (by omega)
 refine kM (qP (qP (zJ (qJ (qK (qI (uM rfl (uM rfl (uB (uBl rfl) ?_)))))))))
 refine uB (uAj rfl rfl) ?_
 refine uL ?_
 refine uA rfl (uA rfl (qL (qJ (kD ?_))))
 exact uZ rfl (.tmp rfl (.tmp rfl .nil)) ⟨Es, rfl, hEs, rfl⟩
end
end Go.Proofs.YtkkjjablmmmmkaaGreatDoor
namespace Sl
open Go Go.RowKit
variable {E : Env} {n : Nat} {L : Fr} {S : List HP} {ty : TypeId} {pos : String} {af : Array Edge} {d : Option Nat} {gd : Option (Nat × Bool)}
theorem zEl {x y : Operand} {t yt : TypeId} {a b : Bool} {sz : Nat} {zs : List Value} (hx : ev L x = some (.bool a)) (hy : ev L y = some (.bool b)) (ht : E.tab t = some ⟨.bool, sz, zs⟩) :
  Yl E n L S ⟨d, .binOp .neq t x y yt, ty, pos, af, gd⟩ (.bool (a ^^ b)) := fun o w g _ => by
 have hu := tab_bool ht
 have h1 : (eqGuard .neq t x y (.bool a) (.bool b)).run E.P w = .ok () w := by unfold eqGuard; simp
 have h2 : binOp .neq t (.bool a) (.bool b) = (do pure (.bool (!(← Op.equal t (.bool a) (.bool b))))) := rfl
 have h3 := run_equal_bool (P := E.P) w t a b hu
 simp [execOp, h1, h2, h3, g.ev hx, g.ev hy]
 cases a <;> cases b <;> rfl
end Sl
namespace Go.Proofs.YtkkjjablmmmmkaaGreatDoor
open Go Go.RowKit Sl Eg
set_option maxRecDepth 10000
section
variable {E : Env} {G : List Rl}
theorem ct_after (hE : Seat E) (hB : Base E.w0) {low x y : Nat} (hl : low < 1099511627776) (hx : x < P61) (hy : y < P61) : Ct E 146 [.int .i64 (low : Nat), .int .u64 (x : Nat), .int .u64 (y : Nat)] [] (fun v Q => v = .int .i64 (after low x y : Nat) ∧ Q = []) := fun R w s => by
 have hT : TabAt w := fun j hj => s.old_cell (hB.tab j hj)
 have := qJt low x y w hl hx hy hT
 rw [← hE.P] at this
 exact this.mono fun e w' ⟨h1, h2⟩ => ⟨_, [], h1, ⟨rfl, rfl⟩, h2 ▸ s⟩
theorem ct_After (hE : Seat E) (hB : Base E.w0) {low x y : Nat} (hl : low ≤ 1048576) (hx : x < P61) (hy : y < P61) : Ct E 120 [.int .i64 (low : Nat), .int .u64 (x : Nat), .int .u64 (y : Nat)] [] (fun v Q => v = .int .i64 (after low x y : Nat) ∧ Q = []) := by
 refine zQ (hE.fn Tryz.func120) rfl rfl rfl (fun R => ?_)
 simp only [qAa, uV, uW]
 refine qK (qI (uA rfl (qL (qJ (qK (qK (qI (uM rfl (uB (y_gt rfl rfl) ?_)))))))))
 refine qL (qJ ?_)
 refine zG rfl (fun h1 => ?_) (fun h1 => ?_)
 ·exfalso; omega
 refine zD (qJ (qK (qI (uM rfl (uB (zBt rfl rfl) ?_)))))
 refine l_eq 10 (.int .i64 (low : Nat)) rfl (zY (by first | omega | simp)) ?_
 refine uM rfl (uM rfl (uX (ct_after (low := low) (x := x) (y := y) hE hB (by omega) hx hy) rfl ?_))
 rintro _ _ ⟨rfl, rfl⟩
 simp only [uV, uW]
 refine uA rfl (qL (qJ (kD ?_)))
 exact uZ rfl (.tmp rfl .nil) ⟨rfl, rfl⟩
def qNi (f : Nat → Value) (z : Value) (n k : Nat) : List Value := (List.range n).map fun j => if j ≤ k then f j else z
theorem qTh (f : Nat → Value) (z : Value) (n k : Nat) : (qNi f z n k).length = n := by simp [qNi]
theorem qPl {f : Nat → Value} {z : Value} (h : f 0 = z) (n : Nat) : List.replicate n z = qNi f z n 0 := by
 apply List.ext_getElem?
 intro i
 unfold qNi
 rw [List.getElem?_map, List.getElem?_replicate]
 rcases Nat.lt_or_ge i n with hi | hi
 ·rw [if_pos hi, List.getElem?_range hi]
  simp only [Option.map_some]
  split
  ·rename_i h0
   obtain rfl : i = 0 := by omega
   rw [h]
  rfl
 rw [if_neg (by omega), List.getElem?_eq_none (by simpa using hi)]; rfl
theorem qMq {f : Nat → Value} {z : Value} {n k j : Nat} (hj : j < n) (hk : j ≤ k) (o : Nat) (ho : o = j) : (qNi f z n k)[o]? = some (f j) := by
 subst ho
 unfold qNi
 rw [List.getElem?_map, List.getElem?_range hj]
 simp [hk]
theorem qUg {f : Nat → Value} {z : Value} {n k : Nat} (hk : k + 1 < n) (o : Nat) (ho : o = k + 1) {v : Value} (hv : v = f (k + 1)) (hp : zR v = [v]) : zZ (qNi f z n k) o (zR v) = qNi f z n (k + 1) := by
 rw [hp]
 subst ho hv
 apply List.ext_getElem?
 intro i
 simp only [zZ]
 rw [List.getElem?_set, qTh]
 unfold qNi
 rw [List.getElem?_map, List.getElem?_map]
 rcases Nat.lt_or_ge i n with hi | hi
 ·rw [List.getElem?_range hi]
  simp only [Option.map_some]
  by_cases e : k + 1 = i
  ·subst e
   rw [if_pos rfl, if_pos hk, if_pos (Nat.le_refl _)]
  rw [if_neg e]
  by_cases h2 : i ≤ k
  ·rw [if_pos h2, if_pos (by omega)]
  rw [if_neg h2, if_neg (by omega)]
 rw [if_neg (by omega), List.getElem?_eq_none (by simpa using hi)]
 rfl
def lvC (G : List Rl) (k : Nat) : List Value := qNi (fun j => .int .i64 (lvl G j)) (.int .i64 0) (G.length + 1) k
def kzC (G : List Rl) (k : Nat) : List Value := qNi (fun j => .int .u64 (key G j : Nat)) (.int .u64 0) (G.length + 1) k
theorem qQp (hE : Seat E) {i : Nat} {r : Rl} (hr : G[i]? = some r) (hGl : G.length ≤ 100000) {pb g1 c1 g2 c2 g3 c3 : Nat} : Ct E 119 [uPt pb, .int .i64 ((i + 1 : Nat) : Int)] [cells pb [.slice (some ⟨g1, 0, none⟩) (G.length + 1) c1, .slice (some ⟨g2, 0, none⟩) (G.length + 1) c2, .slice (some ⟨g3, 0, none⟩) (G.length + 1) c3] 150, sl (some ⟨g1, 0, none⟩) c1 82 5 (G.length + 1) (ruC G)] (fun v Q => v = .int .i64 (qFl r : Nat) ∧ Q = [cells pb [.slice (some ⟨g1, 0, none⟩) (G.length + 1) c1, .slice (some ⟨g2, 0, none⟩) (G.length + 1) c2, .slice (some ⟨g3, 0, none⟩) (G.length + 1) c3] 150, sl (some ⟨g1, 0, none⟩) c1 82 5 (G.length + 1) (ruC G)]) := by
 have hi := (List.getElem?_eq_some_iff.1 hr).1
 obtain ⟨f0, f1, f2, f3, f4⟩ := qIl hr (((i + 1 : Nat) : Int).toNat * 5) (by omega)
 obtain ⟨e0, e1, e2, e3, e4⟩ := qIl hr (0 + ((i + 1 : Nat) : Int).toNat * 5) (by omega)
 refine zQ (hE.fn Tryz.func119) rfl rfl rfl (fun R => ?_)
 simp only [qAa, uV, uW]
 refine qK (qI (uA rfl (qL (qJ (qK (qK (qI (uM rfl (uB (zB rfl) ?_)))))))))
 refine uB (uBf rfl) ?_
 refine uL ?_
 refine uM rfl (uB (uAi rfl rfl) ?_)
 refine uB (uBf rfl) ?_
 refine uL ?_
 refine uB (y_eq rfl rfl) ?_
 refine qL (qJ ?_)
 cases r with
 | letter b =>
  simp only [Rl.kind]
  refine zF rfl (zD (qJ (qK (qI (uM rfl (uB (zB rfl) ?_))))))
  refine uB (uBf rfl) ?_
  refine uL ?_
  refine uM rfl (uB (uAi rfl rfl) ?_)
  refine uB (uBf rfl) ?_
  refine uL ?_
  refine uA rfl (qL (qJ (kD ?_)))
  exact uZ rfl (.tmp rfl .nil) ⟨rfl, rfl⟩
 | pair a b =>
  simp only [Rl.kind]
  refine zH rfl (qK (qI (uM rfl (uB (zB rfl) ?_))))
  refine uB (uBf rfl) ?_
  refine uL ?_
  refine uM rfl (uB (uAi rfl rfl) ?_)
  refine uB (uBf rfl) ?_
  refine uL ?_
  refine uA rfl (qL (qJ (kD (qW ?_))))
  exact uZ rfl (.tmp rfl .nil) ⟨rfl, rfl⟩
 | power a t =>
  simp only [Rl.kind]
  refine zF rfl (zD (qJ (qK (qI (uM rfl (uB (zB rfl) ?_))))))
  refine uB (uBf rfl) ?_
  refine uL ?_
  refine uM rfl (uB (uAi rfl rfl) ?_)
  refine uB (uBf rfl) ?_
  refine uL ?_
  refine uA rfl (qL (qJ (kD ?_)))
  exact uZ rfl (.tmp rfl .nil) ⟨rfl, rfl⟩
end
section
variable {E : Env} {G : List Rl}
def teV (p : Bool × Bool) : Value := .agg #[.bool p.1, .bool p.2]
def Kte (G : List Rl) (K l : Nat) (f : Int → Option Value) : Prop := ∀ (x : Int) (v : Value), f x = some v → ∃ j : Nat, x = (j : Nat) ∧ v = teV (te G K (expd G l j))
theorem Kte.set {K l : Nat} {f : Int → Option Value} (h : Kte G K l f) {j : Nat} {v : Value} (hv : v = teV (te G K (expd G l j))) : Kte G K l (setF f (j : Nat) v) := fun x u hx => by
 unfold setF at hx
 split at hx
 ·rename_i e
  cases hx
  exact ⟨j, e, hv⟩
 exact h x u hx
theorem zDf (hw : Wf G) {K l i a b : Nat} (hr : G[i]? = some (.pair a b)) (hl : (l : Int) < lvl G (i + 1)) : te G K (expd G l (i + 1)) = if (te G K (expd G l b)).2 = true then ((te G K (expd G l a)).1 ^^ (te G K (expd G l b)).1, (te G K (expd G l a)).2) else te G K (expd G l b) := by
 rw [qDd hw hr hl, qYj]
theorem qXy (hw : Wf G) {K l i a t : Nat} (hr : G[i]? = some (.power a t)) (hl : (l : Int) < lvl G (i + 1)) (ht : 1 ≤ t) : te G K (expd G l (i + 1)) = if (te G K (expd G l a)).2 = true then (if t % 2 = 0 then false else (te G K (expd G l a)).1, true) else te G K (expd G l a) := by
 rw [qDf hw hr hl, te_rep _ _ _ _ ht]
structure EnG2 where
 b9 : Nat
 f : Int → Option Value
theorem ct_pEnd (hE : Seat E) (hw : Wf G) (hGl : G.length ≤ 100000) {k K l pb g1 c1 g2 c2 g3 c3 bm : Nat} (hkG : k ≤ G.length) (hlk : ∀ j, 1 ≤ j → j ≤ k → 0 ≤ lvl G j) : ∀ (id : Nat), 1 ≤ id → id ≤ k → ∀ (f : Int → Option Value), Kte G K l f →
  Ct E 121 [.agg #[uPt pb, .int .i64 (l : Nat), .int .u64 (K : Nat), .map (some bm)], .int .i64 (id : Nat)] [cells pb [.slice (some ⟨g1, 0, none⟩) (G.length + 1) c1, .slice (some ⟨g2, 0, none⟩) (G.length + 1) c2, .slice (some ⟨g3, 0, none⟩) (G.length + 1) c3] 150, sl (some ⟨g1, 0, none⟩) c1 82 5 (G.length + 1) (ruC G), sl (some ⟨g2, 0, none⟩) c2 3 1 (G.length + 1) (lvC G k), sl (some ⟨g3, 0, none⟩) c3 80 1 (G.length + 1) (kzC G k), mapF bm .i64 f]
   (fun v Q => v = teV (te G K (expd G l id)) ∧ ∃ f', Kte G K l f' ∧ Q = [cells pb [.slice (some ⟨g1, 0, none⟩) (G.length + 1) c1, .slice (some ⟨g2, 0, none⟩) (G.length + 1) c2, .slice (some ⟨g3, 0, none⟩) (G.length + 1) c3] 150, sl (some ⟨g1, 0, none⟩) c1 82 5 (G.length + 1) (ruC G), sl (some ⟨g2, 0, none⟩) c2 3 1 (G.length + 1) (lvC G k), sl (some ⟨g3, 0, none⟩) c3 80 1 (G.length + 1) (kzC G k), mapF bm .i64 f']) := by
 intro id
 induction id using Nat.strongRecOn with
 | ind id ih =>
  intro hid1 hid f hf
  obtain ⟨i, rfl⟩ : ∃ i, id = i + 1 := ⟨id - 1, by omega⟩
  obtain ⟨r, hr⟩ : ∃ r, G[i]? = some r := ⟨_, List.getElem?_eq_getElem (by omega)⟩
  have hkl := qCn (hw.ok i r hr)
  have hLi := hlk (i + 1) hid1 hid
  have f5 : (lvC G k)[((i + 1 : Nat) : Int).toNat]? = some (.int .i64 (lvl G (i + 1))) := qMq (by omega) (by omega) _ (by omega)
  have f6 : (kzC G k)[((i + 1 : Nat) : Int).toNat]? = some (.int .u64 (key G (i + 1) : Nat)) := qMq (by omega) (by omega) _ (by omega)
  obtain ⟨f0, f1, f2, f3, f4⟩ := qIl hr (0 + ((i + 1 : Nat) : Int).toNat * 5) (by omega)
  refine zQ (hE.fn Tryz.func121) rfl rfl rfl (fun R => ?_)
  simp only [qAa, uV, uW]
  refine qK (qI (uU ?_))
  refine qAs rfl (fun b2 => ?_)
  refine uU (kH (hE.t rfl) (fun b4 => ?_))
  refine qL (qJ (qK (qK ?_)))
  refine uH ([cells b2 [uPt pb, .int .i64 (l : Nat), .int .u64 (K : Nat), .map (some bm)] 223, cells pb [.slice (some ⟨g1, 0, none⟩) (G.length + 1) c1, .slice (some ⟨g2, 0, none⟩) (G.length + 1) c2, .slice (some ⟨g3, 0, none⟩) (G.length + 1) c3] 150, sl (some ⟨g2, 0, none⟩) c2 3 1 (G.length + 1) (lvC G k)]) ?_
  refine uD 0 rfl (uBf rfl) ?_
  refine uD 1 rfl (uY) ?_
  refine uD 2 rfl (zB rfl) ?_
  refine uD 3 rfl (uBf rfl) ?_
  refine uD 4 rfl (uY) ?_
  refine uD 5 rfl (qB rfl) ?_
  refine uD 6 rfl (uAj rfl rfl) ?_
  refine uD 7 rfl (uY) ?_
  refine uD 8 rfl (uBf rfl) ?_
  refine uD 9 rfl (uY) ?_
  refine uD 10 rfl (y_le rfl rfl) ?_
  refine qCz (by kernel_rfl) ?_
  refine qJ ?_
  refine zG rfl (fun h1 => ?_) (fun h1 => ?_)
  ·have hlow : expd G l (i + 1) = [i + 1] := qCb (by omega) (by omega)
   refine qK ?_
   refine uH ([cells b2 [uPt pb, .int .i64 (l : Nat), .int .u64 (K : Nat), .map (some bm)] 223, cells pb [.slice (some ⟨g1, 0, none⟩) (G.length + 1) c1, .slice (some ⟨g2, 0, none⟩) (G.length + 1) c2, .slice (some ⟨g3, 0, none⟩) (G.length + 1) c3] 150, sl (some ⟨g3, 0, none⟩) c3 80 1 (G.length + 1) (kzC G k)]) ?_
   refine uD 0 rfl (uBf rfl) ?_
   refine uD 1 rfl (uY) ?_
   refine uD 2 rfl (zB rfl) ?_
   refine uD 3 rfl (uBf rfl) ?_
   refine uD 4 rfl (uY) ?_
   refine uD 5 rfl (qB rfl) ?_
   refine uD 6 rfl (uAj rfl rfl) ?_
   refine uD 7 rfl (uY) ?_
   refine uD 8 rfl (uBf rfl) ?_
   refine uD 9 rfl (uY) ?_
   refine uD 10 rfl (y_eq rfl rfl) ?_
   refine uD 11 rfl (qC rfl) ?_
   refine qCz (by kernel_rfl) ?_
   refine qJ (qK (qI (uM rfl (uM rfl (uB (qAe (hE.t rfl) rfl rfl) ?_)))))
   refine uU (uS ?_)
   refine qL (qJ (kD (qW ?_)))
   apply kE
   ·rfl
   ·((apply Rs.cell rfl (hE.t rfl) rfl; (focus ((repeat (first | rfl | assumption | constructor)); done))); exact Rs.nil)
   ·refine ⟨?_, f, hf, rfl⟩
    rw [hlow, te_one]
    have e : decide (((key G (i + 1) : Nat) : Int) = (K : Nat)) = decide (key G (i + 1) = K) := decide_eq_decide.2 (by omega)
    rw [e]
    rfl
   exact uI
  have hhi : (l : Int) < lvl G (i + 1) := by omega
  have hnl : ∀ b, r ≠ .letter b := fun b e => by
   subst e
   have := (qBq hr).2
   omega
  have hlast : qFl r ∈ kids r := by
   cases r with
   | letter b => exact absurd rfl (hnl b)
   | pair a b => simp [qFl, kids]
   | power a t => simp [qFl, kids]
  have hlr : qFl r < i + 1 := (hkl _ hlast).2
  have hl1 : 1 ≤ qFl r := (hkl _ hlast).1
  have hl2 : qFl r ≤ k := by omega
  obtain ⟨odd, whole, hp⟩ : ∃ odd whole, te G K (expd G l (qFl r)) = (odd, whole) := ⟨_, _, rfl⟩
  have hm1 : E.P.underlying 221 = some (.map 37 225) := by rw [hE.P]; kernel_rfl
  have hm2 : E.P.underlying 37 = some (.int .i64) := by rw [hE.P]; kernel_rfl
  have hm3 : ∀ w, (zeroValue 225).run E.P w = .ok (.agg #[.bool false, .bool false]) w := fun w => by rw [hE.P]; kernel_rfl
  refine zD (qJ (qK (qK (qI (uB (uBf rfl) ?_)))))
  refine uL ?_
  refine uM rfl ?_
  rcases hfi : f ((i + 1 : Nat) : Int) with _ | v0
  ·apply qA
   ·exact qGc hm1 hm2 hm3 rfl rfl uK hfi
   ·rfl
   refine l_eq 40 (.tuple #[.agg #[.bool false, .bool false], .bool false]) rfl rfl ?_
   refine uM rfl (uB (qU rfl rfl) (uB (qU rfl rfl) (uU (kH (hE.t rfl) (fun b6 => ?_)))))
   refine uU (uS ?_)
   refine uA rfl (qL (qJ (qK (qI (uM rfl (qL (qJ (zF rfl (zD (qJ (qK (qI (uB (uBf rfl) ?_)))))))))))))
   refine uL ?_
   refine uB (zB rfl) ?_
   refine uB (uBf rfl) ?_
   refine uL ?_
   refine uM rfl (uB (uAi rfl rfl) ?_)
   refine uB (uG) ?_
   refine uU (kH (hE.t rfl) (fun b8 => ?_))
   refine uU (uS ?_)
   refine qL (qJ ?_)
   refine qEs (fun x : EnG2 => [(1, .int .i64 ((i + 1 : Nat) : Int)), (2, uPt b2), (4, uPt b4), (8, uPt b8), (9, .pointer (some ⟨x.b9, 0, none⟩))]) (fun x => [cells pb [.slice (some ⟨g1, 0, none⟩) (G.length + 1) c1, .slice (some ⟨g2, 0, none⟩) (G.length + 1) c2, .slice (some ⟨g3, 0, none⟩) (G.length + 1) c3] 150, sl (some ⟨g1, 0, none⟩) c1 82 5 (G.length + 1) (ruC G), sl (some ⟨g2, 0, none⟩) c2 3 1 (G.length + 1) (lvC G k), sl (some ⟨g3, 0, none⟩) c3 80 1 (G.length + 1) (kzC G k), mapF bm .i64 x.f, cells b2 [uPt pb, .int .i64 (l : Nat), .int .u64 (K : Nat), .map (some bm)] 223, cells b4 [.bool false, .bool false] 225, cells b8 [.int .i64 (Rl.kind (r) : Nat), .int .u8 (Rl.byte (r) : Nat), .int .i64 (Rl.left (r) : Nat), .int .i64 (Rl.right (r) : Nat), .int .i64 (Rl.times (r) : Nat)] 82, cells x.b9 [.bool odd, .bool whole] 225, R]) (fun x => Kte G K l x.f) ?_ ?_
   ·refine qKg 7 ([cells b2 [uPt pb, .int .i64 (l : Nat), .int .u64 (K : Nat), .map (some bm)] 223]) ?_ ?_
    ·exact uI
    refine uT 0 rfl (uG) ?_
    refine uT 1 rfl (uBf rfl) ?_
    refine uT 2 rfl (uY) ?_
    refine uT 3 rfl (qB rfl) ?_
    apply qLb 4 6 rfl rfl (by kernel_rfl) rfl rfl
    ·apply zA (qQp hE hr hGl) rfl (hE.f (by kernel_rfl))
     ·exact uK
     rintro _ _ ⟨rfl, rfl⟩
     simp only [uV, uW]
     refine uE ?_
     apply qLb 5 6 rfl rfl (by kernel_rfl) rfl rfl
     ·apply zA (ih (qFl r) hlr hl1 hl2 f hf) rfl (hE.f (by kernel_rfl))
      ·exact uK
      rintro _ _ ⟨rfl, fm, hfm, rfl⟩
      rw [hp]
      simp only [uV, uW]
      refine uE ?_
      apply qAm 6 rfl (by kernel_rfl) rfl
      refine kH (hE.t rfl) (fun b9 => ?_)
      refine uE ?_
      apply qDi rfl (by kernel_rfl) (by kernel_rfl) rfl
      refine uS ?_
      refine qAr (ι := EnG2) ⟨b9, fm⟩ hfm ⟨rfl, rfl, rfl, rfl, rfl, trivial⟩ ?_
      exact uI
     refine kH (hE.t rfl) (fun b9 => ?_)
     refine uE ?_
     apply qAm 5 rfl (by kernel_rfl) rfl
     refine uC (ih (qFl r) hlr hl1 hl2 f hf) rfl ?_
     rintro _ _ ⟨rfl, fm, hfm, rfl⟩
     rw [hp]
     simp only [uV, uW]
     refine uE ?_
     apply qDi rfl (by kernel_rfl) (by kernel_rfl) rfl
     refine uS ?_
     refine qAr (ι := EnG2) ⟨b9, fm⟩ hfm ⟨rfl, rfl, rfl, rfl, rfl, trivial⟩ ?_
     exact uI
    refine kH (hE.t rfl) (fun b9 => ?_)
    refine uE ?_
    apply qAm 4 rfl (by kernel_rfl) rfl
    refine uC (qQp hE hr hGl) rfl ?_
    rintro _ _ ⟨rfl, rfl⟩
    simp only [uV, uW]
    refine uE ?_
    apply qAm 5 rfl (by kernel_rfl) rfl
    refine uC (ih (qFl r) hlr hl1 hl2 f hf) rfl ?_
    rintro _ _ ⟨rfl, fm, hfm, rfl⟩
    rw [hp]
    simp only [uV, uW]
    refine uE ?_
    apply qDi rfl (by kernel_rfl) (by kernel_rfl) rfl
    refine uS ?_
    refine qAr (ι := EnG2) ⟨b9, fm⟩ hfm ⟨rfl, rfl, rfl, rfl, rfl, trivial⟩ ?_
    exact uI
   rintro ⟨b9, fm⟩ hfm
   simp only at hfm ⊢
   refine qK (zM (qK (qI (uB (uBf rfl) ?_))))
   refine uL ?_
   refine uB (qBn rfl) ?_
   refine uA rfl (qL (qJ ?_))
   cases whole with
   | false =>
    have he : te G K (expd G l (i + 1)) = (odd, false) := by
     cases r with
     | letter b => exact absurd rfl (hnl b)
     | pair a b =>
      have hp' : te G K (expd G l b) = (odd, false) := hp
      rw [zDf hw hr hhi, hp']; rfl
     | power a t =>
      have hp' : te G K (expd G l a) = (odd, false) := hp
      rw [qXy hw hr hhi (by have := (hw.ok _ _ hr).2.2; omega), hp']; rfl
    refine zH rfl (zD (zK (qJ (qK (qI (uB (uBf rfl) ?_))))))
    refine uL ?_
    refine uM rfl (uB (uG) ?_)
    refine uU ?_
    apply qDz (kt := 37) (et := 225) (by rw [hE.P]; kernel_rfl) (by rw [hE.P]; kernel_rfl) rfl rfl rfl
    ·exact uK
    refine qL (qJ (qK (qI (uB (uG) ?_))))
    refine uU (uS ?_)
    refine qL (qJ (kD ?_))
    apply kE
    ·rfl
    ·((apply Rs.cell rfl (hE.t rfl) rfl; (focus ((repeat (first | rfl | assumption | constructor)); done))); exact Rs.nil)
    ·exact ⟨by rw [he]; rfl, setF fm ((i + 1 : Nat) : Int) (teV (odd, false)), hfm.set (j := i + 1) (by rw [he]), rfl⟩
    exact uI
   | true =>
    refine zF rfl (qK (qI (uB (uBf rfl) ?_)))
    refine uL ?_
    refine uB (y_eq rfl rfl) ?_
    refine uA rfl (qL (qJ ?_))
    cases r with
    | letter b => exact absurd rfl (hnl b)
    | pair a b =>
     simp only [Rl.kind, Rl.byte, Rl.left, Rl.right, Rl.times]
     have ha := hkl a (by simp [kids])
     obtain ⟨o2, w2, hp2⟩ : ∃ odd whole, te G K (expd G l a) = (odd, whole) := ⟨_, _, rfl⟩
     have he : te G K (expd G l (i + 1)) = (odd ^^ o2, w2) := by
      have hp' : te G K (expd G l b) = (odd, true) := hp
      rw [zDf hw hr hhi, hp', hp2, Bool.xor_comm]
      rfl
     refine zH rfl (qK (qI (uB (uG) ?_)))
     refine uB (uBf rfl) ?_
     refine uL ?_
     refine uX (ih a ha.2 ha.1 (by omega) fm hfm) rfl ?_
     rintro _ _ ⟨rfl, fm2, hfm2, rfl⟩
     rw [hp2]
     simp only [uV, uW]
     refine uU (kH (hE.t rfl) (fun b10 => ?_))
     refine uU (uS ?_)
     refine qL (qJ (qI (uB (uBf rfl) ?_)))
     refine uL ?_
     refine uB (uBf rfl) ?_
     refine uL ?_
     refine uB (zEl rfl rfl (hE.t rfl)) ?_
     refine uB (uBf rfl) ?_
     refine uL ?_
     refine uB (qAe (hE.t rfl) rfl rfl) ?_
     refine uU (uS ?_)
     refine qL (zK (qJ (qK (qI (uB (uBf rfl) ?_)))))
     refine uL ?_
     refine uM rfl (uB (uG) ?_)
     refine uU ?_
     apply qDz (kt := 37) (et := 225) (by rw [hE.P]; kernel_rfl) (by rw [hE.P]; kernel_rfl) rfl rfl rfl
     ·exact uK
     refine qL (qJ (qK (qI (uB (uG) ?_))))
     refine uU (uS ?_)
     refine qL (qJ (kD ?_))
     apply kE
     ·rfl
     ·((apply Rs.cell rfl (hE.t rfl) rfl; (focus ((repeat (first | rfl | assumption | constructor)); done))); exact Rs.nil)
     ·exact ⟨by rw [he]; rfl, setF fm2 ((i + 1 : Nat) : Int) (teV (odd ^^ o2, w2)), hfm2.set (j := i + 1) (by rw [he]), rfl⟩
     exact uI
    | power a t =>
     simp only [Rl.kind, Rl.byte, Rl.left, Rl.right, Rl.times]
     have htp := qXy hw (K := K) hr hhi (by have := (hw.ok _ _ hr).2.2; omega)
     have hp' : te G K (expd G l a) = (odd, true) := hp
     rw [hp'] at htp
     refine zF rfl (qK (qI (uB (uBf rfl) ?_)))
     refine uL ?_
     refine uB (qIu rfl rfl (by omega) (by omega)) ?_
     refine uB (y_eq rfl rfl) ?_
     refine uA rfl (qL (qJ ?_))
     refine zG rfl (fun h2 => ?_) (fun h2 => ?_)
     ·have he : te G K (expd G l (i + 1)) = (false, true) := by rw [htp, if_pos rfl, if_pos (by omega)]
      refine qI (uB (uBf rfl) ?_)
      refine uU (uS ?_)
      refine qL (zK (qJ (qK (qI (uB (uBf rfl) ?_)))))
      refine uL ?_
      refine uM rfl (uB (uG) ?_)
      refine uU ?_
      apply qDz (kt := 37) (et := 225) (by rw [hE.P]; kernel_rfl) (by rw [hE.P]; kernel_rfl) rfl rfl rfl
      ·exact uK
      refine qL (qJ (qK (qI (uB (uG) ?_))))
      refine uU (uS ?_)
      refine qL (qJ (kD ?_))
      apply kE
      ·rfl
      ·((apply Rs.cell rfl (hE.t rfl) rfl; (focus ((repeat (first | rfl | assumption | constructor)); done))); exact Rs.nil)
      ·exact ⟨by rw [he]; rfl, setF fm ((i + 1 : Nat) : Int) (teV (false, true)), hfm.set (j := i + 1) (by rw [he]), rfl⟩
      exact uI
     have he : te G K (expd G l (i + 1)) = (odd, true) := by rw [htp, if_pos rfl, if_neg (by omega)]
     refine zD (zK (qJ (qK (qI (uB (uBf rfl) ?_)))))
     refine uL ?_
     refine uM rfl (uB (uG) ?_)
     refine uU ?_
     apply qDz (kt := 37) (et := 225) (by rw [hE.P]; kernel_rfl) (by rw [hE.P]; kernel_rfl) rfl rfl rfl
     ·exact uK
     refine qL (qJ (qK (qI (uB (uG) ?_))))
     refine uU (uS ?_)
     refine qL (qJ (kD ?_))
     apply kE
     ·rfl
     ·((apply Rs.cell rfl (hE.t rfl) rfl; (focus ((repeat (first | rfl | assumption | constructor)); done))); exact Rs.nil)
     ·exact ⟨by rw [he]; rfl, setF fm ((i + 1 : Nat) : Int) (teV (odd, true)), hfm.set (j := i + 1) (by rw [he]), rfl⟩
     exact uI
  obtain ⟨j, hj, rfl⟩ := hf _ _ hfi
  obtain rfl : j = i + 1 := by omega
  refine uB (qGc hm1 hm2 hm3 rfl rfl uK hfi) ?_
  refine l_eq 40 (.tuple #[.agg #[.bool (te G K (expd G l (i + 1))).1, .bool (te G K (expd G l (i + 1))).2], .bool true]) rfl rfl ?_
  refine uM rfl (uB (qU rfl rfl) (uB (qU rfl rfl) (uU (kH (hE.t rfl) (fun b6 => ?_)))))
  refine uU (uS ?_)
  refine uA rfl (qL (qJ (qK (qI (uM rfl (qL (qJ (zH rfl (qK (qI (uB (uG) ?_)))))))))))
  refine uU (uS ?_)
  refine qL (qJ (kD (qW ?_)))
  apply kE
  ·rfl
  ·((apply Rs.cell rfl (hE.t rfl) rfl; (focus ((repeat (first | rfl | assumption | constructor)); done))); exact Rs.nil)
  ·exact ⟨rfl, f, hf, rfl⟩
  exact uI
end
section
variable {E : Env} {G : List Rl}
structure ApdG where
 a : Nat
 b : Nat
 h : Nat
theorem zCz {x y : Int} (hx : 0 ≤ x) : ∃ n : Nat, (n : Int) = max x y := ⟨(max x y).toNat, Int.toNat_of_nonneg (Int.le_trans hx (Int.le_max_left _ _))⟩
theorem max_if (x y : Int) : (if x < y then y else x) = max x y := by
 rw [Int.max_def]
 split
 ·rw [if_pos (by omega)]
 split
 ·omega
 rfl
def ApdI (G : List Rl) (k left right : Nat) (x : ApdG) : Prop := (1 ≤ x.a ∧ x.a ≤ k) ∧ (1 ≤ x.b ∧ x.b ≤ k) ∧ (x.h : Int) = max (lvl G x.a) (lvl G x.b) ∧ (expd G x.h left).getLast? = some x.a ∧ (expd G x.h right).head? = some x.b ∧ (x.h : Int) ≤ max (lvl G left) (lvl G right)
theorem qUe (hE : Seat E) (hB : Base E.w0) (hw : Wf G) (hGl : G.length ≤ 100000) {k left right pb g1 c1 g2 c2 g3 c3 : Nat} (hkG : k ≤ G.length) (hlk : ∀ j, 1 ≤ j → j ≤ k → 0 ≤ lvl G j ∧ lvl G j ≤ 1048576) (hL : 1 ≤ left ∧ left ≤ k) (hR : 1 ≤ right ∧ right ≤ k) (hs : Sig G left) (hn : Nb G left right) :
  Ct E 94 [uPt pb, .int .i64 (left : Nat), .int .i64 (right : Nat)] [cells pb [.slice (some ⟨g1, 0, none⟩) (G.length + 1) c1, .slice (some ⟨g2, 0, none⟩) (G.length + 1) c2, .slice (some ⟨g3, 0, none⟩) (G.length + 1) c3] 150, sl (some ⟨g1, 0, none⟩) c1 82 5 (G.length + 1) (ruC G), sl (some ⟨g2, 0, none⟩) c2 3 1 (G.length + 1) (lvC G k), sl (some ⟨g3, 0, none⟩) c3 80 1 (G.length + 1) (kzC G k)] (fun v Q => v = .bool true ∧ Q = [cells pb [.slice (some ⟨g1, 0, none⟩) (G.length + 1) c1, .slice (some ⟨g2, 0, none⟩) (G.length + 1) c2, .slice (some ⟨g3, 0, none⟩) (G.length + 1) c3] 150, sl (some ⟨g1, 0, none⟩) c1 82 5 (G.length + 1) (ruC G), sl (some ⟨g2, 0, none⟩) c2 3 1 (G.length + 1) (lvC G k), sl (some ⟨g3, 0, none⟩) c3 80 1 (G.length + 1) (kzC G k)]) := by
 have lvat : ∀ j, 1 ≤ j → j ≤ k → (lvC G k)[((j : Nat) : Int).toNat]? = some (.int .i64 (lvl G j)) := fun j h1 h2 => qMq (by omega) h2 _ (by omega)
 have kyat : ∀ j, 1 ≤ j → j ≤ k → (kzC G k)[((j : Nat) : Int).toNat]? = some (.int .u64 (key G j : Nat)) := fun j h1 h2 => qMq (by omega) h2 _ (by omega)
 have hfld : ∀ gs g, E.P.underlying 225 = some (.struct gs) → gs[0]? = some g → g.type = 4 := fun gs g h1 h2 => by
  have h3 : (match E.P.underlying 225 with | some (.struct gs) => gs[0]?.map (·.type) | _ => none) = some 4 := by rw [hE.P]; kernel_rfl
  rw [h1] at h3
  simp only [h2, Option.map_some] at h3
  exact Option.some.inj h3
 have hlkL := hlk left hL.1 hL.2
 have hlkR := hlk right hR.1 hR.2
 have f0 := lvat left hL.1 hL.2
 have f1 := lvat right hR.1 hR.2
 obtain ⟨h0, hh0⟩ := zCz (y := lvl G right) hlkL.1
 have hle1 : lvl G left ≤ (h0 : Nat) := by rw [hh0]; exact Int.le_max_left _ _
 have hle2 : lvl G right ≤ (h0 : Nat) := by rw [hh0]; exact Int.le_max_right _ _
 refine zQ (hE.fn Tryz.func94) rfl rfl rfl (fun R => ?_)
 simp only [qAa, uV, uW]
 refine qK (qI (uA rfl (qL (qJ (qK (qI (uM rfl (uM rfl (uA rfl (uA rfl (qL (qJ (qK ?_)))))))))))))
 refine uH ([cells pb [.slice (some ⟨g1, 0, none⟩) (G.length + 1) c1, .slice (some ⟨g2, 0, none⟩) (G.length + 1) c2, .slice (some ⟨g3, 0, none⟩) (G.length + 1) c3] 150, sl (some ⟨g2, 0, none⟩) c2 3 1 (G.length + 1) (lvC G k)]) ?_
 refine uD 0 rfl (qB rfl) ?_
 refine uD 1 rfl (zB rfl) ?_
 refine uD 2 rfl (uBf rfl) ?_
 refine uD 3 rfl (uY) ?_
 refine uD 4 rfl (qB rfl) ?_
 refine uD 5 rfl (uAj rfl rfl) ?_
 refine uD 6 rfl (uY) ?_
 refine uD 7 rfl (qB rfl) ?_
 refine uD 8 rfl (zB rfl) ?_
 refine uD 9 rfl (uBf rfl) ?_
 refine uD 10 rfl (uY) ?_
 refine uD 11 rfl (qB rfl) ?_
 refine uD 12 rfl (uAj rfl rfl) ?_
 refine uD 13 rfl (uY) ?_
 refine uD 14 rfl (zBt rfl rfl) ?_
 refine uD 15 rfl (qC rfl) ?_
 refine qCz (by kernel_rfl) ?_
 refine qJ (qK (zM ?_))
 refine qAc (fun x : ApdG => [(0, uPt pb), (1, .int .i64 (left : Nat)), (7, .int .i64 (x.a : Nat)), (8, .int .i64 (x.b : Nat)), (9, .int .i64 (x.h : Nat))]) (fun x => [cells pb [.slice (some ⟨g1, 0, none⟩) (G.length + 1) c1, .slice (some ⟨g2, 0, none⟩) (G.length + 1) c2, .slice (some ⟨g3, 0, none⟩) (G.length + 1) c3] 150, sl (some ⟨g1, 0, none⟩) c1 82 5 (G.length + 1) (ruC G), sl (some ⟨g2, 0, none⟩) c2 3 1 (G.length + 1) (lvC G k), sl (some ⟨g3, 0, none⟩) c3 80 1 (G.length + 1) (kzC G k), R]) (fun x => x.h) (ApdI G k left right) ⟨left, right, h0⟩ ⟨hL, hR, hh0, by simp only; rw [qCb hL.1 hle1]; rfl, by simp only; rw [qCb hR.1 hle2]; rfl, by simp only; omega⟩ ⟨rfl, rfl, rfl, rfl, congrArg some (zY ((max_if _ _).trans hh0.symm)), trivial⟩ uI ?_
 clear f0 f1 hle1 hle2 hh0 h0
 rintro ⟨a, b, h⟩ hI
 obtain ⟨ha, hb, hh, hla, hhb, hhm⟩ := hI
 simp only at ha hb hh hla hhb hhm ⊢
 have hla1 := hlk a ha.1 ha.2
 have hlb1 := hlk b hb.1 hb.2
 have hle1 : lvl G a ≤ (h : Nat) := by rw [hh]; exact Int.le_max_left _ _
 have hle2 : lvl G b ≤ (h : Nat) := by rw [hh]; exact Int.le_max_right _ _
 have f0 := lvat a ha.1 ha.2
 have f1 := lvat b hb.1 hb.2
 refine qK (qK (qI (uM rfl (uB (y_gt rfl rfl) ?_))))
 refine qL (qJ ?_)
 refine zG rfl (fun h1 => ?_) (fun h1 => ?_)
 ·have hh1 : 1 ≤ h := by omega
  obtain ⟨na, rfl⟩ : ∃ n, a = n + 1 := ⟨a - 1, by omega⟩
  obtain ⟨nb, rfl⟩ : ∃ n, b = n + 1 := ⟨b - 1, by omega⟩
  obtain ⟨ra, hra⟩ : ∃ r, G[na]? = some r := ⟨_, List.getElem?_eq_getElem (by omega)⟩
  obtain ⟨rb, hrb⟩ : ∃ r, G[nb]? = some r := ⟨_, List.getElem?_eq_getElem (by omega)⟩
  refine zD (qJ (zM ?_))
  refine qEs (fun u : Nat => [(0, uPt pb), (1, .int .i64 (left : Nat)), (7, .int .i64 (u : Nat)), (8, .int .i64 ((nb + 1 : Nat) : Int)), (9, .int .i64 (h : Nat))]) (fun _ => [cells pb [.slice (some ⟨g1, 0, none⟩) (G.length + 1) c1, .slice (some ⟨g2, 0, none⟩) (G.length + 1) c2, .slice (some ⟨g3, 0, none⟩) (G.length + 1) c3] 150, sl (some ⟨g1, 0, none⟩) c1 82 5 (G.length + 1) (ruC G), sl (some ⟨g2, 0, none⟩) c2 3 1 (G.length + 1) (lvC G k), sl (some ⟨g3, 0, none⟩) c3 80 1 (G.length + 1) (kzC G k), R]) (fun u => (1 ≤ u ∧ u ≤ k) ∧ (expd G (h - 1) left).getLast? = some u ∧ 0 ≤ lvl G u ∧ lvl G u < (h : Nat)) ?_ ?_
  ·refine qK (qI ?_)
   refine uM rfl (uB (zB rfl) ?_)
   refine uB (uBf rfl) ?_
   refine uL ?_
   refine uM rfl (uB (uAj rfl rfl) ?_)
   refine uL ?_
   refine uM rfl (uB (y_eq rfl rfl) ?_)
   refine qL (qJ ?_)
   refine zG rfl (fun h2 => ?_) (fun h2 => ?_)
   ·have hd := qVb hw hra (h := h) (by omega) hh1
    have hel := (qMo hw (l := h - 1) (m := h) (A := left) (by omega) (by omega) hla ⟨ha.1, by omega⟩).1
    have hkl := qCn (hw.ok na ra hra) (qFl ra) (by
     cases ra with
     | letter b => have := hd.2.2.1; simp [qFl] at this
     | pair a b => simp [qFl, kids]
     | power a t => simp [qFl, kids])
    refine qI (uM rfl (uM rfl (uX (qQp hE hra hGl) rfl ?_)))
    rintro _ _ ⟨rfl, rfl⟩
    simp only [uV, uW]
    refine uA rfl (qL ?_)
    refine qAr (ι := Nat) (qFl ra) ⟨⟨hd.2.2.1, by omega⟩, by rw [hel]; exact hd.1, hd.2.2.2.2.2.2.1, hd.2.2.2.2.2.2.2.1⟩ ⟨rfl, rfl, rfl, rfl, rfl, trivial⟩ uI
   refine zD ?_
   have hel := (qMo hw (l := h - 1) (m := h) (A := left) (by omega) (by omega) hla ⟨ha.1, by omega⟩).2 (by omega)
   refine qAr (ι := Nat) (na + 1) ⟨ha, hel, hla1.1, by omega⟩ ⟨rfl, rfl, rfl, rfl, rfl, trivial⟩ uI
  rintro u ⟨hu, hul, hu0, huh⟩
  obtain ⟨e0, e1, e2, e3, e4⟩ := qIl hrb (((nb + 1 : Nat) : Int).toNat * 5) (by omega)
  obtain ⟨d0, d1, d2, d3, d4⟩ := qIl hrb (0 + ((nb + 1 : Nat) : Int).toNat * 5) (by omega)
  refine qEs (fun v : Nat => [(0, uPt pb), (1, .int .i64 (left : Nat)), (7, .int .i64 (u : Nat)), (8, .int .i64 (v : Nat)), (9, .int .i64 (h : Nat))]) (fun _ => [cells pb [.slice (some ⟨g1, 0, none⟩) (G.length + 1) c1, .slice (some ⟨g2, 0, none⟩) (G.length + 1) c2, .slice (some ⟨g3, 0, none⟩) (G.length + 1) c3] 150, sl (some ⟨g1, 0, none⟩) c1 82 5 (G.length + 1) (ruC G), sl (some ⟨g2, 0, none⟩) c2 3 1 (G.length + 1) (lvC G k), sl (some ⟨g3, 0, none⟩) c3 80 1 (G.length + 1) (kzC G k), R]) (fun v => (1 ≤ v ∧ v ≤ k) ∧ (expd G (h - 1) right).head? = some v ∧ 0 ≤ lvl G v ∧ lvl G v < (h : Nat)) ?_ ?_
  ·refine qK (qI ?_)
   refine uM rfl (uB (zB rfl) ?_)
   refine uB (uBf rfl) ?_
   refine uL ?_
   refine uM rfl (uB (uAj rfl rfl) ?_)
   refine uL ?_
   refine uM rfl (uB (y_eq rfl rfl) ?_)
   refine qL (qJ ?_)
   refine zG rfl (fun h2 => ?_) (fun h2 => ?_)
   ·have hd := qVb hw hrb (h := h) (by omega) hh1
    have hel := (qMm hw (l := h - 1) (m := h) (A := right) (by omega) (by omega) hhb ⟨hb.1, by omega⟩).1
    have hkl := qCn (hw.ok nb rb hrb) rb.left (by
     cases rb with
     | letter b => have := hd.2.2.2.2.1; simp [Rl.left] at this
     | pair a b => simp [Rl.left, kids]
     | power a t => simp [Rl.left, kids])
    refine qI (uM rfl (uB (zB rfl) ?_))
    refine uB (uBf rfl) ?_
    refine uL ?_
    refine uM rfl (uB (uAi rfl rfl) ?_)
    refine uB (uBf rfl) ?_
    refine uL ?_
    refine uA rfl (qL ?_)
    refine qAr (ι := Nat) rb.left ⟨⟨hd.2.2.2.2.1, by omega⟩, by rw [hel]; exact hd.2.1, hd.2.2.2.2.2.2.2.2.1, hd.2.2.2.2.2.2.2.2.2⟩ ⟨rfl, rfl, rfl, rfl, rfl, trivial⟩ uI
   refine zD ?_
   have hel := (qMm hw (l := h - 1) (m := h) (A := right) (by omega) (by omega) hhb ⟨hb.1, by omega⟩).2 (by omega)
   refine qAr (ι := Nat) (nb + 1) ⟨hb, hel, hlb1.1, by omega⟩ ⟨rfl, rfl, rfl, rfl, rfl, trivial⟩ uI
  rintro v ⟨hv, hvl, hv0, hvh⟩
  clear e0 e1 e2 e3 e4 d0 d1 d2 d3 d4 f0 f1
  obtain ⟨st1, st2, st3⟩ := nb_step hw hs hn hh1 hhm hul hvl
  have g0 := lvat u hu.1 hu.2
  have g4 := lvat v hv.1 hv.2
  have g5 := kyat u hu.1 hu.2
  have g6 := kyat v hv.1 hv.2
  have hub := (hlk u hu.1 hu.2).2
  have hvb := (hlk v hv.1 hv.2).2
  obtain ⟨low, hlow⟩ := zCz (y := lvl G v) hu0
  have hlw1 : lvl G u ≤ (low : Nat) := by rw [hlow]; exact Int.le_max_left _ _
  have hlw2 : lvl G v ≤ (low : Nat) := by rw [hlow]; exact Int.le_max_right _ _
  have hlw3 : (low : Int) < (h : Nat) := by rw [hlow]; exact Int.max_lt.2 ⟨huh, hvh⟩
  have hlw4 : low ≤ 1048576 := by
   have : (low : Int) ≤ 1048576 := by rw [hlow]; exact Int.max_le.2 ⟨hub, hvb⟩
   omega
  have haft : after low (key G u) (key G v) = aft G u v := by
   unfold aft
   congr 1
   omega
  have hAb := qRl (low := low) (qCd hw u) (qCd hw v)
  have hAe := qGb low (key G u) (key G v)
  rw [haft] at hAb hAe
  have hnext : ApdI G k left right ⟨u, v, low⟩ := ⟨hu, hv, hlow, (qMo hw (l := low) (m := h - 1) (A := left) (by omega) (by omega) hul ⟨hu.1, by omega⟩).2 hlw1, (qMm hw (l := low) (m := h - 1) (A := right) (by omega) (by omega) hvl ⟨hv.1, by omega⟩).2 hlw2, by simp only; omega⟩
  refine qK ?_
  refine uH ([cells pb [.slice (some ⟨g1, 0, none⟩) (G.length + 1) c1, .slice (some ⟨g2, 0, none⟩) (G.length + 1) c2, .slice (some ⟨g3, 0, none⟩) (G.length + 1) c3] 150, sl (some ⟨g2, 0, none⟩) c2 3 1 (G.length + 1) (lvC G k)]) ?_
  refine uD 0 rfl (qB rfl) ?_
  refine uD 1 rfl (zB rfl) ?_
  refine uD 2 rfl (uBf rfl) ?_
  refine uD 3 rfl (uY) ?_
  refine uD 4 rfl (qB rfl) ?_
  refine uD 5 rfl (uAj rfl rfl) ?_
  refine uD 6 rfl (uY) ?_
  refine uD 7 rfl (qB rfl) ?_
  refine uD 8 rfl (zB rfl) ?_
  refine uD 9 rfl (uBf rfl) ?_
  refine uD 10 rfl (uY) ?_
  refine uD 11 rfl (qB rfl) ?_
  refine uD 12 rfl (uAj rfl rfl) ?_
  refine uD 13 rfl (uY) ?_
  refine uD 14 rfl (zBt rfl rfl) ?_
  refine uD 15 rfl (qC rfl) ?_
  refine qCz (by kernel_rfl) ?_
  refine qJ ?_
  refine w_eq 10 (.int .i64 (low : Nat)) rfl (zY ((max_if _ _).trans hlow.symm)) ?_
  refine qK (qK (qI (uM rfl (uM rfl (uB (y_eq rfl rfl) ?_)))))
  refine qL (qJ ?_)
  refine zG rfl (fun d9 => ?_) (fun d9 => ?_)
  ·exact absurd (show u = v by omega) st1
  refine zD (qJ (qK ?_))
  refine uH ([cells pb [.slice (some ⟨g1, 0, none⟩) (G.length + 1) c1, .slice (some ⟨g2, 0, none⟩) (G.length + 1) c2, .slice (some ⟨g3, 0, none⟩) (G.length + 1) c3] 150, sl (some ⟨g3, 0, none⟩) c3 80 1 (G.length + 1) (kzC G k)]) ?_
  refine uD 0 rfl (qB rfl) ?_
  refine uD 1 rfl (qB rfl) ?_
  refine uD 2 rfl (zB rfl) ?_
  refine uD 3 rfl (uBf rfl) ?_
  refine uD 4 rfl (uY) ?_
  refine uD 5 rfl (qB rfl) ?_
  refine uD 6 rfl (uAj rfl rfl) ?_
  refine uD 7 rfl (uY) ?_
  refine uD 8 rfl (qB rfl) ?_
  refine uD 9 rfl (zB rfl) ?_
  refine uD 10 rfl (uBf rfl) ?_
  refine uD 11 rfl (uY) ?_
  refine uD 12 rfl (qB rfl) ?_
  refine uD 13 rfl (uAj rfl rfl) ?_
  refine uD 14 rfl (uY) ?_
  apply kP 15 rfl (by kernel_rfl) rfl
  refine uC (ct_After hE hB hlw4 (qCd hw u) (qCd hw v)) rfl ?_
  rintro _ _ ⟨rfl, rfl⟩
  simp only [uV, uW]
  rw [haft]
  refine uE ?_
  refine uD 16 rfl (qC rfl) ?_
  refine qCz (by kernel_rfl) ?_
  refine qJ (qK (qK (qI (uM rfl (uB (y_ne rfl rfl) ?_)))))
  refine uM rfl ?_
  refine qAf 100 rfl (fun d8 => ?_) (fun d8 => ?_)
  ·refine kU rfl rfl ?_
   refine uM rfl (kU rfl rfl (uM rfl (kU rfl rfl (uB (y_le rfl rfl) ?_))))
   refine uB (qX rfl rfl) ?_
   refine qL (qJ ?_)
   refine zG rfl (fun d7 => ?_) (fun d7 => ?_)
   ·have hAh : aft G u v = h := by omega
    obtain ⟨n1, n2⟩ := st3 hAh
    have hl122 : lnum (aft G u v) = 122 := by rw [hAh]; exact n1
    refine qK (qI (uM rfl (uX (qIx (l := aft G u v) hE (by omega) hAe (by omega) hl122) rfl ?_)))
    rintro _ _ ⟨rfl, rfl⟩
    simp only [uV, uW]
    refine uM rfl (uB (qU rfl rfl) (uB (qU rfl rfl) (uB (qU rfl rfl) (uA rfl (uA rfl (uA rfl (qL (qJ (qK (qK (qI ?_)))))))))))
    refine uM rfl (uB (qBn rfl) ?_)
    refine qL (qJ (zF rfl (zD (qJ (qK (qI (uM rfl (uM rfl (uB (uAs rfl rfl) ?_)))))))))
    refine l_eq 115 (.int .i64 ((h - 1 : Nat) : Int)) rfl (zY (by omega)) ?_
    refine uM rfl (uB (zB rfl) ?_)
    refine uB (uBf rfl) ?_
    refine uL ?_
    refine uM rfl (uB (uAj rfl rfl) ?_)
    refine uL ?_
    refine uU ?_
    refine qJp .i64 (fun b123 => ?_)
    refine uB (qAe (hE.t rfl) rfl rfl) ?_
    refine uU (kH (hE.t rfl) (fun b15 => ?_))
    refine uU (uS ?_)
    refine qL (qJ (qK (qI (uB (uG) ?_))))
    refine uM rfl ?_
    refine uX (ct_pEnd (K := key G u) (l := h - 1) hE hw hGl hkG (fun j h1 h2 => (hlk j h1 h2).1) left hL.1 hL.2 (fun _ => none) (fun x v hx => by cases hx)) rfl ?_
    rintro _ _ ⟨rfl, fm, hfm, rfl⟩
    have n2' : (te G (key G u) (expd G (h - 1) left)).1 = false := n2
    simp only [uV, uW]
    refine uB (y_field (v := .bool false) (cs := [.bool (te G (key G u) (expd G (h - 1) left)).1, .bool (te G (key G u) (expd G (h - 1) left)).2]) rfl (hE.t rfl) rfl hfld (hE.t rfl) rfl (congrArg (fun b => some (Value.bool b)) n2')) ?_
    refine qL (qJ (zF rfl (zD (qJ (qI (uM rfl (uA rfl (qL (zK ?_)))))))))
    refine zU (ι := ApdG) (j := ⟨u, v, low⟩) hnext (by simp only; omega) ⟨rfl, rfl, rfl, rfl, rfl, trivial⟩ uI
   refine zD (qJ (qI ?_))
   refine uM rfl (uA rfl (qL (zK ?_)))
   refine zU (ι := ApdG) (j := ⟨u, v, low⟩) hnext (by simp only; omega) ⟨rfl, rfl, rfl, rfl, rfl, trivial⟩ uI
  exact absurd (show ¬ ((aft G u v : Nat) : Int) = 0 by omega) d8
 refine kM (qP (qP (zJ (qJ (qK (qI ?_))))))
 refine uA rfl (qL (qJ (kD ?_)))
 exact uZ rfl (.tmp rfl .nil) ⟨rfl, rfl⟩
end
section
variable {E : Env} {G : List Rl}
theorem zBh (hE : Seat E) (hB : Base E.w0) (hw : Wf G) (hGl : G.length ≤ 100000) {k pb g1 c1 g2 c2 g3 c3 : Nat} {r : Rl} (hkG : k < G.length) (hlk : ∀ j, 1 ≤ j → j ≤ k + 1 → 0 ≤ lvl G j ∧ lvl G j ≤ 1048576) (hr : G[k]? = some r) (hs : Sig G (k + 1)) :
  Ct E 70 [uPt pb, .agg #[.int .i64 (Rl.kind (r) : Nat), .int .u8 (Rl.byte (r) : Nat), .int .i64 (Rl.left (r) : Nat), .int .i64 (Rl.right (r) : Nat), .int .i64 (Rl.times (r) : Nat)]] [cells pb [.slice (some ⟨g1, 0, none⟩) (G.length + 1) c1, .slice (some ⟨g2, 0, none⟩) (G.length + 1) c2, .slice (some ⟨g3, 0, none⟩) (G.length + 1) c3] 150, sl (some ⟨g1, 0, none⟩) c1 82 5 (G.length + 1) (ruC G), sl (some ⟨g2, 0, none⟩) c2 3 1 (G.length + 1) (lvC G (k + 1)), sl (some ⟨g3, 0, none⟩) c3 80 1 (G.length + 1) (kzC G (k + 1))] (fun v Q => v = .bool true ∧ Q = [cells pb [.slice (some ⟨g1, 0, none⟩) (G.length + 1) c1, .slice (some ⟨g2, 0, none⟩) (G.length + 1) c2, .slice (some ⟨g3, 0, none⟩) (G.length + 1) c3] 150, sl (some ⟨g1, 0, none⟩) c1 82 5 (G.length + 1) (ruC G), sl (some ⟨g2, 0, none⟩) c2 3 1 (G.length + 1) (lvC G (k + 1)), sl (some ⟨g3, 0, none⟩) c3 80 1 (G.length + 1) (kzC G (k + 1))]) := by
 obtain ⟨d1, d2, d3⟩ := hs.down2 hw hr
 have hkl := qCn (hw.ok k r hr)
 cases r with
 | letter b =>
  refine zQ (hE.fn Tryz.func70) rfl rfl rfl (fun R => ?_)
  simp only [qAa, uV, uW]
  simp only [Rl.kind, Rl.byte, Rl.left, Rl.right, Rl.times]
  refine qK (qI (uU ?_))
  refine qAs rfl (fun b3 => ?_)
  refine uA rfl (qL (qJ (qK (qK (qI (uB (uBf rfl) ?_))))))
  refine uL ?_
  refine qL (qJ (zM (qK (qI (uB (y_eq rfl rfl) ?_)))))
  refine uA rfl (qL (qJ (zF rfl (qK (qI (uB (y_eq rfl rfl) ?_))))))
  refine uA rfl (qL (qJ (zF rfl (zD (zK (qJ (qK (qI (uA rfl (qL (qJ (kD ?_))))))))))))
  exact uZ rfl (.tmp rfl .nil) ⟨rfl, rfl⟩
 | pair a b =>
  have ha := hkl a (by simp [kids])
  have hb := hkl b (by simp [kids])
  refine zQ (hE.fn Tryz.func70) rfl rfl rfl (fun R => ?_)
  simp only [qAa, uV, uW]
  simp only [Rl.kind, Rl.byte, Rl.left, Rl.right, Rl.times]
  refine qK (qI (uU ?_))
  refine qAs rfl (fun b3 => ?_)
  refine uA rfl (qL (qJ (qK (qK (qI (uB (uBf rfl) ?_))))))
  refine uL ?_
  refine qL (qJ (zM (qK (qI (uB (y_eq rfl rfl) ?_)))))
  refine uA rfl (qL (qJ (zH rfl (qK (qI (uM rfl (uB (uBf rfl) ?_)))))))
  refine uL ?_
  refine uB (uBf rfl) ?_
  refine uL ?_
  refine uX (qUe (k := k + 1) hE hB hw hGl (by omega) hlk ⟨ha.1, by omega⟩ ⟨hb.1, by omega⟩ (d1 a (by simp [kids])).1 (d2 a b rfl)) rfl ?_
  rintro _ _ ⟨rfl, rfl⟩
  simp only [uV, uW]
  refine uA rfl (qL (qJ (kD (zP (qW ?_)))))
  exact uZ rfl (.tmp rfl .nil) ⟨rfl, rfl⟩
 | power a t =>
  have ha := hkl a (by simp [kids])
  refine zQ (hE.fn Tryz.func70) rfl rfl rfl (fun R => ?_)
  simp only [qAa, uV, uW]
  simp only [Rl.kind, Rl.byte, Rl.left, Rl.right, Rl.times]
  refine qK (qI (uU ?_))
  refine qAs rfl (fun b3 => ?_)
  refine uA rfl (qL (qJ (qK (qK (qI (uB (uBf rfl) ?_))))))
  refine uL ?_
  refine qL (qJ (zM (qK (qI (uB (y_eq rfl rfl) ?_)))))
  refine uA rfl (qL (qJ (zF rfl (qK (qI (uB (y_eq rfl rfl) ?_))))))
  refine uA rfl (qL (qJ (zH rfl (qK (qI (uM rfl (uB (uBf rfl) ?_)))))))
  refine uL ?_
  refine uB (uBf rfl) ?_
  refine uL ?_
  refine uX (qUe (k := k + 1) hE hB hw hGl (by omega) hlk ⟨ha.1, by omega⟩ ⟨ha.1, by omega⟩ (d1 a (by simp [kids])).1 (d3 a t rfl)) rfl ?_
  rintro _ _ ⟨rfl, rfl⟩
  simp only [uV, uW]
  refine uA rfl (qL (qJ (kD (zP (qW ?_)))))
  exact uZ rfl (.tmp rfl .nil) ⟨rfl, rfl⟩
end
end Go.Proofs.YtkkjjablmmmmkaaGreatDoor
