import Derived.Test.YtkkjjablmmmmkaaGreatDoorQ81
set_option linter.all false
namespace Go.Proofs.YtkkjjablmmmmkaaGreatDoor
set_option maxRecDepth 10000
section
open Go Go.RowKit Eg
set_option maxRecDepth 100000
variable {w w' : World} {s most bm : Nat} {E : List Ent} {lv : Value}
theorem qFk (w : World) (r : Rl) (h : StoreAt w s most E lv bm) (hr : idOf (rls E) r = 0) (hf : E.length = most) :
  Calls Tryz.prog 73 #[.pointer (some ⟨s, 0, none⟩), .agg #[.int .i64 (Rl.kind (r) : Nat), .int .u8 (Rl.byte (r) : Nat), .int .i64 (Rl.left (r) : Nat), .int .i64 (Rl.right (r) : Nat), .int .i64 (Rl.times (r) : Nat)]] w fun e w' => e = .returned (.tuple #[.int .i64 0, .iface 36 (.int .i64 3)]) ∧ Below w.heap.size w w' := by
 have hl : E.length ≤ 1048576 := Nat.le_trans h.fits h.most_le
 have hm : most ≤ 1048576 := h.most_le
 have hlk : ∀ nq, (Instr.lookup 120 (.map (some bm)) (.agg #[.int .i64 (Rl.kind (r) : Nat), .int .u8 (Rl.byte (r) : Nat), .int .i64 (Rl.left (r) : Nat), .int .i64 (Rl.right (r) : Nat), .int .i64 (Rl.times (r) : Nat)]) true).run Tryz.prog ((w.alloc (.cells #[.int .i64 (Rl.kind (r) : Nat), .int .u8 (Rl.byte (r) : Nat), .int .i64 (Rl.left (r) : Nat), .int .i64 (Rl.right (r) : Nat), .int .i64 (Rl.times (r) : Nat)] 82)).drewN nq) = .ok (.tuple #[.int .i64 (idOf (rls E) r : Nat), .bool (!decide (idOf (rls E) r = 0))]) ((w.alloc (.cells #[.int .i64 (Rl.kind (r) : Nat), .int .u8 (Rl.byte (r) : Nat), .int .i64 (Rl.left (r) : Nat), .int .i64 (Rl.right (r) : Nat), .int .i64 (Rl.times (r) : Nat)] 82)).drewN nq) := by
  intro nq
  refine qPq (rls E) r _ bm ?_
  show (w.alloc _).heap[bm]? = _
  rw [Below.heap_alloc w _ bm (Array.getElem?_eq_some_iff.1 h.ids).1]
  exact h.ids
 obtain ⟨a, c, rfl, hc⟩ := h.slice
 have k0 := h.top.cell 0 rfl
 have k1 := h.top.cell 1 rfl
 have k2 := h.top.cell 2 rfl
 have b0 := h.top.lt
 clear h hc
 rw [hr] at hlk
 subst hf
 go_enter Tryz.func73, Tryz.ntmps73
 go_wp2_with fail
 go_quiet (fail)
 go_wp2_with fail
 go_quiet (fail)
 go_wp2_with fail
 go_ret2
 refine ⟨rfl, ?_⟩
 first | exact qJw (by go_grown) | exact qJw (qJw (by go_grown)) | exact qJw (qJw (qJw (by go_grown)))
theorem qKj (w : World) (b : UInt8) (h : StoreAt w s most E lv bm) (hz : idOf (rls E) (.letter b) = 0) (hf : E.length = most) :
  Calls Tryz.prog 43 #[.pointer (some ⟨s, 0, none⟩), .int .u8 b.toNat] w fun e w' => e = .returned (.tuple #[.int .i64 0, .iface 36 (.int .i64 3)]) ∧ Below w.heap.size w w' := by
 have HS := Lib.hid h
 have hb := b.toNat_lt
 have hs := h.top.lt
 have hfd := fun W (hW : StoreAt W s most E lv bm) => qFk W (.letter b) hW hz hf
 have HFD := Lib.hid hfd
 clear h hfd hz
 go_enter Tryz.func43, Tryz.ntmps43
 go_wp2_with fail
 refine (HFD.out _ (HS.out.below (by go_grown))).mono ?_
 rintro e w1 ⟨rfl, hb1⟩
 have hw1 : Below w.heap.size w w1 := Below.trans (by go_grown) (hb1.mono (by simp))
 have HW1 := Lib.hid hw1
 clear hb1 hw1
 go_wp2_with fail
 go_ret2
 exact ⟨rfl, HW1.out⟩
set_option maxHeartbeats 2000000 in
theorem qNx (w : World) (i j : Nat) (xl xr : Ent) (h : StoreAt w s most E lv bm) (hi : E[i]? = some xl) (hj : E[j]? = some xr) (hlen : xl.t.length + xr.t.length ≤ kJ) (hz : idOf (rls E) (.pair (i + 1) (j + 1)) = 0) (hf : E.length = most) :
  Calls Tryz.prog 44 #[.pointer (some ⟨s, 0, none⟩), .int .i64 ((i + 1 : Nat) : Int), .int .i64 ((j + 1 : Nat) : Int)] w fun e w' => e = .returned (.tuple #[.int .i64 0, .iface 36 (.int .i64 3)]) ∧ Below w.heap.size w w' := by
 have hil : i < E.length := (List.getElem?_eq_some_iff.1 hi).1
 have hjl : j < E.length := (List.getElem?_eq_some_iff.1 hj).1
 have hl20 : E.length ≤ 1048576 := Nat.le_trans h.fits h.most_le
 have HS := Lib.hid h
 have HI := Lib.hid hi
 have HJ := Lib.hid hj
 have HLEN := Lib.hid hlen
 have hs := h.top.lt
 have hfd := fun W (hW : StoreAt W s most E lv bm) => qFk W (.pair (i + 1) (j + 1)) hW hz hf
 have HFD := Lib.hid hfd
 have z1 : (((i + 1 : Nat) : Int) == 0) = false := by simp; omega
 have z2 : (((j + 1 : Nat) : Int) == 0) = false := by simp; omega
 clear h hfd hi hj hlen hz
 go_enter Tryz.func44, Tryz.ntmps44
 go_wp2_with fail
 refine (qCk _ i HS.out hil).mono ?_
 rintro e w' ⟨rfl, rfl⟩
 go_wp2_with fail
 refine (qCk _ j HS.out hjl).mono ?_
 rintro e w' ⟨rfl, rfl⟩
 go_wp2_with fail
 refine (qGq _ i xl HS.out HI.out).mono ?_
 rintro e w1 ⟨rfl, hb1⟩
 have HS1 := Lib.hid (HS.out.below hb1)
 have HW1 := Lib.hid hb1
 clear hb1
 go_wp2_with fail
 refine (qGq _ j xr HS1.out HJ.out).mono ?_
 rintro e w2 ⟨rfl, hb2⟩
 have HS2 := Lib.hid (HS1.out.below hb2)
 have HW2 := Lib.hid (HW1.out.trans (hb2.mono HW1.out.size))
 clear hb2
 go_wp2_with fail
 refine (qKn _ _ _ HLEN.out).mono ?_
 rintro e w' ⟨rfl, rfl⟩
 go_wp2_with fail
 refine (HFD.out _ (HS2.out.below (by go_grown))).mono ?_
 rintro e w3 ⟨rfl, hb3⟩
 have HW3 := Lib.hid (HW2.out.trans (Below.mono (Below.trans (b := ((w2.alloc (.cells xl.cells.toArray 139)).alloc (.cells xr.cells.toArray 139)).alloc (.cells #[.int .i64 2, .int .u8 0, .int .i64 ((i + 1 : Nat) : Int), .int .i64 ((j + 1 : Nat) : Int), .int .i64 0] 82)) (by go_grown) (hb3.mono (by simp; omega))) HW2.out.size))
 clear hb3
 go_wp2_with fail
 go_ret2
 exact ⟨rfl, HW3.out⟩
set_option maxHeartbeats 2000000 in
theorem qMh (w : World) (i k : Nat) (xl : Ent) (h : StoreAt w s most E lv bm) (hi : E[i]? = some xl) (hk : 2 ≤ k) (hlen : xl.t.length * k ≤ kJ) (hz : idOf (rls E) (.power (i + 1) k) = 0) (hf : E.length = most) :
  Calls Tryz.prog 71 #[.pointer (some ⟨s, 0, none⟩), .int .i64 ((i + 1 : Nat) : Int), .int .i64 k] w fun e w' => e = .returned (.tuple #[.int .i64 0, .iface 36 (.int .i64 3)]) ∧ Below w.heap.size w w' := by
 have hil : i < E.length := (List.getElem?_eq_some_iff.1 hi).1
 have hl20 : E.length ≤ 1048576 := Nat.le_trans h.fits h.most_le
 have hti := h.texts i xl hi
 have hpos : 1 ≤ xl.t.length := by rw [hti]; exact h.wf.pos (i + 1) (by omega) (by rw [zS]; omega)
 have hkm : k ≤ kJ := Nat.le_trans (Nat.le_mul_of_pos_left k hpos) hlen
 have hle : xl.t.length ≤ kJ := Nat.le_trans (Nat.le_mul_of_pos_right _ (by omega)) hlen
 have HPOS := Lib.hid hpos
 have HLE := Lib.hid hle
 have HS := Lib.hid h
 have HI := Lib.hid hi
 have HLEN := Lib.hid hlen
 have hs := h.top.lt
 have hfd := fun W (hW : StoreAt W s most E lv bm) => qFk W (.power (i + 1) k) hW hz hf
 have HFD := Lib.hid hfd
 have z1 : (((i + 1 : Nat) : Int) == 0) = false := by simp; omega
 have z2 : ((k : Int) == 0) = false := by simp; omega
 have z3 : ((k : Int) == 1) = false := by simp; omega
 have z4 : decide ((k : Int) < 0) = false := by simp
 clear h hfd hi hlen hti hpos hkm hle hz
 go_enter Tryz.func71, Tryz.ntmps71
 go_wp2_with fail
 refine (qCk _ i HS.out hil).mono ?_
 rintro e w' ⟨rfl, rfl⟩
 go_wp2_with fail
 refine (qGq _ i xl HS.out HI.out).mono ?_
 rintro e w2 ⟨rfl, hb1⟩
 have HS2 := Lib.hid (HS.out.below hb1)
 have HW2 := Lib.hid hb1
 clear hb1
 go_wp2_with fail
 refine (qKi _ k _ HLE.out HPOS.out HLEN.out).mono ?_
 rintro e w' ⟨rfl, rfl⟩
 go_wp2_with fail
 refine (HFD.out _ (HS2.out.below (by go_grown))).mono ?_
 rintro e w3 ⟨rfl, hb3⟩
 have HW3 := Lib.hid (HW2.out.trans (Below.mono (Below.trans (b := (w2.alloc (.cells xl.cells.toArray 139)).alloc (.cells #[.int .i64 3, .int .u8 0, .int .i64 ((i + 1 : Nat) : Int), .int .i64 0, .int .i64 k] 82)) (by go_grown) (hb3.mono (by simp; omega))) HW2.out.size))
 clear hb3
 go_wp2_with fail
 go_ret2
 exact ⟨rfl, HW3.out⟩
end
section
open Go Go.RowKit Sl Eg
variable {E : Env} {Es : List Ent} {s most : Nat}
theorem qZs (hE : Seat E) (b : UInt8) (hz : idOf (rls Es) (.letter b) = 0) (hf : Es.length = most) : Ct E 43 [uPt s, .int .u8 (b.toNat : Nat)] [zT s most Es] (fun u Q => u = .tuple #[.int .i64 0, .iface 36 (.int .i64 3)] ∧ Q = [zT s most Es]) :=
 qCi hE fun w _ _ h => qKj w b h hz hf
theorem ct_pairF (hE : Seat E) {i j : Nat} {xl xr : Ent} (hi : Es[i]? = some xl) (hj : Es[j]? = some xr) (hlen : xl.t.length + xr.t.length ≤ kJ) (hz : idOf (rls Es) (.pair (i + 1) (j + 1)) = 0) (hf : Es.length = most) : Ct E 44 [uPt s, .int .i64 ((i + 1 : Nat) : Int), .int .i64 ((j + 1 : Nat) : Int)] [zT s most Es] (fun u Q => u = .tuple #[.int .i64 0, .iface 36 (.int .i64 3)] ∧ Q = [zT s most Es]) :=
 qCi hE fun w _ _ h => qNx w i j xl xr h hi hj hlen hz hf
theorem zEi (hE : Seat E) {i k : Nat} {xl : Ent} (hi : Es[i]? = some xl) (hk : 2 ≤ k) (hlen : xl.t.length * k ≤ kJ) (hz : idOf (rls Es) (.power (i + 1) k) = 0) (hf : Es.length = most) : Ct E 71 [uPt s, .int .i64 ((i + 1 : Nat) : Int), .int .i64 (k : Nat)] [zT s most Es] (fun u Q => u = .tuple #[.int .i64 0, .iface 36 (.int .i64 3)] ∧ Q = [zT s most Es]) :=
 qCi hE fun w _ _ h => qMh w i k xl h hi hk hlen hz hf
theorem ct_xAddF (hE : Seat E) {r r' : Rl} {T : List Nat} {gt ct : Nat} (hTl : T.length ≤ 1000000) (hm : MkOk (rls Es) T r r') (hz : idOf (rls Es) r' = 0) (hf : Es.length = most) : Ct E 41 [uPt s, .agg #[.int .i64 (Rl.kind (r) : Nat), .int .u8 (Rl.byte (r) : Nat), .int .i64 (Rl.left (r) : Nat), .int .i64 (Rl.right (r) : Nat), .int .i64 (Rl.times (r) : Nat)], .slice (some ⟨gt, 0, none⟩) T.length ct] [zT s most Es, sl (some ⟨gt, 0, none⟩) ct 37 1 T.length (idC T)]
  (fun v Q => v = .tuple #[.int .i64 0, .iface 36 (.int .i64 3)] ∧ Q = [zT s most Es, sl (some ⟨gt, 0, none⟩) ct 37 1 T.length (idC T)]) := by
 refine qBt (p := zT s most Es) uK (fun _ h => qAj h) (fun hsay => ?_)
 have hT100 := hTl
 cases hm with
 | letter b =>
  refine zQ (hE.fn Tryz.func41) rfl rfl rfl (fun R => ?_)
  simp only [qAa, uV, uW]
  simp only [Rl.kind, Rl.byte, Rl.left, Rl.right, Rl.times]
  refine qK (qI (uU ?_))
  refine qAs rfl (fun b4 => ?_)
  refine uA rfl (uA rfl (qL (qJ (qK (qK (qI (uB (uBf rfl) ?_)))))))
  refine uL ?_
  refine qL (qJ (zM (qK (qI (uB (y_eq rfl rfl) ?_)))))
  refine uA rfl (qL (qJ (zH rfl (qK (qI (uM rfl (uB (uBf rfl) ?_)))))))
  refine uL ?_
  refine uX (qZs (s := s) (most := most) (Es := Es) hE b hz hf) rfl ?_
  rintro _ _ ⟨rfl, rfl⟩
  simp only [uV, uW]
  refine uB (qU rfl rfl) (uB (qU rfl rfl) (uA rfl (uA rfl (qL (qJ (kD (zP (qW ?_))))))))
  exact uZ rfl (.tmp rfl (.tmp rfl .nil)) ⟨rfl, rfl⟩
 | @pair a b x y ha hb x1 x2 y1 y2 hl =>
  have hat := (List.getElem?_eq_some_iff.1 ha).1
  have hbt := (List.getElem?_eq_some_iff.1 hb).1
  obtain ⟨x, rfl⟩ : ∃ k, x = k + 1 := ⟨x - 1, by omega⟩
  obtain ⟨y, rfl⟩ : ∃ k, y = k + 1 := ⟨y - 1, by omega⟩
  rw [zS] at x2 y2
  obtain ⟨e1, he1⟩ : ∃ x', Es[x]? = some x' := ⟨_, List.getElem?_eq_getElem (by omega)⟩
  obtain ⟨e2, he2⟩ : ∃ x', Es[y]? = some x' := ⟨_, List.getElem?_eq_getElem (by omega)⟩
  have hlen : e1.t.length + e2.t.length ≤ kJ := by rw [hsay.2.1 _ _ he1, hsay.2.1 _ _ he2]; exact hl
  have f0 := qAl ha (((a : Nat) : Int).toNat) (by omega)
  have f1 := qAl hb (((b : Nat) : Int).toNat) (by omega)
  refine zQ (hE.fn Tryz.func41) rfl rfl rfl (fun R => ?_)
  simp only [qAa, uV, uW]
  simp only [Rl.kind, Rl.byte, Rl.left, Rl.right, Rl.times]
  refine qK (qI (uU ?_))
  refine qAs rfl (fun b4 => ?_)
  refine uA rfl (uA rfl (qL (qJ (qK (qK (qI (uB (uBf rfl) ?_)))))))
  refine uL ?_
  refine qL (qJ (zM (qK (qI (uB (y_eq rfl rfl) ?_)))))
  refine uA rfl (qL (qJ (zF rfl (qK (qI (uB (y_eq rfl rfl) ?_))))))
  refine uA rfl (qL (qJ (zH rfl (qK ?_))))
  refine uH ([cells b4 [.int .i64 ((2 : Nat) : Int), .int .u8 ((0 : Nat) : Int), .int .i64 (a : Nat), .int .i64 (b : Nat), .int .i64 ((0 : Nat) : Int)] 82, sl (some ⟨gt, 0, none⟩) ct 37 1 T.length (idC T)]) ?_
  refine uD 0 rfl (qB rfl) ?_
  refine uD 1 rfl (qB rfl) ?_
  refine uD 2 rfl (uBf rfl) ?_
  refine uD 3 rfl (uY) ?_
  refine uD 4 rfl (uAj rfl rfl) ?_
  refine uD 5 rfl (uY) ?_
  refine uD 6 rfl (qB rfl) ?_
  refine uD 7 rfl (uBf rfl) ?_
  refine uD 8 rfl (uY) ?_
  refine uD 9 rfl (uAj rfl rfl) ?_
  refine uD 10 rfl (uY) ?_
  apply kP 11 rfl (by kernel_rfl) rfl
  refine uC (ct_pairF (s := s) (most := most) (Es := Es) hE he1 he2 hlen hz hf) rfl ?_
  rintro _ _ ⟨rfl, rfl⟩
  simp only [uV, uW]
  refine uE ?_
  refine uD 12 rfl (qU rfl rfl) ?_
  refine uD 13 rfl (qU rfl rfl) ?_
  refine uD 14 rfl (qC rfl) ?_
  refine uD 15 rfl (qC rfl) ?_
  refine qCz (by kernel_rfl) ?_
  refine qJ (kD (zP (qW ?_)))
  exact uZ rfl (.tmp rfl (.tmp rfl .nil)) ⟨rfl, rfl⟩
 | @power a k x ha x1 x2 hk hk2 hl =>
  have hat := (List.getElem?_eq_some_iff.1 ha).1
  obtain ⟨x, rfl⟩ : ∃ k, x = k + 1 := ⟨x - 1, by omega⟩
  rw [zS] at x2
  obtain ⟨e1, he1⟩ : ∃ x', Es[x]? = some x' := ⟨_, List.getElem?_eq_getElem (by omega)⟩
  have hlen : e1.t.length * k ≤ kJ := by rw [hsay.2.1 _ _ he1]; exact hl
  have f0 := qAl ha (((a : Nat) : Int).toNat) (by omega)
  refine zQ (hE.fn Tryz.func41) rfl rfl rfl (fun R => ?_)
  simp only [qAa, uV, uW]
  simp only [Rl.kind, Rl.byte, Rl.left, Rl.right, Rl.times]
  refine qK (qI (uU ?_))
  refine qAs rfl (fun b4 => ?_)
  refine uA rfl (uA rfl (qL (qJ (qK (qK (qI (uB (uBf rfl) ?_)))))))
  refine uL ?_
  refine qL (qJ (zM (qK (qI (uB (y_eq rfl rfl) ?_)))))
  refine uA rfl (qL (qJ (zF rfl (qK (qI (uB (y_eq rfl rfl) ?_))))))
  refine uA rfl (qL (qJ (zF rfl (zD (zK (qJ (qK ?_)))))))
  refine uH ([cells b4 [.int .i64 ((3 : Nat) : Int), .int .u8 ((0 : Nat) : Int), .int .i64 (a : Nat), .int .i64 ((0 : Nat) : Int), .int .i64 (k : Nat)] 82, sl (some ⟨gt, 0, none⟩) ct 37 1 T.length (idC T)]) ?_
  refine uD 0 rfl (qB rfl) ?_
  refine uD 1 rfl (qB rfl) ?_
  refine uD 2 rfl (uBf rfl) ?_
  refine uD 3 rfl (uY) ?_
  refine uD 4 rfl (uAj rfl rfl) ?_
  refine uD 5 rfl (uY) ?_
  refine uD 6 rfl (uBf rfl) ?_
  refine uD 7 rfl (uY) ?_
  apply kP 8 rfl (by kernel_rfl) rfl
  refine uC (zEi (s := s) (most := most) (Es := Es) hE he1 hk hlen hz hf) rfl ?_
  rintro _ _ ⟨rfl, rfl⟩
  simp only [uV, uW]
  refine uE ?_
  refine uD 9 rfl (qU rfl rfl) ?_
  refine uD 10 rfl (qU rfl rfl) ?_
  refine uD 11 rfl (qC rfl) ?_
  refine uD 12 rfl (qC rfl) ?_
  refine qCz (by kernel_rfl) ?_
  refine qJ (kD ?_)
  exact uZ rfl (.tmp rfl (.tmp rfl .nil)) ⟨rfl, rfl⟩
end
section
open Go Go.RowKit Sl Eg
variable {E : Env} {pp tb s most m bm : Nat}
theorem qZk (hE : Seat E) (hB : Base E.w0) {G : List Rl} (hw : Wf G) {A : List (List UInt8 × Nat)} (hG : GOk 0 G) (hGl : G.length ≤ 100000) (ht : ∀ r ∈ G, r.times ≤ 1152921504606846976) (hA1 : ∀ p ∈ A, ValidN p.1 ∧ p.2 ≤ G.length) (hA2 : ∀ (i : Nat) (p q : List UInt8 × Nat), A[i]? = some p → A[i + 1]? = some q → Op.bytesLess p.1 q.1 = true) (hAl : A.length ≤ 1000)
  (hA : ∀ p ∈ A, p.2 ≤ G.length ∧ len G p.2 ≤ 256) (hlk : ∀ j, 1 ≤ j → j ≤ G.length → 0 ≤ lvl G j ∧ lvl G j ≤ 1048576) (hs : ∀ j, 1 ≤ j → j ≤ G.length → Sig G j) (hvis : kK G (A.map (·.2)) [] = (List.range G.length).map (· + 1))
  {Bs : List UInt8} (hBs : Bs = encA G A) {a : Option Addr} {c : Nat} {q : HP} (hq : Rdb E.w0 a (byC Bs) q) (hc : Bs.length ≤ c) (hcl : Bs.length ≤ 1099511627776) (hfull : most < G.length) :
  Ct E 15 [uPt m, .slice a Bs.length c] [cells pp [uPt s, uPt tb] 106, tabP tb s (rls ([] : List Ent)), zT s most ([] : List Ent), cells m [uPt pp, .map (some bm)] 103, q]
   (fun v Q => v = .tuple #[.slice none 0 0, .iface 36 (.int .i64 3)] ∧ Q = [cells m [uPt pp, .map (some bm)] 103, q]) := by
 have hml : G.length + 1 ≤ maxLen := by unfold maxLen; omega
 refine zQ (hE.fn Tryz.func15) rfl rfl rfl (fun R => ?_)
 simp only [qAa, uV, uW]
 refine qK (qI (uA rfl (uA rfl (qL (qJ (qK (qI (uM rfl (uX (qDp (m := m) (pp := pp) (bm := bm) hE) rfl ?_)))))))))
 rintro _ _ ⟨rfl, rfl⟩
 simp only [uV, uW]
 refine uX (qGp (pp := pp) (s := s) (tb := tb) hE) rfl ?_
 rintro _ _ ⟨rfl, rfl⟩
 simp only [uV, uW]
 refine uA rfl (qL (qJ (qK (qK (qI (uM rfl (uB (qBr rfl (hE.t rfl)) ?_)))))))
 refine qL (qJ (zF rfl (zD (qJ (qK (qI (uM rfl ?_)))))))
 refine uX (zCg (a := a) (c := c) (q := q) hE hG hGl ht hA1 hA2 hAl hBs hq hc hcl) rfl ?_
 rintro _ _ ⟨pg, cg, pl, cl, rfl, rfl⟩
 simp only [uV, uW]
 refine uM rfl (uB (qU rfl rfl) (uB (qU rfl rfl) (uB (qU rfl rfl) (uA rfl (uA rfl (uA rfl (qL (qJ (qK (qK (qI ?_)))))))))))
 refine uM rfl (uB (qBn rfl) ?_)
 refine uM rfl (kU rfl rfl (uM rfl (kU rfl rfl (uM rfl (kU rfl rfl ?_)))))
 refine uX (qUu (pg := pg) (cg := cg) (pl := pl) (cl := cl) hE hB hw hGl hAl hA hlk hs hvis) rfl ?_
 rintro _ _ ⟨rfl, rfl⟩
 simp only [uV, uW]
 refine kU rfl rfl (uB (qBn rfl) ?_)
 refine uB (qY rfl rfl) ?_
 refine qL (qJ (zF rfl (zD (qJ (qK (qI (uM rfl (uB (uBl rfl) ?_))))))))
 refine uB (uAa rfl rfl) ?_
 refine uU ?_
 refine qBb (c := G.length + 1) (hE.t rfl) (hE.t rfl) rfl (by omega) (by omega) (by (unfold maxLen; omega)) (fun b40 => ?_)
 refine uA rfl (qL (qJ (qK (qK (qI (uM rfl (uB (uBl rfl) ?_)))))))
 refine uM rfl (qL (qJ (zM ?_)))
 rw [qXw (Z := id) rfl]
 refine qCy (p := sl pg cg 82 5 G.length (rusC G)) uK (fun _ h => fun hpos => qAi h hpos) ?_
 intro hpg
 obtain ⟨g, rfl⟩ := hpg (by omega)
 refine qAc (fun x : ImG => [(6, uPt s), (10, .slice (some ⟨b40, 0, none⟩) (G.length + 1) (G.length + 1)), (41, .slice (some ⟨g, 0, none⟩) G.length cg), (42, .int .i64 (G.length : Nat)), (43, .int .i64 (x.k : Nat))]) (fun x => [zT s most x.Es, cells m [uPt pp, .map (some bm)] 103, q, sl (some ⟨g, 0, none⟩) cg 82 5 G.length (rusC G), sl (some ⟨b40, 0, none⟩) (G.length + 1) 37 1 (G.length + 1) (idC (tkL id (G.length + 1) x.k)), R]) (fun x => most - x.k) (fun x => x.k ≤ most ∧ rls x.Es = G.take x.k) ⟨0, []⟩ ⟨Nat.zero_le _, rfl⟩ ⟨rfl, rfl, rfl, rfl, rfl, trivial⟩ uI ?_
 rintro ⟨k, Es⟩ ⟨hk, hEs⟩
 simp only at hk hEs ⊢
 have hkl : k < G.length := by omega
 obtain ⟨r, hr⟩ : ∃ x, G[k]? = some x := ⟨_, List.getElem?_eq_getElem hkl⟩
 obtain ⟨f0, f1, f2, f3, f4⟩ := qFy hr (0 + ((k : Nat) : Int).toNat * 5) (by omega)
 have hmk := imp_ok hw hr
 rw [← hEs] at hmk
 have hEl : Es.length = k := by rw [← zS, hEs, List.length_take]; omega
 have htl := qKk id (G.length + 1) k
 refine qK (qI (uB (y_lt rfl rfl) ?_))
 refine qL (qJ (qK ?_))
 refine zG rfl (fun h1 => ?_) (fun h1 => ?_)
 ·refine zD (qJ (qK (zM (qK (qI ?_)))))
  refine uM rfl (uB (uAi rfl rfl) ?_)
  refine uB (uG) ?_
  refine uU (kH (hE.t rfl) (fun b12 => ?_))
  refine uA rfl (uU (uS ?_))
  refine qL (qJ (qK (qI (uM rfl (uB (uG) ?_)))))
  refine uM rfl ?_
  refine l_eq 51 (.slice (some ⟨b40, 0, none⟩) (tkL id (G.length + 1) k).length (G.length + 1)) rfl (by rw [htl]) ?_
  refine qMa (kF (p := sl (some ⟨b40, 0, none⟩) (G.length + 1) 37 1 (G.length + 1) (idC (tkL id (G.length + 1) k))) (p' := sl (some ⟨b40, 0, none⟩) (G.length + 1) 37 1 (tkL id (G.length + 1) k).length (idC (tkL id (G.length + 1) k))) uK (fun _ h => by rw [htl]; exact h)) ?_
  by_cases hroom : k < most
  ·apply qH (by kernel_rfl) rfl
   refine uC (zBu (s := s) (most := most) (Es := Es) (r := r) (r' := r) (T := tkL id (G.length + 1) k) (gt := b40) (ct := G.length + 1) hE (by omega) hmk (by omega)) rfl ?_
   rintro _ _ ⟨M, i, rfl, hM, hi1, hid, rfl⟩
   obtain ⟨rfl, hEM⟩ := qZc hw hr hEs hM hi1 hid
   rw [htl]
   simp only [uV, uW]
   refine uM rfl (uB (qU rfl rfl) (uB (qU rfl rfl) (uA rfl (uA rfl (qL (qJ (qK (qK (qI (uM rfl ?_))))))))))
   refine uB (qAg rfl (hE.t rfl)) ?_
   refine qL (qJ (zF rfl (zD (qJ (qI (uM rfl (uM rfl (uB (uAa rfl rfl) ?_))))))))
   refine uM rfl (uB (uAj rfl rfl) ?_)
   refine uU (uJ ?_)
   refine qL (zK (qJ ?_))
   rw [zDn (Z := id) (n := G.length + 1) (k := k) (v := ((k + 1 : Nat) : Int)) (by omega) ((((k : Nat) : Int) + 1).toNat) (by omega) rfl]
   refine qI (uB (uAa rfl rfl) ?_)
   refine uM rfl (qL ?_)
   refine zU (ι := ImG) (j := ⟨k + 1, Es ++ M⟩) ⟨by simp only; omega, hEM⟩ (by simp only; omega) ⟨rfl, rfl, rfl, rfl, congrArg some (zY (by simp only; omega)), trivial⟩ uI
  have hz : idOf (rls Es) r = 0 := qCs.2 (fun hin => by
   rw [hEs] at hin
   obtain ⟨j, hj⟩ := List.getElem?_of_mem hin
   rw [List.getElem?_take] at hj
   split at hj
   ·rename_i hjk
    have := hw.nodup _ _ _ hj hr
    omega
   cases hj)
  refine uX (ct_xAddF (s := s) (most := most) (Es := Es) (r := r) (r' := r) (T := tkL id (G.length + 1) k) (gt := b40) (ct := G.length + 1) hE (by omega) hmk hz (by omega)) rfl ?_
  rintro _ _ ⟨rfl, rfl⟩
  simp only [uV, uW]
  refine uM rfl (uB (qU rfl rfl) (uB (qU rfl rfl) (uA rfl (uA rfl (qL (qJ (qK (qK (qI (uM rfl ?_))))))))))
  refine uB (qSg rfl (hE.t rfl)) ?_
  refine qL (qJ (zH rfl (qK (qI (uM rfl (uA rfl (uA rfl ?_)))))))
  refine qL (qJ (kD (qW (zP (qW (qW (zP (qW ?_))))))))
  exact uZ rfl (.tmp rfl (.tmp rfl .nil)) ⟨rfl, rfl⟩
 exfalso; omega
end
section
open Go Go.RowKit Sl Eg
variable {E : Env}
theorem ghostN (hE : Seat E) (hB : Base E.w0) {l : List Im} (hok : ∀ x ∈ l, Rdb E.w0 x.a (byC x.bs) old) (hlen : ∀ x ∈ l, x.bs.length ≤ 60) (hl : l.length ≤ 6) {H H' : List HP} {w : World} (hs : Sat E.w0 w H) (hsub : Sub [old] H H') :
  ∃ (L : List Rl) (ys : List Nat), RsL L l ys ∧ (∀ (i : Nat) (x : Im) (y : Nat), l[i]? = some x → ys[i]? = some y → txt L y = x.bs) ∧ L.length ≤ 0 + 120 * l.length := by
 have hmr : 1048576 ≤ qAw := Nat.le_refl _
 have s1 : Sat E.w0 w [old, qAb H'] := (hs.sub hsub).imp fun _ => qDr
 obtain ⟨v, Qs, w2, ⟨m, bm, pp, s, tb, rfl, rfl⟩, s2⟩ := qYm (qWb (most := 1048576) hE hmr) s1 Sub.nil
 have hsub2 : Sub [cells pp [uPt s, uPt tb] 106, tabP tb s (rls ([] : List Ent)), zT s 1048576 ([] : List Ent), old] [cells m [uPt pp, .map (some bm)] 103, mapF bm .i64 (fun _ => none), cells pp [uPt s, uPt tb] 106, tabP tb s (rls ([] : List Ent)), zT s 1048576 ([] : List Ent), old, qAb H'] [cells m [uPt pp, .map (some bm)] 103, mapF bm .i64 (fun _ => none), qAb H'] := by ((repeat constructor); done)
 exact ghostS (Es := []) (s := s) (tb := tb) (pp := pp) (most := 1048576) hE hB hok hlen (by rw [List.length_nil]; omega) s2 hsub2
theorem qSq (hE : Seat E) (hB : Base E.w0) {l : List Im} {a : Option Addr} {ca k : Nat} (hk : k < 256) (hq : Rdb E.w0 a (imC l) old) (hok : ∀ x ∈ l, Rdb E.w0 x.a (byC x.bs) old) (hn : l.length ≤ maxLen) :
  Ct E 11 [.slice a l.length ca, .int .u8 (k : Nat)] [old] (fun v Q => v = .bool true ∧ Q = [old]) := by
 have hmr : qAw = 1048576 := rfl
 refine zQ (hE.fn Tryz.func11) rfl rfl rfl (fun R => ?_)
 simp only [qAa, uV, uW]
 refine qK (qI (uA rfl (qL (qJ (qK (qK (qI (uM rfl (uX (ct_good hE hq hn) rfl ?_)))))))))
 rintro _ _ ⟨b1, rfl, hb1, rfl⟩
 simp only [uV, uW]
 refine uB (qBn rfl) ?_
 refine qL (qJ ?_)
 refine qIg rfl (fun g1 => ?_) (fun g1 => ?_)
 ·refine qK (qI ?_)
  refine uA rfl (qL (qJ (kD (qW ?_))))
  exact uZ rfl (.tmp rfl .nil) ⟨rfl, rfl⟩
 have hg : GoodI l := hb1.1 (by simpa using g1)
 have hl6 := hg.2.2
 have hlen : ∀ x ∈ l, x.bs.length ≤ 60 := fun x hx => (hg.1 x hx).2
 have hnm : ∀ x ∈ l, x.name.length ≤ 1000 := fun x hx => by have := (hg.1 x hx).1.2.1; omega
 refine zD (qJ (qK (qI (uM rfl (uB (uAc rfl) ?_)))))
 refine uX (qWb (most := k) hE (by omega)) rfl ?_
 rintro _ _ ⟨m, bm, pp, s, tb, rfl, rfl⟩
 simp only [uV, uW]
 refine uA rfl (qL (qJ (qK (qK (qI (uM rfl (uB (qBr rfl (hE.t rfl)) ?_)))))))
 refine uM rfl (kU rfl rfl (uX (ct_awake hE hB) rfl ?_))
 rintro _ _ ⟨rfl, rfl⟩
 simp only [uV, uW]
 refine kU rfl rfl (uB (qBn rfl) ?_)
 refine uB (qY rfl rfl) ?_
 refine qL (qJ (zF rfl (zD (qJ (qK (qI (uM rfl (uM rfl ?_))))))))
 refine l_know (φ := ∃ (L : List Rl) (ys : List Nat), RsL L l ys ∧ (∀ (i : Nat) (x : Im) (y : Nat), l[i]? = some x → ys[i]? = some y → txt L y = x.bs) ∧ L.length ≤ 0 + 120 * l.length) (fun w hs => ?_) ?_
 ·apply ghostN hE hB hok hlen hl6 hs
  ((repeat constructor); done)
 rintro ⟨L, ys, hrs, htx, hLl⟩
 have hlis := hrs.lis
 have hgl : (gram L (kK L ys [])).length = (kK L ys []).length := qDe
 have hvl := hlis.acc.len
 have hG4 : (gram L (kK L ys [])).length ≤ 100000 := by omega
 have hyl : (ys.map (numb (kK L ys []))).length = l.length := by rw [List.length_map]; exact hrs.yl
 have hAl := qQd (l := l) hyl
 have hAs := nmA_snd (l := l) hyl
 have hgv := qXc hrs.wf hrs.bound hlis
 have hnam := hrs.names htx hg
 have hord := nmA_ord (ns := ys.map (numb (kK L ys []))) hg
 have hrule := fun j h1 h2 => hrs.rule hlen (j := j) h1 h2
 refine uX (qTb hE hrs hq hok hlen hnm hl6 hG4) rfl ?_
 rintro _ _ ⟨g2, c2, B2, rfl, hBB, rfl⟩
 simp only [uV, uW]
 rw [← hAs, ← hgl] at hgv
 have hti := hlis.times
 have hgok := qRt hlis.wf hlis.acc hlis.ord
 have hBl : B2.length ≤ 1099511627776 := by
  have h1 := qXz (gram L (kK L ys [])) 0 hti (by omega)
  have h2 := qXl (nmA l (ys.map (numb (kK L ys [])))) (fun p hp => by
   have := (hnam p hp).1
   have := this.1.2.1
   omega)
  have h3 := qAk (n := (gram L (kK L ys [])).length) (by omega)
  have h4 := qAk (n := (nmA l (ys.map (numb (kK L ys [])))).length) (by omega)
  rw [hBB]
  simp only [encA, List.length_append]
  omega
 have hnames := fun Z => zCp (L := L) (l := l) hrs.yl Z _ rfl
 generalize hAg : nmA l (ys.map (numb (kK L ys []))) = A at *
 refine qOh (p := sl (some ⟨g2, 0, none⟩) c2 5 1 B2.length (byC B2)) uK (fun _ h => (qIi h).1) (fun hc2 => ?_)
 have hr2 : Rdb E.w0 (some ⟨g2, 0, none⟩) (byC B2) (sl (some ⟨g2, 0, none⟩) c2 5 1 B2.length (byC B2)) := fun _ => ⟨g2, 0, rfl, qUa (fun _ _ h => h)⟩
 by_cases hfit : k < (gram L (kK L ys [])).length
 ·apply qH (by kernel_rfl) rfl
  refine uC (qZk (s := s) (most := k) (tb := tb) (pp := pp) (m := m) (bm := bm) (A := A) hE hB hlis.gwf hgok hG4 hti (fun p hp => (hnam p hp).1) hord (by omega) (fun p hp => ⟨(hnam p hp).1.2, (hnam p hp).2⟩) (fun j h1 h2 => (hrule j h1 h2).2) (fun j h1 h2 => (hrule j h1 h2).1) hgv hBB hr2 hc2 hBl hfit) rfl ?_
  rintro _ _ ⟨rfl, rfl⟩
  simp only [uV, uW]
  refine uM rfl (uB (qU rfl rfl) (uB (qU rfl rfl) (uA rfl (uA rfl (qL (qJ (qK (qI (uM rfl ?_)))))))))
  refine uX (qIo hE hrs hq hok hlen hl6) rfl ?_
  rintro _ _ ⟨pg, cg, pr, cr, rfl, rfl⟩
  simp only [uV, uW]
  refine uM rfl (uB (qU rfl rfl) (uB (qU rfl rfl) (uA rfl (uA rfl (qL (qJ (qK (qK (qI (uM rfl ?_))))))))))
  refine uB (qSg rfl (hE.t rfl)) ?_
  refine qL (qJ (zH rfl (qK (qI (uM rfl (uB (uBl rfl) ?_))))))
  refine uB (y_eq rfl rfl) ?_
  refine uM rfl ?_
  refine l_eq 42 (.bool true) rfl (by simp) ?_
  refine kU rfl rfl (uM rfl (kU rfl rfl (uX (ct_Is (i := 3) hE (by decide)) rfl ?_)))
  rintro _ _ ⟨rfl, rfl⟩
  simp only [uV, uW]
  refine uB (qX rfl rfl) ?_
  refine uA rfl (qL (qJ (kD (qW ?_))))
  exact uZ rfl (.tmp rfl .nil) ⟨rfl, rfl⟩
 have hr7 : ([] : List Ent).length + (gram L (kK L ys [])).length ≤ k := by rw [List.length_nil]; omega
 refine uX (zBe (Es := []) (s := s) (most := k) (tb := tb) (pp := pp) (m := m) (bm := bm) (A := A) hE hB hlis.gwf hgok hG4 hti (fun p hp => (hnam p hp).1) hord (by omega) (fun p hp => ⟨(hnam p hp).1.2, (hnam p hp).2⟩) (fun j h1 h2 => (hrule j h1 h2).2) (fun j h1 h2 => (hrule j h1 h2).1) hgv hBB hr2 hc2 hBl hr7) rfl ?_
 rintro _ _ ⟨M2, Z, pl, cl, rfl, hM2, hD, rfl⟩
 rw [hAl, hnames]
 simp only [uV, uW]
 refine qOh (p := zT s k ([] ++ M2)) uK (fun _ h => (qAj h).1) (fun hw2 => ?_)
 have tx2 := dcs_txs hrs htx hw2 hD
 have len2 := dcs_len (L := L) hrs.yl Z
 generalize dcs L ys Z = ts at *
 rw [List.nil_append] at *
 refine uM rfl (uB (qU rfl rfl) (uB (qU rfl rfl) (uA rfl (uA rfl (qL (qJ (qK (qI (uM rfl ?_)))))))))
 refine uX (qIo hE hrs hq hok hlen hl6) rfl ?_
 rintro _ _ ⟨pg, cg, pr, cr, rfl, rfl⟩
 simp only [uV, uW]
 refine uM rfl (uB (qU rfl rfl) (uB (qU rfl rfl) (uA rfl (uA rfl (qL (qJ (qK (qK (qI (uM rfl ?_))))))))))
 refine uB (qAg rfl (hE.t rfl)) ?_
 refine qL (qJ (zF rfl (zD (qJ (qK (qK (qI (uM rfl (uB (uBl rfl) ?_)))))))))
 refine uM rfl (uB (uBl rfl) ?_)
 refine uB (y_ne rfl rfl) ?_
 refine uM rfl ?_
 refine l_eq 51 (.bool false) rfl (by simp) ?_
 refine kU rfl rfl (uM rfl (kU rfl rfl (uB (uBl rfl) ?_)))
 refine kU rfl rfl (uM rfl (kU rfl rfl (uB (uAc rfl) ?_)))
 refine kU rfl rfl (uB (y_gt rfl rfl) ?_)
 refine uB (qY rfl rfl) ?_
 refine qL (qJ ?_)
 refine zG rfl (fun g2 => ?_) (fun g2 => ?_)
 ·exfalso; omega
 refine zD (qJ (qK (qK (qI (uA rfl (qL (qJ (zM ?_))))))))
 refine qAc (fun k : Nat => [(0, .slice a l.length ca), (5, uPt m), (6, .slice pl l.length cl), (10, .int .i64 (k : Nat))]) (fun _ => [cells pp [uPt s, uPt tb] 106, zT s k M2, cells m [uPt pp, .map (some bm)] 103, old, sl pl cl 39 2 l.length (nlC (mkN l ts)), R]) (fun k => l.length - k) (fun k => k ≤ l.length) 0 (Nat.zero_le _) ⟨rfl, rfl, rfl, rfl, trivial⟩ uI ?_
 rintro j hj
 refine qCy (p := sl pl cl 39 2 l.length (nlC (mkN l ts))) uK (fun _ h => fun hpos => qAi h hpos) ?_
 intro hf2
 refine qK (qK (qI (uM rfl (uM rfl (uB (uBl rfl) ?_)))))
 refine uB (y_lt rfl rfl) ?_
 refine qL (qJ ?_)
 refine zG rfl (fun g3 => ?_) (fun g3 => ?_)
 ·have hkl : j < l.length := by omega
  obtain ⟨x, hx⟩ : ∃ x, l[j]? = some x := ⟨_, List.getElem?_eq_getElem hkl⟩
  have hxm := List.mem_of_getElem? hx
  have hxl := hlen x hxm
  obtain ⟨u, hu⟩ : ∃ u, ts[j]? = some u := ⟨_, List.getElem?_eq_getElem (by omega)⟩
  obtain ⟨ul, ut⟩ := tx2 j x u hx hu
  obtain ⟨g, o, rfl, hq'⟩ := hq (qZd (by omega))
  obtain ⟨gc, rfl⟩ := hf2 (by omega)
  rw [zS] at ul
  have hul : len (rls M2) u = x.bs.length := by unfold len; rw [ut]
  obtain ⟨f7, f8⟩ := zBf (mkN_at hx hu) (0 + ((j : Nat) : Int).toNat * 2) (by omega)
  have f0 := (qJs hx).1
  have f2 := (qJs hx).2
  refine zD (qJ (qK (zM (qK ?_))))
  refine uH ([sl (some ⟨gc, 0, none⟩) cl 39 2 l.length (nlC (mkN l ts))]) ?_
  refine uD 0 rfl (qB rfl) ?_
  refine uD 3 rfl (qB rfl) ?_
  refine uD 4 rfl (qB rfl) ?_
  refine uD 5 rfl (uAi rfl rfl) ?_
  refine uD 6 rfl (uBf rfl) ?_
  refine uD 7 rfl (uY) ?_
  apply kP 1 rfl (by kernel_rfl) rfl
  refine uC (qDp (m := m) (pp := pp) (bm := bm) hE) rfl ?_
  rintro _ _ ⟨rfl, rfl⟩
  simp only [uV, uW]
  refine uE ?_
  apply kP 2 rfl (by kernel_rfl) rfl
  refine uC (qGp (pp := pp) (s := s) (tb := tb) hE) rfl ?_
  rintro _ _ ⟨rfl, rfl⟩
  simp only [uV, uW]
  refine uE ?_
  apply kP 8 rfl (by kernel_rfl) rfl
  refine uC (zAs (Es := M2) (s := s) (most := k) (id := u) hE ul (by omega) (by omega)) rfl ?_
  rintro _ _ ⟨p3, c3, rfl, rfl⟩
  rw [hul, ut]
  simp only [uV, uW]
  refine uE ?_
  refine uD 9 rfl (qB rfl) ?_
  refine uD 10 rfl (qU rfl rfl) ?_
  refine uD 11 rfl (qU rfl rfl) ?_
  refine uD 12 rfl (qC rfl) ?_
  refine uD 13 rfl (qC rfl) ?_
  refine qCz (by kernel_rfl) ?_
  refine qJ ?_
  refine qCy (p := sl p3 c3 5 1 x.bs.length (byC x.bs)) uK (fun _ h => fun hpos => qAi h hpos) ?_
  intro hp3
  have hq3 : Rdb E.w0 p3 (byC x.bs) (sl p3 c3 5 1 x.bs.length (byC x.bs)) := rdb_sl (qMy x.bs) hp3
  refine qK (qI (uM rfl (uB (qBn rfl) ?_)))
  refine uM rfl (kU rfl rfl (uM rfl (kU rfl rfl (uM rfl (kU rfl rfl (uM rfl (kU rfl rfl (uB (uAi rfl rfl) ?_))))))))
  refine kU rfl rfl (uB (uBf rfl) ?_)
  refine kU rfl rfl ?_
  apply qA
  ·(apply zL rfl (hE.t rfl) rfl (by assumption); (focus ((repeat constructor); done)); (first | ((focus exact f0); (focus omega)) | ((focus exact f1); (focus omega)) | ((focus assumption); (focus omega))))
  ·rfl
  refine kU rfl rfl (uX (qXn (c := c3) (d := x.c) hE hq3 (hok x hxm)) rfl ?_)
  rintro _ _ ⟨rfl, rfl⟩
  rw [decide_eq_true (show x.bs = x.bs from rfl)]
  simp only [uV, uW]
  refine kU rfl rfl (uB (qBn rfl) ?_)
  refine uB (qY rfl rfl) ?_
  refine qL (qJ (zF rfl (zD (zK (qJ (qI (uM rfl (uB (uAa rfl rfl) ?_))))))))
  refine uA rfl (qL ?_)
  refine zU (ι := Nat) (j := j + 1) (by omega) (by omega) ⟨rfl, rfl, rfl, congrArg some (zY (by omega)), trivial⟩ uI
 refine kM (qP (qP (zJ (qJ (qK (qI ?_))))))
 refine uA rfl (qL (qJ (kD ?_)))
 exact uZ rfl (.tmp rfl .nil) ⟨rfl, rfl⟩
end
section
open Go Go.RowKit Sl Eg
theorem qUz {E : Env} (hE : Seat E) (hB : Base E.w0) {l : List Im} {a : Option Addr} {ca k : Nat} (hk : k < 256) (hq : Rdb E.w0 a (imC l) old) (hok : ∀ x ∈ l, Rdb E.w0 x.a (byC x.bs) old) (hn : l.length ≤ maxLen) :
  Ct E 11 [.slice a l.length ca, .int .u8 (k : Nat)] [] (fun v Q => v = .bool true ∧ Q = []) := zBg (qSq hE hB hk hq hok hn)
end
end Go.Proofs.YtkkjjablmmmmkaaGreatDoor
