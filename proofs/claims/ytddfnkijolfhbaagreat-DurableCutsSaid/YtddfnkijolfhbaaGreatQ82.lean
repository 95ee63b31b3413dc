import Derived.Test.YtddfnkijolfhbaaGreatQ21
set_option linter.all false
set_option maxHeartbeats 1000000
namespace Go.Proofs.YtddfnkijolfhbaaGreat
open Go Go.RowKit Eg
set_option maxRecDepth 100000
variable {w w' : World} {s most bm : Nat} {E : List Ent} {lv : Value}
theorem qEs (w : World) (r : Rl) (h : StoreAt w s most E lv bm) (hr : idOf (rls E) r = 0) (hf : E.length = most) :
  Calls Tryz.prog 52 #[.pointer (some ⟨s, 0, none⟩), .agg #[.int .i64 (Rl.kind (r) : Nat), .int .u8 (Rl.byte (r) : Nat), .int .i64 (Rl.left (r) : Nat), .int .i64 (Rl.right (r) : Nat), .int .i64 (Rl.times (r) : Nat)]] w fun e w' => e = .returned (.tuple #[.int .i64 0, .iface 31 (.int .i64 3)]) ∧ Below w.heap.size w w' := by
 have hl : E.length ≤ 1048576 := Nat.le_trans h.fits h.most_le
 have hm : most ≤ 1048576 := h.most_le
 have hlk : ∀ nq, (Instr.lookup 101 (.map (some bm)) (.agg #[.int .i64 (Rl.kind (r) : Nat), .int .u8 (Rl.byte (r) : Nat), .int .i64 (Rl.left (r) : Nat), .int .i64 (Rl.right (r) : Nat), .int .i64 (Rl.times (r) : Nat)]) true).run Tryz.prog ((w.alloc (.cells #[.int .i64 (Rl.kind (r) : Nat), .int .u8 (Rl.byte (r) : Nat), .int .i64 (Rl.left (r) : Nat), .int .i64 (Rl.right (r) : Nat), .int .i64 (Rl.times (r) : Nat)] 115)).drewN nq) = .ok (.tuple #[.int .i64 (idOf (rls E) r : Nat), .bool (!decide (idOf (rls E) r = 0))]) ((w.alloc (.cells #[.int .i64 (Rl.kind (r) : Nat), .int .u8 (Rl.byte (r) : Nat), .int .i64 (Rl.left (r) : Nat), .int .i64 (Rl.right (r) : Nat), .int .i64 (Rl.times (r) : Nat)] 115)).drewN nq) := by
  intro nq
  refine qOr (rls E) r _ bm ?_
  show (w.alloc _).heap[bm]? = _
  rw [Below.heap_alloc w _ bm (Array.getElem?_eq_some_iff.1 h.ids).1]
  exact h.ids
 obtain ⟨a, c, rfl, hc⟩ := h.slice
 have k0 := h.top.cell 0 rfl
 have k1 := h.top.cell 1 rfl
 have k2 := h.top.cell 2 rfl
 have b0 := h.top.lt
 clear h hc
 rw [hr] at hlk
 subst hf
 go_enter Tryz.func52, Tryz.ntmps52
 go_wp2_with fail
 go_quiet (fail)
 go_wp2_with fail
 go_quiet (fail)
 go_wp2_with fail
 go_ret2
 refine ⟨rfl, ?_⟩
 first | exact qIp (by go_grown) | exact qIp (qIp (by go_grown)) | exact qIp (qIp (qIp (by go_grown)))
theorem qKi (w : World) (b : UInt8) (h : StoreAt w s most E lv bm) (hz : idOf (rls E) (.letter b) = 0) (hf : E.length = most) :
  Calls Tryz.prog 85 #[.pointer (some ⟨s, 0, none⟩), .int .u8 b.toNat] w fun e w' => e = .returned (.tuple #[.int .i64 0, .iface 31 (.int .i64 3)]) ∧ Below w.heap.size w w' := by
 have HS := Lib.hid h
 have hb := b.toNat_lt
 have hs := h.top.lt
 have hfd := fun W (hW : StoreAt W s most E lv bm) => qEs W (.letter b) hW hz hf
 have HFD := Lib.hid hfd
 clear h hfd hz
 go_enter Tryz.func85, Tryz.ntmps85
 go_wp2_with fail
 refine (HFD.out _ (HS.out.below (by go_grown))).mono ?_
 rintro e w1 ⟨rfl, hb1⟩
 have hw1 : Below w.heap.size w w1 := Below.trans (by go_grown) (hb1.mono (by simp))
 have HW1 := Lib.hid hw1
 clear hb1 hw1
 go_wp2_with fail
 go_ret2
 exact ⟨rfl, HW1.out⟩
theorem qNo (w : World) (i j : Nat) (xl xr : Ent) (h : StoreAt w s most E lv bm) (hi : E[i]? = some xl) (hj : E[j]? = some xr) (hlen : xl.t.length + xr.t.length ≤ kI) (hz : idOf (rls E) (.pair (i + 1) (j + 1)) = 0) (hf : E.length = most) :
  Calls Tryz.prog 86 #[.pointer (some ⟨s, 0, none⟩), .int .i64 ((i + 1 : Nat) : Int), .int .i64 ((j + 1 : Nat) : Int)] w fun e w' => e = .returned (.tuple #[.int .i64 0, .iface 31 (.int .i64 3)]) ∧ Below w.heap.size w w' := by
 have hil : i < E.length := (List.getElem?_eq_some_iff.1 hi).1
 have hjl : j < E.length := (List.getElem?_eq_some_iff.1 hj).1
 have hl20 : E.length ≤ 1048576 := Nat.le_trans h.fits h.most_le
 have HS := Lib.hid h
 have HI := Lib.hid hi
 have HJ := Lib.hid hj
 have HLEN := Lib.hid hlen
 have hs := h.top.lt
 have hfd := fun W (hW : StoreAt W s most E lv bm) => qEs W (.pair (i + 1) (j + 1)) hW hz hf
 have HFD := Lib.hid hfd
 have z1 : (((i + 1 : Nat) : Int) == 0) = false := by simp; omega
 have z2 : (((j + 1 : Nat) : Int) == 0) = false := by simp; omega
 clear h hfd hi hj hlen hz
 go_enter Tryz.func86, Tryz.ntmps86
 go_wp2_with fail
 refine (qCe _ i HS.out hil).mono ?_
 rintro e w' ⟨rfl, rfl⟩
 go_wp2_with fail
 refine (qCe _ j HS.out hjl).mono ?_
 rintro e w' ⟨rfl, rfl⟩
 go_wp2_with fail
 refine (qGd _ i xl HS.out HI.out).mono ?_
 rintro e w1 ⟨rfl, hb1⟩
 have HS1 := Lib.hid (HS.out.below hb1)
 have HW1 := Lib.hid hb1
 clear hb1
 go_wp2_with fail
 refine (qGd _ j xr HS1.out HJ.out).mono ?_
 rintro e w2 ⟨rfl, hb2⟩
 have HS2 := Lib.hid (HS1.out.below hb2)
 have HW2 := Lib.hid (HW1.out.trans (hb2.mono HW1.out.size))
 clear hb2
 go_wp2_with fail
 refine (qHl _ _ _ HLEN.out).mono ?_
 rintro e w' ⟨rfl, rfl⟩
 go_wp2_with fail
 refine (HFD.out _ (HS2.out.below (by go_grown))).mono ?_
 rintro e w3 ⟨rfl, hb3⟩
 have HW3 := Lib.hid (HW2.out.trans (Below.mono (Below.trans (b := ((w2.alloc (.cells xl.cells.toArray 117)).alloc (.cells xr.cells.toArray 117)).alloc (.cells #[.int .i64 2, .int .u8 0, .int .i64 ((i + 1 : Nat) : Int), .int .i64 ((j + 1 : Nat) : Int), .int .i64 0] 115)) (by go_grown) (hb3.mono (by simp; omega))) HW2.out.size))
 clear hb3
 go_wp2_with fail
 go_ret2
 exact ⟨rfl, HW3.out⟩
theorem qLh (w : World) (i k : Nat) (xl : Ent) (h : StoreAt w s most E lv bm) (hi : E[i]? = some xl) (hk : 2 ≤ k) (hlen : xl.t.length * k ≤ kI) (hz : idOf (rls E) (.power (i + 1) k) = 0) (hf : E.length = most) :
  Calls Tryz.prog 30 #[.pointer (some ⟨s, 0, none⟩), .int .i64 ((i + 1 : Nat) : Int), .int .i64 k] w fun e w' => e = .returned (.tuple #[.int .i64 0, .iface 31 (.int .i64 3)]) ∧ Below w.heap.size w w' := by
 have hil : i < E.length := (List.getElem?_eq_some_iff.1 hi).1
 have hl20 : E.length ≤ 1048576 := Nat.le_trans h.fits h.most_le
 have hti := h.texts i xl hi
 have hpos : 1 ≤ xl.t.length := by rw [hti]; exact h.wf.pos (i + 1) (by omega) (by rw [zR]; omega)
 have hkm : k ≤ kI := Nat.le_trans (Nat.le_mul_of_pos_left k hpos) hlen
 have hle : xl.t.length ≤ kI := Nat.le_trans (Nat.le_mul_of_pos_right _ (by omega)) hlen
 have HPOS := Lib.hid hpos
 have HLE := Lib.hid hle
 have HS := Lib.hid h
 have HI := Lib.hid hi
 have HLEN := Lib.hid hlen
 have hs := h.top.lt
 have hfd := fun W (hW : StoreAt W s most E lv bm) => qEs W (.power (i + 1) k) hW hz hf
 have HFD := Lib.hid hfd
 have z1 : (((i + 1 : Nat) : Int) == 0) = false := by simp; omega
 have z2 : ((k : Int) == 0) = false := by simp; omega
 have z3 : ((k : Int) == 1) = false := by simp; omega
 have z4 : decide ((k : Int) < 0) = false := by simp
 clear h hfd hi hlen hti hpos hkm hle hz
 go_enter Tryz.func30, Tryz.ntmps30
 go_wp2_with fail
 refine (qCe _ i HS.out hil).mono ?_
 rintro e w' ⟨rfl, rfl⟩
 go_wp2_with fail
 refine (qGd _ i xl HS.out HI.out).mono ?_
 rintro e w2 ⟨rfl, hb1⟩
 have HS2 := Lib.hid (HS.out.below hb1)
 have HW2 := Lib.hid hb1
 clear hb1
 go_wp2_with fail
 refine (qJz _ k _ HLE.out HPOS.out HLEN.out).mono ?_
 rintro e w' ⟨rfl, rfl⟩
 go_wp2_with fail
 refine (HFD.out _ (HS2.out.below (by go_grown))).mono ?_
 rintro e w3 ⟨rfl, hb3⟩
 have HW3 := Lib.hid (HW2.out.trans (Below.mono (Below.trans (b := (w2.alloc (.cells xl.cells.toArray 117)).alloc (.cells #[.int .i64 3, .int .u8 0, .int .i64 ((i + 1 : Nat) : Int), .int .i64 0, .int .i64 k] 115)) (by go_grown) (hb3.mono (by simp; omega))) HW2.out.size))
 clear hb3
 go_wp2_with fail
 go_ret2
 exact ⟨rfl, HW3.out⟩
end Go.Proofs.YtddfnkijolfhbaaGreat
