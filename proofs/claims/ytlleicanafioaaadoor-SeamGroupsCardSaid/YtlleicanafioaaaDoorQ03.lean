import Derived.Test.YtlleicanafioaaaDoorQ02
import Derived.Deep.DeepCutAuto
set_option linter.all false
set_option maxHeartbeats 1000000
namespace Go.Proofs.YtlleicanafioaaaDoor
section
open Go Go.RowKit Eg
set_option maxRecDepth 100000

theorem qHl (t : List UInt8) (w : World) (ht : t.length ≤ kK) :
  Calls Tryd.prog 33 #[.agg #[.int .i64 (List.length (t) : Nat), .int .i64 (qAq (t) : Nat), .int .i64 (qCd (t) : Nat), .int .i64 (qCe (t) : Nat), .int .u64 (dval (t) : Nat), .int .u64 (qAf (t) : Nat)]] w fun e w' => e = .returned (.bool true) ∧ Below w.heap.size w w' := by
 by_cases h : qAq t = 0
 ·rw [h, qIc h, qLk h]
  exact qSe _ _ w ht (qEt t) (fun h0 => by rw [List.eq_nil_of_length_eq_zero h0, qJj])
 exact qSf _ _ _ _ _ w ht (qEt t) (by omega) (qJu h).1 (qJu h).2

theorem qOm (n1 l1 a1 b1 v1 s1 n2 l2 a2 b2 v2 s2 hd tl : Nat) (w : World) (h : n1 + n2 ≤ kK)
  (h1 : ∀ w, n1 ≤ kK → Calls Tryd.prog 33 #[.agg #[.int .i64 n1, .int .i64 l1, .int .i64 a1, .int .i64 b1, .int .u64 v1, .int .u64 s1]] w fun e w' => e = .returned (.bool true) ∧ Below w.heap.size w w')
  (h2 : ∀ w, n2 ≤ kK → Calls Tryd.prog 33 #[.agg #[.int .i64 n2, .int .i64 l2, .int .i64 a2, .int .i64 b2, .int .u64 v2, .int .u64 s2]] w fun e w' => e = .returned (.bool true) ∧ Below w.heap.size w w')
  (q1 : l1 ≤ n1) (q2 : l2 ≤ n2) (q3 : a1 ≤ n1) (q4 : b1 ≤ n1) (q5 : a2 ≤ n2) (q6 : b2 ≤ n2) (q7 : v1 < P61) (q8 : s1 < P61) (q9 : v2 < P61) (q10 : s2 < P61)
  (hhd : hd = if l1 = 0 then n1 + a2 else a1) (htl : tl = if l2 = 0 then n2 + b1 else b2) :
  Calls Tryd.prog 14 #[.agg #[.int .i64 n1, .int .i64 l1, .int .i64 a1, .int .i64 b1, .int .u64 v1, .int .u64 s1], .agg #[.int .i64 n2, .int .i64 l2, .int .i64 a2, .int .i64 b2, .int .u64 v2, .int .u64 s2]] w fun e w' =>
   e = .returned (.tuple #[.agg #[.int .i64 ((n1 + n2 : Nat) : Int), .int .i64 ((l1 + l2 : Nat) : Int), .int .i64 hd, .int .i64 tl, .int .u64 (addm (mulm v1 s2) v2 : Nat), .int .u64 (mulm s1 s2 : Nat)], .nilIface]) ∧ Below w.heap.size w w' := by
 have hx := qKr n1 n2
 have hwl : IntKind.i64.wrap ((l1 : Int) + l2) = (l1 : Int) + l2 := IntWalk.i64_in _ (by unfold kK at h; omega)
 have H1 := Lib.hid h1
 have H2 := Lib.hid h2
 have HX := Lib.hid hx
 have H := Lib.hid h
 have HHD := Lib.hid hhd
 have HTL := Lib.hid htl
 have hn : n1 + n2 ≤ 1152921504606846976 := h
 clear h1 h2 hx h hhd htl
 go_enter Tryd.func14, Tryd.ntmps14
 go_wp2_with fail
 refine (H1.out _ (by unfold kK; omega)).mono ?_
 rintro e w1 ⟨rfl, hb1⟩
 have c1 : Blk w1 w.heap.size [.int .i64 n1, .int .i64 l1, .int .i64 a1, .int .i64 b1, .int .u64 v1, .int .u64 s1] 46 := (((Blk.new_at _ rfl _ _).alloc _).alloc _).below hb1 (by simp <;> omega)
 have c2 : Blk w1 (w.heap.size + 1) [.int .i64 n2, .int .i64 l2, .int .i64 a2, .int .i64 b2, .int .u64 v2, .int .u64 s2] 46 := ((Blk.new_at _ (by simp) _ _).alloc _).below hb1 (by simp <;> omega)
 have c3 : Blk w1 (w.heap.size + 1 + 1) [.int .i64 0, .int .i64 0, .int .i64 0, .int .i64 0, .int .u64 0, .int .u64 0] 46 := (Blk.new_at _ (by simp) _ _).below hb1 (by simp)
 have hw1 : Below w.heap.size w w1 := Below.trans (by go_grown) (hb1.mono (by simp <;> omega))
 clear hb1
 have k20 := c2.cell 0 rfl
 have k21 := c2.cell 1 rfl
 have k22 := c2.cell 2 rfl
 have k23 := c2.cell 3 rfl
 have k24 := c2.cell 4 rfl
 have k25 := c2.cell 5 rfl
 go_wp2_with fail
 refine (H2.out _ (by unfold kK; omega)).mono ?_
 rintro e w2 ⟨rfl, hb2⟩
 have hz3 := c3.lt
 have d1 := c1.below hb2 (by omega)
 have d2 := c2.below hb2 (by omega)
 have d3 := c3.below hb2 (by omega)
 have hz2 := d3.lt
 have hw2 := hw1.trans (hb2.mono (by omega))
 clear hb2 c1 c2 c3 hw1 k20 k21 k22 k23 k24 k25
 have k10 := d1.cell 0 rfl
 have k11 := d1.cell 1 rfl
 have k12 := d1.cell 2 rfl
 have k13 := d1.cell 3 rfl
 have k14 := d1.cell 4 rfl
 have k15 := d1.cell 5 rfl
 have k20 := d2.cell 0 rfl
 have k21 := d2.cell 1 rfl
 have k22 := d2.cell 2 rfl
 have k23 := d2.cell 3 rfl
 have k24 := d2.cell 4 rfl
 have k25 := d2.cell 5 rfl
 go_wp2_with fail
 refine (HX.out _ H.out).mono ?_
 rintro e w' ⟨rfl, rfl⟩
 go_wp2_with fail
 have n1' : ¬ w2.heap.size = w.heap.size := by omega
 have n2' : ¬ w2.heap.size = w.heap.size + 1 := by omega
 have n3' : ¬ w.heap.size = w2.heap.size := by omega
 have n4' : ¬ w.heap.size + 1 = w2.heap.size := by omega
 go_region_held3 (fun w' => (w'.cell? ⟨w.heap.size, 1, none⟩ = some (.int .i64 l1) ∧ w'.cell? ⟨w.heap.size, 2, none⟩ = some (.int .i64 a1) ∧ w'.cell? ⟨w.heap.size, 4, none⟩ = some (.int .u64 v1) ∧ w'.cell? ⟨w.heap.size, 5, none⟩ = some (.int .u64 s1)) ∧
   (w'.cell? ⟨w.heap.size + 1, 1, none⟩ = some (.int .i64 l2) ∧ w'.cell? ⟨w.heap.size + 1, 3, none⟩ = some (.int .i64 b2) ∧ w'.cell? ⟨w.heap.size + 1, 4, none⟩ = some (.int .u64 v2) ∧ w'.cell? ⟨w.heap.size + 1, 5, none⟩ = some (.int .u64 s2)) ∧ w.heap.size + 1 + 1 < w'.heap.size) (first | (go_keep; done) | (go_keep; omega))
  (first | (go_at_call 34; refine (qGf _ _ _ _ _ q7 q8 q9 q10).mono ?_; rintro e w3 ⟨rfl, hb3⟩; obtain ⟨hc3, hf3⟩ := qSl hb3; have g1 := hc3 w.heap.size 1 (by simp at *; omega); have g2 := hc3 w.heap.size 2 (by simp at *; omega); have g3 := hc3 w.heap.size 4 (by simp at *; omega); have g4 := hc3 w.heap.size 5 (by simp at *; omega); have g5 := hc3 (w.heap.size + 1) 1 (by simp at *; omega); have g6 := hc3 (w.heap.size + 1) 3 (by simp at *; omega); have g7 := hc3 (w.heap.size + 1) 4 (by simp at *; omega); have g8 := hc3 (w.heap.size + 1) 5 (by simp at *; omega); have hz9 : w.heap.size + 1 + 1 < w3.heap.size := Nat.lt_of_lt_of_le (by simp at *; omega) hb3.size))
 ·simp only [Exit.then]
  refine qHe (R := (fun wx => Blk wx w3.heap.size [.int .i64 ((n1 : Int) + n2), .int .i64 ((l1 : Int) + l2), .int .i64 a1, .int .i64 b2, .int .u64 (addm (mulm v1 s2) v2 : Nat), .int .u64 (mulm s1 s2 : Nat)] 46 ∧ Blk wx w.heap.size [.int .i64 n1, .int .i64 l1, .int .i64 a1, .int .i64 b1, .int .u64 v1, .int .u64 s1] 46 ∧ Blk wx (w.heap.size + 1) [.int .i64 n2, .int .i64 l2, .int .i64 a2, .int .i64 b2, .int .u64 v2, .int .u64 s2] 46 ∧ Blk wx (w.heap.size + 1 + 1) [.int .i64 0, .int .i64 0, .int .i64 0, .int .i64 0, .int .u64 0, .int .u64 0] 46 ∧ Below w.heap.size w wx)) _ ⟨Blk.new_at w3 rfl _ _, (d1.drew.below hb3 (by simp; omega)).alloc _, (d2.drew.below hb3 (by simp; omega)).alloc _, (d3.drew.below hb3 (by simp; omega)).alloc _, ?_⟩ ?_
  ·refine Below.alloc ?_ (by omega) _
   exact (hw2.drew).trans (hb3.mono (by simp; omega))
  rintro wx ⟨x1, x2, x3, x4, hwx⟩
  have hG : w.heap.size + 1 + 1 < w3.heap.size := by omega
  clear d1 d2 d3 hw2 k10 k11 k12 k13 k14 k15 k20 k21 k22 k23 k24 k25 hb3 hc3 hf3 g1 g2 g3 g4 g5 g6 g7 g8 n1' n2' n3' n4'
  generalize w3.heap.size = G at *
  have k10 := x2.cell 0 rfl
  have k11 := x2.cell 1 rfl
  have k13 := x2.cell 3 rfl
  have k20 := x3.cell 0 rfl
  have k21 := x3.cell 1 rfl
  have k22 := x3.cell 2 rfl
  have j0 := x1.cell 0 rfl
  have j1 := x1.cell 1 rfl
  have j2 := x1.cell 2 rfl
  have j3 := x1.cell 3 rfl
  have j4 := x1.cell 4 rfl
  have j5 := x1.cell 5 rfl
  have f2 := x1.frozen 2
  have f3 := x1.frozen 3
  have r0 := x4.cell 0 rfl
  have r1 := x4.cell 1 rfl
  have r2 := x4.cell 2 rfl
  have r3 := x4.cell 3 rfl
  have r4 := x4.cell 4 rfl
  have r5 := x4.cell 5 rfl
  have t0 := x4.frozen 0
  have t1 := x4.frozen 1
  have t2 := x4.frozen 2
  have t3 := x4.frozen 3
  have t4 := x4.frozen 4
  have t5 := x4.frozen 5
  have y1 : ¬ G = w.heap.size := by omega
  have y2 : ¬ G = w.heap.size + 1 := by omega
  have y3 : ¬ G = w.heap.size + 1 + 1 := by omega
  have y4 : ¬ w.heap.size = G := by omega
  have y5 : ¬ w.heap.size + 1 = G := by omega
  have y6 : ¬ w.heap.size + 1 + 1 = G := by omega
  clear x1 x2 x3 x4
  by_cases z1 : l1 = 0
  ·obtain rfl := z1
   by_cases z2 : l2 = 0
   ·obtain rfl := z2
    obtain rfl := HHD.out.trans (if_pos rfl)
    obtain rfl := HTL.out.trans (if_pos rfl)
    go_wp2_with fail
    refine bodyPost_ret (v := .tuple #[.agg #[.int .i64 ((n1 + n2 : Nat) : Int), .int .i64 ((0 + 0 : Nat) : Int), .int .i64 ((n1 + a2 : Nat) : Int), .int .i64 ((n2 + b1 : Nat) : Int), .int .u64 (addm (mulm v1 s2) v2 : Nat), .int .u64 (mulm s1 s2 : Nat)], .nilIface]) (by simp [results, Tryd.results14, go_sem, r0, r1, r2, r3, r4, r5]) rfl ⟨by simp, ?_⟩
    repeat (refine Below.setCell ?_ (by simp; omega) _)
    exact hwx
   have z2' : ((l2 : Int) == 0) = false := by simp; omega
   obtain rfl := HHD.out.trans (if_pos rfl)
   obtain rfl := HTL.out.trans (if_neg z2)
   go_wp2_with fail
   refine bodyPost_ret (v := .tuple #[.agg #[.int .i64 ((n1 + n2 : Nat) : Int), .int .i64 ((0 + l2 : Nat) : Int), .int .i64 ((n1 + a2 : Nat) : Int), .int .i64 ((tl : Nat) : Int), .int .u64 (addm (mulm v1 s2) v2 : Nat), .int .u64 (mulm s1 s2 : Nat)], .nilIface]) (by simp [results, Tryd.results14, go_sem, r0, r1, r2, r3, r4, r5]) rfl ⟨by simp, ?_⟩
   repeat (refine Below.setCell ?_ (by simp; omega) _)
   exact hwx
  have z1' : ((l1 : Int) == 0) = false := by simp; omega
  by_cases z2 : l2 = 0
  ·obtain rfl := z2
   obtain rfl := HHD.out.trans (if_neg z1)
   obtain rfl := HTL.out.trans (if_pos rfl)
   go_wp2_with fail
   refine bodyPost_ret (v := .tuple #[.agg #[.int .i64 ((n1 + n2 : Nat) : Int), .int .i64 ((l1 + 0 : Nat) : Int), .int .i64 ((hd : Nat) : Int), .int .i64 ((n2 + b1 : Nat) : Int), .int .u64 (addm (mulm v1 s2) v2 : Nat), .int .u64 (mulm s1 s2 : Nat)], .nilIface]) (by simp [results, Tryd.results14, go_sem, r0, r1, r2, r3, r4, r5]) rfl ⟨by simp, ?_⟩
   repeat (refine Below.setCell ?_ (by simp; omega) _)
   exact hwx
  have z2' : ((l2 : Int) == 0) = false := by simp; omega
  obtain rfl := HHD.out.trans (if_neg z1)
  obtain rfl := HTL.out.trans (if_neg z2)
  go_wp2_with fail
  refine bodyPost_ret (v := .tuple #[.agg #[.int .i64 ((n1 + n2 : Nat) : Int), .int .i64 ((l1 + l2 : Nat) : Int), .int .i64 ((hd : Nat) : Int), .int .i64 ((tl : Nat) : Int), .int .u64 (addm (mulm v1 s2) v2 : Nat), .int .u64 (mulm s1 s2 : Nat)], .nilIface]) (by simp [results, Tryd.results14, go_sem, r0, r1, r2, r3, r4, r5]) rfl ⟨by simp, ?_⟩
  repeat (refine Below.setCell ?_ (by simp; omega) _)
  exact hwx
 simp only [Exit.then]
 have hs3 := hb3.size
 simp at hs3
 have q0 : Blk w3 w2.heap.size [.int .i64 0, .int .i64 0, .int .i64 0, .int .i64 0, .int .u64 0, .int .u64 0] 46 := (Blk.new_at w2.drew rfl _ _).below hb3 (by simp)
 refine qHe (R := (fun wx => Blk wx w2.heap.size [.int .i64 ((n1 : Int) + n2), .int .i64 ((l1 : Int) + l2), .int .i64 a1, .int .i64 b2, .int .u64 (addm (mulm v1 s2) v2 : Nat), .int .u64 (mulm s1 s2 : Nat)] 46 ∧ Blk wx w.heap.size [.int .i64 n1, .int .i64 l1, .int .i64 a1, .int .i64 b1, .int .u64 v1, .int .u64 s1] 46 ∧ Blk wx (w.heap.size + 1) [.int .i64 n2, .int .i64 l2, .int .i64 a2, .int .i64 b2, .int .u64 v2, .int .u64 s2] 46 ∧ Blk wx (w.heap.size + 1 + 1) [.int .i64 0, .int .i64 0, .int .i64 0, .int .i64 0, .int .u64 0, .int .u64 0] 46 ∧ Below w.heap.size w wx)) _ ⟨?_, ?_, ?_, ?_, ?_⟩ ?_
 ·exact (((((q0.set_same 0 _).set_same 1 _).set_same 2 _).set_same 3 _).set_same 4 _).set_same 5 _
 ·have := (d1.drew.alloc _).below hb3 (by simp <;> omega)
  repeat (refine Blk.set_other ?_ (by omega) _ _)
  exact this
 ·have := (d2.drew.alloc _).below hb3 (by simp <;> omega)
  repeat (refine Blk.set_other ?_ (by omega) _ _)
  exact this
 ·have := (d3.drew.alloc _).below hb3 (by simp <;> omega)
  repeat (refine Blk.set_other ?_ (by omega) _ _)
  exact this
 ·repeat (refine Below.setCell ?_ (by simp; omega) _)
  refine Below.trans (Below.alloc hw2.drew (by simp; omega) _) (hb3.mono (by simp; omega))
 clear q0 hs3
 rintro wx ⟨x1, x2, x3, x4, hwx⟩
 have hG : w.heap.size + 1 + 1 < w2.heap.size := by omega
 clear d1 d2 d3 hw2 k10 k11 k12 k13 k14 k15 k20 k21 k22 k23 k24 k25 hb3 hc3 hf3 g1 g2 g3 g4 g5 g6 g7 g8 n1' n2' n3' n4'
 generalize w2.heap.size = G at *
 have k10 := x2.cell 0 rfl
 have k11 := x2.cell 1 rfl
 have k13 := x2.cell 3 rfl
 have k20 := x3.cell 0 rfl
 have k21 := x3.cell 1 rfl
 have k22 := x3.cell 2 rfl
 have j0 := x1.cell 0 rfl
 have j1 := x1.cell 1 rfl
 have j2 := x1.cell 2 rfl
 have j3 := x1.cell 3 rfl
 have j4 := x1.cell 4 rfl
 have j5 := x1.cell 5 rfl
 have f2 := x1.frozen 2
 have f3 := x1.frozen 3
 have r0 := x4.cell 0 rfl
 have r1 := x4.cell 1 rfl
 have r2 := x4.cell 2 rfl
 have r3 := x4.cell 3 rfl
 have r4 := x4.cell 4 rfl
 have r5 := x4.cell 5 rfl
 have t0 := x4.frozen 0
 have t1 := x4.frozen 1
 have t2 := x4.frozen 2
 have t3 := x4.frozen 3
 have t4 := x4.frozen 4
 have t5 := x4.frozen 5
 have y1 : ¬ G = w.heap.size := by omega
 have y2 : ¬ G = w.heap.size + 1 := by omega
 have y3 : ¬ G = w.heap.size + 1 + 1 := by omega
 have y4 : ¬ w.heap.size = G := by omega
 have y5 : ¬ w.heap.size + 1 = G := by omega
 have y6 : ¬ w.heap.size + 1 + 1 = G := by omega
 clear x1 x2 x3 x4
 by_cases z1 : l1 = 0
 ·obtain rfl := z1
  by_cases z2 : l2 = 0
  ·obtain rfl := z2
   obtain rfl := HHD.out.trans (if_pos rfl)
   obtain rfl := HTL.out.trans (if_pos rfl)
   go_wp2_with fail
   refine bodyPost_ret (v := .tuple #[.agg #[.int .i64 ((n1 + n2 : Nat) : Int), .int .i64 ((0 + 0 : Nat) : Int), .int .i64 ((n1 + a2 : Nat) : Int), .int .i64 ((n2 + b1 : Nat) : Int), .int .u64 (addm (mulm v1 s2) v2 : Nat), .int .u64 (mulm s1 s2 : Nat)], .nilIface]) (by simp [results, Tryd.results14, go_sem, r0, r1, r2, r3, r4, r5]) rfl ⟨by simp, ?_⟩
   repeat (refine Below.setCell ?_ (by simp; omega) _)
   exact hwx
  have z2' : ((l2 : Int) == 0) = false := by simp; omega
  obtain rfl := HHD.out.trans (if_pos rfl)
  obtain rfl := HTL.out.trans (if_neg z2)
  go_wp2_with fail
  refine bodyPost_ret (v := .tuple #[.agg #[.int .i64 ((n1 + n2 : Nat) : Int), .int .i64 ((0 + l2 : Nat) : Int), .int .i64 ((n1 + a2 : Nat) : Int), .int .i64 ((tl : Nat) : Int), .int .u64 (addm (mulm v1 s2) v2 : Nat), .int .u64 (mulm s1 s2 : Nat)], .nilIface]) (by simp [results, Tryd.results14, go_sem, r0, r1, r2, r3, r4, r5]) rfl ⟨by simp, ?_⟩
  repeat (refine Below.setCell ?_ (by simp; omega) _)
  exact hwx
 have z1' : ((l1 : Int) == 0) = false := by simp; omega
 by_cases z2 : l2 = 0
 ·obtain rfl := z2
  obtain rfl := HHD.out.trans (if_neg z1)
  obtain rfl := HTL.out.trans (if_pos rfl)
  go_wp2_with fail
  refine bodyPost_ret (v := .tuple #[.agg #[.int .i64 ((n1 + n2 : Nat) : Int), .int .i64 ((l1 + 0 : Nat) : Int), .int .i64 ((hd : Nat) : Int), .int .i64 ((n2 + b1 : Nat) : Int), .int .u64 (addm (mulm v1 s2) v2 : Nat), .int .u64 (mulm s1 s2 : Nat)], .nilIface]) (by simp [results, Tryd.results14, go_sem, r0, r1, r2, r3, r4, r5]) rfl ⟨by simp, ?_⟩
  repeat (refine Below.setCell ?_ (by simp; omega) _)
  exact hwx
 have z2' : ((l2 : Int) == 0) = false := by simp; omega
 obtain rfl := HHD.out.trans (if_neg z1)
 obtain rfl := HTL.out.trans (if_neg z2)
 go_wp2_with fail
 refine bodyPost_ret (v := .tuple #[.agg #[.int .i64 ((n1 + n2 : Nat) : Int), .int .i64 ((l1 + l2 : Nat) : Int), .int .i64 ((hd : Nat) : Int), .int .i64 ((tl : Nat) : Int), .int .u64 (addm (mulm v1 s2) v2 : Nat), .int .u64 (mulm s1 s2 : Nat)], .nilIface]) (by simp [results, Tryd.results14, go_sem, r0, r1, r2, r3, r4, r5]) rfl ⟨by simp, ?_⟩
 repeat (refine Below.setCell ?_ (by simp; omega) _)
 exact hwx

theorem qOl (s t : List UInt8) (w : World) (h : s.length + t.length ≤ kK) :
  Calls Tryd.prog 14 #[.agg #[.int .i64 (List.length (s) : Nat), .int .i64 (qAq (s) : Nat), .int .i64 (qCd (s) : Nat), .int .i64 (qCe (s) : Nat), .int .u64 (dval (s) : Nat), .int .u64 (qAf (s) : Nat)], .agg #[.int .i64 (List.length (t) : Nat), .int .i64 (qAq (t) : Nat), .int .i64 (qCd (t) : Nat), .int .i64 (qCe (t) : Nat), .int .u64 (dval (t) : Nat), .int .u64 (qAf (t) : Nat)]] w fun e w' => e = .returned (.tuple #[.agg #[.int .i64 (List.length (s ++ t) : Nat), .int .i64 (qAq (s ++ t) : Nat), .int .i64 (qCd (s ++ t) : Nat), .int .i64 (qCe (s ++ t) : Nat), .int .u64 (dval (s ++ t) : Nat), .int .u64 (qAf (s ++ t) : Nat)], .nilIface]) ∧ Below w.heap.size w w' := by
 rw [List.length_append, qFk, qGg, qDe]
 exact qOm _ _ _ _ _ _ _ _ _ _ _ _ _ _ w h (qHl s) (qHl t) (qMf s) (qMf t) (qSg s) (qXu s) (qSg t) (qXu t) (qEt s) (qEa s) (qEt t) (qEa t) (qDc s t) (qEf s t)
end
section
open Go Go.RowKit Eg
set_option maxRecDepth 100000

theorem qLj (t : List UInt8) (n l a b k N M hd tl : Nat) (w : World) (hn : 1 ≤ n) (hk : 1 ≤ k) (hNM : n * k ≤ kK) (hN : N = n * k) (hM : M = l * k)
  (h1 : ∀ w, n ≤ kK → Calls Tryd.prog 33 #[.agg #[.int .i64 n, .int .i64 l, .int .i64 a, .int .i64 b, .int .u64 (dval t : Nat), .int .u64 (qAf t : Nat)]] w fun e w' => e = .returned (.bool true) ∧ Below w.heap.size w w')
  (q1 : l ≤ n)
  (hhd : hd = if l = 0 then N else a) (htl : tl = if l = 0 then N else b) :
  Calls Tryd.prog 46 #[.agg #[.int .i64 n, .int .i64 l, .int .i64 a, .int .i64 b, .int .u64 (dval t : Nat), .int .u64 (qAf t : Nat)], .int .i64 k] w fun e w' =>
   e = .returned (.tuple #[.agg #[.int .i64 (N : Nat), .int .i64 (M : Nat), .int .i64 hd, .int .i64 tl, .int .u64 (dval (rep k t) : Nat), .int .u64 (qAf (rep k t) : Nat)], .nilIface]) ∧ Below w.heap.size w w' := by
 have hnm : n ≤ kK := Nat.le_trans (Nat.le_mul_of_pos_right n hk) hNM
 have hkm : k ≤ kK := Nat.le_trans (Nat.le_mul_of_pos_left k hn) hNM
 have hlk : l * k ≤ n * k := Nat.mul_le_mul_right k q1
 have hk63 : k < 9223372036854775808 := by unfold kK at hkm; omega
 have hx := qPm n k (ha := hnm) (h0 := hn) (h := hNM)
 rw [← hN] at hx
 have hN1 : 1 ≤ N := by rw [hN]; exact Nat.mul_pos hn hk
 have hNz : ((N : Int) == 0) = false := by simp; omega
 have hwl : IntKind.i64.wrap ((l : Int) * k) = (M : Int) := by
  rw [← Int.natCast_mul, ← hM]; exact IntWalk.i64_in _ (by unfold kK at hNM; omega)
 have hk0 : decide ((k : Int) < 0) = false := by simp
 have H1 := Lib.hid h1
 have HX := Lib.hid hx
 have HNM := Lib.hid hnm
 have HHD := Lib.hid hhd
 have HTL := Lib.hid htl
 have HK := Lib.hid hk63
 clear h1 hx hhd htl hnm hkm hNM hlk hM hN q1 hk hn hk63 hN1
 go_enter Tryd.func46, Tryd.ntmps46
 go_wp2_with fail
 refine (H1.out _ HNM.out).mono ?_
 rintro e w2 ⟨rfl, hb1⟩
 have d1 : Blk w2 w.heap.size [.int .i64 n, .int .i64 l, .int .i64 a, .int .i64 b, .int .u64 (dval t : Nat), .int .u64 (qAf t : Nat)] 46 := ((Blk.new_at _ rfl _ _).alloc _).below hb1 (by simp; omega)
 have d3 : Blk w2 (w.heap.size + 1) [.int .i64 0, .int .i64 0, .int .i64 0, .int .i64 0, .int .u64 0, .int .u64 0] 46 := (Blk.new_at _ (by simp) _ _).below hb1 (by simp)
 have hw2 : Below w.heap.size w w2 := Below.trans (by go_grown) (hb1.mono (by simp; omega))
 clear hb1
 have hz2 := d3.lt
 have k10 := d1.cell 0 rfl
 have k11 := d1.cell 1 rfl
 have k12 := d1.cell 2 rfl
 have k13 := d1.cell 3 rfl
 have k14 := d1.cell 4 rfl
 have k15 := d1.cell 5 rfl
 go_wp2_with fail
 refine (HX.out _).mono ?_
 rintro e w' ⟨rfl, rfl⟩
 go_wp2_with fail
 have n1' : ¬ w2.heap.size = w.heap.size := by omega
 have n2' : ¬ w2.heap.size = w.heap.size + 1 := by omega
 have n3' : ¬ w.heap.size = w2.heap.size := by omega
 have n4' : ¬ w.heap.size + 1 = w2.heap.size := by omega
 go_region_held3 (fun w' => (w'.cell? ⟨w.heap.size, 1, none⟩ = some (.int .i64 l) ∧ w'.cell? ⟨w.heap.size, 2, none⟩ = some (.int .i64 a) ∧ w'.cell? ⟨w.heap.size, 3, none⟩ = some (.int .i64 b) ∧ w'.cell? ⟨w.heap.size, 4, none⟩ = some (.int .u64 (dval t : Nat)) ∧ w'.cell? ⟨w.heap.size, 5, none⟩ = some (.int .u64 (qAf t : Nat))) ∧ w.heap.size + 1 < w'.heap.size) (first | (go_keep; done) | (go_keep; omega))
  (first | (go_at_call 61; refine (qQm _ _ _ HK.out).mono ?_; rintro e w3 ⟨rfl, hb3⟩; obtain ⟨hc3, hf3⟩ := qSl hb3; have g1 := hc3 w.heap.size 1 (by simp at *; omega); have g2 := hc3 w.heap.size 2 (by simp at *; omega); have g3 := hc3 w.heap.size 3 (by simp at *; omega); have g4 := hc3 w.heap.size 4 (by simp at *; omega); have g5 := hc3 w.heap.size 5 (by simp at *; omega); have hz9 : w.heap.size + 1 < w3.heap.size := Nat.lt_of_lt_of_le (by simp at *; omega) hb3.size))
 ·simp only [Exit.then]
  refine qHe (R := (fun wx => Blk wx w3.heap.size [.int .i64 (N : Nat), .int .i64 (M : Nat), .int .i64 a, .int .i64 b, .int .u64 (dval (rep k t) : Nat), .int .u64 (qAf (rep k t) : Nat)] 46 ∧ Blk wx w.heap.size [.int .i64 n, .int .i64 l, .int .i64 a, .int .i64 b, .int .u64 (dval t : Nat), .int .u64 (qAf t : Nat)] 46 ∧ Blk wx (w.heap.size + 1) [.int .i64 0, .int .i64 0, .int .i64 0, .int .i64 0, .int .u64 0, .int .u64 0] 46 ∧ Below w.heap.size w wx)) _ ⟨Blk.new_at w3 rfl _ _, (d1.drew.below hb3 (by simp; omega)).alloc _, (d3.drew.below hb3 (by simp; omega)).alloc _, ?_⟩ ?_
  ·refine Below.alloc ?_ (by omega) _
   exact (hw2.drew).trans (hb3.mono (by simp; omega))
  rintro wx ⟨x1, x2, x4, hwx⟩
  have hG : w.heap.size + 1 < w3.heap.size := by omega
  clear d1 d3 hw2 k10 k11 k12 k13 k14 k15 hb3 hc3 hf3 g1 g2 g3 g4 g5 n1' n2' n3' n4'
  generalize w3.heap.size = G at *
  have k11 := x2.cell 1 rfl
  have j0 := x1.cell 0 rfl
  have j1 := x1.cell 1 rfl
  have j2 := x1.cell 2 rfl
  have j3 := x1.cell 3 rfl
  have j4 := x1.cell 4 rfl
  have j5 := x1.cell 5 rfl
  have f2 := x1.frozen 2
  have f3 := x1.frozen 3
  have r0 := x4.cell 0 rfl
  have r1 := x4.cell 1 rfl
  have r2 := x4.cell 2 rfl
  have r3 := x4.cell 3 rfl
  have r4 := x4.cell 4 rfl
  have r5 := x4.cell 5 rfl
  have t0 := x4.frozen 0
  have t1 := x4.frozen 1
  have t2 := x4.frozen 2
  have t3 := x4.frozen 3
  have t4 := x4.frozen 4
  have t5 := x4.frozen 5
  have y1 : ¬ G = w.heap.size := by omega
  have y3 : ¬ G = w.heap.size + 1 := by omega
  have y4 : ¬ w.heap.size = G := by omega
  have y6 : ¬ w.heap.size + 1 = G := by omega
  clear x1 x2 x4
  by_cases z1 : l = 0
  ·obtain rfl := z1
   have E1 := Lib.hid (HHD.out.trans (if_pos rfl))
   have E2 := Lib.hid (HTL.out.trans (if_pos rfl))
   go_wp2_with fail
   have e1 := E1.out
   have e2 := E2.out
   refine bodyPost_ret (v := .tuple #[.agg #[.int .i64 (N : Nat), .int .i64 (M : Nat), .int .i64 (hd : Nat), .int .i64 (tl : Nat), .int .u64 (dval (rep k t) : Nat), .int .u64 (qAf (rep k t) : Nat)], .nilIface]) (by simp [results, Tryd.results46, go_sem, r0, r1, r2, r3, r4, r5, e1, e2]) rfl ⟨by simp, ?_⟩
   repeat (refine Below.setCell ?_ (by simp <;> omega) _)
   exact hwx
  have z1' : ((l : Int) == 0) = false := by simp; omega
  have E1 := Lib.hid (HHD.out.trans (if_neg z1))
  have E2 := Lib.hid (HTL.out.trans (if_neg z1))
  go_wp2_with fail
  have e1 := E1.out
  have e2 := E2.out
  refine bodyPost_ret (v := .tuple #[.agg #[.int .i64 (N : Nat), .int .i64 (M : Nat), .int .i64 (hd : Nat), .int .i64 (tl : Nat), .int .u64 (dval (rep k t) : Nat), .int .u64 (qAf (rep k t) : Nat)], .nilIface]) (by simp [results, Tryd.results46, go_sem, r0, r1, r2, r3, r4, r5, e1, e2]) rfl ⟨by simp, ?_⟩
  repeat (refine Below.setCell ?_ (by simp <;> omega) _)
  exact hwx
 simp only [Exit.then]
 have hs3 := hb3.size
 simp at hs3
 have q0 : Blk w3 w2.heap.size [.int .i64 0, .int .i64 0, .int .i64 0, .int .i64 0, .int .u64 0, .int .u64 0] 46 := (Blk.new_at w2.drew rfl _ _).below hb3 (by simp)
 refine qHe (R := (fun wx => Blk wx w2.heap.size [.int .i64 (N : Nat), .int .i64 (M : Nat), .int .i64 a, .int .i64 b, .int .u64 (dval (rep k t) : Nat), .int .u64 (qAf (rep k t) : Nat)] 46 ∧ Blk wx w.heap.size [.int .i64 n, .int .i64 l, .int .i64 a, .int .i64 b, .int .u64 (dval t : Nat), .int .u64 (qAf t : Nat)] 46 ∧ Blk wx (w.heap.size + 1) [.int .i64 0, .int .i64 0, .int .i64 0, .int .i64 0, .int .u64 0, .int .u64 0] 46 ∧ Below w.heap.size w wx)) _ ⟨?_, ?_, ?_, ?_⟩ ?_
 ·exact (((((q0.set_same 0 _).set_same 1 _).set_same 2 _).set_same 3 _).set_same 4 _).set_same 5 _
 ·have := (d1.drew.alloc _).below hb3 (by simp <;> omega)
  repeat (refine Blk.set_other ?_ (by omega) _ _)
  exact this
 ·have := (d3.drew.alloc _).below hb3 (by simp <;> omega)
  repeat (refine Blk.set_other ?_ (by omega) _ _)
  exact this
 ·repeat (refine Below.setCell ?_ (by simp <;> omega) _)
  refine Below.trans (Below.alloc hw2.drew (by simp; omega) _) (hb3.mono (by simp; omega))
 clear q0 hs3
 rintro wx ⟨x1, x2, x4, hwx⟩
 have hG : w.heap.size + 1 < w2.heap.size := by omega
 clear d1 d3 hw2 k10 k11 k12 k13 k14 k15 hb3 hc3 hf3 g1 g2 g3 g4 g5 n1' n2' n3' n4'
 generalize w2.heap.size = G at *
 have k11 := x2.cell 1 rfl
 have j0 := x1.cell 0 rfl
 have j1 := x1.cell 1 rfl
 have j2 := x1.cell 2 rfl
 have j3 := x1.cell 3 rfl
 have j4 := x1.cell 4 rfl
 have j5 := x1.cell 5 rfl
 have f2 := x1.frozen 2
 have f3 := x1.frozen 3
 have r0 := x4.cell 0 rfl
 have r1 := x4.cell 1 rfl
 have r2 := x4.cell 2 rfl
 have r3 := x4.cell 3 rfl
 have r4 := x4.cell 4 rfl
 have r5 := x4.cell 5 rfl
 have t0 := x4.frozen 0
 have t1 := x4.frozen 1
 have t2 := x4.frozen 2
 have t3 := x4.frozen 3
 have t4 := x4.frozen 4
 have t5 := x4.frozen 5
 have y1 : ¬ G = w.heap.size := by omega
 have y3 : ¬ G = w.heap.size + 1 := by omega
 have y4 : ¬ w.heap.size = G := by omega
 have y6 : ¬ w.heap.size + 1 = G := by omega
 clear x1 x2 x4
 by_cases z1 : l = 0
 ·obtain rfl := z1
  have E1 := Lib.hid (HHD.out.trans (if_pos rfl))
  have E2 := Lib.hid (HTL.out.trans (if_pos rfl))
  go_wp2_with fail
  have e1 := E1.out
  have e2 := E2.out
  refine bodyPost_ret (v := .tuple #[.agg #[.int .i64 (N : Nat), .int .i64 (M : Nat), .int .i64 (hd : Nat), .int .i64 (tl : Nat), .int .u64 (dval (rep k t) : Nat), .int .u64 (qAf (rep k t) : Nat)], .nilIface]) (by simp [results, Tryd.results46, go_sem, r0, r1, r2, r3, r4, r5, e1, e2]) rfl ⟨by simp, ?_⟩
  repeat (refine Below.setCell ?_ (by simp <;> omega) _)
  exact hwx
 have z1' : ((l : Int) == 0) = false := by simp; omega
 have E1 := Lib.hid (HHD.out.trans (if_neg z1))
 have E2 := Lib.hid (HTL.out.trans (if_neg z1))
 go_wp2_with fail
 have e1 := E1.out
 have e2 := E2.out
 refine bodyPost_ret (v := .tuple #[.agg #[.int .i64 (N : Nat), .int .i64 (M : Nat), .int .i64 (hd : Nat), .int .i64 (tl : Nat), .int .u64 (dval (rep k t) : Nat), .int .u64 (qAf (rep k t) : Nat)], .nilIface]) (by simp [results, Tryd.results46, go_sem, r0, r1, r2, r3, r4, r5, e1, e2]) rfl ⟨by simp, ?_⟩
 repeat (refine Below.setCell ?_ (by simp <;> omega) _)
 exact hwx

theorem qSd (t : List UInt8) (k : Nat) (w : World) (ht : 1 ≤ t.length) (hk : 1 ≤ k) (h : t.length * k ≤ kK) :
  Calls Tryd.prog 46 #[.agg #[.int .i64 (List.length (t) : Nat), .int .i64 (qAq (t) : Nat), .int .i64 (qCd (t) : Nat), .int .i64 (qCe (t) : Nat), .int .u64 (dval (t) : Nat), .int .u64 (qAf (t) : Nat)], .int .i64 k] w fun e w' => e = .returned (.tuple #[.agg #[.int .i64 (List.length (rep k t) : Nat), .int .i64 (qAq (rep k t) : Nat), .int .i64 (qCd (rep k t) : Nat), .int .i64 (qCe (rep k t) : Nat), .int .u64 (dval (rep k t) : Nat), .int .u64 (qAf (rep k t) : Nat)], .nilIface]) ∧ Below w.heap.size w w' := by
 refine qLj t _ _ _ _ k _ _ _ _ w ht hk h (by rw [qBx, Nat.mul_comm]) (qNl k t) (qHl t) (qMf t) ?_ ?_
 ·by_cases hl : qAq t = 0
  ·rw [if_pos hl, qIc (by rw [qNl, hl, Nat.zero_mul])]
  rw [if_neg hl, zDd hk hl]
 by_cases hl : qAq t = 0
 ·rw [if_pos hl, qLk (by rw [qNl, hl, Nat.zero_mul])]
 rw [if_neg hl, zDf hk hl]
end
end Go.Proofs.YtlleicanafioaaaDoor
