/- Package weight: Join, Repeat. -/
import Derived.Test.YtlmdkaniblhdmaaDoorQ01
import Derived.Test.YtlmdkaniblhdmaaDoorQ02
import Derived.Deep.DeepCutAuto
import Derived.Deep.DeepMust
import Derived.Deep.RegionHeld3
import Derived.Deep.RegionLaw
import Derived.Lib.TrailingZeros
set_option linter.unusedVariables false
set_option linter.unusedSimpArgs false
namespace Go.Proofs.YtlmdkaniblhdmaaDoor
open Go Go.RowKit Eg
set_option maxRecDepth 100000

theorem weight_valid (t : List UInt8) (w : World) (ht : t.length ≤ maxLength) :
    Calls Tryd.prog 128 #[.agg #[.int .i64 (List.length (t) : Nat), .int .i64 (lines (t) : Nat), .int .i64 (whead (t) : Nat), .int .i64 (wtail (t) : Nat), .int .u64 (dval (t) : Nat), .int .u64 (dscale (t) : Nat)]] w fun e w' => e = .returned (.bool true) ∧ Below w.heap.size w w' := by
  by_cases h : lines t = 0
  · rw [h, whead_none h, wtail_none h]
    exact weight_valid0 _ _ w ht (dval_lt t) (fun h0 => by rw [List.eq_nil_of_length_eq_zero h0, dval_nil])
  · exact weight_valid1 _ _ _ _ _ w ht (dval_lt t) (by omega) (lines_between h).1 (lines_between h).2

set_option maxHeartbeats 2000000 in
theorem weight_join_num (n1 l1 a1 b1 v1 s1 n2 l2 a2 b2 v2 s2 hd tl : Nat) (w : World) (h : n1 + n2 ≤ maxLength)
    (h1 : ∀ w, n1 ≤ maxLength → Calls Tryd.prog 128 #[.agg #[.int .i64 n1, .int .i64 l1, .int .i64 a1, .int .i64 b1, .int .u64 v1, .int .u64 s1]] w fun e w' => e = .returned (.bool true) ∧ Below w.heap.size w w')
    (h2 : ∀ w, n2 ≤ maxLength → Calls Tryd.prog 128 #[.agg #[.int .i64 n2, .int .i64 l2, .int .i64 a2, .int .i64 b2, .int .u64 v2, .int .u64 s2]] w fun e w' => e = .returned (.bool true) ∧ Below w.heap.size w w')
    (q1 : l1 ≤ n1) (q2 : l2 ≤ n2) (q3 : a1 ≤ n1) (q4 : b1 ≤ n1) (q5 : a2 ≤ n2) (q6 : b2 ≤ n2) (q7 : v1 < P61) (q8 : s1 < P61) (q9 : v2 < P61) (q10 : s2 < P61)
    (hhd : hd = if l1 = 0 then n1 + a2 else a1) (htl : tl = if l2 = 0 then n2 + b1 else b2) :
    Calls Tryd.prog 92 #[.agg #[.int .i64 n1, .int .i64 l1, .int .i64 a1, .int .i64 b1, .int .u64 v1, .int .u64 s1], .agg #[.int .i64 n2, .int .i64 l2, .int .i64 a2, .int .i64 b2, .int .u64 v2, .int .u64 s2]] w fun e w' =>
      e = .returned (.tuple #[.agg #[.int .i64 ((n1 + n2 : Nat) : Int), .int .i64 ((l1 + l2 : Nat) : Int), .int .i64 hd, .int .i64 tl, .int .u64 (addm (mulm v1 s2) v2 : Nat), .int .u64 (mulm s1 s2 : Nat)], .nilIface]) ∧ Below w.heap.size w w' := by
  have hx := length_add n1 n2
  have hwl : IntKind.i64.wrap ((l1 : Int) + l2) = (l1 : Int) + l2 := IntWalk.i64_in _ (by unfold maxLength at h; omega)
  have H1 := Lib.hid h1
  have H2 := Lib.hid h2
  have HX := Lib.hid hx
  have H := Lib.hid h
  have HHD := Lib.hid hhd
  have HTL := Lib.hid htl
  have hn : n1 + n2 ≤ 1152921504606846976 := h
  clear h1 h2 hx h hhd htl
  go_enter Tryd.func92, Tryd.ntmps92
  go_wp2_with fail
  refine (H1.out _ (by unfold maxLength; omega)).mono ?_
  rintro e w1 ⟨rfl, hb1⟩
  have c1 : Blk w1 w.heap.size [.int .i64 n1, .int .i64 l1, .int .i64 a1, .int .i64 b1, .int .u64 v1, .int .u64 s1] 150 := (((Blk.new_at _ rfl _ _).alloc _).alloc _).below hb1 (by simp <;> omega)
  have c2 : Blk w1 (w.heap.size + 1) [.int .i64 n2, .int .i64 l2, .int .i64 a2, .int .i64 b2, .int .u64 v2, .int .u64 s2] 150 := ((Blk.new_at _ (by simp) _ _).alloc _).below hb1 (by simp <;> omega)
  have c3 : Blk w1 (w.heap.size + 1 + 1) [.int .i64 0, .int .i64 0, .int .i64 0, .int .i64 0, .int .u64 0, .int .u64 0] 150 := (Blk.new_at _ (by simp) _ _).below hb1 (by simp)
  have hw1 : Below w.heap.size w w1 := Below.trans (by go_grown) (hb1.mono (by simp <;> omega))
  clear hb1
  have k20 := c2.cell 0 rfl
  have k21 := c2.cell 1 rfl
  have k22 := c2.cell 2 rfl
  have k23 := c2.cell 3 rfl
  have k24 := c2.cell 4 rfl
  have k25 := c2.cell 5 rfl
  go_wp2_with fail
  refine (H2.out _ (by unfold maxLength; omega)).mono ?_
  rintro e w2 ⟨rfl, hb2⟩
  have hz3 := c3.lt
  have d1 := c1.below hb2 (by omega)
  have d2 := c2.below hb2 (by omega)
  have d3 := c3.below hb2 (by omega)
  have hz2 := d3.lt
  have hw2 := hw1.trans (hb2.mono (by omega))
  clear hb2 c1 c2 c3 hw1 k20 k21 k22 k23 k24 k25
  have k10 := d1.cell 0 rfl
  have k11 := d1.cell 1 rfl
  have k12 := d1.cell 2 rfl
  have k13 := d1.cell 3 rfl
  have k14 := d1.cell 4 rfl
  have k15 := d1.cell 5 rfl
  have k20 := d2.cell 0 rfl
  have k21 := d2.cell 1 rfl
  have k22 := d2.cell 2 rfl
  have k23 := d2.cell 3 rfl
  have k24 := d2.cell 4 rfl
  have k25 := d2.cell 5 rfl
  go_wp2_with fail
  refine (HX.out _ H.out).mono ?_
  rintro e w' ⟨rfl, rfl⟩
  go_wp2_with fail
  have n1' : ¬ w2.heap.size = w.heap.size := by omega
  have n2' : ¬ w2.heap.size = w.heap.size + 1 := by omega
  have n3' : ¬ w.heap.size = w2.heap.size := by omega
  have n4' : ¬ w.heap.size + 1 = w2.heap.size := by omega
  go_region_held3 (fun w' => (w'.cell? ⟨w.heap.size, 1, none⟩ = some (.int .i64 l1) ∧ w'.cell? ⟨w.heap.size, 2, none⟩ = some (.int .i64 a1) ∧ w'.cell? ⟨w.heap.size, 4, none⟩ = some (.int .u64 v1) ∧ w'.cell? ⟨w.heap.size, 5, none⟩ = some (.int .u64 s1)) ∧
      (w'.cell? ⟨w.heap.size + 1, 1, none⟩ = some (.int .i64 l2) ∧ w'.cell? ⟨w.heap.size + 1, 3, none⟩ = some (.int .i64 b2) ∧ w'.cell? ⟨w.heap.size + 1, 4, none⟩ = some (.int .u64 v2) ∧ w'.cell? ⟨w.heap.size + 1, 5, none⟩ = some (.int .u64 s2)) ∧ w.heap.size + 1 + 1 < w'.heap.size) (first | (go_keep; done) | (go_keep; omega))
    (first | (go_at_call 129; refine (digest_join _ _ _ _ _ q7 q8 q9 q10).mono ?_; rintro e w3 ⟨rfl, hb3⟩; obtain ⟨hc3, hf3⟩ := bcell hb3; have g1 := hc3 w.heap.size 1 (by simp at *; omega); have g2 := hc3 w.heap.size 2 (by simp at *; omega); have g3 := hc3 w.heap.size 4 (by simp at *; omega); have g4 := hc3 w.heap.size 5 (by simp at *; omega); have g5 := hc3 (w.heap.size + 1) 1 (by simp at *; omega); have g6 := hc3 (w.heap.size + 1) 3 (by simp at *; omega); have g7 := hc3 (w.heap.size + 1) 4 (by simp at *; omega); have g8 := hc3 (w.heap.size + 1) 5 (by simp at *; omega); have hz9 : w.heap.size + 1 + 1 < w3.heap.size := Nat.lt_of_lt_of_le (by simp at *; omega) hb3.size))
  · simp only [Exit.then]
    refine gen_world (R := (fun wx => Blk wx w3.heap.size [.int .i64 ((n1 : Int) + n2), .int .i64 ((l1 : Int) + l2), .int .i64 a1, .int .i64 b2, .int .u64 (addm (mulm v1 s2) v2 : Nat), .int .u64 (mulm s1 s2 : Nat)] 150 ∧ Blk wx w.heap.size [.int .i64 n1, .int .i64 l1, .int .i64 a1, .int .i64 b1, .int .u64 v1, .int .u64 s1] 150 ∧ Blk wx (w.heap.size + 1) [.int .i64 n2, .int .i64 l2, .int .i64 a2, .int .i64 b2, .int .u64 v2, .int .u64 s2] 150 ∧ Blk wx (w.heap.size + 1 + 1) [.int .i64 0, .int .i64 0, .int .i64 0, .int .i64 0, .int .u64 0, .int .u64 0] 150 ∧ Below w.heap.size w wx)) _ ⟨Blk.new_at w3 rfl _ _, (d1.drew.below hb3 (by simp; omega)).alloc _, (d2.drew.below hb3 (by simp; omega)).alloc _, (d3.drew.below hb3 (by simp; omega)).alloc _, ?_⟩ ?_
    · refine Below.alloc ?_ (by omega) _
      exact (hw2.drew).trans (hb3.mono (by simp; omega))
    rintro wx ⟨x1, x2, x3, x4, hwx⟩
    have hG : w.heap.size + 1 + 1 < w3.heap.size := by omega
    clear d1 d2 d3 hw2 k10 k11 k12 k13 k14 k15 k20 k21 k22 k23 k24 k25 hb3 hc3 hf3 g1 g2 g3 g4 g5 g6 g7 g8 n1' n2' n3' n4'
    generalize w3.heap.size = G at *
    have k10 := x2.cell 0 rfl
    have k11 := x2.cell 1 rfl
    have k13 := x2.cell 3 rfl
    have k20 := x3.cell 0 rfl
    have k21 := x3.cell 1 rfl
    have k22 := x3.cell 2 rfl
    have j0 := x1.cell 0 rfl
    have j1 := x1.cell 1 rfl
    have j2 := x1.cell 2 rfl
    have j3 := x1.cell 3 rfl
    have j4 := x1.cell 4 rfl
    have j5 := x1.cell 5 rfl
    have f2 := x1.frozen 2
    have f3 := x1.frozen 3
    have r0 := x4.cell 0 rfl
    have r1 := x4.cell 1 rfl
    have r2 := x4.cell 2 rfl
    have r3 := x4.cell 3 rfl
    have r4 := x4.cell 4 rfl
    have r5 := x4.cell 5 rfl
    have t0 := x4.frozen 0
    have t1 := x4.frozen 1
    have t2 := x4.frozen 2
    have t3 := x4.frozen 3
    have t4 := x4.frozen 4
    have t5 := x4.frozen 5
    have y1 : ¬ G = w.heap.size := by omega
    have y2 : ¬ G = w.heap.size + 1 := by omega
    have y3 : ¬ G = w.heap.size + 1 + 1 := by omega
    have y4 : ¬ w.heap.size = G := by omega
    have y5 : ¬ w.heap.size + 1 = G := by omega
    have y6 : ¬ w.heap.size + 1 + 1 = G := by omega
    clear x1 x2 x3 x4
    by_cases z1 : l1 = 0
    · obtain rfl := z1
      by_cases z2 : l2 = 0
      · obtain rfl := z2
        obtain rfl := HHD.out.trans (if_pos rfl)
        obtain rfl := HTL.out.trans (if_pos rfl)
        go_wp2_with fail
        refine bodyPost_ret (v := .tuple #[.agg #[.int .i64 ((n1 + n2 : Nat) : Int), .int .i64 ((0 + 0 : Nat) : Int), .int .i64 ((n1 + a2 : Nat) : Int), .int .i64 ((n2 + b1 : Nat) : Int), .int .u64 (addm (mulm v1 s2) v2 : Nat), .int .u64 (mulm s1 s2 : Nat)], .nilIface]) (by simp [results, Tryd.results92, go_sem, r0, r1, r2, r3, r4, r5]) rfl ⟨by simp, ?_⟩
        repeat (refine Below.setCell ?_ (by simp; omega) _)
        exact hwx
      · have z2' : ((l2 : Int) == 0) = false := by simp; omega
        obtain rfl := HHD.out.trans (if_pos rfl)
        obtain rfl := HTL.out.trans (if_neg z2)
        go_wp2_with fail
        refine bodyPost_ret (v := .tuple #[.agg #[.int .i64 ((n1 + n2 : Nat) : Int), .int .i64 ((0 + l2 : Nat) : Int), .int .i64 ((n1 + a2 : Nat) : Int), .int .i64 ((tl : Nat) : Int), .int .u64 (addm (mulm v1 s2) v2 : Nat), .int .u64 (mulm s1 s2 : Nat)], .nilIface]) (by simp [results, Tryd.results92, go_sem, r0, r1, r2, r3, r4, r5]) rfl ⟨by simp, ?_⟩
        repeat (refine Below.setCell ?_ (by simp; omega) _)
        exact hwx
    · have z1' : ((l1 : Int) == 0) = false := by simp; omega
      by_cases z2 : l2 = 0
      · obtain rfl := z2
        obtain rfl := HHD.out.trans (if_neg z1)
        obtain rfl := HTL.out.trans (if_pos rfl)
        go_wp2_with fail
        refine bodyPost_ret (v := .tuple #[.agg #[.int .i64 ((n1 + n2 : Nat) : Int), .int .i64 ((l1 + 0 : Nat) : Int), .int .i64 ((hd : Nat) : Int), .int .i64 ((n2 + b1 : Nat) : Int), .int .u64 (addm (mulm v1 s2) v2 : Nat), .int .u64 (mulm s1 s2 : Nat)], .nilIface]) (by simp [results, Tryd.results92, go_sem, r0, r1, r2, r3, r4, r5]) rfl ⟨by simp, ?_⟩
        repeat (refine Below.setCell ?_ (by simp; omega) _)
        exact hwx
      · have z2' : ((l2 : Int) == 0) = false := by simp; omega
        obtain rfl := HHD.out.trans (if_neg z1)
        obtain rfl := HTL.out.trans (if_neg z2)
        go_wp2_with fail
        refine bodyPost_ret (v := .tuple #[.agg #[.int .i64 ((n1 + n2 : Nat) : Int), .int .i64 ((l1 + l2 : Nat) : Int), .int .i64 ((hd : Nat) : Int), .int .i64 ((tl : Nat) : Int), .int .u64 (addm (mulm v1 s2) v2 : Nat), .int .u64 (mulm s1 s2 : Nat)], .nilIface]) (by simp [results, Tryd.results92, go_sem, r0, r1, r2, r3, r4, r5]) rfl ⟨by simp, ?_⟩
        repeat (refine Below.setCell ?_ (by simp; omega) _)
        exact hwx
  · simp only [Exit.then]
    have hs3 := hb3.size
    simp at hs3
    have q0 : Blk w3 w2.heap.size [.int .i64 0, .int .i64 0, .int .i64 0, .int .i64 0, .int .u64 0, .int .u64 0] 150 := (Blk.new_at w2.drew rfl _ _).below hb3 (by simp)
    refine gen_world (R := (fun wx => Blk wx w2.heap.size [.int .i64 ((n1 : Int) + n2), .int .i64 ((l1 : Int) + l2), .int .i64 a1, .int .i64 b2, .int .u64 (addm (mulm v1 s2) v2 : Nat), .int .u64 (mulm s1 s2 : Nat)] 150 ∧ Blk wx w.heap.size [.int .i64 n1, .int .i64 l1, .int .i64 a1, .int .i64 b1, .int .u64 v1, .int .u64 s1] 150 ∧ Blk wx (w.heap.size + 1) [.int .i64 n2, .int .i64 l2, .int .i64 a2, .int .i64 b2, .int .u64 v2, .int .u64 s2] 150 ∧ Blk wx (w.heap.size + 1 + 1) [.int .i64 0, .int .i64 0, .int .i64 0, .int .i64 0, .int .u64 0, .int .u64 0] 150 ∧ Below w.heap.size w wx)) _ ⟨?_, ?_, ?_, ?_, ?_⟩ ?_
    · exact (((((q0.set_same 0 _).set_same 1 _).set_same 2 _).set_same 3 _).set_same 4 _).set_same 5 _
    · have := (d1.drew.alloc _).below hb3 (by simp <;> omega)
      repeat (refine Blk.set_other ?_ (by omega) _ _)
      exact this
    · have := (d2.drew.alloc _).below hb3 (by simp <;> omega)
      repeat (refine Blk.set_other ?_ (by omega) _ _)
      exact this
    · have := (d3.drew.alloc _).below hb3 (by simp <;> omega)
      repeat (refine Blk.set_other ?_ (by omega) _ _)
      exact this
    · repeat (refine Below.setCell ?_ (by simp; omega) _)
      refine Below.trans (Below.alloc hw2.drew (by simp; omega) _) (hb3.mono (by simp; omega))
    clear q0 hs3
    rintro wx ⟨x1, x2, x3, x4, hwx⟩
    have hG : w.heap.size + 1 + 1 < w2.heap.size := by omega
    clear d1 d2 d3 hw2 k10 k11 k12 k13 k14 k15 k20 k21 k22 k23 k24 k25 hb3 hc3 hf3 g1 g2 g3 g4 g5 g6 g7 g8 n1' n2' n3' n4'
    generalize w2.heap.size = G at *
    have k10 := x2.cell 0 rfl
    have k11 := x2.cell 1 rfl
    have k13 := x2.cell 3 rfl
    have k20 := x3.cell 0 rfl
    have k21 := x3.cell 1 rfl
    have k22 := x3.cell 2 rfl
    have j0 := x1.cell 0 rfl
    have j1 := x1.cell 1 rfl
    have j2 := x1.cell 2 rfl
    have j3 := x1.cell 3 rfl
    have j4 := x1.cell 4 rfl
    have j5 := x1.cell 5 rfl
    have f2 := x1.frozen 2
    have f3 := x1.frozen 3
    have r0 := x4.cell 0 rfl
    have r1 := x4.cell 1 rfl
    have r2 := x4.cell 2 rfl
    have r3 := x4.cell 3 rfl
    have r4 := x4.cell 4 rfl
    have r5 := x4.cell 5 rfl
    have t0 := x4.frozen 0
    have t1 := x4.frozen 1
    have t2 := x4.frozen 2
    have t3 := x4.frozen 3
    have t4 := x4.frozen 4
    have t5 := x4.frozen 5
    have y1 : ¬ G = w.heap.size := by omega
    have y2 : ¬ G = w.heap.size + 1 := by omega
    have y3 : ¬ G = w.heap.size + 1 + 1 := by omega
    have y4 : ¬ w.heap.size = G := by omega
    have y5 : ¬ w.heap.size + 1 = G := by omega
    have y6 : ¬ w.heap.size + 1 + 1 = G := by omega
    clear x1 x2 x3 x4
    by_cases z1 : l1 = 0
    · obtain rfl := z1
      by_cases z2 : l2 = 0
      · obtain rfl := z2
        obtain rfl := HHD.out.trans (if_pos rfl)
        obtain rfl := HTL.out.trans (if_pos rfl)
        go_wp2_with fail
        refine bodyPost_ret (v := .tuple #[.agg #[.int .i64 ((n1 + n2 : Nat) : Int), .int .i64 ((0 + 0 : Nat) : Int), .int .i64 ((n1 + a2 : Nat) : Int), .int .i64 ((n2 + b1 : Nat) : Int), .int .u64 (addm (mulm v1 s2) v2 : Nat), .int .u64 (mulm s1 s2 : Nat)], .nilIface]) (by simp [results, Tryd.results92, go_sem, r0, r1, r2, r3, r4, r5]) rfl ⟨by simp, ?_⟩
        repeat (refine Below.setCell ?_ (by simp; omega) _)
        exact hwx
      · have z2' : ((l2 : Int) == 0) = false := by simp; omega
        obtain rfl := HHD.out.trans (if_pos rfl)
        obtain rfl := HTL.out.trans (if_neg z2)
        go_wp2_with fail
        refine bodyPost_ret (v := .tuple #[.agg #[.int .i64 ((n1 + n2 : Nat) : Int), .int .i64 ((0 + l2 : Nat) : Int), .int .i64 ((n1 + a2 : Nat) : Int), .int .i64 ((tl : Nat) : Int), .int .u64 (addm (mulm v1 s2) v2 : Nat), .int .u64 (mulm s1 s2 : Nat)], .nilIface]) (by simp [results, Tryd.results92, go_sem, r0, r1, r2, r3, r4, r5]) rfl ⟨by simp, ?_⟩
        repeat (refine Below.setCell ?_ (by simp; omega) _)
        exact hwx
    · have z1' : ((l1 : Int) == 0) = false := by simp; omega
      by_cases z2 : l2 = 0
      · obtain rfl := z2
        obtain rfl := HHD.out.trans (if_neg z1)
        obtain rfl := HTL.out.trans (if_pos rfl)
        go_wp2_with fail
        refine bodyPost_ret (v := .tuple #[.agg #[.int .i64 ((n1 + n2 : Nat) : Int), .int .i64 ((l1 + 0 : Nat) : Int), .int .i64 ((hd : Nat) : Int), .int .i64 ((n2 + b1 : Nat) : Int), .int .u64 (addm (mulm v1 s2) v2 : Nat), .int .u64 (mulm s1 s2 : Nat)], .nilIface]) (by simp [results, Tryd.results92, go_sem, r0, r1, r2, r3, r4, r5]) rfl ⟨by simp, ?_⟩
        repeat (refine Below.setCell ?_ (by simp; omega) _)
        exact hwx
      · have z2' : ((l2 : Int) == 0) = false := by simp; omega
        obtain rfl := HHD.out.trans (if_neg z1)
        obtain rfl := HTL.out.trans (if_neg z2)
        go_wp2_with fail
        refine bodyPost_ret (v := .tuple #[.agg #[.int .i64 ((n1 + n2 : Nat) : Int), .int .i64 ((l1 + l2 : Nat) : Int), .int .i64 ((hd : Nat) : Int), .int .i64 ((tl : Nat) : Int), .int .u64 (addm (mulm v1 s2) v2 : Nat), .int .u64 (mulm s1 s2 : Nat)], .nilIface]) (by simp [results, Tryd.results92, go_sem, r0, r1, r2, r3, r4, r5]) rfl ⟨by simp, ?_⟩
        repeat (refine Below.setCell ?_ (by simp; omega) _)
        exact hwx

theorem weight_join (s t : List UInt8) (w : World) (h : s.length + t.length ≤ maxLength) :
    Calls Tryd.prog 92 #[.agg #[.int .i64 (List.length (s) : Nat), .int .i64 (lines (s) : Nat), .int .i64 (whead (s) : Nat), .int .i64 (wtail (s) : Nat), .int .u64 (dval (s) : Nat), .int .u64 (dscale (s) : Nat)], .agg #[.int .i64 (List.length (t) : Nat), .int .i64 (lines (t) : Nat), .int .i64 (whead (t) : Nat), .int .i64 (wtail (t) : Nat), .int .u64 (dval (t) : Nat), .int .u64 (dscale (t) : Nat)]] w fun e w' => e = .returned (.tuple #[.agg #[.int .i64 (List.length (s ++ t) : Nat), .int .i64 (lines (s ++ t) : Nat), .int .i64 (whead (s ++ t) : Nat), .int .i64 (wtail (s ++ t) : Nat), .int .u64 (dval (s ++ t) : Nat), .int .u64 (dscale (s ++ t) : Nat)], .nilIface]) ∧ Below w.heap.size w w' := by
  rw [List.length_append, lines_append, dval_append, dscale_append]
  exact weight_join_num _ _ _ _ _ _ _ _ _ _ _ _ _ _ w h (weight_valid s) (weight_valid t) (lines_le s) (lines_le t) (whead_le s) (wtail_le s) (whead_le t) (wtail_le t) (dval_lt s) (dscale_lt s) (dval_lt t) (dscale_lt t) (whead_append s t) (wtail_append s t)
end Go.Proofs.YtlmdkaniblhdmaaDoor
/- Package weight: Repeat. -/
namespace Go.Proofs.YtlmdkaniblhdmaaDoor
open Go Go.RowKit Eg
set_option maxRecDepth 100000

set_option maxHeartbeats 2000000 in
theorem weight_repeat_num (t : List UInt8) (n l a b k N M hd tl : Nat) (w : World) (hn : 1 ≤ n) (hk : 1 ≤ k) (hNM : n * k ≤ maxLength) (hN : N = n * k) (hM : M = l * k)
    (h1 : ∀ w, n ≤ maxLength → Calls Tryd.prog 128 #[.agg #[.int .i64 n, .int .i64 l, .int .i64 a, .int .i64 b, .int .u64 (dval t : Nat), .int .u64 (dscale t : Nat)]] w fun e w' => e = .returned (.bool true) ∧ Below w.heap.size w w')
    (q1 : l ≤ n)
    (hhd : hd = if l = 0 then N else a) (htl : tl = if l = 0 then N else b) :
    Calls Tryd.prog 116 #[.agg #[.int .i64 n, .int .i64 l, .int .i64 a, .int .i64 b, .int .u64 (dval t : Nat), .int .u64 (dscale t : Nat)], .int .i64 k] w fun e w' =>
      e = .returned (.tuple #[.agg #[.int .i64 (N : Nat), .int .i64 (M : Nat), .int .i64 hd, .int .i64 tl, .int .u64 (dval (rep k t) : Nat), .int .u64 (dscale (rep k t) : Nat)], .nilIface]) ∧ Below w.heap.size w w' := by
  have hnm : n ≤ maxLength := Nat.le_trans (Nat.le_mul_of_pos_right n hk) hNM
  have hkm : k ≤ maxLength := Nat.le_trans (Nat.le_mul_of_pos_left k hn) hNM
  have hlk : l * k ≤ n * k := Nat.mul_le_mul_right k q1
  have hk63 : k < 9223372036854775808 := by unfold maxLength at hkm; omega
  have hx := length_mul n k (ha := hnm) (h0 := hn) (h := hNM)
  rw [← hN] at hx
  have hN1 : 1 ≤ N := by rw [hN]; exact Nat.mul_pos hn hk
  have hNz : ((N : Int) == 0) = false := by simp; omega
  have hwl : IntKind.i64.wrap ((l : Int) * k) = (M : Int) := by
    rw [← Int.natCast_mul, ← hM]; exact IntWalk.i64_in _ (by unfold maxLength at hNM; omega)
  have hk0 : decide ((k : Int) < 0) = false := by simp
  have H1 := Lib.hid h1
  have HX := Lib.hid hx
  have HNM := Lib.hid hnm
  have HHD := Lib.hid hhd
  have HTL := Lib.hid htl
  have HK := Lib.hid hk63
  clear h1 hx hhd htl hnm hkm hNM hlk hM hN q1 hk hn hk63 hN1
  go_enter Tryd.func116, Tryd.ntmps116
  go_wp2_with fail
  refine (H1.out _ HNM.out).mono ?_
  rintro e w2 ⟨rfl, hb1⟩
  have d1 : Blk w2 w.heap.size [.int .i64 n, .int .i64 l, .int .i64 a, .int .i64 b, .int .u64 (dval t : Nat), .int .u64 (dscale t : Nat)] 150 := ((Blk.new_at _ rfl _ _).alloc _).below hb1 (by simp; omega)
  have d3 : Blk w2 (w.heap.size + 1) [.int .i64 0, .int .i64 0, .int .i64 0, .int .i64 0, .int .u64 0, .int .u64 0] 150 := (Blk.new_at _ (by simp) _ _).below hb1 (by simp)
  have hw2 : Below w.heap.size w w2 := Below.trans (by go_grown) (hb1.mono (by simp; omega))
  clear hb1
  have hz2 := d3.lt
  have k10 := d1.cell 0 rfl
  have k11 := d1.cell 1 rfl
  have k12 := d1.cell 2 rfl
  have k13 := d1.cell 3 rfl
  have k14 := d1.cell 4 rfl
  have k15 := d1.cell 5 rfl
  go_wp2_with fail
  refine (HX.out _).mono ?_
  rintro e w' ⟨rfl, rfl⟩
  go_wp2_with fail
  have n1' : ¬ w2.heap.size = w.heap.size := by omega
  have n2' : ¬ w2.heap.size = w.heap.size + 1 := by omega
  have n3' : ¬ w.heap.size = w2.heap.size := by omega
  have n4' : ¬ w.heap.size + 1 = w2.heap.size := by omega
  go_region_held3 (fun w' => (w'.cell? ⟨w.heap.size, 1, none⟩ = some (.int .i64 l) ∧ w'.cell? ⟨w.heap.size, 2, none⟩ = some (.int .i64 a) ∧ w'.cell? ⟨w.heap.size, 3, none⟩ = some (.int .i64 b) ∧ w'.cell? ⟨w.heap.size, 4, none⟩ = some (.int .u64 (dval t : Nat)) ∧ w'.cell? ⟨w.heap.size, 5, none⟩ = some (.int .u64 (dscale t : Nat))) ∧ w.heap.size + 1 < w'.heap.size) (first | (go_keep; done) | (go_keep; omega))
    (first | (go_at_call 137; refine (digest_repeat _ _ _ HK.out).mono ?_; rintro e w3 ⟨rfl, hb3⟩; obtain ⟨hc3, hf3⟩ := bcell hb3; have g1 := hc3 w.heap.size 1 (by simp at *; omega); have g2 := hc3 w.heap.size 2 (by simp at *; omega); have g3 := hc3 w.heap.size 3 (by simp at *; omega); have g4 := hc3 w.heap.size 4 (by simp at *; omega); have g5 := hc3 w.heap.size 5 (by simp at *; omega); have hz9 : w.heap.size + 1 < w3.heap.size := Nat.lt_of_lt_of_le (by simp at *; omega) hb3.size))
  · simp only [Exit.then]
    refine gen_world (R := (fun wx => Blk wx w3.heap.size [.int .i64 (N : Nat), .int .i64 (M : Nat), .int .i64 a, .int .i64 b, .int .u64 (dval (rep k t) : Nat), .int .u64 (dscale (rep k t) : Nat)] 150 ∧ Blk wx w.heap.size [.int .i64 n, .int .i64 l, .int .i64 a, .int .i64 b, .int .u64 (dval t : Nat), .int .u64 (dscale t : Nat)] 150 ∧ Blk wx (w.heap.size + 1) [.int .i64 0, .int .i64 0, .int .i64 0, .int .i64 0, .int .u64 0, .int .u64 0] 150 ∧ Below w.heap.size w wx)) _ ⟨Blk.new_at w3 rfl _ _, (d1.drew.below hb3 (by simp; omega)).alloc _, (d3.drew.below hb3 (by simp; omega)).alloc _, ?_⟩ ?_
    · refine Below.alloc ?_ (by omega) _
      exact (hw2.drew).trans (hb3.mono (by simp; omega))
    rintro wx ⟨x1, x2, x4, hwx⟩
    have hG : w.heap.size + 1 < w3.heap.size := by omega
    clear d1 d3 hw2 k10 k11 k12 k13 k14 k15 hb3 hc3 hf3 g1 g2 g3 g4 g5 n1' n2' n3' n4'
    generalize w3.heap.size = G at *
    have k11 := x2.cell 1 rfl
    have j0 := x1.cell 0 rfl
    have j1 := x1.cell 1 rfl
    have j2 := x1.cell 2 rfl
    have j3 := x1.cell 3 rfl
    have j4 := x1.cell 4 rfl
    have j5 := x1.cell 5 rfl
    have f2 := x1.frozen 2
    have f3 := x1.frozen 3
    have r0 := x4.cell 0 rfl
    have r1 := x4.cell 1 rfl
    have r2 := x4.cell 2 rfl
    have r3 := x4.cell 3 rfl
    have r4 := x4.cell 4 rfl
    have r5 := x4.cell 5 rfl
    have t0 := x4.frozen 0
    have t1 := x4.frozen 1
    have t2 := x4.frozen 2
    have t3 := x4.frozen 3
    have t4 := x4.frozen 4
    have t5 := x4.frozen 5
    have y1 : ¬ G = w.heap.size := by omega
    have y3 : ¬ G = w.heap.size + 1 := by omega
    have y4 : ¬ w.heap.size = G := by omega
    have y6 : ¬ w.heap.size + 1 = G := by omega
    clear x1 x2 x4
    by_cases z1 : l = 0
    · obtain rfl := z1
      have E1 := Lib.hid (HHD.out.trans (if_pos rfl))
      have E2 := Lib.hid (HTL.out.trans (if_pos rfl))
      go_wp2_with fail
      have e1 := E1.out
      have e2 := E2.out
      refine bodyPost_ret (v := .tuple #[.agg #[.int .i64 (N : Nat), .int .i64 (M : Nat), .int .i64 (hd : Nat), .int .i64 (tl : Nat), .int .u64 (dval (rep k t) : Nat), .int .u64 (dscale (rep k t) : Nat)], .nilIface]) (by simp [results, Tryd.results116, go_sem, r0, r1, r2, r3, r4, r5, e1, e2]) rfl ⟨by simp, ?_⟩
      repeat (refine Below.setCell ?_ (by simp <;> omega) _)
      exact hwx
    · have z1' : ((l : Int) == 0) = false := by simp; omega
      have E1 := Lib.hid (HHD.out.trans (if_neg z1))
      have E2 := Lib.hid (HTL.out.trans (if_neg z1))
      go_wp2_with fail
      have e1 := E1.out
      have e2 := E2.out
      refine bodyPost_ret (v := .tuple #[.agg #[.int .i64 (N : Nat), .int .i64 (M : Nat), .int .i64 (hd : Nat), .int .i64 (tl : Nat), .int .u64 (dval (rep k t) : Nat), .int .u64 (dscale (rep k t) : Nat)], .nilIface]) (by simp [results, Tryd.results116, go_sem, r0, r1, r2, r3, r4, r5, e1, e2]) rfl ⟨by simp, ?_⟩
      repeat (refine Below.setCell ?_ (by simp <;> omega) _)
      exact hwx
  · simp only [Exit.then]
    have hs3 := hb3.size
    simp at hs3
    have q0 : Blk w3 w2.heap.size [.int .i64 0, .int .i64 0, .int .i64 0, .int .i64 0, .int .u64 0, .int .u64 0] 150 := (Blk.new_at w2.drew rfl _ _).below hb3 (by simp)
    refine gen_world (R := (fun wx => Blk wx w2.heap.size [.int .i64 (N : Nat), .int .i64 (M : Nat), .int .i64 a, .int .i64 b, .int .u64 (dval (rep k t) : Nat), .int .u64 (dscale (rep k t) : Nat)] 150 ∧ Blk wx w.heap.size [.int .i64 n, .int .i64 l, .int .i64 a, .int .i64 b, .int .u64 (dval t : Nat), .int .u64 (dscale t : Nat)] 150 ∧ Blk wx (w.heap.size + 1) [.int .i64 0, .int .i64 0, .int .i64 0, .int .i64 0, .int .u64 0, .int .u64 0] 150 ∧ Below w.heap.size w wx)) _ ⟨?_, ?_, ?_, ?_⟩ ?_
    · exact (((((q0.set_same 0 _).set_same 1 _).set_same 2 _).set_same 3 _).set_same 4 _).set_same 5 _
    · have := (d1.drew.alloc _).below hb3 (by simp <;> omega)
      repeat (refine Blk.set_other ?_ (by omega) _ _)
      exact this
    · have := (d3.drew.alloc _).below hb3 (by simp <;> omega)
      repeat (refine Blk.set_other ?_ (by omega) _ _)
      exact this
    · repeat (refine Below.setCell ?_ (by simp <;> omega) _)
      refine Below.trans (Below.alloc hw2.drew (by simp; omega) _) (hb3.mono (by simp; omega))
    clear q0 hs3
    rintro wx ⟨x1, x2, x4, hwx⟩
    have hG : w.heap.size + 1 < w2.heap.size := by omega
    clear d1 d3 hw2 k10 k11 k12 k13 k14 k15 hb3 hc3 hf3 g1 g2 g3 g4 g5 n1' n2' n3' n4'
    generalize w2.heap.size = G at *
    have k11 := x2.cell 1 rfl
    have j0 := x1.cell 0 rfl
    have j1 := x1.cell 1 rfl
    have j2 := x1.cell 2 rfl
    have j3 := x1.cell 3 rfl
    have j4 := x1.cell 4 rfl
    have j5 := x1.cell 5 rfl
    have f2 := x1.frozen 2
    have f3 := x1.frozen 3
    have r0 := x4.cell 0 rfl
    have r1 := x4.cell 1 rfl
    have r2 := x4.cell 2 rfl
    have r3 := x4.cell 3 rfl
    have r4 := x4.cell 4 rfl
    have r5 := x4.cell 5 rfl
    have t0 := x4.frozen 0
    have t1 := x4.frozen 1
    have t2 := x4.frozen 2
    have t3 := x4.frozen 3
    have t4 := x4.frozen 4
    have t5 := x4.frozen 5
    have y1 : ¬ G = w.heap.size := by omega
    have y3 : ¬ G = w.heap.size + 1 := by omega
    have y4 : ¬ w.heap.size = G := by omega
    have y6 : ¬ w.heap.size + 1 = G := by omega
    clear x1 x2 x4
    by_cases z1 : l = 0
    · obtain rfl := z1
      have E1 := Lib.hid (HHD.out.trans (if_pos rfl))
      have E2 := Lib.hid (HTL.out.trans (if_pos rfl))
      go_wp2_with fail
      have e1 := E1.out
      have e2 := E2.out
      refine bodyPost_ret (v := .tuple #[.agg #[.int .i64 (N : Nat), .int .i64 (M : Nat), .int .i64 (hd : Nat), .int .i64 (tl : Nat), .int .u64 (dval (rep k t) : Nat), .int .u64 (dscale (rep k t) : Nat)], .nilIface]) (by simp [results, Tryd.results116, go_sem, r0, r1, r2, r3, r4, r5, e1, e2]) rfl ⟨by simp, ?_⟩
      repeat (refine Below.setCell ?_ (by simp <;> omega) _)
      exact hwx
    · have z1' : ((l : Int) == 0) = false := by simp; omega
      have E1 := Lib.hid (HHD.out.trans (if_neg z1))
      have E2 := Lib.hid (HTL.out.trans (if_neg z1))
      go_wp2_with fail
      have e1 := E1.out
      have e2 := E2.out
      refine bodyPost_ret (v := .tuple #[.agg #[.int .i64 (N : Nat), .int .i64 (M : Nat), .int .i64 (hd : Nat), .int .i64 (tl : Nat), .int .u64 (dval (rep k t) : Nat), .int .u64 (dscale (rep k t) : Nat)], .nilIface]) (by simp [results, Tryd.results116, go_sem, r0, r1, r2, r3, r4, r5, e1, e2]) rfl ⟨by simp, ?_⟩
      repeat (refine Below.setCell ?_ (by simp <;> omega) _)
      exact hwx

theorem weight_repeat (t : List UInt8) (k : Nat) (w : World) (ht : 1 ≤ t.length) (hk : 1 ≤ k) (h : t.length * k ≤ maxLength) :
    Calls Tryd.prog 116 #[.agg #[.int .i64 (List.length (t) : Nat), .int .i64 (lines (t) : Nat), .int .i64 (whead (t) : Nat), .int .i64 (wtail (t) : Nat), .int .u64 (dval (t) : Nat), .int .u64 (dscale (t) : Nat)], .int .i64 k] w fun e w' => e = .returned (.tuple #[.agg #[.int .i64 (List.length (rep k t) : Nat), .int .i64 (lines (rep k t) : Nat), .int .i64 (whead (rep k t) : Nat), .int .i64 (wtail (rep k t) : Nat), .int .u64 (dval (rep k t) : Nat), .int .u64 (dscale (rep k t) : Nat)], .nilIface]) ∧ Below w.heap.size w w' := by
  refine weight_repeat_num t _ _ _ _ k _ _ _ _ w ht hk h (by rw [rep_length, Nat.mul_comm]) (lines_rep k t) (weight_valid t) (lines_le t) ?_ ?_
  · by_cases hl : lines t = 0
    · rw [if_pos hl, whead_none (by rw [lines_rep, hl, Nat.zero_mul])]
    · rw [if_neg hl, whead_rep hk hl]
  · by_cases hl : lines t = 0
    · rw [if_pos hl, wtail_none (by rw [lines_rep, hl, Nat.zero_mul])]
    · rw [if_neg hl, wtail_rep hk hl]
end Go.Proofs.YtlmdkaniblhdmaaDoor
/- The store: add. -/
namespace Go.Proofs.YtlmdkaniblhdmaaDoor
open Go Go.RowKit Eg
set_option maxRecDepth 100000
variable {w w' : World} {s most bm : Nat} {E : List Ent} {lv : Value}

/-- Beside new blocks only blocks of F have changed. -/
structure Upd (F : Nat → Prop) (w w' : World) : Prop where
  os : w'.os = w.os
  tape : w'.tape = w.tape
  output : w'.output = w.output
  size : w.heap.size ≤ w'.heap.size
  block : ∀ k, k < w.heap.size → ¬ F k → w'.heap[k]? = w.heap[k]?

theorem info152 : (Tryd.prog.info? 152).map (fun i => (i.zero, i.size, i.bytes)) = some (some (.agg #[.int .i64 0, .int .u8 0, .int .i64 0, .int .i64 0, .int .i64 0, .int .i64 0, .int .i64 0, .int .i64 0, .int .i64 0, .int .u64 0, .int .u64 0, .int .i64 0, .bool false]), 13, 104) := by kernel_rfl
theorem under116 : Tryd.prog.underlying 116 = some (.slice 152) := by kernel_rfl

/-- The blocks of a store. -/
def SFoot (s : Nat) (lv : Value) (bm k : Nat) : Prop := k = s ∨ k = bm ∨ lv.ownBlock = some k

/-- What a call leaves that puts an entry into a store. -/
def AddPost (w : World) (s most : Nat) (lv : Value) (bm : Nat) (E' : List Ent) (v : Value) (e : Ending) (w' : World) : Prop :=
  ∃ lv', e = .returned v ∧ StoreAt w' s most E' lv' bm ∧ Upd (SFoot s lv bm) w w' ∧ ∀ k, SFoot s lv' bm k → SFoot s lv bm k ∨ w.heap.size ≤ k

theorem add_close {w1 w2 : World} {A B : Obj} {x : Ent} {g cap : Nat} (h : StoreAt w s most E lv bm) (hok : Wf (rls E ++ [x.r])) (hx : x.t = txt (rls E ++ [x.r]) (E.length + 1)) (hroom : E.length < most)
    (hg : ((w.alloc A).alloc B).drew.grownBy w1 lv.ownBlock) (ho : w1.ownsRow 0 152 13 (.slice (some ⟨g, 0, none⟩) (E.length + 1) cap) (E.length + 1) (row13 E ++ x.cells)) (ha : lv.ownBlock = some g ∨ w.heap.size ≤ g)
    (ht : Blk (w1.setCell ⟨s, 1, none⟩ (.slice (some ⟨g, 0, none⟩) (E.length + 1) cap)) s [.int .i64 most, .slice (some ⟨g, 0, none⟩) (E.length + 1) cap, .map (some bm)] 119)
    (hi2 : w2.heap[bm]? = some (.map (mapOf (rls E ++ [x.r])) (rls E ++ [x.r]).length)) (hg2 : (w1.setCell ⟨s, 1, none⟩ (.slice (some ⟨g, 0, none⟩) (E.length + 1) cap)).drew.grownBy w2 (some bm)) (hsb : bm ≠ s) :
    AddPost w s most lv bm (E ++ [x]) (.int .i64 ((E.length + 1 : Nat) : Int)) (.returned (.int .i64 ((E.length + 1 : Nat) : Int))) w2 := by
  have hgs : g ≠ s := by
    rintro rfl
    rcases ho.2 with ⟨h0, _⟩ | ⟨g', cap', cur', h0, _, hg', _⟩
    · cases h0
    · simp only [Value.slice.injEq, Option.some.injEq, Addr.mk.injEq, and_true] at h0
      obtain ⟨⟨rfl⟩, _⟩ := h0
      have h1 := ht
      unfold Blk at h1
      simp [World.setCell, Array.getElem?_modify, hg'] at h1
  have ho1 := ho.kept (grownBy_setCell w1 ⟨s, 1, none⟩ (.slice (some ⟨g, 0, none⟩) (E.length + 1) cap)) (by right; simp [Value.ownBlock, hgs])
  have hgb : g ≠ bm := by
    rintro rfl
    rcases ho1.2 with ⟨h0, _⟩ | ⟨g', cap', cur', h0, _, hg', _⟩
    · cases h0
    · simp only [Value.slice.injEq, Option.some.injEq, Addr.mk.injEq, and_true] at h0
      obtain ⟨⟨rfl⟩, _⟩ := h0
      have hbm : g < w.heap.size := (Array.getElem?_eq_some_iff.1 h.ids).1
      by_cases hl : lv.ownBlock = some g
      · rcases h.row.2 with ⟨h0, _⟩ | ⟨g', cap', cur', h0, _, hg'', _⟩
        · rw [h0] at hl; cases hl
        · rw [h0] at hl
          obtain rfl : g' = g := by simpa [Value.ownBlock] using hl
          have := h.ids; rw [hg''] at this; cases this
      · rcases ha with ha | ha
        · exact hl ha
        · omega
  have ho2 := (show (w1.setCell ⟨s, 1, none⟩ (.slice (some ⟨g, 0, none⟩) (E.length + 1) cap)).drew.ownsRow 0 152 13 _ _ _ from ho1).kept hg2 (by right; simp [Value.ownBlock, hgb])
  refine ⟨_, rfl, ⟨ht.drew.grown hg2 (by simp [hsb.symm]), ?_, ?_, ?_, ?_, h.most_le, ?_⟩, ?_, ?_⟩
  · rw [row13_append, List.length_append]; simpa [row13] using ho2
  · rw [rls_append]; exact hi2
  · rw [rls_append]; exact hok
  · intro i y hy
    rw [rls_append]
    by_cases hlt : i < E.length
    · rw [List.getElem?_append_left hlt] at hy
      rw [txt_ext _ (by rw [rls_length]; omega)]
      exact h.texts i y hy
    · have hi' : i < (E ++ [x]).length := (List.getElem?_eq_some_iff.1 hy).1
      obtain rfl : i = E.length := by simp at hi'; omega
      rw [List.getElem?_append_right (Nat.le_refl _)] at hy
      simp at hy
      subst hy
      exact hx
  · rw [List.length_append]; simp; omega
  · refine ⟨hg2.os.trans hg.os, hg2.tape.trans hg.tape, hg2.output.trans hg.output, ?_, fun k hk hF => ?_⟩
    · have h1 := hg.size; have h2 := hg2.size; simp at h1 h2; omega
    · have h1 : k ≠ s := fun e => hF (.inl e)
      have h2 : k ≠ bm := fun e => hF (.inr (.inl e))
      have h3 : lv.ownBlock ≠ some k := fun e => hF (.inr (.inr e))
      have hs := hg.size
      simp at hs
      rw [hg2.block k (by simp; omega) (by simp [h2])]
      show (w1.setCell _ _).heap[k]? = _
      rw [Below.heap_setCell _ _ _ _ h1, hg.block k (by simp; omega) (fun e => h3 e.symm)]
      show ((w.alloc _).alloc _).heap[k]? = _
      rw [Below.heap_alloc _ _ _ (by simp; omega), Below.heap_alloc _ _ _ hk]
  · rintro k (rfl | rfl | hk)
    · exact .inl (.inl rfl)
    · exact .inl (.inr (.inl rfl))
    · obtain rfl : g = k := by simpa [Value.ownBlock] using hk
      rcases ha with ha | ha
      · exact .inl (.inr (.inr ha))
      · exact .inr ha

theorem store_add (w : World) (x : Ent) (h : StoreAt w s most E lv bm) (hr : x.r ∉ rls E) (hok : Wf (rls E ++ [x.r])) (hx : x.t = txt (rls E ++ [x.r]) (E.length + 1)) (hroom : E.length < most) :
    Calls Tryd.prog 93 #[.pointer (some ⟨s, 0, none⟩), .agg #[.int .i64 (Rl.kind (x.r) : Nat), .int .u8 (Rl.byte (x.r) : Nat), .int .i64 (Rl.left (x.r) : Nat), .int .i64 (Rl.right (x.r) : Nat), .int .i64 (Rl.times (x.r) : Nat), .int .i64 (List.length (x.t) : Nat), .int .i64 (lines (x.t) : Nat), .int .i64 (whead (x.t) : Nat), .int .i64 (wtail (x.t) : Nat), .int .u64 (dval (x.t) : Nat), .int .u64 (dscale (x.t) : Nat), .int .i64 x.d, .bool x.e]] w (AddPost w s most lv bm (E ++ [x]) (.int .i64 ((E.length + 1 : Nat) : Int))) := by
  have hm : most ≤ 1048576 := h.most_le
  obtain ⟨i0, hi, hz0, hz1, hz2⟩ := info_parts info152
  have k1 := h.top.cell 1 rfl
  have b0 := h.top.lt
  have f1 := h.top.frozen 1
  have n0 : ¬ w.heap.size = s := by omega
  have n1 : ¬ w.heap.size + 1 = s := by omega
  have HS := Lib.hid h
  have HR := Lib.hid hr
  have HOK := Lib.hid hok
  have HX := Lib.hid hx
  have hrow := Lib.hid h.row
  have hne1 : some s ≠ lv.ownBlock := by
    intro e
    rcases h.row.2 with ⟨rfl, _⟩ | ⟨g, cap, cur, rfl, _, hg, _⟩
    · cases e
    · obtain rfl : s = g := by simpa [Value.ownBlock] using e
      have := h.top
      unfold Blk at this
      rw [hg] at this
      simp at this
  have hne2 : some w.heap.size ≠ lv.ownBlock := by
    intro e
    have := (h.row.lt _ e.symm).2
    omega
  clear h hr hok hx
  go_enter Tryd.func93, Tryd.ntmps93
  go_wp2_with fail
  go_region_law
    (first | (refine step_append_lies _ ?_ (.tmp 10) (.tmp 12) 116 ?_ 0 152 i0 _ 13 104 under116 hi hz0 hz1 hz2 (by rfl) (by decide) lv E.length (row13 E) ?_ ?_ ⟨w.heap.size + 1, 0, none⟩ 1 1 x.cells ?_ (by rfl) ?_ ?_ (by decide) ?_ ?_ (Nat.zero_le _) _ rfl ?_; rfl; rfl; go_must (rfl; (exact ((hrow.out.alloc _).alloc _).drew); rfl; (exact World.news_of_block (Blk.new_at (w.alloc _) (b := w.heap.size + 1) (by simp) x.cells 152)); (intro u hu; simp [Ent.cells] at hu; rcases hu with rfl | rfl | rfl | rfl | rfl | rfl | rfl | rfl | rfl | rfl | rfl | rfl | rfl <;> rfl); (unfold maxLen; omega); omega; intro g cap w1 hown1 hgrow hat hlt; have y := hgrow.cell_far ⟨s, 1, none⟩ (by simp; omega) hne1; have fz := hgrow.frozen_far ⟨s, 1, none⟩ (by simp; omega) hne1)))
  all_goals
    have hlt1 : s < w1.heap.size := by have := hgrow.size; simp at this; omega
    have hbm : bm < w.heap.size := (Array.getElem?_eq_some_iff.1 HS.out.ids).1
    have hsb : bm ≠ s := by
      rintro rfl
      have h1 := HS.out.ids; have h2 := HS.out.top
      unfold Blk at h2
      rw [h2] at h1; cases h1
    have hbl : some bm ≠ lv.ownBlock := by
      intro e
      rcases HS.out.row.2 with ⟨h0, _⟩ | ⟨g', cap', cur', h0, _, hg', _⟩
      · rw [h0] at e; cases e
      · rw [h0] at e
        obtain rfl : bm = g' := by simpa [Value.ownBlock] using e
        have h1 := HS.out.ids
        rw [hg'] at h1; cases h1
    have hids1 : (w1.setCell ⟨s, 1, none⟩ (.slice (some ⟨g, 0, none⟩) (E.length + 1) cap)).drew.heap[bm]? = some (.map (mapOf (rls E)) (rls E).length) := by
      show (w1.setCell _ _).heap[bm]? = _
      rw [Below.heap_setCell _ _ _ _ hsb, hgrow.block bm (by simp; omega) hbl]
      show ((w.alloc _).alloc _).heap[bm]? = _
      rw [Below.heap_alloc _ _ _ (by simp; omega), Below.heap_alloc _ _ _ hbm]
      exact HS.out.ids
    obtain ⟨w2, hrun, hids2, hg2⟩ := ids_update (rls E) x.r _ bm hids1 HR.out
    unfold ruleV at hrun
    rw [rls_length] at hrun
    have t1 : Blk w1 s [.int .i64 most, lv, .map (some bm)] 119 := ((HS.out.top.alloc _).alloc _).drew.grown hgrow hne1
    have t2 : Blk w1 w.heap.size x.cells 152 := ((Blk.new_at w rfl x.cells _).alloc _).drew.grown hgrow hne2
    have t3 := t1.set_same 1 (.slice (some ⟨g, 0, none⟩) (E.length + 1) cap)
    have t4 := t2.set_other (b' := s) (by omega) 1 (.slice (some ⟨g, 0, none⟩) (E.length + 1) cap)
    simp only [Exit.then]
    refine gen_world (R := fun wx => Blk wx s [.int .i64 most, .slice (some ⟨g, 0, none⟩) (E.length + 1) cap, .map (some bm)] 119 ∧ Blk wx w.heap.size x.cells 152 ∧ (Instr.mapUpdate 117 (.map (some bm)) (.agg #[.int .i64 (Rl.kind (x.r) : Nat), .int .u8 (Rl.byte (x.r) : Nat), .int .i64 (Rl.left (x.r) : Nat), .int .i64 (Rl.right (x.r) : Nat), .int .i64 (Rl.times (x.r) : Nat)]) (.int .i64 ((E.length : Int) + 1))).run Tryd.prog wx.drew = .ok () w2) _ ⟨t3, t4, hrun⟩ ?_
    rintro wx ⟨u1, u2, hrunx⟩
    have j1 := u1.cell 1 rfl
    have j2 := u1.cell 2 rfl
    have r0 := u2.cell 0 rfl
    have r1 := u2.cell 1 rfl
    have r2 := u2.cell 2 rfl
    have r3 := u2.cell 3 rfl
    have r4 := u2.cell 4 rfl
    have HG := Lib.hid hgrow
    have HG2 := Lib.hid hg2
    have HI2 := Lib.hid hids2
    have HO := Lib.hid hown1
    have HA := Lib.hid hat
    have T3 := Lib.hid t3
    clear t1 t2 t3 t4 hrun hgrow hg2 hids2 hown1 hids1 hat u1 u2 y fz hlt k1 f1 hi hz0 hz1 hz2
    go_wp2_with fail
    go_region
    all_goals go_wp2_with fail
    all_goals go_ret
    all_goals exact add_close HS.out HOK.out HX.out hroom HG.out HO.out (HA.out.imp id (fun e => by simp at e; omega)) T3.out HI2.out HG2.out hsb
end Go.Proofs.YtlmdkaniblhdmaaDoor
/- Plain stores: a new rule keeps a store well-formed. -/
namespace Eg
theorem Wf.snoc {L : List Rl} {r : Rl} (h : Wf L) (hr : r ∉ L) (hok : r.ok (L.length + 1)) (hroom : L.length < maxRules) (hlen : len (L ++ [r]) (L.length + 1) ≤ maxLength) : Wf (L ++ [r]) := by
  have hget : ∀ (i : Nat) (q : Rl), (L ++ [r])[i]? = some q → (i < L.length ∧ L[i]? = some q) ∨ (i = L.length ∧ q = r) := by
    intro i q hq
    by_cases hi : i < L.length
    · rw [List.getElem?_append_left hi] at hq; exact .inl ⟨hi, hq⟩
    · have hi' : i < (L ++ [r]).length := (List.getElem?_eq_some_iff.1 hq).1
      have : i = L.length := by simp at hi'; omega
      subst this
      rw [List.getElem?_append_right (Nat.le_refl _)] at hq
      simp at hq
      exact .inr ⟨rfl, hq.symm⟩
  refine ⟨fun i q hq => ?_, fun i j q hi hj => ?_, fun i => ?_, by simp; omega⟩
  · rcases hget i q hq with ⟨_, h1⟩ | ⟨rfl, rfl⟩
    · exact h.ok i q h1
    · exact hok
  · rcases hget i q hi with ⟨_, h1⟩ | ⟨rfl, rfl⟩
    · rcases hget j q hj with ⟨_, h2⟩ | ⟨rfl, rfl⟩
      · exact h.nodup i j q h1 h2
      · exact absurd (List.mem_of_getElem? h1) hr
    · rcases hget j q hj with ⟨_, h2⟩ | ⟨rfl, _⟩
      · exact absurd (List.mem_of_getElem? h2) hr
      · rfl
  · by_cases hi : i ≤ L.length
    · rw [len_ext _ hi]; exact h.short i
    · by_cases hi2 : i = L.length + 1
      · subst hi2; exact hlen
      · rw [len_out (by simp; omega)]; exact Nat.zero_le _
theorem txt_snoc_letter (L : List Rl) (b : UInt8) : txt (L ++ [.letter b]) (L.length + 1) = [b] := txt_letter (by simp)
theorem txt_snoc_pair (L : List Rl) {l r : Nat} (hl : 1 ≤ l) (hl2 : l ≤ L.length) (hr : 1 ≤ r) (hr2 : r ≤ L.length) : txt (L ++ [.pair l r]) (L.length + 1) = txt L l ++ txt L r := by
  rw [txt_pair (l := l) (r := r) (by simp) ⟨hl, by omega, hr, by omega⟩, txt_ext _ hl2, txt_ext _ hr2]
theorem txt_snoc_power (L : List Rl) {x k : Nat} (hx : 1 ≤ x) (hx2 : x ≤ L.length) (hk : 2 ≤ k) : txt (L ++ [.power x k]) (L.length + 1) = rep k (txt L x) := by
  rw [txt_power (x := x) (k := k) (by simp) ⟨hx, by omega, hk⟩, txt_ext _ hx2]; rfl
theorem Wf.letter {L : List Rl} (h : Wf L) {b : UInt8} (hr : Rl.letter b ∉ L) (hroom : L.length < maxRules) : Wf (L ++ [.letter b]) :=
  h.snoc hr trivial hroom (by rw [len, txt_snoc_letter]; unfold maxLength; simp)
theorem Wf.pair {L : List Rl} (h : Wf L) {l r : Nat} (hr : Rl.pair l r ∉ L) (hroom : L.length < maxRules) (hl : 1 ≤ l) (hl2 : l ≤ L.length) (hr1 : 1 ≤ r) (hr2 : r ≤ L.length) (hlen : len L l + len L r ≤ maxLength) : Wf (L ++ [.pair l r]) :=
  h.snoc hr ⟨hl, by omega, hr1, by omega⟩ hroom (by rw [len, txt_snoc_pair L hl hl2 hr1 hr2, List.length_append]; exact hlen)
theorem Wf.power {L : List Rl} (h : Wf L) {x k : Nat} (hr : Rl.power x k ∉ L) (hroom : L.length < maxRules) (hx : 1 ≤ x) (hx2 : x ≤ L.length) (hk : 2 ≤ k) (hlen : len L x * k ≤ maxLength) : Wf (L ++ [.power x k]) :=
  h.snoc hr ⟨hx, by omega, hk⟩ hroom (by rw [len, txt_snoc_power L hx hx2 hk, rep_length, Nat.mul_comm]; exact hlen)
end Eg
/- The store: Letter. -/
namespace Go.Proofs.YtlmdkaniblhdmaaDoor
open Go Go.RowKit Eg
set_option maxRecDepth 100000
variable {w w' : World} {s most bm : Nat} {E : List Ent} {lv : Value}

/-- What a call leaves that looks for a rule, and puts it into the store if it is not there. -/
def PutPost (w : World) (s most : Nat) (lv : Value) (bm : Nat) (E : List Ent) (r : Rl) (e : Ending) (w' : World) : Prop :=
  ∃ (lv' : Value) (M : List Ent) (id : Nat), e = .returned (.tuple #[.int .i64 id, .nilIface]) ∧ StoreAt w' s most (E ++ M) lv' bm ∧ M.length ≤ 1 ∧ 1 ≤ id ∧ (rls (E ++ M))[id - 1]? = some r ∧
    Upd (SFoot s lv bm) w w' ∧ ∀ k, SFoot s lv' bm k → SFoot s lv bm k ∨ w.heap.size ≤ k

/-- A block of another type than those of a store does not belong to it. -/
theorem StoreAt.apart (h : StoreAt w s most E lv bm) {b : Nat} {c : List Value} {e : TypeId} (hb : Blk w b c e) (h1 : e ≠ 119) (h2 : e ≠ 152) : ¬ SFoot s lv bm b := by
  unfold Blk at hb
  rintro (rfl | rfl | hk)
  · have := h.top; unfold Blk at this; rw [hb] at this; simp at this; exact h1 this.2
  · have := h.ids; rw [hb] at this; cases this
  · rcases h.row.2 with ⟨h0, _⟩ | ⟨g, cap, cur, h0, _, hg, _⟩
    · rw [h0] at hk; cases hk
    · rw [h0] at hk
      obtain rfl : g = b := by simpa [Value.ownBlock] using hk
      rw [hb] at hg; simp at hg; exact h2 hg.2
theorem Blk.upd {F : Nat → Prop} {b : Nat} {c : List Value} {e : TypeId} (h : Blk w b c e) (hu : Upd F w w') (hF : ¬ F b) : Blk w' b c e := by
  have hlt := h.lt
  unfold Blk at *
  rw [hu.block b hlt hF]; exact h
theorem Upd.of_below {F : Nat → Prop} {w1 : World} (hb : Below w.heap.size w w1) (hu : Upd F w1 w') : Upd F w w' :=
  ⟨hu.os.trans hb.os, hu.tape.trans hb.tape, hu.output.trans hb.output, Nat.le_trans hb.size hu.size, fun k hk hF => (hu.block k (Nat.lt_of_lt_of_le hk hb.size) hF).trans (hb.block k hk)⟩
theorem Upd.below {F : Nat → Prop} {w1 : World} (hu : Upd F w w1) (hb : Below w.heap.size w1 w') : Upd F w w' :=
  ⟨hb.os.trans hu.os, hb.tape.trans hu.tape, hb.output.trans hu.output, Nat.le_trans hu.size hb.size, fun k hk hF => (hb.block k hk).trans (hu.block k hk hF)⟩
theorem Upd.refl (F : Nat → Prop) (w : World) : Upd F w w := ⟨rfl, rfl, rfl, Nat.le_refl _, fun _ _ _ => rfl⟩

theorem put_found {r : Rl} {w1 : World} (h : StoreAt w s most E lv bm) (hb : Below w.heap.size w w1) (hr : idOf (rls E) r ≠ 0) : PutPost w s most lv bm E r (.returned (.tuple #[.int .i64 (idOf (rls E) r : Nat), .nilIface])) w1 := by
  have hm : r ∈ rls E := Classical.byContradiction fun hn => hr (idOf_zero.2 hn)
  obtain ⟨h1, h2⟩ := idOf_some hm
  exact ⟨lv, [], idOf (rls E) r, rfl, by rw [List.append_nil]; exact h.below hb, by simp, h1, by rw [List.append_nil]; exact h2, Upd.of_below hb (Upd.refl _ _), fun k hk => .inl hk⟩
theorem put_added {x : Ent} {w1 w2 : World} {e : Ending} (hb : Below w.heap.size w w1) (h : AddPost w1 s most lv bm (E ++ [x]) (.int .i64 ((E.length + 1 : Nat) : Int)) e w2) :
    ∃ lv', e = .returned (.int .i64 ((E.length + 1 : Nat) : Int)) ∧ StoreAt w2 s most (E ++ [x]) lv' bm ∧ PutPost w s most lv bm E x.r (.returned (.tuple #[.int .i64 ((E.length + 1 : Nat) : Int), .nilIface])) w2 := by
  obtain ⟨lv', rfl, hS, hU, hF⟩ := h
  refine ⟨lv', rfl, hS, lv', [x], E.length + 1, rfl, hS, by simp, by omega, ?_, Upd.of_below hb hU, fun k hk => ?_⟩
  · rw [rls_append, Nat.add_sub_cancel, List.getElem?_append_right (by rw [rls_length]; omega), rls_length]; simp [rls]
  · rcases hF k hk with h1 | h1
    · exact .inl h1
    · exact .inr (Nat.le_trans hb.size h1)

theorem hp_upd {w1 w2 : World} {e : Ending} {E' : List Ent} {v : Value} (h : AddPost w1 s most lv bm E' v e w2) : Upd (SFoot s lv bm) w1 w2 := by
  obtain ⟨_, _, _, hU, _⟩ := h
  exact hU

theorem store_letter (w : World) (b : UInt8) (h : StoreAt w s most E lv bm) (hroom : E.length < most) :
    Calls Tryd.prog 76 #[.pointer (some ⟨s, 0, none⟩), .int .u8 b.toNat] w (PutPost w s most lv bm E (.letter b)) := by
  have HS := Lib.hid h
  have hb := b.toNat_lt
  have hs := h.top.lt
  have hfd := fun W (hW : StoreAt W s most E lv bm) => store_find W (.letter b) hW (.inr hroom)
  have HFD := Lib.hid hfd
  clear h hfd
  by_cases hz : idOf (rls E) (.letter b) = 0
  · have HZ := Lib.hid hz
    go_enter Tryd.func76, Tryd.ntmps76
    go_wp2_with fail
    refine (HFD.out _ (HS.out.below (by go_grown))).mono ?_
    rintro e w1 ⟨rfl, hb1⟩
    rw [HZ.out]
    have c1 : Blk w1 w.heap.size [.int .i64 1, .int .u8 b.toNat, .int .i64 0, .int .i64 0, .int .i64 0] 60 := (Blk.new_at w rfl _ _).below hb1 (by simp)
    have hw1 : Below w.heap.size w w1 := Below.trans (by go_grown) (hb1.mono (by simp))
    have hS1 := HS.out.below hw1
    have k0 := c1.cell 0 rfl
    have k1 := c1.cell 1 rfl
    have k2 := c1.cell 2 rfl
    have k3 := c1.cell 3 rfl
    have k4 := c1.cell 4 rfl
    have hl1 := c1.lt
    have HS1 := Lib.hid hS1
    have HW1 := Lib.hid hw1
    clear hb1 hS1 hw1 hz
    go_wp2_with fail
    go_region_held3 (fun w' => w'.cell? ⟨w.heap.size, 0, none⟩ = some (.int .i64 1) ∧ w'.cell? ⟨w.heap.size, 1, none⟩ = some (.int .u8 b.toNat) ∧ w'.cell? ⟨w.heap.size, 2, none⟩ = some (.int .i64 0) ∧ w'.cell? ⟨w.heap.size, 3, none⟩ = some (.int .i64 0) ∧ w'.cell? ⟨w.heap.size, 4, none⟩ = some (.int .i64 0)) (first | (go_keep; done) | (exact ⟨c2.cell 0 rfl, c2.cell 1 rfl, c2.cell 2 rfl, c2.cell 3 rfl, c2.cell 4 rfl⟩) | (exact ⟨c3.cell 0 rfl, c3.cell 1 rfl, c3.cell 2 rfl, c3.cell 3 rfl, c3.cell 4 rfl⟩))
      (first
        | (go_at_call 114; go_must (refine (weight_letter b _).mono ?_; rintro e w2 ⟨rfl, hb2⟩; have c2 := c1.drew.below hb2 hl1; have HW2 := Lib.hid (HW1.out.drew.trans (hb2.mono (Nat.le_of_lt hl1))); have HS2 := Lib.hid (HS.out.below HW2.out)))
        | (go_at_call 93; go_must (refine (store_add _ ⟨.letter b, [b], 0, true⟩ HS2.out (idOf_zero.1 HZ.out) (HS.out.wf.letter (idOf_zero.1 HZ.out) (by rw [rls_length]; exact Nat.lt_of_lt_of_le hroom HS.out.most_le)) (by rw [← rls_length]; exact (txt_snoc_letter _ _).symm) hroom).mono ?_; intro e w3 hp; obtain ⟨lv', rfl, hS3, hP3⟩ := put_added HW2.out hp; have c3 := c2.upd (hp_upd hp) (HS2.out.apart c2 (by decide) (by decide)))))
    go_wp2_with fail
    go_ret2
    exact hP3
  · have hnz : (((idOf (rls E) (.letter b) : Nat) : Int) != 0) = true := by simp [hz]
    have HZ := Lib.hid hz
    clear hz
    go_enter Tryd.func76, Tryd.ntmps76
    go_wp2_with fail
    refine (HFD.out _ (HS.out.below (by go_grown))).mono ?_
    rintro e w1 ⟨rfl, hb1⟩
    have hw1 : Below w.heap.size w w1 := Below.trans (by go_grown) (hb1.mono (by simp))
    have HW1 := Lib.hid hw1
    clear hb1 hw1
    go_wp2_with fail
    go_ret2
    exact put_found HS.out HW1.out HZ.out
end Go.Proofs.YtlmdkaniblhdmaaDoor
/- The store: Pair. -/
namespace Go.Proofs.YtlmdkaniblhdmaaDoor
open Go Go.RowKit Eg
set_option maxRecDepth 100000
variable {w w' : World} {s most bm : Nat} {E : List Ent} {lv : Value}

theorem store_known_yes (w : World) (i : Nat) (h : StoreAt w s most E lv bm) (hi : i < E.length) :
    Calls Tryd.prog 88 #[.pointer (some ⟨s, 0, none⟩), .int .i64 ((i + 1 : Nat) : Int)] w fun e w' => e = .returned (.bool true) ∧ w = w' := by
  have hkn := store_known w ((i + 1 : Nat) : Int) h
  have hd : (decide ((0 : Int) ≤ ((i + 1 : Nat) : Int)) && decide (((i + 1 : Nat) : Int) ≤ (E.length : Int))) = true := by simp; omega
  rwa [hd] at hkn

theorem store_add_as {args : Array Value} (w : World) (x : Ent) (h : StoreAt w s most E lv bm) (hr : x.r ∉ rls E) (hok : Wf (rls E ++ [x.r])) (hx : x.t = txt (rls E ++ [x.r]) (E.length + 1)) (hroom : E.length < most)
    (ha : args = #[.pointer (some ⟨s, 0, none⟩), .agg #[.int .i64 (Rl.kind (x.r) : Nat), .int .u8 (Rl.byte (x.r) : Nat), .int .i64 (Rl.left (x.r) : Nat), .int .i64 (Rl.right (x.r) : Nat), .int .i64 (Rl.times (x.r) : Nat), .int .i64 (List.length (x.t) : Nat), .int .i64 (lines (x.t) : Nat), .int .i64 (whead (x.t) : Nat), .int .i64 (wtail (x.t) : Nat), .int .u64 (dval (x.t) : Nat), .int .u64 (dscale (x.t) : Nat), .int .i64 x.d, .bool x.e]]) :
    Calls Tryd.prog 93 args w (AddPost w s most lv bm (E ++ [x]) (.int .i64 ((E.length + 1 : Nat) : Int))) := by
  subst ha
  exact store_add w x h hr hok hx hroom

set_option maxHeartbeats 2000000 in
theorem store_pair (w : World) (i j : Nat) (xl xr : Ent) (h : StoreAt w s most E lv bm) (hi : E[i]? = some xl) (hj : E[j]? = some xr) (hlen : xl.t.length + xr.t.length ≤ maxLength) (hroom : E.length < most) :
    Calls Tryd.prog 56 #[.pointer (some ⟨s, 0, none⟩), .int .i64 ((i + 1 : Nat) : Int), .int .i64 ((j + 1 : Nat) : Int)] w (PutPost w s most lv bm E (.pair (i + 1) (j + 1))) := by
  have hil : i < E.length := (List.getElem?_eq_some_iff.1 hi).1
  have hjl : j < E.length := (List.getElem?_eq_some_iff.1 hj).1
  have hl20 : E.length ≤ 1048576 := Nat.le_trans h.fits h.most_le
  have HS := Lib.hid h
  have HI := Lib.hid hi
  have HJ := Lib.hid hj
  have HLEN := Lib.hid hlen
  have hs := h.top.lt
  have hfd := fun W (hW : StoreAt W s most E lv bm) => store_find W (.pair (i + 1) (j + 1)) hW (.inr hroom)
  have HFD := Lib.hid hfd
  have z1 : (((i + 1 : Nat) : Int) == 0) = false := by simp; omega
  have z2 : (((j + 1 : Nat) : Int) == 0) = false := by simp; omega
  clear h hfd hi hj hlen
  go_enter Tryd.func56, Tryd.ntmps56
  go_wp2_with fail
  refine (store_known_yes _ i HS.out hil).mono ?_
  rintro e w' ⟨rfl, rfl⟩
  go_wp2_with fail
  refine (store_known_yes _ j HS.out hjl).mono ?_
  rintro e w' ⟨rfl, rfl⟩
  go_wp2_with fail
  refine (store_at _ i xl HS.out HI.out).mono ?_
  rintro e w1 ⟨rfl, hb1⟩
  have HS1 := Lib.hid (HS.out.below hb1)
  have HW1 := Lib.hid hb1
  clear hb1
  go_wp2_with fail
  refine (store_at _ j xr HS1.out HJ.out).mono ?_
  rintro e w2 ⟨rfl, hb2⟩
  have HS2 := Lib.hid (HS1.out.below hb2)
  have HW2 := Lib.hid (HW1.out.trans (hb2.mono HW1.out.size))
  clear hb2
  go_wp2_with fail
  refine (length_add _ _ _ HLEN.out).mono ?_
  rintro e w' ⟨rfl, rfl⟩
  go_wp2_with fail
  refine (HFD.out _ (HS2.out.below (by go_grown))).mono ?_
  rintro e w3 ⟨rfl, hb3⟩
  have c1 : Blk w3 w2.heap.size xl.cells 152 := (((Blk.new_at w2 rfl xl.cells _).alloc _).alloc _).below hb3 (by simp <;> omega)
  have c2 : Blk w3 (w2.heap.size + 1) xr.cells 152 := ((Blk.new_at _ (by simp) xr.cells _).alloc _).below hb3 (by simp <;> omega)
  have c3 : Blk w3 (w2.heap.size + 1 + 1) [.int .i64 2, .int .u8 0, .int .i64 ((i + 1 : Nat) : Int), .int .i64 ((j + 1 : Nat) : Int), .int .i64 0] 60 := (Blk.new_at _ (by simp) _ _).below hb3 (by simp)
  have HW3 := Lib.hid (HW2.out.trans (Below.mono (Below.trans (b := ((w2.alloc (.cells xl.cells.toArray 152)).alloc (.cells xr.cells.toArray 152)).alloc (.cells #[.int .i64 2, .int .u8 0, .int .i64 ((i + 1 : Nat) : Int), .int .i64 ((j + 1 : Nat) : Int), .int .i64 0] 60)) (by go_grown) (hb3.mono (by simp; omega))) HW2.out.size))
  have HS3 := Lib.hid (HS.out.below HW3.out)
  have hw2l : w.heap.size ≤ w2.heap.size := HW2.out.size
  clear hb3
  by_cases hz : idOf (rls E) (.pair (i + 1) (j + 1)) = 0
  · have HZ := Lib.hid hz
    rw [HZ.out]
    clear hz
    have k5 := c1.cell 5 rfl
    have k6 := c1.cell 6 rfl
    have k7 := c1.cell 7 rfl
    have k8 := c1.cell 8 rfl
    have k9 := c1.cell 9 rfl
    have k10 := c1.cell 10 rfl
    have m5 := c2.cell 5 rfl
    have m6 := c2.cell 6 rfl
    have m7 := c2.cell 7 rfl
    have m8 := c2.cell 8 rfl
    have m9 := c2.cell 9 rfl
    have m10 := c2.cell 10 rfl
    go_wp2_with fail
    refine (weight_join _ _ _ HLEN.out).mono ?_
    rintro e w4 ⟨rfl, hb4⟩
    have d1 := c1.below hb4 c1.lt
    have d2 := c2.below hb4 c2.lt
    have d3 := c3.below hb4 c3.lt
    have HW4 := Lib.hid (HW3.out.trans (hb4.mono HW3.out.size))
    have HS4 := Lib.hid (HS3.out.below hb4)
    clear hb4 k5 k6 k7 k8 k9 k10 m5 m6 m7 m8 m9 m10 c1 c2 c3
    have k11 := d1.cell 11 rfl
    have k12 := d1.cell 12 rfl
    have m11 := d2.cell 11 rfl
    have m12 := d2.cell 12 rfl
    have r0 := d3.cell 0 rfl
    have r1 := d3.cell 1 rfl
    have r2 := d3.cell 2 rfl
    have r3 := d3.cell 3 rfl
    have r4 := d3.cell 4 rfl
    have hl4 := d3.lt
    have hl5 := d1.lt
    have hl6 := d2.lt
    have hti := HS.out.texts i xl HI.out
    have htj := HS.out.texts j xr HJ.out
    have hwf : Wf (rls E ++ [.pair (i + 1) (j + 1)]) := HS.out.wf.pair (idOf_zero.1 HZ.out) (by rw [rls_length]; exact Nat.lt_of_lt_of_le hroom HS.out.most_le) (by omega) (by rw [rls_length]; omega) (by omega) (by rw [rls_length]; omega) (by unfold len; rw [← hti, ← htj]; exact HLEN.out)
    have htx : xl.t ++ xr.t = txt (rls E ++ [.pair (i + 1) (j + 1)]) (E.length + 1) := by
      rw [hti, htj, ← rls_length, txt_snoc_pair _ (by omega) (by rw [rls_length]; omega) (by omega) (by rw [rls_length]; omega)]
    have HWF := Lib.hid hwf
    have HTX := Lib.hid htx
    clear hti htj hwf htx
    go_wp2_with fail
    all_goals
      refine (store_add_as _ ⟨.pair (i + 1) (j + 1), xl.t ++ xr.t, _, _⟩ (HS4.out.below (by go_grown)) (idOf_zero.1 HZ.out) HWF.out HTX.out hroom (by simp only [List.length_append, Int.natCast_add]; rfl)).mono ?_
      intro e w5 hp
      obtain ⟨lv', rfl, hS5, hP5⟩ := put_added (HW4.out.trans (Below.alloc (Below.refl _ _) HW4.out.size _)) hp
      have HP5 := Lib.hid hP5
      clear hp hS5 hP5
      go_wp2_with fail
      go_ret2
      exact HP5.out
  · have hnz : (((idOf (rls E) (.pair (i + 1) (j + 1)) : Nat) : Int) != 0) = true := by simp [hz]
    have HZ := Lib.hid hz
    clear hz
    go_wp2_with fail
    go_ret2
    exact put_found HS.out HW3.out HZ.out
end Go.Proofs.YtlmdkaniblhdmaaDoor
/- The store: Power. -/
namespace Go.Proofs.YtlmdkaniblhdmaaDoor
open Go Go.RowKit Eg
set_option maxRecDepth 100000
variable {w w' : World} {s most bm : Nat} {E : List Ent} {lv : Value}

set_option maxHeartbeats 2000000 in
theorem store_power (w : World) (i k : Nat) (xl : Ent) (h : StoreAt w s most E lv bm) (hi : E[i]? = some xl) (hk : 2 ≤ k) (hlen : xl.t.length * k ≤ maxLength) (hroom : E.length < most) :
    Calls Tryd.prog 77 #[.pointer (some ⟨s, 0, none⟩), .int .i64 ((i + 1 : Nat) : Int), .int .i64 k] w (PutPost w s most lv bm E (.power (i + 1) k)) := by
  have hil : i < E.length := (List.getElem?_eq_some_iff.1 hi).1
  have hl20 : E.length ≤ 1048576 := Nat.le_trans h.fits h.most_le
  have hti := h.texts i xl hi
  have hpos : 1 ≤ xl.t.length := by rw [hti]; exact h.wf.pos (i + 1) (by omega) (by rw [rls_length]; omega)
  have hkm : k ≤ maxLength := Nat.le_trans (Nat.le_mul_of_pos_left k hpos) hlen
  have hle : xl.t.length ≤ maxLength := Nat.le_trans (Nat.le_mul_of_pos_right _ (by omega)) hlen
  have HTI := Lib.hid hti
  have HPOS := Lib.hid hpos
  have HLE := Lib.hid hle
  have HS := Lib.hid h
  have HI := Lib.hid hi
  have HLEN := Lib.hid hlen
  have hs := h.top.lt
  have hfd := fun W (hW : StoreAt W s most E lv bm) => store_find W (.power (i + 1) k) hW (.inr hroom)
  have HFD := Lib.hid hfd
  have z1 : (((i + 1 : Nat) : Int) == 0) = false := by simp; omega
  have z2 : ((k : Int) == 0) = false := by simp; omega
  have z3 : ((k : Int) == 1) = false := by simp; omega
  have z4 : decide ((k : Int) < 0) = false := by simp
  clear h hfd hi hlen hti hpos hkm hle
  go_enter Tryd.func77, Tryd.ntmps77
  go_wp2_with fail
  refine (store_known_yes _ i HS.out hil).mono ?_
  rintro e w' ⟨rfl, rfl⟩
  go_wp2_with fail
  refine (store_at _ i xl HS.out HI.out).mono ?_
  rintro e w2 ⟨rfl, hb1⟩
  have HS2 := Lib.hid (HS.out.below hb1)
  have HW2 := Lib.hid hb1
  clear hb1
  go_wp2_with fail
  refine (length_mul _ k _ HLE.out HPOS.out HLEN.out).mono ?_
  rintro e w' ⟨rfl, rfl⟩
  go_wp2_with fail
  refine (HFD.out _ (HS2.out.below (by go_grown))).mono ?_
  rintro e w3 ⟨rfl, hb3⟩
  have c1 : Blk w3 w2.heap.size xl.cells 152 := ((Blk.new_at w2 rfl xl.cells _).alloc _).below hb3 (by simp <;> omega)
  have c3 : Blk w3 (w2.heap.size + 1) [.int .i64 3, .int .u8 0, .int .i64 ((i + 1 : Nat) : Int), .int .i64 0, .int .i64 k] 60 := (Blk.new_at _ (by simp) _ _).below hb3 (by simp)
  have HW3 := Lib.hid (HW2.out.trans (Below.mono (Below.trans (b := (w2.alloc (.cells xl.cells.toArray 152)).alloc (.cells #[.int .i64 3, .int .u8 0, .int .i64 ((i + 1 : Nat) : Int), .int .i64 0, .int .i64 k] 60)) (by go_grown) (hb3.mono (by simp; omega))) HW2.out.size))
  have HS3 := Lib.hid (HS.out.below HW3.out)
  have hw2l : w.heap.size ≤ w2.heap.size := HW2.out.size
  clear hb3
  by_cases hz : idOf (rls E) (.power (i + 1) k) = 0
  · have HZ := Lib.hid hz
    rw [HZ.out]
    clear hz
    have k5 := c1.cell 5 rfl
    have k6 := c1.cell 6 rfl
    have k7 := c1.cell 7 rfl
    have k8 := c1.cell 8 rfl
    have k9 := c1.cell 9 rfl
    have k10 := c1.cell 10 rfl
    go_wp2_with fail
    refine (weight_repeat _ k _ HPOS.out (by omega) HLEN.out).mono ?_
    rintro e w4 ⟨rfl, hb4⟩
    have d1 := c1.below hb4 c1.lt
    have d3 := c3.below hb4 c3.lt
    have HW4 := Lib.hid (HW3.out.trans (hb4.mono HW3.out.size))
    have HS4 := Lib.hid (HS3.out.below hb4)
    clear hb4 k5 k6 k7 k8 k9 k10 c1 c3
    have k11 := d1.cell 11 rfl
    have k12 := d1.cell 12 rfl
    have r0 := d3.cell 0 rfl
    have r1 := d3.cell 1 rfl
    have r2 := d3.cell 2 rfl
    have r3 := d3.cell 3 rfl
    have r4 := d3.cell 4 rfl
    have hl4 := d3.lt
    have hl5 := d1.lt
    have hwf : Wf (rls E ++ [.power (i + 1) k]) := HS.out.wf.power (idOf_zero.1 HZ.out) (by rw [rls_length]; exact Nat.lt_of_lt_of_le hroom HS.out.most_le) (by omega) (by rw [rls_length]; omega) hk (by unfold len; rw [← HTI.out]; exact HLEN.out)
    have htx : rep k xl.t = txt (rls E ++ [.power (i + 1) k]) (E.length + 1) := by
      rw [HTI.out, ← rls_length, txt_snoc_power _ (by omega) (by rw [rls_length]; omega) hk]
    have HWF := Lib.hid hwf
    have HTX := Lib.hid htx
    clear hwf htx
    go_wp2_with fail
    all_goals
      refine (store_add_as _ ⟨.power (i + 1) k, rep k xl.t, _, _⟩ (HS4.out.below (by go_grown)) (idOf_zero.1 HZ.out) HWF.out HTX.out hroom (by rfl)).mono ?_
      intro e w5 hp
      obtain ⟨lv', rfl, hS5, hP5⟩ := put_added (HW4.out.trans (Below.alloc (Below.refl _ _) HW4.out.size _)) hp
      have HP5 := Lib.hid hP5
      clear hp hS5 hP5
      go_wp2_with fail
      go_ret2
      exact HP5.out
  · have hnz : (((idOf (rls E) (.power (i + 1) k) : Nat) : Int) != 0) = true := by simp [hz]
    have HZ := Lib.hid hz
    clear hz
    go_wp2_with fail
    go_ret2
    exact put_found HS.out HW3.out HZ.out
end Go.Proofs.YtlmdkaniblhdmaaDoor
/- The store as an assertion: the contracts of intern in the form of separate parts. -/
namespace Sl
open Go Go.RowKit Go.Proofs.YtlmdkaniblhdmaaDoor
variable {w0 w w' : World} {H : List HP}
/-- The blocks of F are as in w. -/
def agree (F : Nat → Prop) (w : World) : HP := fun h => ∀ k, F k → h k = w.heap[k]? ∧ w.heap[k]? ≠ none
/-- An assertion over some blocks is replaced: they have changed, or new ones were made. -/
theorem Sat.swap {p' : HP} {F F' : Nat → Prop} (s : Sat w0 w (agree F w :: H)) (hu : Upd F w w') (hF' : ∀ k, F' k → F k ∨ w.heap.size ≤ k) (hp' : ∀ h, (∀ k, F' k → h k = w'.heap[k]?) → p' h) : Sat w0 w' (p' :: H) := by
  obtain ⟨h1, h2, d, e, hp, hq⟩ := s.hp
  have hsz := s.size
  have hN : ∀ k, F k → w0.heap.size ≤ k ∧ h2 k = none := by
    intro k hk
    obtain ⟨x, y⟩ := hp k hk
    have hx : h1 k ≠ none := by rw [x]; exact y
    have h2n : h2 k = none := (d k).resolve_left hx
    refine ⟨?_, h2n⟩
    have := congrFun e k
    unfold above at this
    split at this
    · exact absurd (join_none.1 this.symm).1 hx
    · omega
  refine ⟨hu.os.trans s.os, hu.tape.trans s.tape, hu.output.trans s.output, Nat.le_trans s.size hu.size, fun k hk => (hu.block k (Nat.lt_of_lt_of_le hk s.size) (fun hF => by have := (hN k hF).1; omega)).trans (s.old k hk), ?_⟩
  refine ⟨fun k => if (h2 k).isSome then none else above w0 w' k, h2, ?_, ?_, hp' _ (fun k hk => ?_), hq⟩
  · intro k
    cases x : h2 k with
    | none => exact .inr rfl
    | some o => exact .inl (by simp [x])
  · funext k
    cases x : h2 k with
    | none => simp [join, x]
    | some o =>
      simp only [join, x, Option.isSome_some, if_true, Option.none_or]
      have := congrFun e k
      rw [join_right d x] at this
      rw [← this]
      unfold above at this ⊢
      split
      · rfl
      · rename_i hk
        rw [if_neg hk] at this
        exact hu.block k (Array.getElem?_eq_some_iff.1 this).1 (fun hF => by rw [(hN k hF).2] at x; cases x)
  · have hk2 : h2 k = none ∧ w0.heap.size ≤ k := by
      rcases hF' k hk with h | h
      · exact ⟨(hN k h).2, (hN k h).1⟩
      · refine ⟨?_, by omega⟩
        cases x : h2 k with
        | none => rfl
        | some o =>
          have := congrFun e k
          rw [join_right d x] at this
          unfold above at this
          rw [if_neg (by omega)] at this
          have := (Array.getElem?_eq_some_iff.1 this).1
          omega
    simp only [hk2.1]
    unfold above
    rw [if_neg (by simp), if_neg (by omega)]
/-- What an assertion says of some world's blocks, it says of the world at hand. -/
theorem Sat.as {p : HP} (s : Sat w0 w (p :: H)) {φ : (Nat → Prop) → World → Prop} (hp : ∀ h, p h → ∃ F w1, φ F w1 ∧ ∀ k, F k → h k = w1.heap[k]? ∧ w1.heap[k]? ≠ none) (hφ : ∀ F w1, φ F w1 → (∀ k, F k → w.heap[k]? = w1.heap[k]?) → φ F w) : ∃ F, φ F w ∧ Sat w0 w (agree F w :: H) := by
  obtain ⟨h1, h2, d, e, hh, hq⟩ := s.hp
  obtain ⟨F, w1, h3, h4⟩ := hp h1 hh
  have hk : ∀ k, F k → h1 k = w.heap[k]? ∧ w.heap[k]? = w1.heap[k]? := by
    intro k hF
    obtain ⟨x, y⟩ := h4 k hF
    have := congrFun e k
    cases hh1 : h1 k with
    | none => rw [hh1] at x; exact absurd x.symm y
    | some o =>
      rw [join_left hh1] at this
      unfold above at this
      split at this
      · cases this
      · exact ⟨this.symm, by rw [this, ← x, hh1]⟩
  exact ⟨F, hφ F w1 h3 (fun k hF => (hk k hF).2), s.os, s.tape, s.output, s.size, s.old, ⟨h1, h2, d, e, fun k hF => ⟨(hk k hF).1, by rw [(hk k hF).2]; exact (h4 k hF).2⟩, hq⟩⟩
end Sl
namespace Go.Proofs.YtlmdkaniblhdmaaDoor
open Go Go.RowKit Sl Eg
variable {E : Env} {w w' : World} {s most bm : Nat} {Es : List Ent} {lv : Value}
theorem StoreAt.here (h : StoreAt w s most Es lv bm) : ∀ k, SFoot s lv bm k → w.heap[k]? ≠ none := by
  rintro k (rfl | rfl | hk)
  · have := h.top; unfold Blk at this; rw [this]; simp
  · rw [h.ids]; simp
  · have := (h.row.lt k hk).2
    intro hn
    rw [Array.getElem?_eq_none_iff] at hn
    omega
theorem StoreAt.move (h : StoreAt w s most Es lv bm) (hk : ∀ k, SFoot s lv bm k → w'.heap[k]? = w.heap[k]?) : StoreAt w' s most Es lv bm := by
  refine ⟨?_, ⟨h.row.1, ?_⟩, by rw [hk bm (.inr (.inl rfl))]; exact h.ids, h.wf, h.texts, h.most_le, h.fits⟩
  · have := h.top; unfold Blk at this ⊢; rw [hk s (.inl rfl)]; exact this
  · rcases h.row.2 with h0 | ⟨g, cap, cur, h0, hb, hg, r⟩
    · exact .inl h0
    · exact .inr ⟨g, cap, cur, h0, hb, by rw [hk g (.inr (.inr (by rw [h0]; rfl)))]; exact hg, r⟩
/-- The store s with room for most rules holds the entries Es. -/
def storeP (s most : Nat) (Es : List Ent) : HP := fun h => ∃ w lv bm, StoreAt w s most Es lv bm ∧ ∀ k, SFoot s lv bm k → h k = w.heap[k]?
theorem sat_store {w0 : World} {H : List HP} (hs : Sat w0 w (storeP s most Es :: H)) : ∃ lv bm, StoreAt w s most Es lv bm ∧ Sat w0 w (agree (SFoot s lv bm) w :: H) := by
  obtain ⟨F, ⟨lv, bm, rfl, h⟩, hs'⟩ := hs.as (φ := fun F w => ∃ lv bm, F = SFoot s lv bm ∧ StoreAt w s most Es lv bm) (fun h ⟨w1, lv, bm, h1, h2⟩ => ⟨SFoot s lv bm, w1, ⟨lv, bm, rfl, h1⟩, fun k hk => ⟨h2 k hk, h1.here k hk⟩⟩)
    (fun F w1 ⟨lv, bm, hF, h1⟩ hk => ⟨lv, bm, hF, h1.move (by rw [← hF]; exact hk)⟩)
  exact ⟨lv, bm, h, hs'⟩
theorem sat_store_back {w0 : World} {H : List HP} {Es' : List Ent} {lv' : Value} (hs : Sat w0 w (agree (SFoot s lv bm) w :: H)) (h : StoreAt w' s most Es' lv' bm) (hu : Upd (SFoot s lv bm) w w') (hF : ∀ k, SFoot s lv' bm k → SFoot s lv bm k ∨ w.heap.size ≤ k) : Sat w0 w' (storeP s most Es' :: H) :=
  hs.swap hu hF (fun _ hh => ⟨w', lv', bm, h, hh⟩)
/-- Contracts under which nothing old changes. -/
theorem ct_store_below {f : FuncId} {args : List Value} {v : Value} (hE : Seat E) (h : ∀ w lv bm, StoreAt w s most Es lv bm → Calls Tryd.prog f ⟨args⟩ w (fun e w' => e = .returned v ∧ Below w.heap.size w w')) :
    Ct E f args [storeP s most Es] (fun u Q => u = v ∧ Q = [storeP s most Es]) := fun R w hs => by
  obtain ⟨lv, bm, hS, _⟩ := sat_store hs
  rw [hE.P]
  exact (h w lv bm hS).mono fun e w' ⟨h1, h2⟩ => ⟨v, _, h1, ⟨rfl, rfl⟩, hs.grow h2⟩
theorem ct_store_put {f : FuncId} {args : List Value} {r : Rl} (hE : Seat E) (h : ∀ w lv bm, StoreAt w s most Es lv bm → Calls Tryd.prog f ⟨args⟩ w (PutPost w s most lv bm Es r)) :
    Ct E f args [storeP s most Es] (fun u Q => ∃ (M : List Ent) (id : Nat), u = .tuple #[.int .i64 id, .nilIface] ∧ M.length ≤ 1 ∧ 1 ≤ id ∧ (rls (Es ++ M))[id - 1]? = some r ∧ Q = [storeP s most (Es ++ M)]) := fun R w hs => by
  obtain ⟨lv, bm, hS, hs'⟩ := sat_store hs
  rw [hE.P]
  exact (h w lv bm hS).mono fun e w' ⟨lv', M, id, h1, h2, h3, h4, h5, h6, h7⟩ => ⟨_, _, h1, ⟨M, id, rfl, h3, h4, h5, rfl⟩, sat_store_back hs' h2 h6 h7⟩
theorem below_same {w w' : World} (h : w = w') : Below w.heap.size w w' := by subst h; exact Below.refl _ _

theorem ct_len (hE : Seat E) : Ct E 19 [.pointer (some ⟨s, 0, none⟩)] [storeP s most Es] (fun u Q => u = .int .i64 (Es.length : Nat) ∧ Q = [storeP s most Es]) :=
  ct_store_below hE fun w _ _ h => (store_len w h).mono fun _ _ ⟨h1, h2⟩ => ⟨h1, below_same h2⟩
theorem ct_rule (hE : Seat E) {i : Nat} {x : Ent} (hi : Es[i]? = some x) : Ct E 112 [.pointer (some ⟨s, 0, none⟩), .int .i64 ((i + 1 : Nat) : Int)] [storeP s most Es] (fun u Q => u = .tuple #[.agg #[.int .i64 (Rl.kind (x.r) : Nat), .int .u8 (Rl.byte (x.r) : Nat), .int .i64 (Rl.left (x.r) : Nat), .int .i64 (Rl.right (x.r) : Nat), .int .i64 (Rl.times (x.r) : Nat)], .nilIface] ∧ Q = [storeP s most Es]) :=
  ct_store_below hE fun w _ _ h => store_rule w i x h hi
theorem ct_weight (hE : Seat E) {i : Nat} {x : Ent} (hi : Es[i]? = some x) : Ct E 113 [.pointer (some ⟨s, 0, none⟩), .int .i64 ((i + 1 : Nat) : Int)] [storeP s most Es] (fun u Q => u = .tuple #[.agg #[.int .i64 (List.length (x.t) : Nat), .int .i64 (lines (x.t) : Nat), .int .i64 (whead (x.t) : Nat), .int .i64 (wtail (x.t) : Nat), .int .u64 (dval (x.t) : Nat), .int .u64 (dscale (x.t) : Nat)], .nilIface] ∧ Q = [storeP s most Es]) :=
  ct_store_below hE fun w _ _ h => store_weight w i x h hi
theorem ct_weight0 (hE : Seat E) : Ct E 113 [.pointer (some ⟨s, 0, none⟩), .int .i64 0] [storeP s most Es] (fun u Q => u = .tuple #[.agg #[.int .i64 0, .int .i64 0, .int .i64 0, .int .i64 0, .int .u64 0, .int .u64 1], .nilIface] ∧ Q = [storeP s most Es]) :=
  ct_store_below hE fun w _ _ h => store_weight0 w h
theorem ct_letter (hE : Seat E) (b : UInt8) (hroom : Es.length < most) : Ct E 76 [.pointer (some ⟨s, 0, none⟩), .int .u8 b.toNat] [storeP s most Es]
    (fun u Q => ∃ (M : List Ent) (id : Nat), u = .tuple #[.int .i64 id, .nilIface] ∧ M.length ≤ 1 ∧ 1 ≤ id ∧ (rls (Es ++ M))[id - 1]? = some (.letter b) ∧ Q = [storeP s most (Es ++ M)]) :=
  ct_store_put hE fun w _ _ h => store_letter w b h hroom
theorem ct_pair (hE : Seat E) {i j : Nat} {xl xr : Ent} (hi : Es[i]? = some xl) (hj : Es[j]? = some xr) (hlen : xl.t.length + xr.t.length ≤ maxLength) (hroom : Es.length < most) : Ct E 56 [.pointer (some ⟨s, 0, none⟩), .int .i64 ((i + 1 : Nat) : Int), .int .i64 ((j + 1 : Nat) : Int)] [storeP s most Es]
    (fun u Q => ∃ (M : List Ent) (id : Nat), u = .tuple #[.int .i64 id, .nilIface] ∧ M.length ≤ 1 ∧ 1 ≤ id ∧ (rls (Es ++ M))[id - 1]? = some (.pair (i + 1) (j + 1)) ∧ Q = [storeP s most (Es ++ M)]) :=
  ct_store_put hE fun w _ _ h => store_pair w i j xl xr h hi hj hlen hroom
theorem ct_power (hE : Seat E) {i k : Nat} {xl : Ent} (hi : Es[i]? = some xl) (hk : 2 ≤ k) (hlen : xl.t.length * k ≤ maxLength) (hroom : Es.length < most) : Ct E 77 [.pointer (some ⟨s, 0, none⟩), .int .i64 ((i + 1 : Nat) : Int), .int .i64 k] [storeP s most Es]
    (fun u Q => ∃ (M : List Ent) (id : Nat), u = .tuple #[.int .i64 id, .nilIface] ∧ M.length ≤ 1 ∧ 1 ≤ id ∧ (rls (Es ++ M))[id - 1]? = some (.power (i + 1) k) ∧ Q = [storeP s most (Es ++ M)]) :=
  ct_store_put hE fun w _ _ h => store_power w i k xl h hi hk hlen hroom
/-- What a store says for itself. -/
theorem storeP_says {h : PH} (hs : storeP s most Es h) : Wf (rls Es) ∧ (∀ (i : Nat) (x : Ent), Es[i]? = some x → x.t = txt (rls Es) (i + 1)) ∧ most ≤ maxRules ∧ Es.length ≤ most := by
  obtain ⟨w, lv, bm, h, _⟩ := hs
  exact ⟨h.wf, h.texts, h.most_le, h.fits⟩
end Go.Proofs.YtlmdkaniblhdmaaDoor
/- Plain keys: which keys fit at which level. No program here. -/
namespace Eg
/-- The bit of number b. -/
def bt (x b : Nat) : Nat := x / 2 ^ b % 2
def xr (x y : Nat) : Nat := x ^^^ y
/-- The bits from h on in which two numbers differ. -/
def dn (x y h : Nat) : Nat := xr x y / 2 ^ h * 2 ^ h
/-- .. without the bit h. -/
def dm (x y h : Nat) : Nat := xr x y / 2 ^ h / 2 * 2 * 2 ^ h
/-- The bits that keys.fitting looks at. -/
def dd (c x y : Nat) : Nat := if c % 2 = 1 ∧ bt x (c / 2) = 0 then dm x y (c / 2) else dn x y (c / 2)
/-- What keys.fitting returns. -/
def fitI (c x y : Nat) : Int := if x = y then 122 else if c = 122 then -1 else if dd c x y = 0 then -1 else 2 * (Go.Lib.ctz 64 (dd c x y) : Nat) + (bt x (Go.Lib.ctz 64 (dd c x y)) : Nat)

theorem xr_lt {x y : Nat} (hx : x < P61) (hy : y < P61) : xr x y < 2305843009213693952 := by
  have h : (2305843009213693952 : Nat) = 2 ^ 61 := rfl
  rw [h]
  exact Nat.xor_lt_two_pow (by unfold P61 at hx; omega) (by unfold P61 at hy; omega)
theorem dn_le (x y h : Nat) : dn x y h ≤ xr x y := Nat.div_mul_le_self _ _
theorem dm_le (x y h : Nat) : dm x y h ≤ dn x y h := Nat.mul_le_mul_right _ (Nat.div_mul_le_self _ _)
theorem dd_le (c x y : Nat) : dd c x y ≤ xr x y := by
  unfold dd; split
  · exact Nat.le_trans (dm_le _ _ _) (dn_le _ _ _)
  · exact dn_le _ _ _
theorem bt_lt (x b : Nat) : bt x b < 2 := Nat.mod_lt _ (by omega)
theorem bt_testBit (x b : Nat) : bt x b = 1 ↔ x.testBit b = true := by
  unfold bt; rw [Nat.testBit_eq_decide_div_mod_eq]; simp
/-- ctz is the number of the lowest bit. -/
theorem ctz_spec {d : Nat} (h0 : d ≠ 0) (hd : d < 2 ^ 64) : d.testBit (Go.Lib.ctz 64 d) = true ∧ Go.Lib.ctz 64 d < 64 ∧ ∀ b, b < Go.Lib.ctz 64 d → d.testBit b = false := by
  obtain ⟨m, hm, hk⟩ := Go.Lib.ctzFrom_spec 64 d (by omega) hd
  have e : Go.Lib.ctz 64 d = Go.Lib.ctzFrom 64 d := by simp [Go.Lib.ctz, h0]
  rw [e]
  generalize Go.Lib.ctzFrom 64 d = k at *
  subst hm
  refine ⟨?_, hk, fun b hb => ?_⟩
  · rw [Nat.mul_comm, ← Nat.shiftLeft_eq, Nat.testBit_shiftLeft]; simp
  · rw [Nat.mul_comm, ← Nat.shiftLeft_eq, Nat.testBit_shiftLeft]; simp; omega
theorem dn_testBit (x y h b : Nat) : (dn x y h).testBit b = (decide (h ≤ b) && (x.testBit b ^^ y.testBit b)) := by
  unfold dn xr
  rw [← Nat.shiftLeft_eq, Nat.testBit_shiftLeft, ← Nat.shiftRight_eq_div_pow, Nat.testBit_shiftRight]
  by_cases hb : h ≤ b
  · simp [hb, Nat.testBit_xor]
  · simp [hb]
theorem dm_testBit (x y h b : Nat) : (dm x y h).testBit b = (decide (h + 1 ≤ b) && (x.testBit b ^^ y.testBit b)) := by
  have : dm x y h = dn x y (h + 1) := by
    unfold dm dn
    rw [Nat.div_div_eq_div_mul, ← Nat.pow_succ, Nat.mul_assoc, ← Nat.pow_succ']
  rw [this, dn_testBit]

/-- Do two keys make a pair at the pair level of number c? -/
def fitsAt (c x y : Nat) : Prop := if c = 122 then x = y else bt x (c / 2) = c % 2 ∧ bt y (c / 2) = 1 - c % 2
theorem fits_differ {k x y : Nat} (hk : k ≠ 122) (h : fitsAt k x y) : (x.testBit (k / 2) ^^ y.testBit (k / 2)) = true ∧ bt x (k / 2) = k % 2 := by
  unfold fitsAt at h
  rw [if_neg hk] at h
  obtain ⟨h1, h2⟩ := h
  refine ⟨?_, h1⟩
  have hx := bt_testBit x (k / 2); have hy := bt_testBit y (k / 2)
  rcases Nat.mod_two_eq_zero_or_one k with hm | hm
  · rw [hm] at h1 h2
    have e1 : x.testBit (k / 2) = false := by
      cases h : x.testBit (k / 2) with
      | false => rfl
      | true => have := hx.2 h; omega
    have e2 := hy.1 h2
    rw [e1, e2]; rfl
  · rw [hm] at h1 h2
    have e1 := hx.1 h1
    have e2 : y.testBit (k / 2) = false := by
      cases h : y.testBit (k / 2) with
      | false => rfl
      | true => have := hy.2 h; omega
    rw [e1, e2]; rfl
theorem fits_of_differ {b x y : Nat} (hb : 2 * b + bt x b ≠ 122) (h : (x.testBit b ^^ y.testBit b) = true) : fitsAt (2 * b + bt x b) x y := by
  unfold fitsAt
  rw [if_neg hb]
  have hlt := bt_lt x b; have hlt2 := bt_lt y b
  have hd : (2 * b + bt x b) / 2 = b := by omega
  have hm : (2 * b + bt x b) % 2 = bt x b := by omega
  rw [hd, hm]
  refine ⟨rfl, ?_⟩
  have hx := bt_testBit x b; have hy := bt_testBit y b
  cases e1 : x.testBit b <;> cases e2 : y.testBit b
  · rw [e1, e2] at h; cases h
  · have h1 := hy.2 e2
    have h2 : bt x b ≠ 1 := fun e => by rw [hx.1 e] at e1; cases e1
    omega
  · have h1 := hx.2 e1
    have h2 : bt y b ≠ 1 := fun e => by rw [hy.1 e] at e2; cases e2
    omega
  · rw [e1, e2] at h; cases h
theorem not_fits_same {k x : Nat} (hk : k < 122) : ¬ fitsAt k x x := by
  intro h
  have := (fits_differ (by omega) h).1
  simp at this
theorem dd_testBit (c x y b : Nat) : (dd c x y).testBit b = true ↔ (x.testBit b ^^ y.testBit b) = true ∧ c ≤ 2 * b + bt x b := by
  have hlt := bt_lt x b
  unfold dd
  split
  · rename_i h
    rw [dm_testBit]
    simp only [Bool.and_eq_true, decide_eq_true_eq]
    constructor
    · rintro ⟨h1, h2⟩; exact ⟨h2, by omega⟩
    · rintro ⟨h1, h2⟩
      refine ⟨?_, h1⟩
      by_cases hb : b = c / 2
      · subst hb; omega
      · omega
  · rename_i h
    rw [dn_testBit]
    simp only [Bool.and_eq_true, decide_eq_true_eq]
    constructor
    · rintro ⟨h1, h2⟩
      refine ⟨h2, ?_⟩
      by_cases hb : b = c / 2
      · subst hb
        rcases Nat.mod_two_eq_zero_or_one c with hm | hm
        · omega
        · have : bt x (c / 2) ≠ 0 := fun e => h ⟨hm, e⟩
          omega
      · omega
    · rintro ⟨h1, h2⟩; exact ⟨by omega, h1⟩
theorem fitI_spec {c x y : Nat} (hc : c ≤ 122) (hx : x < P61) (hy : y < P61) :
    (fitI c x y = -1 ∧ ∀ k, c ≤ k → k ≤ 122 → ¬ fitsAt k x y) ∨
    (∃ k : Nat, fitI c x y = k ∧ c ≤ k ∧ k ≤ 122 ∧ fitsAt k x y ∧ ∀ j, c ≤ j → j < k → ¬ fitsAt j x y) := by
  unfold fitI
  by_cases hxy : x = y
  · subst hxy
    rw [if_pos rfl]
    exact .inr ⟨122, rfl, hc, Nat.le_refl _, by unfold fitsAt; rw [if_pos rfl], fun j _ hj => not_fits_same hj⟩
  · rw [if_neg hxy]
    have h122 : ¬ fitsAt 122 x y := by unfold fitsAt; rw [if_pos rfl]; exact hxy
    by_cases hc2 : c = 122
    · rw [if_pos hc2]
      refine .inl ⟨rfl, fun k h1 h2 => ?_⟩
      obtain rfl : k = 122 := by omega
      exact h122
    · rw [if_neg hc2]
      have hlt : dd c x y < 2305843009213693952 := Nat.lt_of_le_of_lt (dd_le c x y) (xr_lt hx hy)
      have key : ∀ k, c ≤ k → k ≠ 122 → fitsAt k x y → (dd c x y).testBit (k / 2) = true := by
        intro k h1 h2 h3
        obtain ⟨h4, h5⟩ := fits_differ h2 h3
        exact (dd_testBit c x y (k / 2)).2 ⟨h4, by omega⟩
      by_cases hd : dd c x y = 0
      · rw [if_pos hd]
        refine .inl ⟨rfl, fun k h1 h2 h3 => ?_⟩
        by_cases hk : k = 122
        · subst hk; exact h122 h3
        · have := key k h1 hk h3
          rw [hd] at this; simp at this
      · rw [if_neg hd]
        obtain ⟨b1, b2, b3⟩ := ctz_spec hd (Nat.lt_trans hlt (by decide))
        generalize Go.Lib.ctz 64 (dd c x y) = b at *
        have hb61 : b < 61 := by
          apply Classical.byContradiction
          intro hge
          have : dd c x y < 2 ^ b := Nat.lt_of_lt_of_le hlt (by rw [show (2305843009213693952 : Nat) = 2 ^ 61 from rfl]; exact Nat.pow_le_pow_right (by omega) (by omega))
          rw [Nat.testBit_lt_two_pow this] at b1; cases b1
        obtain ⟨d1, d2⟩ := (dd_testBit c x y b).1 b1
        have hbt := bt_lt x b
        refine .inr ⟨2 * b + bt x b, by omega, d2, by omega, fits_of_differ (by omega) d1, fun j h1 h2 h3 => ?_⟩
        have hj := key j h1 (by omega) h3
        have hjb : j / 2 = b := by
          rcases Nat.lt_or_ge (j / 2) b with h | h
          · rw [b3 _ h] at hj; cases hj
          · omega
        have := (fits_differ (by omega) h3).2
        rw [hjb] at this
        omega
theorem fitI_zero {x y : Nat} (hx : x < P61) (hy : y < P61) : 0 ≤ fitI 0 x y := by
  rcases fitI_spec (c := 0) (by omega) hx hy with ⟨_, h⟩ | ⟨k, h, _⟩
  · exfalso
    by_cases hxy : x = y
    · exact h 122 (by omega) (by omega) (by unfold fitsAt; rw [if_pos rfl]; exact hxy)
    · obtain ⟨b, hb⟩ := Nat.exists_testBit_ne_of_ne hxy
      have hb61 : b < 61 := by
        apply Classical.byContradiction
        intro hge
        have h2 : (2 : Nat) ^ 61 ≤ 2 ^ b := Nat.pow_le_pow_right (by omega) (by omega)
        unfold P61 at hx hy
        rw [Nat.testBit_lt_two_pow (by omega), Nat.testBit_lt_two_pow (by omega)] at hb
        exact hb rfl
      have hbt := bt_lt x b
      refine h (2 * b + bt x b) (by omega) (by omega) (fits_of_differ (by omega) ?_)
      cases e1 : x.testBit b <;> cases e2 : y.testBit b <;> simp_all
  · rw [h]; omega
/-- The least pair level above low that two keys fit (keys.after). -/
def after (low x y : Nat) : Nat :=
  if 0 ≤ fitI (low / 2 % 123) x y then 2 * (low / 2 + 1 + (fitI (low / 2 % 123) x y).toNat - low / 2 % 123)
  else 2 * (low / 2 + 1 + (fitI 0 x y).toNat + 123 - low / 2 % 123)
theorem after_even (low x y : Nat) : after low x y % 2 = 0 := by unfold after; split <;> omega
theorem after_gt {low x y : Nat} (hx : x < P61) (hy : y < P61) : low < after low x y ∧ after low x y ≤ low + 500 := by
  have hc : low / 2 % 123 ≤ 122 := by omega
  unfold after
  split
  · rename_i h
    rcases fitI_spec hc hx hy with ⟨h1, _⟩ | ⟨k, h1, h2, h3, _⟩
    · omega
    · rw [h1]; simp only [Int.toNat_natCast]; omega
  · rcases fitI_spec (c := 0) (by omega) hx hy with ⟨h1, _⟩ | ⟨k, h1, h2, h3, _⟩
    · have := fitI_zero hx hy; omega
    · rw [h1]; simp only [Int.toNat_natCast]; omega
end Eg
/- Package keys: numbers of levels, fitting keys. -/
namespace Go.Proofs.YtlmdkaniblhdmaaDoor
open Go Go.RowKit Eg
set_option maxRecDepth 100000

/-- The table of bits.TrailingZeros64, as it lies in its variable. -/
def TabAt (w : World) : Prop := ∀ j, j < Lib.deBruijn64tab.length → w.cell? ⟨0, j, none⟩ = some (.int .u8 (Lib.deBruijn64tab.getD j 0))

set_option maxHeartbeats 1000000 in
theorem tz64_core (x k idx : Nat) (w : World) (hx0 : ((x : Int) == 0) = false)
    (key : IntKind.u64.wrap (bits BinOp.and IntKind.u64 (x : Int) (IntKind.u64.wrap (-(x : Int))) * 285870213051353865) / 288230376151711744 = (idx : Int))
    (hi : idx < 64) (hk : k < 64) (hcell : w.cell? ⟨0, idx, none⟩ = some (.int .u8 k)) :
    Calls Tryd.prog 182 #[.int .u64 x] w fun e w' => e = .returned (.int .i64 k) ∧ w = w' := by
  go_enter Tryd.func182, Tryd.ntmps182
  go_wp2_with (simp only [key])
  go_ret
  exact ⟨rfl, rfl⟩
theorem tz64_key (x a : Nat) (hx : x < 18446744073709551616) (hx0 : x ≠ 0) (hlow : x &&& (18446744073709551616 - x) = a) :
    IntKind.u64.wrap (bits BinOp.and IntKind.u64 (x : Int) (IntKind.u64.wrap (-(x : Int))) * 285870213051353865) / 288230376151711744 = ((a * 285870213051353865 % 18446744073709551616 / 288230376151711744 : Nat) : Int) := by
  have e1 : IntKind.u64.wrap (-(x : Int)) = ((18446744073709551616 - x : Nat) : Int) := by rw [IntKind.wrap_u64]; omega
  rw [e1, bits_and_u64_nat x _ hx (by omega), hlow, IntKind.wrap_u64]
  omega
theorem trailing_zeros (x : Nat) (hx : x < 18446744073709551616) (hx0 : x ≠ 0) (w : World) (hT : TabAt w) :
    Calls Tryd.prog 182 #[.int .u64 x] w fun e w' => e = .returned (.int .i64 (Lib.ctz 64 x : Nat)) ∧ w = w' := by
  obtain ⟨hlow, hk⟩ := Lib.lowest_bit 64 x hx0 hx
  obtain ⟨hi, htab⟩ := Lib.deBruijn64_at _ hk
  have hcell := hT _ hi
  rw [htab] at hcell
  exact tz64_core x _ _ w (by simp; omega) (tz64_key x _ hx hx0 hlow) hi hk hcell

theorem xor_mask {x y : Nat} (hx : x < P61) (hy : y < P61) : bits .and .u64 (bits .xor .u64 (x : Int) (y : Int)) 2305843009213693951 = ((xr x y : Nat) : Int) := by
  have h := xr_lt hx hy
  have h1 := ltU hx; have h2 := ltU hy
  unfold U64 at h1 h2
  rw [u64_xor_nat x y h1 h2, and_mask _ (by unfold xr at h; omega)]
  unfold xr at *
  rw [Nat.mod_eq_of_lt h]
theorem shift_dn {x y : Nat} (h : Nat) (hx : x < P61) (hy : y < P61) : IntKind.u64.wrap (((xr x y : Nat) : Int) / 2 ^ h * 2 ^ h) = ((dn x y h : Nat) : Int) := by
  have h0 := xr_lt hx hy
  have h1 := dn_le x y h
  have e : ((xr x y : Nat) : Int) / 2 ^ h * 2 ^ h = ((dn x y h : Nat) : Int) := by
    unfold dn; rw [Int.natCast_mul, Int.natCast_ediv, Int.natCast_pow]; rfl
  rw [e, IntKind.wrap_u64]
  omega
theorem bit_of {x : Nat} (h : Nat) (hx : x < P61) : bits .and .u64 ((x : Int) / 2 ^ h) 1 = ((bt x h : Nat) : Int) := by
  have h1 := ltU hx
  unfold U64 at h1
  have h2 : x / 2 ^ h ≤ x := Nat.div_le_self _ _
  have e : (x : Int) / 2 ^ h = ((x / 2 ^ h : Nat) : Int) := by rw [Int.natCast_ediv, Int.natCast_pow]; rfl
  rw [e, show (1 : Int) = ((1 : Nat) : Int) from rfl, u64_and_nat _ _ (by omega) (by omega), Nat.and_one_is_mod]
  rfl
theorem clear_bit {x y : Nat} (h : Nat) (hh : h < 61) (hx : x < P61) (hy : y < P61) : bits .andNot .u64 ((dn x y h : Nat) : Int) (IntKind.u64.wrap (2 ^ h)) = ((dm x y h : Nat) : Int) := by
  have h0 := xr_lt hx hy
  have h1 := dn_le x y h
  have hp : (2 : Nat) ^ h < 2 ^ 61 := Nat.pow_lt_pow_right (by omega) hh
  have hp2 : (2 : Nat) ^ 61 = 2305843009213693952 := rfl
  have e : IntKind.u64.wrap ((2 : Int) ^ h) = ((2 ^ h : Nat) : Int) := by
    rw [IntKind.wrap_u64, show ((2 : Int) ^ h) = ((2 ^ h : Nat) : Int) from by rw [Int.natCast_pow]; rfl]
    have hp3 : (2 : Nat) ^ h < 18446744073709551616 := by omega
    exact Int.emod_eq_of_lt (Int.natCast_nonneg _) (Int.ofNat_lt.2 hp3)
  rw [e, u64_andNot_nat _ _ (by omega) (by omega)]
  congr 1
  apply Nat.eq_of_testBit_eq
  intro b
  rw [Nat.testBit_and, dn_testBit, dm_testBit, show (18446744073709551615 : Nat) = 2 ^ 64 - 1 from rfl]
  rw [show 2 ^ 64 - 1 - 2 ^ h = 2 ^ 64 - (2 ^ h + 1) by omega, Nat.testBit_two_pow_sub_succ (by omega), Nat.testBit_two_pow]
  by_cases hb : b < 64
  · by_cases he : h = b
    · subst he; simp; intro h9; omega
    · simp only [hb, he, decide_true, decide_false, Bool.not_false, Bool.and_self, Bool.and_true]
      congr 1
      rw [Bool.eq_iff_iff]; simp; omega
  · have hxb : x.testBit b = false := Nat.testBit_lt_two_pow (Nat.lt_of_lt_of_le hx (Nat.le_trans (by unfold P61; omega : P61 ≤ 2 ^ 61) (Nat.pow_le_pow_right (by omega) (by omega))))
    have hyb : y.testBit b = false := Nat.testBit_lt_two_pow (Nat.lt_of_lt_of_le hy (Nat.le_trans (by unfold P61; omega : P61 ≤ 2 ^ 61) (Nat.pow_le_pow_right (by omega) (by omega))))
    simp [hxb, hyb]

/-- The ways through keys.fitting behind its first tests. -/
theorem fitting_end (d x : Nat) (hd0 : d ≠ 0) (hd : d < 2305843009213693952) (hx : x < P61) : Lib.ctz 64 d < 64 ∧ bits .and .u64 ((x : Int) / 2 ^ Lib.ctz 64 d) 1 = ((bt x (Lib.ctz 64 d) : Nat) : Int) ∧ bt x (Lib.ctz 64 d) < 2 :=
  ⟨(ctz_spec hd0 (Nat.lt_trans hd (by decide))).2.1, bit_of _ hx, bt_lt _ _⟩

set_option maxHeartbeats 1000000 in
theorem fitting_any (c x y : Nat) (w : World) (hc : c ≤ 122) (hx : x < P61) (hy : y < P61) (hT : TabAt w) :
    Calls Tryd.prog 178 #[.int .i64 c, .int .u64 x, .int .u64 y] w fun e w' => e = .returned (.int .i64 (fitI c x y)) ∧ w = w' := by
  have HT := Lib.hid hT
  clear hT
  by_cases hxy : x = y
  · have e : fitI c x y = 122 := by unfold fitI; rw [if_pos hxy]
    rw [e]
    subst hxy
    go_enter Tryd.func178, Tryd.ntmps178
    go_wp2_with fail
    go_ret
    exact ⟨rfl, rfl⟩
  · have hne : ((x : Int) == y) = false := by simp; omega
    by_cases hc2 : c = 122
    · have e : fitI c x y = -1 := by unfold fitI; rw [if_neg hxy, if_pos hc2]
      rw [e]
      subst hc2
      go_enter Tryd.func178, Tryd.ntmps178
      go_wp2_with fail
      go_ret
      exact ⟨rfl, rfl⟩
    · have hc3 : ((c : Int) == 122) = false := by simp; omega
      have hlt : dd c x y < 2305843009213693952 := Nat.lt_of_le_of_lt (dd_le c x y) (xr_lt hx hy)
      have e1 := xor_mask hx hy
      have e2 := shift_dn (c / 2) hx hy
      have e3 := bit_of (c / 2) hx
      have e4 := clear_bit (c / 2) (by omega) hx hy
      have hval : fitI c x y = if dd c x y = 0 then (-1 : Int) else 2 * ((Lib.ctz 64 (dd c x y) : Nat) : Int) + ((bt x (Lib.ctz 64 (dd c x y)) : Nat) : Int) := by
        unfold fitI; rw [if_neg hxy, if_neg hc2]
      have hend := fun h0 => fitting_end (dd c x y) x h0 hlt hx
      have hdd : dd c x y = if c % 2 = 1 ∧ bt x (c / 2) = 0 then dm x y (c / 2) else dn x y (c / 2) := rfl
      by_cases hz : dd c x y = 0
      · rw [hval, if_pos hz]
        rw [hz] at hdd
        clear hval hend hlt
        by_cases ho : c % 2 = 1
        · by_cases hb : bt x (c / 2) = 0
          · rw [if_pos ⟨ho, hb⟩] at hdd
            rw [hb] at e3
            rw [← hdd] at e4
            have o1 : (c : Int) % 2 = 1 := by omega
            clear hb hdd ho hz hxy
            go_enter Tryd.func178, Tryd.ntmps178
            go_wp2_with fail
            go_ret
            exact ⟨rfl, rfl⟩
          · rw [if_neg (fun h => hb h.2)] at hdd
            rw [← hdd] at e2
            have hb1 : (((bt x (c / 2) : Nat) : Int) == 0) = false := by simp; omega
            have o1 : (c : Int) % 2 = 1 := by omega
            clear hb hdd ho hz e4 hxy
            go_enter Tryd.func178, Tryd.ntmps178
            go_wp2_with fail
            go_ret
            exact ⟨rfl, rfl⟩
        · rw [if_neg (fun h => ho h.1)] at hdd
          rw [← hdd] at e2
          have o1 : (c : Int) % 2 = 0 := by omega
          clear hdd ho hz e4 e3 hxy
          go_enter Tryd.func178, Tryd.ntmps178
          go_wp2_with fail
          go_ret
          exact ⟨rfl, rfl⟩
      · rw [hval, if_neg hz]
        obtain ⟨q1, q2, q3⟩ := hend hz
        have htz := trailing_zeros (dd c x y) (by omega) hz w HT.out
        have hnz : (((dd c x y : Nat) : Int) == 0) = false := by simp; omega
        have HTZ := Lib.hid htz
        clear hval hend hlt htz hz hxy
        by_cases ho : c % 2 = 1
        · have o1 : (c : Int) % 2 = 1 := by omega
          by_cases hb : bt x (c / 2) = 0
          · rw [if_pos ⟨ho, hb⟩] at hdd
            rw [hb] at e3
            rw [← hdd] at e4
            generalize dd c x y = d at *
            clear hb hdd ho
            generalize Lib.ctz 64 d = k at *
            generalize bt x k = bk at *
            go_enter Tryd.func178, Tryd.ntmps178
            go_wp2_with fail
            refine (HTZ.out).mono ?_
            rintro e w' ⟨rfl, rfl⟩
            go_wp2_with fail
            go_ret
            exact ⟨ret_int (by omega), rfl⟩
          · rw [if_neg (fun h => hb h.2)] at hdd
            rw [← hdd] at e2
            have hb1 : (((bt x (c / 2) : Nat) : Int) == 0) = false := by simp; omega
            generalize dd c x y = d at *
            clear hb hdd ho e4
            generalize Lib.ctz 64 d = k at *
            generalize bt x k = bk at *
            go_enter Tryd.func178, Tryd.ntmps178
            go_wp2_with fail
            refine (HTZ.out).mono ?_
            rintro e w' ⟨rfl, rfl⟩
            go_wp2_with fail
            go_ret
            exact ⟨ret_int (by omega), rfl⟩
        · have o1 : (c : Int) % 2 = 0 := by omega
          rw [if_neg (fun h => ho h.1)] at hdd
          rw [← hdd] at e2
          generalize dd c x y = d at *
          clear hdd ho e4 e3
          generalize Lib.ctz 64 d = k at *
          generalize bt x k = bk at *
          go_enter Tryd.func178, Tryd.ntmps178
          go_wp2_with fail
          refine (HTZ.out).mono ?_
          rintro e w' ⟨rfl, rfl⟩
          go_wp2_with fail
          go_ret
          exact ⟨ret_int (by omega), rfl⟩
end Go.Proofs.YtlmdkaniblhdmaaDoor
/- Package keys: after, number, Number. -/
namespace Go.Proofs.YtlmdkaniblhdmaaDoor
open Go Go.RowKit Eg
set_option maxRecDepth 100000

theorem ret_two {a b c d : Value} (h1 : a = c) (h2 : b = d) : Ending.returned (.tuple #[a, b]) = .returned (.tuple #[c, d]) := by rw [h1, h2]
theorem ret_three {a b c d e f : Value} (h1 : a = d) (h2 : b = e) (h3 : c = f) : Ending.returned (.tuple #[a, b, c]) = .returned (.tuple #[d, e, f]) := by rw [h1, h2, h3]

theorem after_any (low x y : Nat) (w : World) (hl : low < 1099511627776) (hx : x < P61) (hy : y < P61) (hT : TabAt w) :
    Calls Tryd.prog 167 #[.int .i64 low, .int .u64 x, .int .u64 y] w fun e w' => e = .returned (.int .i64 (after low x y : Nat)) ∧ w = w' := by
  have hc : low / 2 % 123 ≤ 122 := by omega
  have h1 := fitting_any (low / 2 % 123) x y w hc hx hy hT
  have h2 := fitting_any 0 x y w (by omega) hx hy hT
  have hz := fitI_zero hx hy
  have s1 := fitI_spec hc hx hy
  have s2 := fitI_spec (c := 0) (by omega) hx hy
  have hv : after low x y = if 0 ≤ fitI (low / 2 % 123) x y then 2 * (low / 2 + 1 + (fitI (low / 2 % 123) x y).toNat - low / 2 % 123) else 2 * (low / 2 + 1 + (fitI 0 x y).toNat + 123 - low / 2 % 123) := rfl
  have b1 : fitI (low / 2 % 123) x y ≤ 122 := by
    rcases s1 with ⟨e, _⟩ | ⟨k, e, _, h3, _⟩ <;> omega
  have b0 : -1 ≤ fitI (low / 2 % 123) x y := by
    rcases s1 with ⟨e, _⟩ | ⟨k, e, _, h3, _⟩ <;> omega
  have b2 : fitI 0 x y ≤ 122 := by
    rcases s2 with ⟨e, _⟩ | ⟨k, e, _, h3, _⟩ <;> omega
  have b3 : 0 ≤ fitI (low / 2 % 123) x y → (low / 2 % 123 : Nat) ≤ fitI (low / 2 % 123) x y := by
    rcases s1 with ⟨e, _⟩ | ⟨k, e, h2, h3, _⟩ <;> intro <;> omega
  generalize fitI (low / 2 % 123) x y = f1 at *
  generalize fitI 0 x y = f2 at *
  generalize after low x y = r at *
  have H1 := Lib.hid h1
  have H2 := Lib.hid h2
  clear h1 h2 s1 s2 hT
  by_cases hf : 0 ≤ f1
  · rw [if_pos hf] at hv
    have b4 := b3 hf
    have HV := Lib.hid hv
    clear hv b3
    have hc4 : decide ((0 : Int) ≤ f1) = true := by simpa using hf
    go_enter Tryd.func167, Tryd.ntmps167
    go_wp2_with fail
    rw [show ((low : Int) / 2 % 123) = ((low / 2 % 123 : Nat) : Int) from by omega]
    refine (H1.out).mono ?_
    rintro e w' ⟨rfl, rfl⟩
    go_wp2_with fail
    go_ret
    exact ⟨ret_int (by have := HV.out; omega), rfl⟩
  · rw [if_neg hf] at hv
    have HV := Lib.hid hv
    have hc4 : decide ((0 : Int) ≤ f1) = false := by simpa using hf
    have hc5 : decide ((0 : Int) ≤ f2) = true := by simpa using hz
    clear hv b3
    go_enter Tryd.func167, Tryd.ntmps167
    go_wp2_with fail
    rw [show ((low : Int) / 2 % 123) = ((low / 2 % 123 : Nat) : Int) from by omega]
    refine (H1.out).mono ?_
    rintro e w' ⟨rfl, rfl⟩
    go_wp2_with fail
    refine (H2.out).mono ?_
    rintro e w' ⟨rfl, rfl⟩
    go_wp2_with fail
    go_ret
    exact ⟨ret_int (by have := HV.out; omega), rfl⟩

/-- keys.number at a pair level. -/
theorem number_even (l : Nat) (w : World) (h2 : 2 ≤ l) (he : l % 2 = 0) (hl : l < 1099511627776) :
    Calls Tryd.prog 150 #[.int .i64 l] w fun e w' => e = .returned (.tuple #[.int .i64 (((l / 2 - 1) % 123 : Nat) : Int), .bool true]) ∧ w = w' := by
  have h1 : decide ((l : Int) < 2) = false := by simp; omega
  have h3 : ((l : Int) % 2 != 0) = false := by simp; omega
  go_enter Tryd.func150, Tryd.ntmps150
  go_wp2_with fail
  go_ret2
  have e0 : ((l : Int) / 2 - 1) % 123 = (((l / 2 - 1) % 123 : Nat) : Int) := by omega
  exact ⟨ret_two (congrArg (Value.int .i64) e0) rfl, rfl⟩

/-- keys.Number at a pair level: what it compares. -/
theorem number_any (l : Nat) (w : World) (h2 : 2 ≤ l) (he : l % 2 = 0) (hl : l < 1099511627776) :
    Calls Tryd.prog 133 #[.int .i64 l] w fun e w' => e = .returned (.tuple (if (l / 2 - 1) % 123 = 122 then #[.int .i64 0, .int .u64 0, .bool true] else #[.int .i64 (((l / 2 - 1) % 123 / 2 : Nat) : Int), .int .u64 (((l / 2 - 1) % 123 % 2 : Nat) : Int), .bool false])) ∧ w = w' := by
  have hn := number_even l w h2 he hl
  have hlt : (l / 2 - 1) % 123 < 123 := Nat.mod_lt _ (by omega)
  generalize (l / 2 - 1) % 123 = c at *
  have HN := Lib.hid hn
  clear hn
  by_cases hc : c = 122
  · rw [if_pos hc]
    subst hc
    go_enter Tryd.func133, Tryd.ntmps133
    go_wp2_with fail
    refine (HN.out).mono ?_
    rintro e w' ⟨rfl, rfl⟩
    go_wp2_with fail
    go_ret3
    exact ⟨rfl, rfl⟩
  · rw [if_neg hc]
    have hc1 : ((c : Int) == 122) = false := by simp; omega
    go_enter Tryd.func133, Tryd.ntmps133
    go_wp2_with fail
    refine (HN.out).mono ?_
    rintro e w' ⟨rfl, rfl⟩
    go_wp2_with fail
    go_ret3
    have e0 : (c : Int) / 2 = ((c / 2 : Nat) : Int) := by omega
    have e1 : IntKind.u64.wrap ((c : Int) % 2) = ((c % 2 : Nat) : Int) := by rw [IntKind.wrap_u64]; omega
    first
      | exact ⟨ret_three (congrArg (Value.int .i64) e0) (congrArg (Value.int .u64) e1) rfl, rfl⟩
      | exact ⟨ret_three (congrArg (Value.int .i64) e0) (congrArg (Value.int .u64) (show (c : Int) % 2 = _ by omega)) rfl, rfl⟩
end Go.Proofs.YtlmdkaniblhdmaaDoor
/- Package keys: compute. -/
namespace Go.Proofs.YtlmdkaniblhdmaaDoor
open Go Go.RowKit Eg
set_option maxRecDepth 100000

theorem tab_below {w w' : World} (h : TabAt w) (h0 : 0 < w.heap.size) (hb : Below w.heap.size w w') : TabAt w' := fun j hj => by
  rw [hb.cell (p := ⟨0, j, none⟩) h0]; exact h j hj

set_option maxHeartbeats 2000000 in
theorem compute_letter (w : World) (tb g n cap : Nat) (bb : UInt8) (ht : w.cell? ⟨tb, 1, none⟩ = some (.slice (some ⟨g, 0, none⟩) n cap)) (hg : g < w.heap.size) (htb : tb < w.heap.size) (hn : 0 < n ∧ n ≤ cap ∧ n ≤ 1048577)
    (l0 : w.cell? ⟨g, 0, none⟩ = some (.int .u64 0)) (l1 : w.cell? ⟨g, 1, none⟩ = some (.int .i64 0)) (l2 : w.cell? ⟨g, 2, none⟩ = some (.bool false)) :
    Calls Tryd.prog 149 #[.pointer (some ⟨tb, 0, none⟩), .agg #[.int .i64 1, .int .u8 bb.toNat, .int .i64 0, .int .i64 0, .int .i64 0]] w fun e w' => e = .returned (.agg #[.int .u64 (mix 1 bb.toNat 0 : Nat), .int .i64 0, .bool true]) ∧ Below w.heap.size w w' := by
  obtain ⟨hn, hnc, hn2⟩ := hn
  have hb := bb.toNat_lt
  have c0 := Blk.new_at w rfl [.int .i64 1, .int .u8 bb.toNat, .int .i64 0, .int .i64 0, .int .i64 0] 60
  have hk : ∀ w', Below (w.heap.size + 1) (w.alloc (.cells #[.int .i64 1, .int .u8 bb.toNat, .int .i64 0, .int .i64 0, .int .i64 0] 60)) w' → w'.cell? ⟨tb, 1, none⟩ = some (.slice (some ⟨g, 0, none⟩) n cap) ∧ w'.cell? ⟨w.heap.size, 2, none⟩ = some (.int .i64 0) ∧ w'.cell? ⟨w.heap.size, 3, none⟩ = some (.int .i64 0) ∧ w'.cell? ⟨g, 0, none⟩ = some (.int .u64 0) ∧ w'.cell? ⟨g, 1, none⟩ = some (.int .i64 0) ∧ w'.cell? ⟨g, 2, none⟩ = some (.bool false) := by
    intro w' hb'
    have hbw : Below w.heap.size w w' := Below.trans (by go_grown) (hb'.mono (by omega))
    have c1 := c0.below hb' (by omega)
    refine ⟨?_, c1.cell 2 rfl, c1.cell 3 rfl, ?_, ?_, ?_⟩
    · rw [hbw.cell (p := ⟨tb, 1, none⟩) htb]; exact ht
    · rw [hbw.cell (p := ⟨g, 0, none⟩) hg]; exact l0
    · rw [hbw.cell (p := ⟨g, 1, none⟩) hg]; exact l1
    · rw [hbw.cell (p := ⟨g, 2, none⟩) hg]; exact l2
  have HK := Lib.hid hk
  clear hk c0
  go_enter Tryd.func149, Tryd.ntmps149
  go_wp2_with fail
  go_region_held3 (fun w' => w'.cell? ⟨tb, 1, none⟩ = some (.slice (some ⟨g, 0, none⟩) n cap) ∧ w'.cell? ⟨w.heap.size, 2, none⟩ = some (.int .i64 0) ∧ w'.cell? ⟨w.heap.size, 3, none⟩ = some (.int .i64 0) ∧ w'.cell? ⟨g, 0, none⟩ = some (.int .u64 0) ∧ w'.cell? ⟨g, 1, none⟩ = some (.int .i64 0) ∧ w'.cell? ⟨g, 2, none⟩ = some (.bool false)) (exact HK.out _ (by go_grown)) (first | fail)
  all_goals
    go_wp2_with fail
    refine (mix_any 1 bb.toNat 0 _ (by unfold U64; omega) (by unfold U64; omega) (by unfold U64; omega)).mono ?_
    rintro e w' ⟨rfl, rfl⟩
    go_wp2_with fail
    refine bodyPost_ret (v := .agg #[.int .u64 (mix 1 bb.toNat 0 : Nat), .int .i64 0, .bool true]) (by simp [results, Tryd.results149, go_sem]) rfl ⟨rfl, by go_grown⟩

set_option maxHeartbeats 2000000 in
theorem compute_pair_no (w : World) (tb g n cap : Nat) (a b k1 k2 : Nat) (v1 v2 : Int) (ha : a < n) (hb : b < n) (hk1 : k1 < P61) (hk2 : k2 < P61) (hbad : a = b ∨ v1 < 0 ∨ v2 < 0) (ht : w.cell? ⟨tb, 1, none⟩ = some (.slice (some ⟨g, 0, none⟩) n cap)) (hg : g < w.heap.size) (htb : tb < w.heap.size) (hn : 0 < n ∧ n ≤ cap ∧ n ≤ 1048577)
    (l0 : w.cell? ⟨g, a * 3, none⟩ = some (.int .u64 k1)) (l1 : w.cell? ⟨g, a * 3 + 1, none⟩ = some (.int .i64 v1)) (l2 : w.cell? ⟨g, a * 3 + 2, none⟩ = some (.bool true)) (r0 : w.cell? ⟨g, b * 3, none⟩ = some (.int .u64 k2)) (r1 : w.cell? ⟨g, b * 3 + 1, none⟩ = some (.int .i64 v2)) (r2 : w.cell? ⟨g, b * 3 + 2, none⟩ = some (.bool true)) :
    Calls Tryd.prog 149 #[.pointer (some ⟨tb, 0, none⟩), .agg #[.int .i64 2, .int .u8 0, .int .i64 a, .int .i64 b, .int .i64 0]] w fun e w' => e = .returned (.agg #[.int .u64 (mix 2 k1 k2 : Nat), .int .i64 (-1), .bool true]) ∧ Below w.heap.size w w' := by
  obtain ⟨hn, hnc, hn2⟩ := hn
  have hkk1 := Lib.hid (ltU hk1)
  have hkk2 := Lib.hid (ltU hk2)
  have HB := Lib.hid hbad
  clear hk1 hk2 hbad
  have c0 := Blk.new_at w rfl [.int .i64 2, .int .u8 0, .int .i64 a, .int .i64 b, .int .i64 0] 60
  have hk : ∀ w', Below (w.heap.size + 1) (w.alloc (.cells #[.int .i64 2, .int .u8 0, .int .i64 a, .int .i64 b, .int .i64 0] 60)) w' → w'.cell? ⟨tb, 1, none⟩ = some (.slice (some ⟨g, 0, none⟩) n cap) ∧ w'.cell? ⟨w.heap.size, 2, none⟩ = some (.int .i64 a) ∧ w'.cell? ⟨w.heap.size, 3, none⟩ = some (.int .i64 b) ∧ w'.cell? ⟨g, a * 3, none⟩ = some (.int .u64 k1) ∧ w'.cell? ⟨g, a * 3 + 1, none⟩ = some (.int .i64 v1) ∧ w'.cell? ⟨g, a * 3 + 2, none⟩ = some (.bool true) ∧ w'.cell? ⟨g, b * 3, none⟩ = some (.int .u64 k2) ∧ w'.cell? ⟨g, b * 3 + 1, none⟩ = some (.int .i64 v2) ∧ w'.cell? ⟨g, b * 3 + 2, none⟩ = some (.bool true) := by
    intro w' hb'
    have hbw : Below w.heap.size w w' := Below.trans (by go_grown) (hb'.mono (by omega))
    have c1 := c0.below hb' (by omega)
    refine ⟨?_, c1.cell 2 rfl, c1.cell 3 rfl, ?_, ?_, ?_, ?_, ?_, ?_⟩
    · rw [hbw.cell (p := ⟨tb, 1, none⟩) htb]; exact ht
    · rw [hbw.cell (p := ⟨g, a * 3, none⟩) hg]; exact l0
    · rw [hbw.cell (p := ⟨g, a * 3 + 1, none⟩) hg]; exact l1
    · rw [hbw.cell (p := ⟨g, a * 3 + 2, none⟩) hg]; exact l2
    · rw [hbw.cell (p := ⟨g, b * 3, none⟩) hg]; exact r0
    · rw [hbw.cell (p := ⟨g, b * 3 + 1, none⟩) hg]; exact r1
    · rw [hbw.cell (p := ⟨g, b * 3 + 2, none⟩) hg]; exact r2
  have HK := Lib.hid hk
  clear hk c0
  go_enter Tryd.func149, Tryd.ntmps149
  go_wp2_with fail
  go_region_held3 (fun w' => w'.cell? ⟨tb, 1, none⟩ = some (.slice (some ⟨g, 0, none⟩) n cap) ∧ w'.cell? ⟨w.heap.size, 2, none⟩ = some (.int .i64 a) ∧ w'.cell? ⟨w.heap.size, 3, none⟩ = some (.int .i64 b) ∧ w'.cell? ⟨g, a * 3, none⟩ = some (.int .u64 k1) ∧ w'.cell? ⟨g, a * 3 + 1, none⟩ = some (.int .i64 v1) ∧ w'.cell? ⟨g, a * 3 + 2, none⟩ = some (.bool true) ∧ w'.cell? ⟨g, b * 3, none⟩ = some (.int .u64 k2) ∧ w'.cell? ⟨g, b * 3 + 1, none⟩ = some (.int .i64 v2) ∧ w'.cell? ⟨g, b * 3 + 2, none⟩ = some (.bool true)) (exact HK.out _ (by go_grown)) (first | fail)
  all_goals
    go_wp2_with fail
    refine (mix_any 2 k1 k2 _ (by unfold U64; omega) hkk1.out hkk2.out).mono ?_
    rintro e w' ⟨rfl, rfl⟩
    by_cases h1 : a = b
    · have h2 : ((a : Int) != (b : Int)) = false := by simp [h1]
      clear h1 HB
      go_wp2_with fail
      refine bodyPost_ret (v := .agg #[.int .u64 (mix 2 k1 k2 : Nat), .int .i64 (-1), .bool true]) (by simp [results, Tryd.results149, go_sem]) rfl ⟨rfl, by go_grown⟩
    · have h2 : ((a : Int) != (b : Int)) = true := by simp; omega
      by_cases h3 : v1 < 0
      · have h4 : decide (0 ≤ v1) = false := by simp; omega
        clear h1 HB
        go_wp2_with fail
        refine bodyPost_ret (v := .agg #[.int .u64 (mix 2 k1 k2 : Nat), .int .i64 (-1), .bool true]) (by simp [results, Tryd.results149, go_sem]) rfl ⟨rfl, by go_grown⟩
      · have h4 : decide (0 ≤ v1) = true := by simp; omega
        have h5 : decide (0 ≤ v2) = false := by
          rcases HB.out with h | h | h
          · exact absurd h h1
          · exact absurd h h3
          · simp; omega
        clear h1 h3 HB
        go_wp2_with fail
        refine bodyPost_ret (v := .agg #[.int .u64 (mix 2 k1 k2 : Nat), .int .i64 (-1), .bool true]) (by simp [results, Tryd.results149, go_sem]) rfl ⟨rfl, by go_grown⟩

set_option maxHeartbeats 2000000 in
theorem compute_pair (w : World) (tb g n cap : Nat) (a b k1 k2 v1 v2 m : Nat) (hmax : m = max v1 v2) (hT : TabAt w) (ha : a < n) (hb : b < n) (hk1 : k1 < P61) (hk2 : k2 < P61) (hv1 : v1 < 1099511627776) (hv2 : v2 < 1099511627776) (hab : a ≠ b) (ht : w.cell? ⟨tb, 1, none⟩ = some (.slice (some ⟨g, 0, none⟩) n cap)) (hg : g < w.heap.size) (htb : tb < w.heap.size) (hn : 0 < n ∧ n ≤ cap ∧ n ≤ 1048577)
    (l0 : w.cell? ⟨g, a * 3, none⟩ = some (.int .u64 k1)) (l1 : w.cell? ⟨g, a * 3 + 1, none⟩ = some (.int .i64 (v1 : Nat))) (l2 : w.cell? ⟨g, a * 3 + 2, none⟩ = some (.bool true)) (r0 : w.cell? ⟨g, b * 3, none⟩ = some (.int .u64 k2)) (r1 : w.cell? ⟨g, b * 3 + 1, none⟩ = some (.int .i64 (v2 : Nat))) (r2 : w.cell? ⟨g, b * 3 + 2, none⟩ = some (.bool true)) :
    Calls Tryd.prog 149 #[.pointer (some ⟨tb, 0, none⟩), .agg #[.int .i64 2, .int .u8 0, .int .i64 a, .int .i64 b, .int .i64 0]] w fun e w' => e = .returned (.agg #[.int .u64 (mix 2 k1 k2 : Nat), .int .i64 (after m k1 k2 : Nat), .bool true]) ∧ Below w.heap.size w w' := by
  obtain ⟨hn, hnc, hn2⟩ := hn
  have hkk1 := Lib.hid (ltU hk1)
  have hkk2 := Lib.hid (ltU hk2)
  have HK1 := Lib.hid hk1
  have HK2 := Lib.hid hk2
  have h2 : ((a : Int) != (b : Int)) = true := by simp; omega
  have h4 : decide ((0 : Int) ≤ (v1 : Int)) = true := by simp
  have h5 : decide ((0 : Int) ≤ (v2 : Int)) = true := by simp
  have HT := Lib.hid hT
  have h0 : 0 < w.heap.size := by omega
  have HM := Lib.hid hmax
  clear hk1 hk2 hab hT hmax
  have c0 := Blk.new_at w rfl [.int .i64 2, .int .u8 0, .int .i64 a, .int .i64 b, .int .i64 0] 60
  have hk : ∀ w', Below (w.heap.size + 1) (w.alloc (.cells #[.int .i64 2, .int .u8 0, .int .i64 a, .int .i64 b, .int .i64 0] 60)) w' → w'.cell? ⟨tb, 1, none⟩ = some (.slice (some ⟨g, 0, none⟩) n cap) ∧ w'.cell? ⟨w.heap.size, 2, none⟩ = some (.int .i64 a) ∧ w'.cell? ⟨w.heap.size, 3, none⟩ = some (.int .i64 b) ∧ w'.cell? ⟨g, a * 3, none⟩ = some (.int .u64 k1) ∧ w'.cell? ⟨g, a * 3 + 1, none⟩ = some (.int .i64 (v1 : Nat)) ∧ w'.cell? ⟨g, a * 3 + 2, none⟩ = some (.bool true) ∧ w'.cell? ⟨g, b * 3, none⟩ = some (.int .u64 k2) ∧ w'.cell? ⟨g, b * 3 + 1, none⟩ = some (.int .i64 (v2 : Nat)) ∧ w'.cell? ⟨g, b * 3 + 2, none⟩ = some (.bool true) := by
    intro w' hb'
    have hbw : Below w.heap.size w w' := Below.trans (by go_grown) (hb'.mono (by omega))
    have c1 := c0.below hb' (by omega)
    refine ⟨?_, c1.cell 2 rfl, c1.cell 3 rfl, ?_, ?_, ?_, ?_, ?_, ?_⟩
    · rw [hbw.cell (p := ⟨tb, 1, none⟩) htb]; exact ht
    · rw [hbw.cell (p := ⟨g, a * 3, none⟩) hg]; exact l0
    · rw [hbw.cell (p := ⟨g, a * 3 + 1, none⟩) hg]; exact l1
    · rw [hbw.cell (p := ⟨g, a * 3 + 2, none⟩) hg]; exact l2
    · rw [hbw.cell (p := ⟨g, b * 3, none⟩) hg]; exact r0
    · rw [hbw.cell (p := ⟨g, b * 3 + 1, none⟩) hg]; exact r1
    · rw [hbw.cell (p := ⟨g, b * 3 + 2, none⟩) hg]; exact r2
  have HK := Lib.hid hk
  clear hk c0
  go_enter Tryd.func149, Tryd.ntmps149
  go_wp2_with fail
  go_region_held3 (fun w' => w'.cell? ⟨tb, 1, none⟩ = some (.slice (some ⟨g, 0, none⟩) n cap) ∧ w'.cell? ⟨w.heap.size, 2, none⟩ = some (.int .i64 a) ∧ w'.cell? ⟨w.heap.size, 3, none⟩ = some (.int .i64 b) ∧ w'.cell? ⟨g, a * 3, none⟩ = some (.int .u64 k1) ∧ w'.cell? ⟨g, a * 3 + 1, none⟩ = some (.int .i64 (v1 : Nat)) ∧ w'.cell? ⟨g, a * 3 + 2, none⟩ = some (.bool true) ∧ w'.cell? ⟨g, b * 3, none⟩ = some (.int .u64 k2) ∧ w'.cell? ⟨g, b * 3 + 1, none⟩ = some (.int .i64 (v2 : Nat)) ∧ w'.cell? ⟨g, b * 3 + 2, none⟩ = some (.bool true)) (exact HK.out _ (by go_grown)) (first | fail)
  all_goals
    go_wp2_with fail
    refine (mix_any 2 k1 k2 _ (by unfold U64; omega) hkk1.out hkk2.out).mono ?_
    rintro e w' ⟨rfl, rfl⟩
    rcases Nat.lt_trichotomy v1 v2 with hm | hm | hm
    · obtain rfl : m = v2 := HM.out.trans (Nat.max_eq_right (by omega))
      go_wp2_with fail
      all_goals
        refine (after_any m k1 k2 _ (by omega) HK1.out HK2.out (tab_below HT.out h0 (by go_grown))).mono ?_
        rintro e w' ⟨rfl, rfl⟩
        go_wp2_with fail
        refine bodyPost_ret (v := .agg #[.int .u64 (mix 2 k1 k2 : Nat), .int .i64 (after m k1 k2 : Nat), .bool true]) (by simp [results, Tryd.results149, go_sem]) rfl ⟨rfl, by go_grown⟩
    · obtain rfl : v1 = v2 := hm
      obtain rfl : m = v1 := HM.out.trans (Nat.max_self _)
      go_wp2_with fail
      all_goals
        refine (after_any m k1 k2 _ (by omega) HK1.out HK2.out (tab_below HT.out h0 (by go_grown))).mono ?_
        rintro e w' ⟨rfl, rfl⟩
        go_wp2_with fail
        refine bodyPost_ret (v := .agg #[.int .u64 (mix 2 k1 k2 : Nat), .int .i64 (after m k1 k2 : Nat), .bool true]) (by simp [results, Tryd.results149, go_sem]) rfl ⟨rfl, by go_grown⟩
    · obtain rfl : m = v1 := HM.out.trans (Nat.max_eq_left (by omega))
      go_wp2_with fail
      all_goals
        refine (after_any m k1 k2 _ (by omega) HK1.out HK2.out (tab_below HT.out h0 (by go_grown))).mono ?_
        rintro e w' ⟨rfl, rfl⟩
        go_wp2_with fail
        refine bodyPost_ret (v := .agg #[.int .u64 (mix 2 k1 k2 : Nat), .int .i64 (after m k1 k2 : Nat), .bool true]) (by simp [results, Tryd.results149, go_sem]) rfl ⟨rfl, by go_grown⟩

set_option maxHeartbeats 2000000 in
theorem compute_power (w : World) (tb g n cap : Nat) (a k1 k : Nat) (v1 r : Int) (hr : r = if 0 ≤ v1 ∧ v1 % 2 = 0 then v1 + 1 else -1) (ha : a < n) (hk1 : k1 < P61) (hkk : k < 9223372036854775808) (hv : v1 < 1099511627776) (ht : w.cell? ⟨tb, 1, none⟩ = some (.slice (some ⟨g, 0, none⟩) n cap)) (hg : g < w.heap.size) (htb : tb < w.heap.size) (hn : 0 < n ∧ n ≤ cap ∧ n ≤ 1048577)
    (l0 : w.cell? ⟨g, a * 3, none⟩ = some (.int .u64 k1)) (l1 : w.cell? ⟨g, a * 3 + 1, none⟩ = some (.int .i64 v1)) (l2 : w.cell? ⟨g, a * 3 + 2, none⟩ = some (.bool true)) (r0 : w.cell? ⟨g, 0, none⟩ = some (.int .u64 0)) (r1 : w.cell? ⟨g, 1, none⟩ = some (.int .i64 0)) (r2 : w.cell? ⟨g, 2, none⟩ = some (.bool false)) :
    Calls Tryd.prog 149 #[.pointer (some ⟨tb, 0, none⟩), .agg #[.int .i64 3, .int .u8 0, .int .i64 a, .int .i64 0, .int .i64 k]] w fun e w' => e = .returned (.agg #[.int .u64 (mix 3 k1 k : Nat), .int .i64 r, .bool true]) ∧ Below w.heap.size w w' := by
  obtain ⟨hn, hnc, hn2⟩ := hn
  have hkk1 := Lib.hid (ltU hk1)
  have hwr : IntKind.u64.wrap (k : Int) = k := wrap_u64 k (by unfold U64; omega)
  have HR := Lib.hid hr
  clear hk1 hr
  have c0 := Blk.new_at w rfl [.int .i64 3, .int .u8 0, .int .i64 a, .int .i64 0, .int .i64 k] 60
  have hk : ∀ w', Below (w.heap.size + 1) (w.alloc (.cells #[.int .i64 3, .int .u8 0, .int .i64 a, .int .i64 0, .int .i64 k] 60)) w' → w'.cell? ⟨tb, 1, none⟩ = some (.slice (some ⟨g, 0, none⟩) n cap) ∧ w'.cell? ⟨w.heap.size, 2, none⟩ = some (.int .i64 a) ∧ w'.cell? ⟨w.heap.size, 3, none⟩ = some (.int .i64 0) ∧ w'.cell? ⟨g, a * 3, none⟩ = some (.int .u64 k1) ∧ w'.cell? ⟨g, a * 3 + 1, none⟩ = some (.int .i64 v1) ∧ w'.cell? ⟨g, a * 3 + 2, none⟩ = some (.bool true) ∧ w'.cell? ⟨g, 0, none⟩ = some (.int .u64 0) ∧ w'.cell? ⟨g, 1, none⟩ = some (.int .i64 0) ∧ w'.cell? ⟨g, 2, none⟩ = some (.bool false) := by
    intro w' hb'
    have hbw : Below w.heap.size w w' := Below.trans (by go_grown) (hb'.mono (by omega))
    have c1 := c0.below hb' (by omega)
    refine ⟨?_, c1.cell 2 rfl, c1.cell 3 rfl, ?_, ?_, ?_, ?_, ?_, ?_⟩
    · rw [hbw.cell (p := ⟨tb, 1, none⟩) htb]; exact ht
    · rw [hbw.cell (p := ⟨g, a * 3, none⟩) hg]; exact l0
    · rw [hbw.cell (p := ⟨g, a * 3 + 1, none⟩) hg]; exact l1
    · rw [hbw.cell (p := ⟨g, a * 3 + 2, none⟩) hg]; exact l2
    · rw [hbw.cell (p := ⟨g, 0, none⟩) hg]; exact r0
    · rw [hbw.cell (p := ⟨g, 1, none⟩) hg]; exact r1
    · rw [hbw.cell (p := ⟨g, 2, none⟩) hg]; exact r2
  have HK := Lib.hid hk
  clear hk c0
  go_enter Tryd.func149, Tryd.ntmps149
  go_wp2_with fail
  go_region_held3 (fun w' => w'.cell? ⟨tb, 1, none⟩ = some (.slice (some ⟨g, 0, none⟩) n cap) ∧ w'.cell? ⟨w.heap.size, 2, none⟩ = some (.int .i64 a) ∧ w'.cell? ⟨w.heap.size, 3, none⟩ = some (.int .i64 0) ∧ w'.cell? ⟨g, a * 3, none⟩ = some (.int .u64 k1) ∧ w'.cell? ⟨g, a * 3 + 1, none⟩ = some (.int .i64 v1) ∧ w'.cell? ⟨g, a * 3 + 2, none⟩ = some (.bool true) ∧ w'.cell? ⟨g, 0, none⟩ = some (.int .u64 0) ∧ w'.cell? ⟨g, 1, none⟩ = some (.int .i64 0) ∧ w'.cell? ⟨g, 2, none⟩ = some (.bool false)) (exact HK.out _ (by go_grown)) (first | fail)
  all_goals
    by_cases h1 : 0 ≤ v1
    · have h4 : decide (0 ≤ v1) = true := by simpa using h1
      by_cases h2 : v1 % 2 = 0
      · obtain rfl := HR.out.trans (if_pos ⟨h1, h2⟩)
        go_wp2_with fail
        refine (mix_any 3 k1 k _ (by unfold U64; omega) hkk1.out (by unfold U64; omega)).mono ?_
        rintro e w' ⟨rfl, rfl⟩
        go_wp2_with fail
        refine bodyPost_ret (v := .agg #[.int .u64 (mix 3 k1 k : Nat), .int .i64 (v1 + 1), .bool true]) (by simp [results, Tryd.results149, go_sem]) rfl ⟨rfl, by go_grown⟩
      · obtain rfl := HR.out.trans (if_neg (fun h => h2 h.2))
        have h5 : v1 % 2 = 1 := by omega
        clear h2
        go_wp2_with fail
        refine (mix_any 3 k1 k _ (by unfold U64; omega) hkk1.out (by unfold U64; omega)).mono ?_
        rintro e w' ⟨rfl, rfl⟩
        go_wp2_with fail
        refine bodyPost_ret (v := .agg #[.int .u64 (mix 3 k1 k : Nat), .int .i64 (-1), .bool true]) (by simp [results, Tryd.results149, go_sem]) rfl ⟨rfl, by go_grown⟩
    · have h4 : decide (0 ≤ v1) = false := by simpa using h1
      obtain rfl := HR.out.trans (if_neg (fun h => h1 h.1))
      clear h1
      go_wp2_with fail
      refine (mix_any 3 k1 k _ (by unfold U64; omega) hkk1.out (by unfold U64; omega)).mono ?_
      rintro e w' ⟨rfl, rfl⟩
      go_wp2_with fail
      refine bodyPost_ret (v := .agg #[.int .u64 (mix 3 k1 k : Nat), .int .i64 (-1), .bool true]) (by simp [results, Tryd.results149, go_sem]) rfl ⟨rfl, by go_grown⟩
end Go.Proofs.YtlmdkaniblhdmaaDoor
/- Plain keys and levels of the rules of a store. No program here. -/
namespace Eg
/-- The key and the level of a rule out of those of the rules before. -/
def fkey (acc : List (Nat × Int)) : Rl → Nat × Int
  | .letter b => (mix 1 b.toNat 0, 0)
  | .pair l r => (mix 2 (nth (0, 0) acc l).1 (nth (0, 0) acc r).1,
      if l ≠ r ∧ 0 ≤ (nth (0, 0) acc l).2 ∧ 0 ≤ (nth (0, 0) acc r).2 then ((after (max (nth (0, 0) acc l).2.toNat (nth (0, 0) acc r).2.toNat) (nth (0, 0) acc l).1 (nth (0, 0) acc r).1 : Nat) : Int) else -1)
  | .power x k => (mix 3 (nth (0, 0) acc x).1 k, if 0 ≤ (nth (0, 0) acc x).2 ∧ (nth (0, 0) acc x).2 % 2 = 0 then (nth (0, 0) acc x).2 + 1 else -1)
theorem fkey_pair (acc : List (Nat × Int)) (l r : Nat) : fkey acc (.pair l r) = (mix 2 (nth (0, 0) acc l).1 (nth (0, 0) acc r).1,
      if l ≠ r ∧ 0 ≤ (nth (0, 0) acc l).2 ∧ 0 ≤ (nth (0, 0) acc r).2 then ((after (max (nth (0, 0) acc l).2.toNat (nth (0, 0) acc r).2.toNat) (nth (0, 0) acc l).1 (nth (0, 0) acc r).1 : Nat) : Int) else -1) := rfl
theorem fkey_power (acc : List (Nat × Int)) (x k : Nat) : fkey acc (.power x k) = (mix 3 (nth (0, 0) acc x).1 k, if 0 ≤ (nth (0, 0) acc x).2 ∧ (nth (0, 0) acc x).2 % 2 = 0 then (nth (0, 0) acc x).2 + 1 else -1) := rfl
/-- The key of an ID. -/
def key (L : List Rl) (i : Nat) : Nat := (nth (0, 0) (tab fkey L) i).1
/-- The level of an ID; -1: it belongs to no signature. -/
def lvl (L : List Rl) (i : Nat) : Int := (nth (0, 0) (tab fkey L) i).2
theorem key_ext {L : List Rl} (M : List Rl) {i : Nat} (h : i ≤ L.length) : key (L ++ M) i = key L i := by unfold key; rw [nth_ext _ M h]
theorem lvl_ext {L : List Rl} (M : List Rl) {i : Nat} (h : i ≤ L.length) : lvl (L ++ M) i = lvl L i := by unfold lvl; rw [nth_ext _ M h]
theorem kl_get {L : List Rl} {i : Nat} {r : Rl} (h : L[i]? = some r) : nth (0, 0) (tab fkey L) (i + 1) = fkey (tab fkey (L.take i)) r := by
  rw [nth_succ, tab_get L h]; rfl
theorem key_letter {L : List Rl} {i : Nat} {b : UInt8} (h : L[i]? = some (.letter b)) : key L (i + 1) = mix 1 b.toNat 0 ∧ lvl L (i + 1) = 0 := by
  unfold key lvl; rw [kl_get h]; exact ⟨rfl, rfl⟩
theorem key_pair {L : List Rl} {i l r : Nat} (h : L[i]? = some (.pair l r)) (hk : (Rl.pair l r).ok (i + 1)) :
    key L (i + 1) = mix 2 (key L l) (key L r) ∧ lvl L (i + 1) = if l ≠ r ∧ 0 ≤ lvl L l ∧ 0 ≤ lvl L r then ((after (max (lvl L l).toNat (lvl L r).toNat) (key L l) (key L r) : Nat) : Int) else -1 := by
  have hi : i < L.length := (List.getElem?_eq_some_iff.1 h).1
  obtain ⟨_, h1, _, h2⟩ := hk
  unfold key lvl
  rw [kl_get h, fkey_pair, nth_take (0, 0) (by omega) (by omega), nth_take (0, 0) (by omega) (by omega)]
  exact ⟨rfl, rfl⟩
theorem key_power {L : List Rl} {i x k : Nat} (h : L[i]? = some (.power x k)) (hk : (Rl.power x k).ok (i + 1)) :
    key L (i + 1) = mix 3 (key L x) k ∧ lvl L (i + 1) = if 0 ≤ lvl L x ∧ lvl L x % 2 = 0 then lvl L x + 1 else -1 := by
  have hi : i < L.length := (List.getElem?_eq_some_iff.1 h).1
  obtain ⟨_, h1, _⟩ := hk
  unfold key lvl
  rw [kl_get h, fkey_power, nth_take (0, 0) (by omega) (by omega)]
  exact ⟨rfl, rfl⟩
theorem key_zero (L : List Rl) : key L 0 = 0 := rfl
theorem key_lt {L : List Rl} (h : Wf L) (i : Nat) : key L i < P61 := by
  cases i with
  | zero => rw [key_zero]; exact P61_pos
  | succ i =>
    by_cases hi : i < L.length
    · have hg : L[i]? = some L[i] := List.getElem?_eq_getElem hi
      generalize L[i] = r at hg
      have hr := h.ok i r hg
      cases r with
      | letter b => rw [(key_letter hg).1]; exact mix_lt _ _ _
      | pair l r => rw [(key_pair hg hr).1]; exact mix_lt _ _ _
      | power x k => rw [(key_power hg hr).1]; exact mix_lt _ _ _
    · have : key L (i + 1) = 0 := by
        unfold key
        rw [nth_succ, List.getElem?_eq_none (by rw [tab_length]; omega)]; rfl
      rw [this]; exact P61_pos
/-- Levels are from -1 on and grow slowly. -/
theorem lvl_bound {L : List Rl} (h : Wf L) : ∀ i, i ≤ L.length → -1 ≤ lvl L i ∧ lvl L i ≤ 501 * i := by
  intro i
  induction i using Nat.strongRecOn with
  | ind i ih =>
    intro hi
    cases i with
    | zero => exact ⟨by unfold lvl nth; simp, by unfold lvl nth; simp⟩
    | succ i =>
      have hg : L[i]? = some L[i] := List.getElem?_eq_getElem (by omega)
      generalize L[i] = r at hg
      have hr := h.ok i r hg
      cases r with
      | letter b => rw [(key_letter hg).2]; omega
      | pair l r =>
        rw [(key_pair hg hr).2]
        obtain ⟨h1, h2, h3, h4⟩ := hr
        have i1 := ih l (by omega) (by omega)
        have i2 := ih r (by omega) (by omega)
        split
        · have := (after_gt (low := max (lvl L l).toNat (lvl L r).toNat) (key_lt h l) (key_lt h r)).2
          omega
        · omega
      | power x k =>
        rw [(key_power hg hr).2]
        obtain ⟨h1, h2, h3⟩ := hr
        have i1 := ih x (by omega) (by omega)
        split <;> omega
/-- The level of a rule that is no letter is above 0. -/
theorem lvl_zero {L : List Rl} (h : Wf L) {i : Nat} (hi : i < L.length) (h0 : lvl L (i + 1) = 0) : ∃ b, L[i]? = some (.letter b) := by
  have hg : L[i]? = some L[i] := List.getElem?_eq_getElem hi
  generalize L[i] = r at hg
  have hr := h.ok i r hg
  cases r with
  | letter b => exact ⟨b, hg⟩
  | pair l r =>
    rw [(key_pair hg hr).2] at h0
    split at h0
    · have := (after_gt (low := max (lvl L l).toNat (lvl L r).toNat) (key_lt h l) (key_lt h r)).1
      omega
    · omega
  | power x k =>
    rw [(key_power hg hr).2] at h0
    split at h0 <;> omega
end Eg
