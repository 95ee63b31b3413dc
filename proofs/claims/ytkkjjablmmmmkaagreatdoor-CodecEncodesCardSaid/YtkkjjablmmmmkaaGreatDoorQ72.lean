/- Package evergreenref07: Put, PutBytes. -/
import Derived.Test.YtkkjjablmmmmkaaGreatDoorQ05
import Derived.Test.YtkkjjablmmmmkaaGreatDoorQ20
import Derived.Test.YtkkjjablmmmmkaaGreatDoorQ61
import Derived.Test.YtkkjjablmmmmkaaGreatDoorQ67
import Derived.Test.YtkkjjablmmmmkaaGreatDoorQ68
import Derived.Test.YtkkjjablmmmmkaaGreatDoorQ69
import Derived.Test.YtkkjjablmmmmkaaGreatDoorQ70
import Derived.Test.YtkkjjablmmmmkaaGreatDoorQ71
set_option linter.unusedVariables false
set_option linter.unusedSimpArgs false
namespace Sl
open Go Go.RowKit
variable {E : Env} {n : Nat} {L : Fr} {S : List HP} {ty : TypeId} {pos : String} {af : Array Edge} {d : Option Nat} {gd : Option (Nat × Bool)}
theorem y_add8 {x y : Operand} {xt yt : TypeId} {i : Nat} (hx : ev L x = some (.int .u8 (i : Nat))) (hy : ev L y = some (.int .u8 128)) (hi : i < 128) :
  Yl E n L S ⟨d, .binOp .add xt x y yt, ty, pos, af, gd⟩ (.int .u8 ((i + 128 : Nat) : Int)) := fun a w g _ => by
 have e : IntKind.u8.wrap ((i : Int) + 128) = ((i + 128 : Nat) : Int) := by
  have := wrap_byte (i + 128)
  rw [Nat.mod_eq_of_lt (by omega)] at this
  rw [← this]
  rfl
 simp [execOp, eqGuard, binOp, Op.intArith, g.ev hx, g.ev hy, e]
theorem y_quo_u {x y : Operand} {xt yt : TypeId} {i j : Nat} (hx : ev L x = some (.int .u64 (i : Nat))) (hy : ev L y = some (.int .u64 (j : Nat))) (hi : i < 18446744073709551616) (hj : 0 < j) :
  Yl E n L S ⟨d, .binOp .quo xt x y yt, ty, pos, af, gd⟩ (.int .u64 ((i / j : Nat) : Int)) := fun a w g _ => by
 have e1 : (i : Int).tdiv (j : Int) = ((i / j : Nat) : Int) := by rw [Int.tdiv_eq_ediv_of_nonneg (by omega), Int.natCast_ediv]
 have e2 : i / j ≤ i := Nat.div_le_self i j
 have e3 : IntKind.u64.wrap ((i / j : Nat) : Int) = ((i / j : Nat) : Int) := by
  generalize i / j = q at e2
  rw [IntKind.wrap_u64]
  omega
 have hj' : ¬ (j : Int) = 0 := by omega
 have hj2 : ¬ j = 0 := by omega
 simp [execOp, eqGuard, binOp, Op.intDiv, g.ev hx, g.ev hy, hj', hj2, e1, e3]
 rw [← Int.natCast_ediv]
 exact e3
end Sl
namespace Go.Proofs.YtkkjjablmmmmkaaGreatDoor
section
open Go Go.RowKit Sl Eg
set_option maxRecDepth 10000
variable {E : Env}
structure V7G where
 n : Nat
 done : List UInt8
 p : Option Addr
 c : Nat
theorem ct_r7Put (hE : Seat E) {n : Nat} (hn : n < 18446744073709551616) : Ct E 48 [.int .u64 (n : Nat)] [] (fun v Q => ∃ g c, v = .slice (some ⟨g, 0, none⟩) (vput n).length c ∧ Q = [sl (some ⟨g, 0, none⟩) c 5 1 (vput n).length (byC (vput n))]) := by
 have hten := vput_ten hn
 refine zN (hE.fn Tryz.func48) rfl rfl rfl (fun R => ?_)
 simp only [argsL, List.cons_append, List.nil_append]
 refine qK (qI ?_)
 refine qA (qC rfl) rfl ?_
 refine qL (qJ (qK (qI ?_)))
 refine qA (qC rfl) rfl ?_
 refine qL (qJ (qK (zJ ?_)))
 skip
 refine w_loop (fun q : V7G => [(0, .int .u64 (q.n : Nat)), (3, .slice q.p q.done.length q.c)]) (fun q => [sl q.p q.c 5 1 q.done.length (byC q.done), R]) (fun q => q.n) (fun q => q.done ++ vput q.n = vput n ∧ q.n < 18446744073709551616) ⟨n, [], none, 0⟩ ⟨rfl, hn⟩ ⟨rfl, rfl, trivial⟩ ?_ ?_
 ·apply kB (ent_nil (t := 5) (sz := 1))
  (apply ent; (repeat constructor); done)
 rintro ⟨m, done, p, c⟩ ⟨hd, hm⟩
 simp only at hd hm ⊢
 have hdl : done.length ≤ 10 := by have := congrArg List.length hd; rw [List.length_append] at this; omega
 skip
 refine qK (qK (qI ?_))
 refine qA (qB rfl) rfl ?_
 refine qA (y_gt rfl rfl) rfl ?_
 refine qL (qJ ?_)
 refine zD rfl (fun h1 => ?_) (fun h1 => ?_)
 ·skip
  refine zB (qJ ?_)
  refine zJ (qK (qI ?_))
  refine qA (qB rfl) rfl ?_
  refine qA (qB rfl) rfl ?_
  refine qA (y_rem rfl rfl (by omega) (by omega)) rfl ?_
  refine l_eq 8 (.int .u64 ((m % 128 : Nat) : Int)) rfl (congrArg (Value.int .u64) (by omega)) ?_
  apply qA
  ·exact y_convW rfl (hE.t rfl) (hE.t rfl) (wrap_byte _)
  ·rfl
  apply qA
  ·exact y_add8 rfl rfl (by omega)
  ·rfl
  apply qH (by kernel_rfl) rfl
  refine qT (hE.t rfl) (hE.t rfl) rfl rfl rfl (fun b11 => ?_)
  apply qH (by kernel_rfl) rfl
  apply zT (hE.t rfl) (hE.t rfl) rfl rfl rfl
  ·((repeat constructor); done)
  ·((repeat constructor); done)
  ·rfl
  ·rfl
  ·omega
  ·omega
  ·(unfold maxLen; omega)
  intro g12 c12 n12 x12 hn12 hx12
  refine qA (qC rfl) rfl ?_
  refine qL (qJ (qI ?_))
  refine qA (qB rfl) rfl ?_
  apply qA
  ·exact y_quo_u (j := 128) rfl rfl hm (by omega)
  ·rfl
  refine qA (qC rfl) rfl ?_
  refine qL (zH ?_)
  rw [vput_more (by omega)] at hd
  refine zR (ι := V7G) (j := ⟨m / 128, done ++ [UInt8.ofNat (m % 128 + 128)], some ⟨g12, 0, none⟩, c12⟩) ⟨by simp only [List.append_assoc, List.singleton_append]; exact hd, by simp only; omega⟩ (by simp only; omega) ⟨rfl, by simp only [List.length_append, List.length_singleton]; rw [hn12]; rfl, trivial⟩ ?_
  obtain rfl : x12 = byC (done ++ [UInt8.ofNat (m % 128 + 128)]) := by
   rw [hx12]
   simp only [byC, List.map_append, List.map_cons, List.map_nil]
   rw [ofNat_byte (by omega), show m % 128 % 256 = m % 128 by omega]
   rfl
  simp only [List.length_append, List.length_singleton]
  rw [hn12]
  (apply ent; (repeat constructor); done)
 ·skip
  refine kH (qP (qP (zG (qJ ?_))))
  refine qK (qI ?_)
  refine qA (qB rfl) rfl ?_
  refine qA (qB rfl) rfl ?_
  apply qA
  ·exact y_convW rfl (hE.t rfl) (hE.t rfl) (wrap_byte _)
  ·rfl
  apply qH (by kernel_rfl) rfl
  refine qT (hE.t rfl) (hE.t rfl) rfl rfl rfl (fun b18 => ?_)
  apply qH (by kernel_rfl) rfl
  apply zT (hE.t rfl) (hE.t rfl) rfl rfl rfl
  ·((repeat constructor); done)
  ·((repeat constructor); done)
  ·rfl
  ·rfl
  ·omega
  ·omega
  ·(unfold maxLen; omega)
  intro g19 c19 n19 x19 hn19 hx19
  refine qA (qC rfl) rfl ?_
  refine qL (qJ (zY ?_))
  rw [vput_small (by omega)] at hd
  have hl : (vput n).length = done.length + 1 := by rw [← hd]; simp
  apply zZ
  ·rfl
  ·(apply Rs.tmp rfl; exact Rs.nil)
  ·refine ⟨g19, c19, ?_, rfl⟩
   rw [hl, hn19]
   rfl
  ·obtain rfl : x19 = byC (vput n) := by
    rw [hx19, ← hd]
    simp only [byC, List.map_append, List.map_cons, List.map_nil]
    rw [ofNat_byte (by omega), show m % 256 = m by omega]
    rfl
   rw [hl]
   rw [hn19]
   (apply ent; (repeat constructor); done)
end
section
open Go Go.RowKit Sl Eg
set_option maxRecDepth 10000
variable {E : Env}
theorem ct_r7PutBytes (hE : Seat E) {g c : Nat} {bs : List UInt8} (hn : bs.length ≤ 1099511627776) : Ct E 49 [.slice (some ⟨g, 0, none⟩) bs.length c] [ro g (byC bs)] (fun v Q => ∃ g' c', v = .slice (some ⟨g', 0, none⟩) (bputs bs).length c' ∧ Q = [ro g (byC bs), sl (some ⟨g', 0, none⟩) c' 5 1 (bputs bs).length (byC (bputs bs))]) := by
 have h10 := vput_ten (n := bs.length) (by omega)
 have hp := vput_pos bs.length
 have hbl := byC_len bs
 have hbb : (bputs bs).length = (vput bs.length).length + bs.length := List.length_append
 have hb1 : ((vput bs.length).length + (byC bs).length) * 1 ≤ 140737488355328 := by omega
 have hb2 : (vput bs.length).length + (byC bs).length ≤ maxLen := by unfold maxLen; omega
 refine zN (hE.fn Tryz.func49) rfl rfl rfl (fun R => ?_)
 simp only [argsL, List.cons_append, List.nil_append]
 refine qK (qI ?_)
 refine qA (qC rfl) rfl ?_
 refine qL (qJ (qK (qI ?_)))
 refine qA (qB rfl) rfl ?_
 refine qA (qQ rfl (hE.t rfl)) rfl ?_
 refine qA (kK rfl (hE.t rfl) (hE.t rfl) (by first | exact kL (by omega) (by omega) | exact kM (by omega) (by omega))) rfl ?_
 apply qH (by kernel_rfl) rfl
 apply qY (ct_r7Put (n := bs.length) hE (by omega)) rfl (hE.f (by kernel_rfl))
 ·((repeat constructor); done)
 rintro _ _ ⟨g2, c2, rfl, rfl⟩
 simp only [List.cons_append, List.nil_append]
 refine qA (qB rfl) rfl ?_
 apply qH (by kernel_rfl) rfl
 refine ld_append_any (us := byC bs) (q := ro g (byC bs)) (hE.t rfl) (hE.t rfl) rfl rfl rfl hbl.symm (fun _ => ⟨g, 0, rfl, rd_ro⟩) (by ((repeat constructor); done)) (by ((repeat constructor); done)) (byC_cells bs) hb1 hb2 (fun p1 c1 m1 x1 hm1 hx1 => ?_)
 obtain rfl : m1 = (bputs bs).length := by omega
 obtain rfl : x1 = byC (bputs bs) := hx1.trans (byC_append _ _).symm
 refine l_say (p := sl p1 c1 5 1 (bputs bs).length (byC (bputs bs))) (by ((repeat constructor); done)) (fun _ h => sl_form h (by omega)) ?_
 rintro ⟨g', rfl⟩
 refine qA (qC rfl) rfl ?_
 refine qL (qJ (zY ?_))
 apply zZ
 ·rfl
 ·(apply Rs.tmp rfl; exact Rs.nil)
 ·exact ⟨g', c1, rfl, rfl⟩
 ·(apply ent; (repeat constructor); done)
theorem ct_r11Put (hE : Seat E) {r : Rl} {n : Nat} (ho : r.ok n) (h1 : 1 ≤ n) (hn : n ≤ 1099511627776) (ht : r.times ≤ 1152921504606846976) : Ct E 82 [.agg #[.int .i64 (Rl.kind (r) : Nat), .int .u8 (Rl.byte (r) : Nat), .int .i64 (Rl.left (r) : Nat), .int .i64 (Rl.right (r) : Nat), .int .i64 (Rl.times (r) : Nat)], .int .i64 (n : Nat)] [] (fun v Q => ∃ g c, v = .slice (some ⟨g, 0, none⟩) (rulB n r).length c ∧ Q = [sl (some ⟨g, 0, none⟩) c 5 1 (rulB n r).length (byC (rulB n r))]) := by
 cases r with
 | letter b =>
  refine zN (hE.fn Tryz.func82) rfl rfl rfl (fun R => ?_)
  simp only [argsL, List.cons_append, List.nil_append]
  refine qK (qI ?_)
  apply qH (by kernel_rfl) rfl
  refine ld_box rfl (fun b2 => ?_)
  refine qA (qC rfl) rfl ?_
  refine qL (qJ ?_)
  refine qK (qI ?_)
  refine qA (qD rfl (hE.t rfl) rfl) rfl ?_
  apply qA
  ·(apply qN rfl (hE.t rfl) rfl; (repeat (first | rfl | assumption | constructor)); done)
  ·rfl
  apply qA
  ·exact y_convW (j := 1) rfl (hE.t rfl) (hE.t rfl) rfl
  ·rfl
  apply qH (by kernel_rfl) rfl
  refine qT (hE.t rfl) (hE.t rfl) rfl rfl rfl (fun b9 => ?_)
  refine qA (qC rfl) rfl ?_
  refine qL (qJ (qK (qK (qI ?_))))
  refine qA (qD rfl (hE.t rfl) rfl) rfl ?_
  apply qA
  ·(apply qN rfl (hE.t rfl) rfl; (repeat (first | rfl | assumption | constructor)); done)
  ·rfl
  refine qL (qJ (zJ (qK (qI ?_))))
  refine qA (y_eq rfl rfl) rfl ?_
  refine qA (qC rfl) rfl ?_
  refine qL (qJ ?_)
  refine zE rfl ?_
  refine w_heap (kA (p := cells b9 [.int .u8 1] 5) (p' := sl (some ⟨b9, 0, none⟩) 1 5 1 1 (byC [1])) (by ((repeat constructor); done)) (sl_of_cells rfl (by unfold maxLen; omega))) ?_
  refine qK (qI ?_)
  refine qA (qB rfl) rfl ?_
  refine qA (qD rfl (hE.t rfl) rfl) rfl ?_
  apply qA
  ·(apply qN rfl (hE.t rfl) rfl; (repeat (first | rfl | assumption | constructor)); done)
  ·rfl
  apply qH (by kernel_rfl) rfl
  refine qT (hE.t rfl) (hE.t rfl) rfl rfl rfl (fun b17 => ?_)
  apply qH (by kernel_rfl) rfl
  apply zT (hE.t rfl) (hE.t rfl) rfl rfl rfl
  ·((repeat constructor); done)
  ·((repeat constructor); done)
  ·rfl
  ·rfl
  ·omega
  ·omega
  ·(unfold maxLen; omega)
  intro g18 c18 n18 x18 hn18 hx18
  refine qA (qC rfl) rfl ?_
  refine qL (qJ (zY (zM (qU ?_))))
  obtain rfl : x18 = byC [1, b] := by rw [hx18]; rfl
  apply zZ
  ·rfl
  ·(apply Rs.tmp rfl; exact Rs.nil)
  ·exact ⟨g18, c18, by rw [hn18]; rfl, rfl⟩
  ·rw [hn18]
   (apply ent; (repeat constructor); done)
 | pair a b =>
  have ho' := ho
  simp only [Rl.ok] at ho'
  have e1 := vput_ten (n := n - a) (by omega)
  have e2 := vput_ten (n := n - b) (by omega)
  have hl : (Rl.pair a b).left = a := rfl
  have hr : (Rl.pair a b).right = b := rfl
  refine zN (hE.fn Tryz.func82) rfl rfl rfl (fun R => ?_)
  simp only [argsL, List.cons_append, List.nil_append]
  refine qK (qI ?_)
  apply qH (by kernel_rfl) rfl
  refine ld_box rfl (fun b2 => ?_)
  refine qA (qC rfl) rfl ?_
  refine qL (qJ ?_)
  refine qK (qI ?_)
  refine qA (qD rfl (hE.t rfl) rfl) rfl ?_
  apply qA
  ·(apply qN rfl (hE.t rfl) rfl; (repeat (first | rfl | assumption | constructor)); done)
  ·rfl
  apply qA
  ·exact y_convW (j := 2) rfl (hE.t rfl) (hE.t rfl) rfl
  ·rfl
  apply qH (by kernel_rfl) rfl
  refine qT (hE.t rfl) (hE.t rfl) rfl rfl rfl (fun b9 => ?_)
  refine qA (qC rfl) rfl ?_
  refine qL (qJ (qK (qK (qI ?_))))
  refine qA (qD rfl (hE.t rfl) rfl) rfl ?_
  apply qA
  ·(apply qN rfl (hE.t rfl) rfl; (repeat (first | rfl | assumption | constructor)); done)
  ·rfl
  refine qL (qJ (zJ (qK (qI ?_))))
  refine qA (y_eq rfl rfl) rfl ?_
  refine qA (qC rfl) rfl ?_
  refine qL (qJ ?_)
  refine zC rfl ?_
  refine qK (qI ?_)
  refine qA (y_eq rfl rfl) rfl ?_
  refine qA (qC rfl) rfl ?_
  refine qL (qJ ?_)
  refine zE rfl ?_
  refine w_heap (kA (p := cells b9 [.int .u8 2] 5) (p' := sl (some ⟨b9, 0, none⟩) 1 5 1 1 (byC [2])) (by ((repeat constructor); done)) (sl_of_cells rfl (by unfold maxLen; omega))) ?_
  refine qK (qI ?_)
  refine qA (qB rfl) rfl ?_
  refine qA (qB rfl) rfl ?_
  refine qA (qD rfl (hE.t rfl) rfl) rfl ?_
  apply qA
  ·(apply qN rfl (hE.t rfl) rfl; (repeat (first | rfl | assumption | constructor)); done)
  ·rfl
  refine qA (y_sub rfl rfl (by omega) (by omega)) rfl ?_
  refine l_eq 25 (.int .i64 ((n - a : Nat) : Int)) rfl (zV (by omega)) ?_
  refine qA (kK rfl (hE.t rfl) (hE.t rfl) (by first | exact kL (by omega) (by omega) | exact kM (by omega) (by omega))) rfl ?_
  apply qH (by kernel_rfl) rfl
  apply qY (ct_r7Put (n := n - a) hE (by omega)) rfl (hE.f (by kernel_rfl))
  ·((repeat constructor); done)
  rintro _ _ ⟨g, c, rfl, rfl⟩
  simp only [List.cons_append, List.nil_append]
  apply qH (by kernel_rfl) rfl
  apply ld_append_sl (hE.t rfl) (hE.t rfl) rfl rfl rfl
  ·((repeat constructor); done)
  ·((repeat constructor); done)
  ·exact byC_cells _
  ·exact (vput_pos _)
  ·first | omega | (simp only [List.length_append, List.length_cons, List.length_nil]; omega)
  ·unfold maxLen; first | omega | (simp only [List.length_append, List.length_cons, List.length_nil]; omega)
  intro g1 c1 m' x' hm' hx'
  obtain rfl : m' = ([2] ++ vput (n - a)).length := by rw [hm']; simp only [List.length_append, List.length_cons, List.length_nil] <;> omega
  obtain rfl : x' = byC ([2] ++ vput (n - a)) := hx'.trans (byC_append _ _).symm
  clear hm' hx'
  refine qA (qC rfl) rfl ?_
  refine qL (qJ (qK (qI ?_)))
  refine qA (qB rfl) rfl ?_
  refine qA (qB rfl) rfl ?_
  refine qA (qD rfl (hE.t rfl) rfl) rfl ?_
  apply qA
  ·(apply qN rfl (hE.t rfl) rfl; (repeat (first | rfl | assumption | constructor)); done)
  ·rfl
  refine qA (y_sub rfl rfl (by omega) (by omega)) rfl ?_
  refine l_eq 33 (.int .i64 ((n - b : Nat) : Int)) rfl (zV (by omega)) ?_
  refine qA (kK rfl (hE.t rfl) (hE.t rfl) (by first | exact kL (by omega) (by omega) | exact kM (by omega) (by omega))) rfl ?_
  apply qH (by kernel_rfl) rfl
  apply qY (ct_r7Put (n := n - b) hE (by omega)) rfl (hE.f (by kernel_rfl))
  ·((repeat constructor); done)
  rintro _ _ ⟨g', c', rfl, rfl⟩
  simp only [List.cons_append, List.nil_append]
  apply qH (by kernel_rfl) rfl
  apply ld_append_sl (hE.t rfl) (hE.t rfl) rfl rfl rfl
  ·((repeat constructor); done)
  ·((repeat constructor); done)
  ·exact byC_cells _
  ·exact (vput_pos _)
  ·first | omega | (simp only [List.length_append, List.length_cons, List.length_nil]; omega)
  ·unfold maxLen; first | omega | (simp only [List.length_append, List.length_cons, List.length_nil]; omega)
  intro g2 c2 m' x' hm' hx'
  obtain rfl : m' = ([2] ++ vput (n - a) ++ vput (n - b)).length := by rw [hm']; simp only [List.length_append, List.length_cons, List.length_nil] <;> omega
  obtain rfl : x' = byC ([2] ++ vput (n - a) ++ vput (n - b)) := hx'.trans (byC_append _ _).symm
  clear hm' hx'
  refine qA (qC rfl) rfl ?_
  refine qL (qJ (zY (zM (qU ?_))))
  apply zZ
  ·rfl
  ·(apply Rs.tmp rfl; exact Rs.nil)
  ·exact ⟨g2, c2, rfl, rfl⟩
  ·(apply ent; (repeat constructor); done)
 | power a k =>
  have ho' := ho
  simp only [Rl.ok] at ho'
  simp only [Rl.times] at ht
  have e1 := vput_ten (n := n - a) (by omega)
  have e2 := vput_ten (n := k - 2) (by omega)
  have hl : (Rl.power a k).left = a := rfl
  have hr : (Rl.power a k).times = k := rfl
  refine zN (hE.fn Tryz.func82) rfl rfl rfl (fun R => ?_)
  simp only [argsL, List.cons_append, List.nil_append]
  refine qK (qI ?_)
  apply qH (by kernel_rfl) rfl
  refine ld_box rfl (fun b2 => ?_)
  refine qA (qC rfl) rfl ?_
  refine qL (qJ ?_)
  refine qK (qI ?_)
  refine qA (qD rfl (hE.t rfl) rfl) rfl ?_
  apply qA
  ·(apply qN rfl (hE.t rfl) rfl; (repeat (first | rfl | assumption | constructor)); done)
  ·rfl
  apply qA
  ·exact y_convW (j := 3) rfl (hE.t rfl) (hE.t rfl) rfl
  ·rfl
  apply qH (by kernel_rfl) rfl
  refine qT (hE.t rfl) (hE.t rfl) rfl rfl rfl (fun b9 => ?_)
  refine qA (qC rfl) rfl ?_
  refine qL (qJ (qK (qK (qI ?_))))
  refine qA (qD rfl (hE.t rfl) rfl) rfl ?_
  apply qA
  ·(apply qN rfl (hE.t rfl) rfl; (repeat (first | rfl | assumption | constructor)); done)
  ·rfl
  refine qL (qJ (zJ (qK (qI ?_))))
  refine qA (y_eq rfl rfl) rfl ?_
  refine qA (qC rfl) rfl ?_
  refine qL (qJ ?_)
  refine zC rfl ?_
  refine qK (qI ?_)
  refine qA (y_eq rfl rfl) rfl ?_
  refine qA (qC rfl) rfl ?_
  refine qL (qJ ?_)
  refine zC rfl ?_
  refine w_heap (kA (p := cells b9 [.int .u8 3] 5) (p' := sl (some ⟨b9, 0, none⟩) 1 5 1 1 (byC [3])) (by ((repeat constructor); done)) (sl_of_cells rfl (by unfold maxLen; omega))) ?_
  refine zB (zH (qJ (qK (qI ?_))))
  refine qA (qB rfl) rfl ?_
  refine qA (qB rfl) rfl ?_
  refine qA (qD rfl (hE.t rfl) rfl) rfl ?_
  apply qA
  ·(apply qN rfl (hE.t rfl) rfl; (repeat (first | rfl | assumption | constructor)); done)
  ·rfl
  refine qA (y_sub rfl rfl (by omega) (by omega)) rfl ?_
  refine l_eq 41 (.int .i64 ((n - a : Nat) : Int)) rfl (zV (by omega)) ?_
  refine qA (kK rfl (hE.t rfl) (hE.t rfl) (by first | exact kL (by omega) (by omega) | exact kM (by omega) (by omega))) rfl ?_
  apply qH (by kernel_rfl) rfl
  apply qY (ct_r7Put (n := n - a) hE (by omega)) rfl (hE.f (by kernel_rfl))
  ·((repeat constructor); done)
  rintro _ _ ⟨g, c, rfl, rfl⟩
  simp only [List.cons_append, List.nil_append]
  apply qH (by kernel_rfl) rfl
  apply ld_append_sl (hE.t rfl) (hE.t rfl) rfl rfl rfl
  ·((repeat constructor); done)
  ·((repeat constructor); done)
  ·exact byC_cells _
  ·exact (vput_pos _)
  ·first | omega | (simp only [List.length_append, List.length_cons, List.length_nil]; omega)
  ·unfold maxLen; first | omega | (simp only [List.length_append, List.length_cons, List.length_nil]; omega)
  intro g1 c1 m' x' hm' hx'
  obtain rfl : m' = ([3] ++ vput (n - a)).length := by rw [hm']; simp only [List.length_append, List.length_cons, List.length_nil] <;> omega
  obtain rfl : x' = byC ([3] ++ vput (n - a)) := hx'.trans (byC_append _ _).symm
  clear hm' hx'
  refine qA (qC rfl) rfl ?_
  refine qL (qJ (qK (qI ?_)))
  refine qA (qB rfl) rfl ?_
  refine qA (qD rfl (hE.t rfl) rfl) rfl ?_
  apply qA
  ·(apply qN rfl (hE.t rfl) rfl; (repeat (first | rfl | assumption | constructor)); done)
  ·rfl
  refine qA (y_sub rfl rfl (by omega) (by omega)) rfl ?_
  refine l_eq 48 (.int .i64 ((k - 2 : Nat) : Int)) rfl (zV (by omega)) ?_
  refine qA (kK rfl (hE.t rfl) (hE.t rfl) (by first | exact kL (by omega) (by omega) | exact kM (by omega) (by omega))) rfl ?_
  apply qH (by kernel_rfl) rfl
  apply qY (ct_r7Put (n := k - 2) hE (by omega)) rfl (hE.f (by kernel_rfl))
  ·((repeat constructor); done)
  rintro _ _ ⟨g', c', rfl, rfl⟩
  simp only [List.cons_append, List.nil_append]
  apply qH (by kernel_rfl) rfl
  apply ld_append_sl (hE.t rfl) (hE.t rfl) rfl rfl rfl
  ·((repeat constructor); done)
  ·((repeat constructor); done)
  ·exact byC_cells _
  ·exact (vput_pos _)
  ·first | omega | (simp only [List.length_append, List.length_cons, List.length_nil]; omega)
  ·unfold maxLen; first | omega | (simp only [List.length_append, List.length_cons, List.length_nil]; omega)
  intro g2 c2 m' x' hm' hx'
  obtain rfl : m' = ([3] ++ vput (n - a) ++ vput (k - 2)).length := by rw [hm']; simp only [List.length_append, List.length_cons, List.length_nil] <;> omega
  obtain rfl : x' = byC ([3] ++ vput (n - a) ++ vput (k - 2)) := hx'.trans (byC_append _ _).symm
  clear hm' hx'
  refine qA (qC rfl) rfl ?_
  refine qL (qJ (zY ?_))
  apply zZ
  ·rfl
  ·(apply Rs.tmp rfl; exact Rs.nil)
  ·exact ⟨g2, c2, rfl, rfl⟩
  ·(apply ent; (repeat constructor); done)
structure ReG where
 k : Nat
 done : List UInt8
 p : Nat
 c : Nat
theorem encG_take {G : List Rl} {k : Nat} {r : Rl} (h : G[k]? = some r) : encG 0 (G.take (k + 1)) = encG 0 (G.take k) ++ rulB (k + 1) r := by
 have hk := (List.getElem?_eq_some_iff.1 h).1
 rw [List.take_add_one, h, encG_append]
 have hl : (G.take k).length = k := by rw [List.length_take]; omega
 rw [hl, Nat.zero_add]
 simp only [Option.toList_some, encG, List.append_nil]
theorem ct_r11Encode (hE : Seat E) {G : List Rl} {p : Option Addr} {c : Nat} (hG : GOk 0 G) (hn : G.length ≤ 100000) (ht : ∀ r ∈ G, r.times ≤ 1152921504606846976) : Ct E 47 [.slice p G.length c] [sl p c 82 5 G.length (rusC G)]
  (fun v Q => ∃ g' c', v = .slice (some ⟨g', 0, none⟩) (vput G.length ++ encG 0 G).length c' ∧ (vput G.length ++ encG 0 G).length ≤ 10 + 21 * G.length ∧ Q = [sl p c 82 5 G.length (rusC G), sl (some ⟨g', 0, none⟩) c' 5 1 (vput G.length ++ encG 0 G).length (byC (vput G.length ++ encG 0 G))]) := by
 have h10 := vput_ten (n := G.length) (by omega)
 refine ct_fact (p := sl p c 82 5 G.length (rusC G)) (by ((repeat constructor); done)) (fun _ h => fun hpos => sl_form h hpos) (fun hp => ?_)
 refine zN (hE.fn Tryz.func47) rfl rfl rfl (fun R => ?_)
 simp only [argsL, List.cons_append, List.nil_append]
 refine qK (qI ?_)
 refine qA (qC rfl) rfl ?_
 refine qL (qJ (qK (qI ?_)))
 refine qA (qB rfl) rfl ?_
 refine qA (qQ rfl (hE.t rfl)) rfl ?_
 refine qA (kK rfl (hE.t rfl) (hE.t rfl) (by first | exact kL (by omega) (by omega) | exact kM (by omega) (by omega))) rfl ?_
 apply qH (by kernel_rfl) rfl
 apply qY (ct_r7Put (n := G.length) hE (by omega)) rfl (hE.f (by kernel_rfl))
 ·((repeat constructor); done)
 rintro _ _ ⟨g0, c0, rfl, rfl⟩
 simp only [List.cons_append, List.nil_append]
 refine qA (qC rfl) rfl ?_
 refine qL (qJ (qK (qK (qI ?_))))
 refine qA (qC rfl) rfl ?_
 refine qL (qJ (zJ ?_))
 skip
 refine w_loop (fun x : ReG => [(0, .slice p G.length c), (3, .slice (some ⟨x.p, 0, none⟩) x.done.length x.c), (4, .int .i64 (x.k : Nat))]) (fun x => [sl p c 82 5 G.length (rusC G), sl (some ⟨x.p, 0, none⟩) x.c 5 1 x.done.length (byC x.done), R]) (fun x => G.length - x.k)
  (fun x => x.k ≤ G.length ∧ x.done = vput G.length ++ encG 0 (G.take x.k) ∧ x.done.length ≤ 10 + 21 * x.k) ⟨0, vput G.length, g0, c0⟩ ⟨Nat.zero_le _, by simp [encG], by simp only; omega⟩ ⟨rfl, rfl, rfl, trivial⟩ (by (apply ent; (repeat constructor); done)) ?_
 rintro ⟨k, done, p1, c1⟩ ⟨hk, hdone, hdl⟩
 simp only at hk hdone hdl ⊢
 skip
 refine qK (qK (qI ?_))
 refine qA (qB rfl) rfl ?_
 refine qA (qB rfl) rfl ?_
 refine qA (qQ rfl (hE.t rfl)) rfl ?_
 refine qA (y_lt rfl rfl) rfl ?_
 refine qL (qJ ?_)
 refine zD rfl (fun h => ?_) (fun h => ?_)
 ·skip
  have hkl : k < G.length := by omega
  obtain ⟨g, rfl⟩ := hp (by omega)
  obtain ⟨r, hr⟩ : ∃ x, G[k]? = some x := ⟨_, List.getElem?_eq_getElem hkl⟩
  obtain ⟨f0, f1, f2, f3, f4⟩ := rusC_at hr (0 + ((k : Nat) : Int).toNat * 5) (by omega)
  have hro := hG k r hr
  rw [Nat.zero_add] at hro
  have hrt := ht r (List.mem_of_getElem? hr)
  have hrl := rulB_len (k + 1) (by omega) r hrt
  refine zB (qJ ?_)
  refine qK (zJ (qI ?_))
  refine qA (qB rfl) rfl ?_
  refine qA (qB rfl) rfl ?_
  refine qA (qB rfl) rfl ?_
  refine qA (qO rfl rfl (hE.t rfl) (by omega) (by omega)) rfl ?_
  apply qA
  ·(apply zU rfl (hE.t rfl) rfl; (repeat (first | rfl | assumption | constructor)); done)
  ·rfl
  refine qA (qB rfl) rfl ?_
  refine qA (y_add rfl rfl (by omega) (by omega)) rfl ?_
  refine l_eq 21 (.int .i64 ((k + 1 : Nat) : Int)) rfl (zV (by omega)) ?_
  skip
  apply qH (by kernel_rfl) rfl
  apply qY (ct_r11Put (r := r) (n := k + 1) hE hro (by omega) (by omega) hrt) rfl (hE.f (by kernel_rfl))
  ·((repeat constructor); done)
  rintro _ _ ⟨gr, cr, rfl, rfl⟩
  simp only [List.cons_append, List.nil_append]
  apply qH (by kernel_rfl) rfl
  apply ld_append_sl (hE.t rfl) (hE.t rfl) rfl rfl rfl
  ·((repeat constructor); done)
  ·((repeat constructor); done)
  ·exact byC_cells _
  ·exact hrl.1
  ·first | omega | (simp only [List.length_append, List.length_cons, List.length_nil]; omega)
  ·unfold maxLen; first | omega | (simp only [List.length_append, List.length_cons, List.length_nil]; omega)
  intro g2 c2 m' x' hm' hx'
  obtain rfl : m' = (done ++ rulB (k + 1) r).length := by rw [hm']; simp only [List.length_append, List.length_cons, List.length_nil] <;> omega
  obtain rfl : x' = byC (done ++ rulB (k + 1) r) := hx'.trans (byC_append _ _).symm
  clear hm' hx'
  refine qA (qC rfl) rfl ?_
  refine qL (zH (qJ (qI ?_)))
  refine qA (qB rfl) rfl ?_
  refine qA (y_add rfl rfl (by omega) (by omega)) rfl ?_
  refine qA (qC rfl) rfl ?_
  refine qL ?_
  refine zR (ι := ReG) (j := ⟨k + 1, done ++ rulB (k + 1) r, g2, c2⟩) ⟨by simp only; omega, by simp only; rw [encG_take hr, ← List.append_assoc, ← hdone], by simp only [List.length_append]; omega⟩ (by simp only; omega) ⟨rfl, rfl, congrArg some (zV (by simp only; omega)), trivial⟩ ?_
  (apply ent; (repeat constructor); done)
 ·skip
  obtain rfl : k = G.length := by omega
  rw [List.take_length] at hdone
  subst hdone
  refine kH (qP (qP (zG (qJ (qK (qI ?_))))))
  refine qA (qB rfl) rfl ?_
  refine qA (qC rfl) rfl ?_
  refine qL (qJ (zY ?_))
  apply zZ
  ·rfl
  ·(apply Rs.tmp rfl; exact Rs.nil)
  ·exact ⟨p1, c1, rfl, hdl, rfl⟩
  ·(apply ent; (repeat constructor); done)
end
end Go.Proofs.YtkkjjablmmmmkaaGreatDoor
namespace Sl
open Go Go.RowKit
variable {E : Env} {n : Nat} {L : Fr} {H : List HP} {Q : Exit → Act → World → Prop} {fuel : Nat} {listed : Array Bool} {ops : List Oper}
def allS (S0 : List HP) : List (Nat × List HP) → Prop
 | [] => True
 | (_, S) :: r => (∀ k, stars S k → stars S0 k) ∧ allS S0 r
theorem allS_mem {S0 : List HP} : ∀ {Ss : List (Nat × List HP)}, allS S0 Ss → ∀ x ∈ Ss, ∀ k, stars x.2 k → stars S0 k
 | [], _, x, hx => by simp at hx
 | (_, S) :: r, h, x, hx => by
  rcases List.mem_cons.1 hx with rfl | hx
  ·exact h.1
  ·exact allS_mem h.2 x hx
theorem s_keep (S0 : List HP) (i : Nat) {Ss : List (Nat × List HP)} {d : Option Nat} {op : Op} {ty : TypeId} {pos : String} {af : Array Edge} {v : Value} (hi : ops[i]? = some ⟨d, op, ty, pos, af, none⟩)
  (hy : Yl E n L S0 ⟨d, op, ty, pos, af, none⟩ v) (hQ : Calm Q) (hf : calmB ops.toArray listed i = true) (hm : waitsB ops.toArray i Ss = true) (hd : inB n d = true) (hS0 : allS S0 Ss)
  (k : WPS E ops Ss Q fuel (listed.setIfInBounds i true) n (putL d v L) H) : WPS E ops Ss Q (fuel + 1) listed n L H := fun a w g hS => by
 simp only [calmB, Bool.and_eq_true] at hf
 refine wpAnyP_calm (get_toArray hi) (Region.noSelect_spec hf.1) (fun c a w h => hQ c a w d v h) (T := fun w => Sat E.w0 w S0) fuel _ listed a w (waitsB_spec hm) ?_ (Region.free_spec (get_toArray hi) hf.2.1) (by simpa using hf.2.2) (.inl ⟨rfl, fun w hw => hy a w g.f hw⟩) hS (k _ _ ⟨g.f.put d v hd, g.hp⟩ hS)
 intro m S h w hw
 obtain ⟨x, hx, e⟩ := List.mem_map.1 h
 obtain ⟨rfl, rfl⟩ := Prod.mk.inj e
 exact hw.imp (allS_mem hS0 x hx)
end Sl
namespace Go.Proofs.YtkkjjablmmmmkaaGreatDoor
section
open Go Go.RowKit Sl Eg
set_option maxRecDepth 10000
variable {E : Env} {L : List Rl}
theorem y_ne_rule (hE : Seat E) {n : Nat} {L : Fr} {S : List HP} {ty : TypeId} {pos : String} {af : Array Edge} {d : Option Nat} {gd : Option (Nat × Bool)} {x y : Operand} {yt : TypeId} {a b : Rl} (hx : ev L x = some (ruleV a)) (hy : ev L y = some (ruleV b)) :
  Yl E n L S ⟨d, .binOp .neq 82 x y yt, ty, pos, af, gd⟩ (.bool (!decide (a = b))) := fun ac w g _ => by
 have h1 : (eqGuard .neq 82 x y (ruleV a) (ruleV b)).run E.P w = .ok () w := by
  have hg : E.P.eqGuardType E.P.depth 82 = false := by rw [hE.P]; kernel_rfl
  unfold eqGuard ruleV
  simp [program, Sem.run, hg]
 have h2 : binOp .neq 82 (ruleV a) (ruleV b) = (do pure (.bool (!(← Op.equal 82 (ruleV a) (ruleV b))))) := rfl
 have h3 := rule_equal a b w
 rw [← hE.P] at h3
 simp [execOp, h1, h2, h3, g.ev hx, g.ev hy]
structure RsL (L : List Rl) (l : List Im) (ys : List Nat) : Prop where
 wf : Wf L
 yl : ys.length = l.length
 sg : ∀ (i : Nat) (x : Im) (y : Nat), l[i]? = some x → ys[i]? = some y → y ≤ L.length ∧ Sg L x.bs y
variable {l : List Im} {ys : List Nat}
theorem RsL.bound (h : RsL L l ys) : ∀ y ∈ ys, y ≤ L.length := fun y hy => by
 obtain ⟨i, hi⟩ := List.getElem?_of_mem hy
 have hil := (List.getElem?_eq_some_iff.1 hi).1
 have := h.yl
 obtain ⟨x, hx⟩ : ∃ x, l[i]? = some x := ⟨_, List.getElem?_eq_getElem (by omega)⟩
 exact (h.sg i x y hx hi).1
theorem RsL.lis (h : RsL L l ys) : Lis L (kF L ys []) := ⟨h.wf, AccOk.visits h.wf h.bound, visits_ord h.wf ys [] (ord_nil _)⟩
theorem renum_sides {F W : List Nat} {k n : Nat} {r : Rl} (hW : W[k]? = some (n + 1)) (hr : L[n]? = some r) (ho : Odr L W) (h0 : 0 ∉ F) (hW0 : 0 ∉ W) : ((toL F W k)[(renum W r).left]? = some (renum F r).left ∧ (renum W r).left ≤ k) ∧ (toL F W k)[(renum W r).right]? = some (renum F r).right ∧ (renum W r).right ≤ k := by
 cases r with
 | letter b => exact ⟨⟨rfl, Nat.zero_le _⟩, rfl, Nat.zero_le _⟩
 | pair a b => exact ⟨toL_kid hW hr ho (by simp [kids]), toL_kid hW hr ho (by simp [kids])⟩
 | power a t => exact ⟨toL_kid hW hr ho (by simp [kids]), rfl, Nat.zero_le _⟩
structure RqG where
 i : Nat
 m : Nat
 pg : Option Addr
 cg : Nat
 pr : Option Addr
 cr : Nat
structure RkG where
 k : Nat
 m : Nat
 pg : Option Addr
 cg : Nat
 pt : Option Addr
 ct : Nat
theorem ct_r50Rules (hE : Seat E) (h : RsL L l ys) {a : Option Addr} {ca : Nat} {q : HP} (hq : Rdb E.w0 a (imC l) q) (hok : ∀ x ∈ l, Rdb E.w0 x.a (byC x.bs) q) (hlen : ∀ x ∈ l, x.bs.length ≤ 60) (hn : l.length ≤ 6) : Ct E 22 [.slice a l.length ca] [q]
  (fun v Q => ∃ pg cg pr cr, v = .tuple #[.slice pg (gram L (kF L ys [])).length cg, .slice pr l.length cr] ∧ Q = [q, sl pg cg 82 5 (gram L (kF L ys [])).length (rusC (gram L (kF L ys []))), sl pr cr 3 1 l.length (idC (ys.map (numb (kF L ys []))))]) := by
 have hlis := h.lis
 have hb := h.bound
 have hw0 := h.wf
 have hyl := h.yl
 obtain ⟨F, hF⟩ : ∃ F, F = kF L ys [] := ⟨_, rfl⟩
 rw [← hF] at hlis ⊢
 obtain ⟨G, hG⟩ : ∃ G, G = gram L F := ⟨_, rfl⟩
 have hGl : G.length = F.length := by rw [hG]; exact gram_len
 have hFl := hlis.acc.len
 have hroom := hw0.room
 have hmr : maxRules = 1048576 := rfl
 rw [← hG]
 refine zN (hE.fn Tryz.func22) rfl rfl rfl (fun R => ?_)
 simp only [argsL, List.cons_append, List.nil_append]
 refine qK (qI ?_)
 refine qA (qC rfl) rfl ?_
 refine qA (qC rfl) rfl ?_
 refine qL (qJ (qK (qI ?_)))
 refine qA (qC rfl) rfl ?_
 refine qL (qJ (qK (qI ?_)))
 refine qA (qC rfl) rfl ?_
 refine qL (qJ (qK (qK (qI ?_))))
 refine qA (qC rfl) rfl ?_
 refine qL (qJ (zJ ?_))
 skip
 refine w_loop (fun x : RqG => [(0, .slice a l.length ca), (4, .slice x.pg x.m x.cg), (5, .slice x.pr x.i x.cr), (6, .int .i64 (x.i : Nat))]) (fun x => [q, sl x.pg x.cg 82 5 x.m (rusC (G.take x.m)), sl x.pr x.cr 3 1 x.i (idC ((ys.map (numb F)).take x.i)), R]) (fun x => l.length - x.i) (fun x => x.i ≤ l.length ∧ x.m ≤ F.length ∧ F.take x.m = kF L (ys.take x.i) []) ⟨0, 0, none, 0, none, 0⟩ ⟨Nat.zero_le _, Nat.zero_le _, rfl⟩ ⟨rfl, rfl, rfl, rfl, trivial⟩ ?_ ?_
 ·apply kB (ent_nil (t := 82) (sz := 5))
  apply kB (ent_nil (t := 3) (sz := 1))
  (apply ent; (repeat constructor); done)
 rintro ⟨i, m, pg, cg, pr, cr⟩ ⟨hi, hm, hFm⟩
 simp only at hi hm hFm ⊢
 skip
 refine qK (qK (qI ?_))
 refine qA (qB rfl) rfl ?_
 refine qA (qB rfl) rfl ?_
 refine qA (qQ rfl (hE.t rfl)) rfl ?_
 refine qA (y_lt rfl rfl) rfl ?_
 refine qL (qJ ?_)
 refine zD rfl (fun h1 => ?_) (fun h1 => ?_)
 ·skip
  have hil : i < l.length := by omega
  obtain ⟨x, hx⟩ : ∃ x, l[i]? = some x := ⟨_, List.getElem?_eq_getElem hil⟩
  obtain ⟨y, hy⟩ : ∃ x, ys[i]? = some x := ⟨_, List.getElem?_eq_getElem (by omega)⟩
  have hxm := List.mem_of_getElem? hx
  have hxl := hlen x hxm
  obtain ⟨hyb, hsg⟩ := h.sg i x y hx hy
  obtain ⟨S, hS, htk⟩ := visits_take hw0 hb hy
  rw [← hF] at hS
  obtain ⟨g, o, rfl, hq'⟩ := hq (imC_ne (by omega))
  have f0 := (imC_at hx).2
  have hrt : (ys.map (numb F)).take (i + 1) = (ys.map (numb F)).take i ++ [numb F y] := by rw [List.take_add_one, List.getElem?_map, hy]; rfl
  refine zB (qJ (qK (zJ (qK (qK (qI ?_))))))
  refine qA (qB rfl) rfl ?_
  refine qA (qB rfl) rfl ?_
  refine qA (qO rfl rfl (hE.t rfl) (by omega) (by omega)) rfl ?_
  refine qA (qD rfl (hE.t rfl) rfl) rfl ?_
  apply qA
  ·(apply zI rfl (hE.t rfl) rfl (by assumption); (focus ((repeat constructor); done)); (first | ((focus exact f0); (focus omega)) | ((focus exact f1); (focus omega)) | ((focus assumption); (focus omega))))
  ·rfl
  refine qA (qQ rfl (hE.t rfl)) rfl ?_
  refine qA (y_eq rfl rfl) rfl ?_
  refine qL (qJ ?_)
  refine zD rfl (fun h2 => ?_) (fun h2 => ?_)
  ·skip
   have hbs : x.bs = [] := List.eq_nil_of_length_eq_zero (by omega)
   have hy0 : y = 0 := by
    rcases hsg with ⟨_, e⟩ | ⟨lv, e⟩
    ·exact e
    ·exact absurd hbs e.nonempty
   refine qK (qI ?_)
   refine qA (qB rfl) rfl ?_
   apply qH (by kernel_rfl) rfl
   refine qT (hE.t rfl) (hE.t rfl) rfl rfl rfl (fun b27 => ?_)
   apply qH (by kernel_rfl) rfl
   apply zT (hE.t rfl) (hE.t rfl) rfl rfl rfl
   ·((repeat constructor); done)
   ·((repeat constructor); done)
   ·rfl
   ·rfl
   ·omega
   ·omega
   ·(unfold maxLen; omega)
   intro g28 c28 n28 x28 hn28 hx28
   refine qA (qC rfl) rfl ?_
   refine qL (qJ (kH (qP (zG (qJ (qI ?_))))))
   refine qA (qB rfl) rfl ?_
   refine qA (y_add rfl rfl (by omega) (by omega)) rfl ?_
   refine qA (qC rfl) rfl ?_
   refine qL ?_
   subst hn28 hx28
   refine zR (ι := RqG) (j := ⟨i + 1, m, pg, cg, some ⟨g28, 0, none⟩, c28⟩) ⟨by simp only; omega, hm, by simp only; rw [hFm, htk, hy0, visit_zero]⟩ (by simp only; omega) ⟨rfl, rfl, rfl, congrArg some (zV (by simp only; omega)), trivial⟩ ?_
   simp only
   rw [hrt, idC_append, hy0, numb_zero.2 hlis.zero]
   (apply ent; (repeat constructor); done)
  ·skip
   have hbs : x.bs ≠ [] := fun e => by rw [e] at h2; exact h2 rfl
   have hy1 : 1 ≤ y := by
    rcases hsg with ⟨e, _⟩ | ⟨lv, e⟩
    ·exact absurd e hbs
    ·exact (e.sig hw0).1.pos
   refine zB (qJ (qK (qI ?_)))
   refine qA (qB rfl) rfl ?_
   refine qA (qB rfl) rfl ?_
   refine qA (qO rfl rfl (hE.t rfl) (by omega) (by omega)) rfl ?_
   refine qA (qD rfl (hE.t rfl) rfl) rfl ?_
   apply qA
   ·(apply zI rfl (hE.t rfl) rfl (by assumption); (focus ((repeat constructor); done)); (first | ((focus exact f0); (focus omega)) | ((focus exact f1); (focus omega)) | ((focus assumption); (focus omega))))
   ·rfl
   apply qH (by kernel_rfl) rfl
   apply qY (ct_r22Of (bs := x.bs) (a := x.a) (ca := x.c) hE (hok x hxm) hbs (by omega)) rfl (hE.f (by kernel_rfl))
   ·((repeat constructor); done)
   rintro _ _ ⟨pq, Z, p, c, id, ps, cs, lv, kk, rfl, hwZ, hrch, hZl, rfl⟩
   simp only [List.cons_append, List.nil_append]
   have hsz := (hrch.sig hwZ).1
   have hiso : Iso Z L id y := by
    rcases Sg.rel hwZ hw0 (.inr ⟨kk, hrch⟩) hsg with ⟨e, _⟩ | e
    ·have := hsz.pos; omega
    ·exact e
   have hgr : gram Z (visit Z id []) = gram L (visit L y []) := gram_rel hwZ hw0 (visit_rel hwZ hw0 hiso (Rel.nil _ _))
   refine l_say (p := sl p c 82 5 (Z.length + 1) (ruC Z)) (by ((repeat constructor); done)) (fun _ h => sl_form h (by omega)) ?_
   rintro ⟨gz, rfl⟩
   refine l_say (p := sl ps cs 37 1 [id].length (idC [id])) (by ((repeat constructor); done)) (fun _ h => sl_form h (by simp)) ?_
   rintro ⟨gs, rfl⟩
   have f1 : (idC [id])[0]? = some (.int .i64 (id : Nat)) := rfl
   have hi1 : [id].length = 1 := rfl
   refine qA (qC rfl) rfl ?_
   refine qL (qJ ?_)
   refine qK ?_
   refine w_held ([cells pq [.slice (some ⟨gz, 0, none⟩) (Z.length + 1) c, .slice (some ⟨gs, 0, none⟩) [id].length cs, .int .i64 ((lv : Nat) : Int)] 99, sl (some ⟨gs, 0, none⟩) cs 37 1 [id].length (idC [id])]) ?_ ?_
   ·(apply ent; (repeat constructor); done)
   apply zF 0 rfl
   ·exact qB rfl
   ·with_reducible (repeat (first | exact qE | apply qF | apply qG))
   ·kernel_rfl
   ·rfl
   apply zF 1 rfl
   ·exact qZ rfl
   ·with_reducible (repeat (first | exact qE | apply qF | apply qG))
   ·kernel_rfl
   ·rfl
   apply zF 2 rfl
   ·exact qD rfl (hE.t rfl) rfl
   ·with_reducible (repeat (first | exact qE | apply qF | apply qG))
   ·kernel_rfl
   ·rfl
   apply zF 3 rfl
   ·(apply qN rfl (hE.t rfl) rfl; (repeat (first | rfl | assumption | constructor)); done)
   ·with_reducible (repeat (first | exact qE | apply qF | apply qG))
   ·kernel_rfl
   ·rfl
   apply zF 4 rfl
   ·exact qB rfl
   ·with_reducible (repeat (first | exact qE | apply qF | apply qG))
   ·kernel_rfl
   ·rfl
   apply zF 5 rfl
   ·exact qZ rfl
   ·with_reducible (repeat (first | exact qE | apply qF | apply qG))
   ·kernel_rfl
   ·rfl
   apply zF 6 rfl
   ·exact qD rfl (hE.t rfl) rfl
   ·with_reducible (repeat (first | exact qE | apply qF | apply qG))
   ·kernel_rfl
   ·rfl
   apply zF 7 rfl
   ·(apply qN rfl (hE.t rfl) rfl; (repeat (first | rfl | assumption | constructor)); done)
   ·with_reducible (repeat (first | exact qE | apply qF | apply qG))
   ·kernel_rfl
   ·rfl
   apply zF 8 rfl
   ·exact zL rfl rfl (hE.t rfl) (by omega) (by omega)
   ·with_reducible (repeat (first | exact qE | apply qF | apply qG))
   ·kernel_rfl
   ·rfl
   apply zF 9 rfl
   ·(apply qN rfl (hE.t rfl) rfl; (repeat (first | rfl | assumption | constructor)); done)
   ·with_reducible (repeat (first | exact qE | apply qF | apply qG))
   ·kernel_rfl
   ·rfl
   apply kJ 10 rfl (by kernel_rfl) rfl
   apply qY (ct_r22Canon (g := gz) (c := c) (id := id) hE hwZ (by omega) hsz.le) rfl (hE.f (by kernel_rfl))
   ·((repeat constructor); done)
   rintro _ _ ⟨pc, cc, rfl, rfl⟩
   rw [hgr]
   simp only [List.cons_append, List.nil_append]
   obtain ⟨W, hW⟩ : ∃ W, W = visit L y [] := ⟨_, rfl⟩
   rw [← hW]
   have hWacc : AccOk L W := by rw [hW]; exact AccOk.visit hw0 ⟨List.nodup_nil, fun z hz => by simp at hz⟩ y
   have hWord : Odr L W := by rw [hW]; exact visit_ord hw0 y [] (ord_nil L)
   have hW0 : 0 ∉ W := fun hz => by have := (hWacc.2 0 hz).1; omega
   have hWg : (gram L W).length = W.length := gram_len
   have hWl := hWacc.len
   have hVc : Closed L (F.take m) := by rw [hFm]; exact ((visits_rch hw0 (ys.take i) []).2 (closed_nil L)).1
   have hvn : visit L y (F.take m) = F.take m ++ nin (F.take m) W := by
    have := visit_nin hw0 hVc y [] List.nodup_nil
    rw [← hW] at this
    simpa [nin] using this
   rw [← hFm, hvn] at hS
   rw [← hFm, hvn] at htk
   have hWy : ∃ A, W = A ++ [y] := by
    obtain ⟨n, rfl⟩ : ∃ n, y = n + 1 := ⟨y - 1, by omega⟩
    obtain ⟨r, hr⟩ : ∃ r, L[n]? = some r := ⟨_, List.getElem?_eq_getElem (by omega)⟩
    exact ⟨_, by rw [hW]; exact visit_rule hw0 hr (by simp)⟩
   obtain ⟨V, hV⟩ : ∃ V, V = F.take m := ⟨_, rfl⟩
   rw [← hV] at hS htk
   refine ⟨by (apply ent; (repeat constructor); done), ?_⟩
   apply zF 11 rfl
   ·exact qC rfl
   ·with_reducible (repeat (first | exact qE | apply qF | apply qG))
   ·kernel_rfl
   ·rfl
   refine d_nil (by kernel_rfl) ?_
   refine qJ (qK (qI ?_))
   apply qH (by kernel_rfl) rfl
   refine qT (hE.t rfl) (hE.t rfl) rfl rfl rfl (fun b46 => ?_)
   refine qA (qC rfl) rfl ?_
   refine qL (qJ (qK (qK (qI ?_))))
   refine qA (qC rfl) rfl ?_
   refine qL (qJ (zJ ?_))
   refine w_heap (kA (p := cells b46 [.int .i64 0] 37) (p' := sl (some ⟨b46, 0, none⟩) 1 37 1 (0 + 1) (idC (toL F W 0))) (by ((repeat constructor); done)) (sl_of_cells rfl (by unfold maxLen; omega))) ?_
   refine w_say (p := sl pc cc 82 5 (gram L W).length (rusC (gram L W))) (by ((repeat constructor); done)) (fun _ h => fun hpos => sl_form h hpos) (fun hpc => ?_)
   skip
   refine w_loop (fun x : RkG => [(0, .slice (some ⟨g, o, none⟩) l.length ca), (4, .slice x.pg x.m x.cg), (5, .slice pr i cr), (6, .int .i64 (i : Nat)), (8, .slice pc (gram L W).length cc), (9, .slice x.pt (x.k + 1) x.ct), (10, .int .i64 (x.k : Nat))]) (fun x => [q, sl x.pg x.cg 82 5 x.m (rusC (G.take x.m)), sl pr cr 3 1 i (idC ((ys.map (numb F)).take i)), sl pc cc 82 5 (gram L W).length (rusC (gram L W)), sl x.pt x.ct 37 1 (x.k + 1) (idC (toL F W x.k)), R]) (fun x => W.length - x.k) (fun x => x.k ≤ W.length ∧ Wk F V W x.k x.m) ⟨0, m, pg, cg, some ⟨b46, 0, none⟩, 1⟩ ⟨Nat.zero_le _, by simp [Wk, hV, nin], hm⟩ ⟨rfl, rfl, rfl, rfl, rfl, rfl, rfl, trivial⟩ (by (apply ent; (repeat constructor); done)) ?_
   clear hFm hm hV hVc hvn m pg cg
   rintro ⟨k, m, pg, cg, pt, ct⟩ ⟨hk, hwk⟩
   simp only at hk hwk ⊢
   have hm := hwk.2
   skip
   refine qK (qK (qI ?_))
   refine qA (qB rfl) rfl ?_
   refine qA (qB rfl) rfl ?_
   refine qA (qQ rfl (hE.t rfl)) rfl ?_
   refine qA (y_lt rfl rfl) rfl ?_
   refine qL (qJ ?_)
   refine zD rfl (fun h3 => ?_) (fun h3 => ?_)
   ·skip
    have hkl : k < W.length := by omega
    obtain ⟨gc, rfl⟩ := hpc (by omega)
    obtain ⟨w, hw⟩ : ∃ x, W[k]? = some x := ⟨_, List.getElem?_eq_getElem hkl⟩
    have hwb := hWacc.2 w (List.mem_of_getElem? hw)
    obtain ⟨n, rfl⟩ : ∃ n, w = n + 1 := ⟨w - 1, by omega⟩
    obtain ⟨r, hr⟩ : ∃ r, L[n]? = some r := ⟨_, List.getElem?_eq_getElem (by omega)⟩
    have hgk := gram_at hw hr
    obtain ⟨nx1, nx2⟩ := hwk.next hS hWacc.1 hlis.acc.1 hw
    have hwF : n + 1 ∈ F := by
     by_cases hin : n + 1 ∈ F.take m
     ·exact List.mem_of_mem_take hin
     ·exact List.mem_of_getElem? (nx2 hin).1
    obtain ⟨⟨sd1, sd2⟩, sd3, sd4⟩ := renum_sides hw hr hWord hlis.zero hW0
    have hGt : (G.take m).length = m := by rw [List.length_take]; omega
    have hGm : F[m]? = some (n + 1) → G.take (m + 1) = G.take m ++ [renum F r] := fun e => by
     rw [List.take_add_one, hG, gram_at e hr]; rfl
    refine w_say (p := sl pt ct 37 1 (k + 1) (idC (toL F W k))) (by ((repeat constructor); done)) (fun _ h => sl_form h (by omega)) ?_
    rintro ⟨gt, rfl⟩
    obtain ⟨f2, f3, f4, f5, f6⟩ := rusC_at hgk (0 + ((k : Nat) : Int).toNat * 5) (by omega)
    have f7 := idC_get sd1 ((((renum W r).left : Nat) : Int).toNat) (by omega)
    have f8 := idC_get sd3 ((((renum W r).right : Nat) : Int).toNat) (by omega)
    have e1 : (renum W r).kind = (renum F r).kind := by rw [renum_kind, renum_kind]
    have e2 : (renum W r).byte = (renum F r).byte := by rw [renum_byte, renum_byte]
    have e3 : (renum W r).times = (renum F r).times := by rw [renum_times, renum_times]
    generalize renum W r = rw0 at f2 f3 f4 f5 f6 f7 f8 e1 e2 e3 sd2 sd4
    obtain ⟨rF, hrF⟩ : ∃ rF, rF = renum F r := ⟨_, rfl⟩
    rw [← hrF] at f7 f8 e1 e2 e3 hGm
    refine zB (qJ (qK (zJ (qK (qI ?_)))))
    refine qA (qB rfl) rfl ?_
    refine qA (qB rfl) rfl ?_
    refine qA (qO rfl rfl (hE.t rfl) (by omega) (by omega)) rfl ?_
    apply qA
    ·(apply zU rfl (hE.t rfl) rfl; (repeat (first | rfl | assumption | constructor)); done)
    ·rfl
    apply qH (by kernel_rfl) rfl
    refine kC (hE.t rfl) (fun b11 => ?_)
    apply qH (by kernel_rfl) rfl
    (apply zK rfl rfl (hE.t rfl) rfl; (focus ((repeat constructor); done)); (focus rfl); (focus (exact Nat.le_of_ble_eq_true rfl)))
    refine qL (qJ ?_)
    skip
    refine qK ?_
    refine w_stages 11 ([cells b11 [.int .i64 (Rl.kind (rw0) : Nat), .int .u8 (Rl.byte (rw0) : Nat), .int .i64 (Rl.left (rw0) : Nat), .int .i64 (Rl.right (rw0) : Nat), .int .i64 (Rl.times (rw0) : Nat)] 82, sl (some ⟨gt, 0, none⟩) ct 37 1 (k + 1) (idC (toL F W k))]) [(13, [sl (some ⟨gt, 0, none⟩) ct 37 1 (k + 1) (idC (toL F W k))])] ?_ ?_
    ·(apply ent; (repeat constructor); done)
    apply s_calm 0 rfl
    ·exact qB rfl
    ·with_reducible (repeat (first | exact qE | apply qF | apply qG))
    ·kernel_rfl
    ·kernel_rfl
    ·rfl
    apply s_calm 1 rfl
    ·exact qD rfl (hE.t rfl) rfl
    ·with_reducible (repeat (first | exact qE | apply qF | apply qG))
    ·kernel_rfl
    ·kernel_rfl
    ·rfl
    apply s_take 2 rfl
    ·(apply qN rfl (hE.t rfl) rfl; (repeat (first | rfl | assumption | constructor)); done)
    ·with_reducible (repeat (first | exact qE | apply qF | apply qG))
    ·kernel_rfl
    ·rfl
    apply s_calm 3 rfl
    ·exact zL rfl rfl (hE.t rfl) (by omega) (by omega)
    ·with_reducible (repeat (first | exact qE | apply qF | apply qG))
    ·kernel_rfl
    ·kernel_rfl
    ·rfl
    apply s_take 4 rfl
    ·(apply qN rfl (hE.t rfl) rfl; (repeat (first | rfl | assumption | constructor)); done)
    ·with_reducible (repeat (first | exact qE | apply qF | apply qG))
    ·kernel_rfl
    ·rfl
    apply s_calm 5 rfl
    ·exact qB rfl
    ·with_reducible (repeat (first | exact qE | apply qF | apply qG))
    ·kernel_rfl
    ·kernel_rfl
    ·rfl
    apply s_calm 6 rfl
    ·exact qD rfl (hE.t rfl) rfl
    ·with_reducible (repeat (first | exact qE | apply qF | apply qG))
    ·kernel_rfl
    ·kernel_rfl
    ·rfl
    apply s_take 7 rfl
    ·(apply qN rfl (hE.t rfl) rfl; (repeat (first | rfl | assumption | constructor)); done)
    ·with_reducible (repeat (first | exact qE | apply qF | apply qG))
    ·kernel_rfl
    ·rfl
    apply s_calm 8 rfl
    ·exact zL rfl rfl (hE.t rfl) (by omega) (by omega)
    ·with_reducible (repeat (first | exact qE | apply qF | apply qG))
    ·kernel_rfl
    ·kernel_rfl
    ·rfl
    apply s_keep ([sl (some ⟨gt, 0, none⟩) ct 37 1 (k + 1) (idC (toL F W k))]) 9 rfl
    ·(apply qN rfl (hE.t rfl) rfl; (repeat (first | rfl | assumption | constructor)); done)
    ·with_reducible (repeat (first | exact qE | apply qF | apply qG))
    ·kernel_rfl
    ·kernel_rfl
    ·rfl
    ·(repeat (first | exact trivial | refine ⟨by (apply ent; (repeat constructor); done), ?_⟩))
    apply s_calm 10 rfl
    ·exact qD rfl (hE.t rfl) rfl
    ·with_reducible (repeat (first | exact qE | apply qF | apply qG))
    ·kernel_rfl
    ·kernel_rfl
    ·rfl
    apply s_next rfl (by kernel_rfl) rfl
    (apply zK rfl rfl (hE.t rfl) rfl; (focus ((repeat constructor); done)); (focus rfl); (focus (exact Nat.le_of_ble_eq_true rfl)))
    refine ⟨by (apply ent; (repeat constructor); done), ?_⟩
    apply s_calm 12 rfl
    ·exact qD rfl (hE.t rfl) rfl
    ·with_reducible (repeat (first | exact qE | apply qF | apply qG))
    ·kernel_rfl
    ·kernel_rfl
    ·rfl
    apply s_last rfl (by kernel_rfl) (by kernel_rfl) rfl
    (apply zK rfl rfl (hE.t rfl) rfl; (focus ((repeat constructor); done)); (focus rfl); (focus (exact Nat.le_of_ble_eq_true rfl)))
    refine qJ (qK (qI ?_))
    refine qA (qC rfl) rfl ?_
    refine qL (qJ (qK (zJ ?_)))
    refine w_heap (kA (p := cells b11 [.int .i64 (rw0.kind : Nat), .int .u8 (rw0.byte : Nat), .int .i64 (rF.left : Nat), .int .i64 (rF.right : Nat), .int .i64 (rw0.times : Nat)] 82) (p' := cells b11 [.int .i64 (Rl.kind (rF) : Nat), .int .u8 (Rl.byte (rF) : Nat), .int .i64 (Rl.left (rF) : Nat), .int .i64 (Rl.right (rF) : Nat), .int .i64 (Rl.times (rF) : Nat)] 82) (by ((repeat constructor); done)) (fun _ h => by rw [e1, e2, e3] at h; exact h)) ?_
    refine w_say (p := sl pg cg 82 5 m (rusC (G.take m))) (by ((repeat constructor); done)) (fun _ h => fun hpos => sl_form h hpos) (fun hpg => ?_)
    skip
    skip
    refine w_loop (fun j : Nat => [(0, .slice (some ⟨g, o, none⟩) l.length ca), (4, .slice pg m cg), (5, .slice pr i cr), (6, .int .i64 (i : Nat)), (8, .slice (some ⟨gc, 0, none⟩) (gram L W).length cc), (9, .slice (some ⟨gt, 0, none⟩) (k + 1) ct), (10, .int .i64 (k : Nat)), (11, .pointer (some ⟨b11, 0, none⟩)), (12, .int .i64 (j : Nat))]) (fun j => [q, sl pg cg 82 5 m (rusC (G.take m)), sl pr cr 3 1 i (idC ((ys.map (numb F)).take i)), sl (some ⟨gc, 0, none⟩) cc 82 5 (gram L W).length (rusC (gram L W)), sl (some ⟨gt, 0, none⟩) ct 37 1 (k + 1) (idC (toL F W k)), cells b11 [.int .i64 (Rl.kind (rF) : Nat), .int .u8 (Rl.byte (rF) : Nat), .int .i64 (Rl.left (rF) : Nat), .int .i64 (Rl.right (rF) : Nat), .int .i64 (Rl.times (rF) : Nat)] 82, R]) (fun j => m - j) (fun j => j ≤ m ∧ ∀ b, b < j → (G.take m)[b]? ≠ some rF) 0 ⟨Nat.zero_le _, fun b hb => by omega⟩ ⟨rfl, rfl, rfl, rfl, rfl, rfl, rfl, rfl, rfl, trivial⟩ (by (apply ent; (repeat constructor); done)) ?_
    rintro j ⟨hj, hno⟩
    skip
    skip
    refine qK (qK ?_)
    refine w_held ([sl pg cg 82 5 m (rusC (G.take m)), cells b11 [.int .i64 (Rl.kind (rF) : Nat), .int .u8 (Rl.byte (rF) : Nat), .int .i64 (Rl.left (rF) : Nat), .int .i64 (Rl.right (rF) : Nat), .int .i64 (Rl.times (rF) : Nat)] 82]) ?_ ?_
    ·(apply ent; (repeat constructor); done)
    skip
    apply zF 0 rfl
    ·exact qB rfl
    ·with_reducible (repeat (first | exact qE | apply qF | apply qG))
    ·kernel_rfl
    ·rfl
    apply zF 1 rfl
    ·exact qB rfl
    ·with_reducible (repeat (first | exact qE | apply qF | apply qG))
    ·kernel_rfl
    ·rfl
    apply zF 2 rfl
    ·exact qQ rfl (hE.t rfl)
    ·with_reducible (repeat (first | exact qE | apply qF | apply qG))
    ·kernel_rfl
    ·rfl
    apply zF 3 rfl
    ·exact y_lt rfl rfl
    ·with_reducible (repeat (first | exact qE | apply qF | apply qG))
    ·kernel_rfl
    ·rfl
    apply zF 4 rfl
    ·exact qB rfl
    ·with_reducible (repeat (first | exact qE | apply qF | apply qG))
    ·kernel_rfl
    ·rfl
    refine d_split 73 rfl (fun c1 => ?_) (fun c1 => ?_)
    ·skip
     have hjm : j < m := by omega
     obtain ⟨go, rfl⟩ := hpg (by omega)
     obtain ⟨z, hz⟩ : ∃ z, (G.take m)[j]? = some z := ⟨_, List.getElem?_eq_getElem (by omega)⟩
     obtain ⟨k0, k1, k2, k3, k4⟩ := rusC_at hz (0 + ((j : Nat) : Int).toNat * 5) (by omega)
     apply d_on 5 rfl rfl rfl
     ·exact qB rfl
     ·with_reducible (repeat (first | exact qE | apply qF | apply qG))
     ·kernel_rfl
     ·rfl
     apply d_on 6 rfl rfl rfl
     ·exact qB rfl
     ·with_reducible (repeat (first | exact qE | apply qF | apply qG))
     ·kernel_rfl
     ·rfl
     apply d_on 7 rfl rfl rfl
     ·exact qO rfl rfl (hE.t rfl) (by omega) (by omega)
     ·with_reducible (repeat (first | exact qE | apply qF | apply qG))
     ·kernel_rfl
     ·rfl
     apply d_on 8 rfl rfl rfl
     ·(apply zU rfl (hE.t rfl) rfl; (repeat (first | rfl | assumption | constructor)); done)
     ·with_reducible (repeat (first | exact qE | apply qF | apply qG))
     ·kernel_rfl
     ·rfl
     apply d_on 9 rfl rfl rfl
     ·(apply zU rfl (hE.t rfl) rfl; (repeat (first | rfl | assumption | constructor)); done)
     ·with_reducible (repeat (first | exact qE | apply qF | apply qG))
     ·kernel_rfl
     ·rfl
     apply d_on 10 rfl rfl rfl
     ·exact y_ne_rule hE rfl rfl
     ·with_reducible (repeat (first | exact qE | apply qF | apply qG))
     ·kernel_rfl
     ·rfl
     apply zF 11 rfl
     ·exact qV rfl rfl
     ·with_reducible (repeat (first | exact qE | apply qF | apply qG))
     ·kernel_rfl
     ·rfl
     refine d_nil (by kernel_rfl) ?_
     refine qJ ?_
     refine w_cond_nd rfl (fun c2 => ?_) (fun c2 => ?_)
     ·skip
      refine zB (qJ (zJ (qI ?_)))
      refine qA (qB rfl) rfl ?_
      refine qA (y_add rfl rfl (by omega) (by omega)) rfl ?_
      refine qA (qC rfl) rfl ?_
      refine qL (zH ?_)
      refine zR (ι := Nat) (j := j + 1) ⟨by omega, fun b hb => ?_⟩ (by omega) ⟨rfl, rfl, rfl, rfl, rfl, rfl, rfl, rfl, congrArg some (zV (by omega)), trivial⟩ (by (apply ent; (repeat constructor); done))
      by_cases eb : b = j
      ·subst eb
       rw [hz]
       intro e
       exact c2 (Option.some.inj e)
      ·exact hno b (by omega)
     ·skip
      subst c2
      have hz2 := hz
      rw [hG, hrF] at hz2
      obtain ⟨hnb, hin⟩ := gram_first hlis hwF hr hm hz2
      refine kH (qP (qP (zG (qJ (qK (qK (qI ?_)))))))
      refine qA (qB rfl) rfl ?_
      refine qA (qB rfl) rfl ?_
      refine qA (qQ rfl (hE.t rfl)) rfl ?_
      refine qA (y_eq rfl rfl) rfl ?_
      refine qL (qJ ?_)
      refine zD rfl (fun c3 => ?_) (fun c3 => ?_)
      ·exfalso; omega
      skip
      refine zB (qJ ?_)
      refine qI ?_
      refine qA (qB rfl) rfl ?_
      refine qA (qB rfl) rfl ?_
      refine qA (y_add rfl rfl (by omega) (by omega)) rfl ?_
      refine l_eq 93 (.int .i64 ((j + 1 : Nat) : Int)) rfl (zV (by omega)) ?_
      apply qH (by kernel_rfl) rfl
      refine qT (hE.t rfl) (hE.t rfl) rfl rfl rfl (fun b94 => ?_)
      apply qH (by kernel_rfl) rfl
      apply zT (hE.t rfl) (hE.t rfl) rfl rfl rfl
      ·((repeat constructor); done)
      ·((repeat constructor); done)
      ·rfl
      ·rfl
      ·omega
      ·omega
      ·(unfold maxLen; omega)
      intro g95 c95 n95 x95 hn95 hx95
      refine qA (qC rfl) rfl ?_
      refine qL (zH (qJ (qI ?_)))
      refine qA (qB rfl) rfl ?_
      refine qA (y_add rfl rfl (by omega) (by omega)) rfl ?_
      refine qA (qC rfl) rfl ?_
      refine qL ?_
      subst hn95 hx95
      refine zR (ι := RkG) (j := ⟨k + 1, m, (some ⟨go, 0, none⟩), cg, some ⟨g95, 0, none⟩, c95⟩) ⟨by simp only; omega, (nx1 hin)⟩ (by simp only; omega) ⟨rfl, rfl, rfl, rfl, rfl, rfl, congrArg some (zV (by simp only; omega)), trivial⟩ ?_
      simp only
      rw [toL_snoc hw, idC_append, ← hnb]
      (apply ent; (repeat constructor); done)
    ·skip
     obtain rfl : j = m := by omega
     have hout : n + 1 ∉ F.take j := gram_none hlis hwF hr hm (fun b hb => by rw [← hG, ← hrF]; exact hno b hb)
     obtain ⟨hFj, hwk2⟩ := nx2 hout
     have hnb : j + 1 = numb F (n + 1) := (numb_place hlis.acc.1 hFj).symm
     have hmG := hGm hFj
     refine d_off 5 rfl rfl rfl rfl (by with_reducible (repeat (first | exact qE | apply qF | apply qG))) (by kernel_rfl) rfl ?_
     refine d_off 6 rfl rfl rfl rfl (by with_reducible (repeat (first | exact qE | apply qF | apply qG))) (by kernel_rfl) rfl ?_
     refine d_off 7 rfl rfl rfl rfl (by with_reducible (repeat (first | exact qE | apply qF | apply qG))) (by kernel_rfl) rfl ?_
     refine d_off 8 rfl rfl rfl rfl (by with_reducible (repeat (first | exact qE | apply qF | apply qG))) (by kernel_rfl) rfl ?_
     refine d_off 9 rfl rfl rfl rfl (by with_reducible (repeat (first | exact qE | apply qF | apply qG))) (by kernel_rfl) rfl ?_
     refine d_off 10 rfl rfl rfl rfl (by with_reducible (repeat (first | exact qE | apply qF | apply qG))) (by kernel_rfl) rfl ?_
     apply zF 11 rfl
     ·exact qW rfl rfl
     ·with_reducible (repeat (first | exact qE | apply qF | apply qG))
     ·kernel_rfl
     ·rfl
     refine d_nil (by kernel_rfl) ?_
     refine qJ ?_
     refine zC rfl ?_
     refine kH (qP (qP (zG (qJ (qK (qK (qI ?_)))))))
     refine qA (qB rfl) rfl ?_
     refine qA (qB rfl) rfl ?_
     refine qA (qQ rfl (hE.t rfl)) rfl ?_
     refine qA (y_eq rfl rfl) rfl ?_
     refine qL (qJ ?_)
     refine zD rfl (fun c3 => ?_) (fun c3 => ?_)
     ·skip
      refine qI ?_
      refine qA (qB rfl) rfl ?_
      apply qA
      ·(apply zU rfl (hE.t rfl) rfl; (repeat (first | rfl | assumption | constructor)); done)
      ·rfl
      apply qH (by kernel_rfl) rfl
      refine qT (hE.t rfl) (hE.t rfl) rfl rfl rfl (fun b89 => ?_)
      apply qH (by kernel_rfl) rfl
      apply zT (hE.t rfl) (hE.t rfl) rfl rfl rfl
      ·((repeat constructor); done)
      ·((repeat constructor); done)
      ·rfl
      ·rfl
      ·omega
      ·omega
      ·(unfold maxLen; omega)
      intro g90 c90 n90 x90 hn90 hx90
      refine qA (qC rfl) rfl ?_
      refine qL (qJ ?_)
      obtain rfl : n90 = j + 1 := hn90
      obtain rfl : x90 = rusC (G.take (j + 1)) := by rw [hx90, hmG, rusC_snoc]; rfl
      skip
      refine qI ?_
      refine qA (qB rfl) rfl ?_
      refine qA (qB rfl) rfl ?_
      refine qA (y_add rfl rfl (by omega) (by omega)) rfl ?_
      refine l_eq 93 (.int .i64 ((j + 1 : Nat) : Int)) rfl (zV (by omega)) ?_
      apply qH (by kernel_rfl) rfl
      refine qT (hE.t rfl) (hE.t rfl) rfl rfl rfl (fun b94 => ?_)
      apply qH (by kernel_rfl) rfl
      apply zT (hE.t rfl) (hE.t rfl) rfl rfl rfl
      ·((repeat constructor); done)
      ·((repeat constructor); done)
      ·rfl
      ·rfl
      ·omega
      ·omega
      ·(unfold maxLen; omega)
      intro g95 c95 n95 x95 hn95 hx95
      refine qA (qC rfl) rfl ?_
      refine qL (zH (qJ (qI ?_)))
      refine qA (qB rfl) rfl ?_
      refine qA (y_add rfl rfl (by omega) (by omega)) rfl ?_
      refine qA (qC rfl) rfl ?_
      refine qL ?_
      subst hn95 hx95
      refine zR (ι := RkG) (j := ⟨k + 1, (j + 1), (some ⟨g90, 0, none⟩), c90, some ⟨g95, 0, none⟩, c95⟩) ⟨by simp only; omega, hwk2⟩ (by simp only; omega) ⟨rfl, rfl, rfl, rfl, rfl, rfl, congrArg some (zV (by simp only; omega)), trivial⟩ ?_
      simp only
      rw [toL_snoc hw, idC_append, ← hnb]
      (apply ent; (repeat constructor); done)
     ·exact absurd rfl c3
   ·skip
    obtain rfl : k = W.length := by omega
    obtain ⟨A, hA⟩ := hWy
    have hlast := toL_last (F := F) hA
    refine w_say (p := sl pt ct 37 1 (W.length + 1) (idC (toL F W W.length))) (by ((repeat constructor); done)) (fun _ h => sl_form h (by omega)) ?_
    rintro ⟨gt, rfl⟩
    have f7 := idC_get hlast ((((gram L W).length : Nat) : Int).toNat) (by omega)
    have f8 := idC_get hlast (0 + (((gram L W).length : Nat) : Int).toNat) (by omega)
    refine kH (qP (qP (zG (qJ (qI ?_)))))
    refine qA (qB rfl) rfl ?_
    refine qA (qB rfl) rfl ?_
    refine qA (qB rfl) rfl ?_
    refine qA (qQ rfl (hE.t rfl)) rfl ?_
    apply qA
    ·exact zL rfl rfl (hE.t rfl) (by omega) (by omega)
    ·rfl
    apply qA
    ·(apply qN rfl (hE.t rfl) rfl; (repeat (first | rfl | assumption | constructor)); done)
    ·rfl
    apply qH (by kernel_rfl) rfl
    refine qT (hE.t rfl) (hE.t rfl) rfl rfl rfl (fun b102 => ?_)
    apply qH (by kernel_rfl) rfl
    apply zT (hE.t rfl) (hE.t rfl) rfl rfl rfl
    ·((repeat constructor); done)
    ·((repeat constructor); done)
    ·rfl
    ·rfl
    ·omega
    ·omega
    ·(unfold maxLen; omega)
    intro g103 c103 n103 x103 hn103 hx103
    refine qA (qC rfl) rfl ?_
    refine qL (zH (qJ (qI ?_)))
    refine qA (qB rfl) rfl ?_
    refine qA (y_add rfl rfl (by omega) (by omega)) rfl ?_
    refine qA (qC rfl) rfl ?_
    refine qL ?_
    subst hn103 hx103
    refine zR (ι := RqG) (j := ⟨i + 1, m, pg, cg, some ⟨g103, 0, none⟩, c103⟩) ⟨by simp only; omega, hm, by simp only; rw [hwk.1, List.take_length, htk]⟩ (by simp only; omega) ⟨rfl, rfl, rfl, congrArg some (zV (by simp only; omega)), trivial⟩ ?_
    simp only
    rw [hrt, idC_append]
    (apply ent; (repeat constructor); done)
 ·skip
  obtain rfl : i = l.length := by omega
  have hmF : m = F.length := by
   rw [← hyl, List.take_length, ← hF] at hFm
   have := congrArg List.length hFm
   rw [List.length_take] at this
   omega
  have hGt : G.take m = G := List.take_of_length_le (by omega)
  have hmG : m = G.length := by omega
  have hrt : (ys.map (numb F)).take l.length = ys.map (numb F) := List.take_of_length_le (by rw [List.length_map]; omega)
  rw [hGt, hrt]
  refine kH (qP (qP (zG (qJ (qK (qI ?_))))))
  refine qA (qB rfl) rfl ?_
  refine qA (qB rfl) rfl ?_
  refine qA (qC rfl) rfl ?_
  refine qA (qC rfl) rfl ?_
  refine qL (qJ (zY ?_))
  apply zZ
  ·rfl
  ·(apply Rs.tmp rfl; apply Rs.tmp rfl; exact Rs.nil)
  ·exact ⟨pg, cg, pr, cr, by rw [← hmG]; rfl, rfl⟩
  ·rw [← hmG]
   (apply ent; (repeat constructor); done)
end
section
open Go Go.RowKit Sl Eg
set_option maxRecDepth 10000
variable {E : Env} {L : List Rl} {l : List Im} {ys : List Nat}
theorem Lis.times {F : List Nat} (h : Lis L F) : ∀ r ∈ gram L F, r.times ≤ 1152921504606846976 := fun r hr => by
 obtain ⟨i, hi⟩ := List.getElem?_of_mem hr
 obtain ⟨n, q, v1, q1, rfl, m1⟩ := h.one hi
 rw [renum_times]
 have hsh := h.wf.short (n + 1)
 have hmx : kE = 1152921504606846976 := rfl
 have hok := h.wf.ok _ _ q1
 have hn := (List.getElem?_eq_some_iff.1 q1).1
 cases q with
 | letter b => simp [Rl.times]
 | pair a b => simp [Rl.times]
 | power x t =>
  have e := len_power q1 hok
  simp only [Rl.ok] at hok
  have h1 := h.wf.pos x hok.1 (by omega)
  have h2 : t * 1 ≤ t * Eg.len L x := Nat.mul_le_mul_left _ h1
  simp only [Rl.times]
  have e3 : t * Eg.len L x = Eg.len L (n + 1) := by rw [e]
  omega
def nmA (l : List Im) (ns : List Nat) : List (List UInt8 × Nat) := (l.map (·.name)).zip ns
theorem nmA_take {l : List Im} {ns : List Nat} {k n : Nat} {x : Im} (hx : l[k]? = some x) (hn : ns[k]? = some n) : (nmA l ns).take (k + 1) = (nmA l ns).take k ++ [(x.name, n)] := by
 have e : (nmA l ns)[k]? = some (x.name, n) := by
  unfold nmA
  rw [List.getElem?_zip_eq_some]
  exact ⟨by rw [List.getElem?_map, hx]; rfl, hn⟩
 rw [List.take_add_one, e]
 rfl
theorem encM_snoc (A : List (List UInt8 × Nat)) (a : List UInt8) (n : Nat) : encM (A ++ [(a, n)]) = encM A ++ bputs a ++ vput n := by
 unfold encM
 rw [List.flatMap_append]
 simp
theorem ct_r50Encode (hE : Seat E) (h : RsL L l ys) {a : Option Addr} {ca : Nat} {q : HP} (hq : Rdb E.w0 a (imC l) q) (hok : ∀ x ∈ l, Rdb E.w0 x.a (byC x.bs) q) (hlen : ∀ x ∈ l, x.bs.length ≤ 60) (hnm : ∀ x ∈ l, x.name.length ≤ 1000) (hn : l.length ≤ 6) (hG4 : (gram L (kF L ys [])).length ≤ 100000) : Ct E 24 [.slice a l.length ca] [q]
  (fun v Q => ∃ g c B, v = .slice (some ⟨g, 0, none⟩) B.length c ∧ B = encA (gram L (kF L ys [])) (nmA l (ys.map (numb (kF L ys [])))) ∧ Q = [q, sl (some ⟨g, 0, none⟩) c 5 1 B.length (byC B)]) := by
 have hlis := h.lis
 have hyl := h.yl
 have hgok := gram_ok hlis.wf hlis.acc hlis.ord
 have hgt := hlis.times
 have hFl := hlis.acc.len
 have hroom := h.wf.room
 have hmr : maxRules = 1048576 := rfl
 refine zN (hE.fn Tryz.func24) rfl rfl rfl (fun R => ?_)
 simp only [argsL, List.cons_append, List.nil_append]
 refine qK (qI ?_)
 refine qA (qC rfl) rfl ?_
 refine qL (qJ (qK (qI ?_)))
 refine qA (qB rfl) rfl ?_
 apply qH (by kernel_rfl) rfl
 apply qY (ct_r50Rules hE h hq hok hlen hn) rfl (hE.f (by kernel_rfl))
 ·((repeat constructor); done)
 rintro _ _ ⟨pg, cg, pr, cr, rfl, rfl⟩
 simp only [List.cons_append, List.nil_append]
 obtain ⟨F, hF⟩ : ∃ F, F = kF L ys [] := ⟨_, rfl⟩
 rw [← hF] at hgok hgt hFl hG4 ⊢
 obtain ⟨G, hG⟩ : ∃ G, G = gram L F := ⟨_, rfl⟩
 have hGl : G.length = F.length := by rw [hG]; exact gram_len
 obtain ⟨ns, hns⟩ : ∃ ns, ns = ys.map (numb F) := ⟨_, rfl⟩
 have hnl : ns.length = l.length := by rw [hns, List.length_map, hyl]
 have hnb : ∀ n ∈ ns, n ≤ F.length := fun n hm => by
  rw [hns] at hm
  obtain ⟨y, _, rfl⟩ := List.mem_map.1 hm
  exact numb_le F y
 rw [← hG] at hgok hgt hG4 ⊢
 rw [← hns]
 refine qA (qB rfl) rfl ?_
 refine qA (qS rfl rfl) rfl ?_
 refine qA (qS rfl rfl) rfl ?_
 refine qA (qC rfl) rfl ?_
 refine qA (qC rfl) rfl ?_
 refine qL (qJ (qK (qI ?_)))
 refine qA (qB rfl) rfl ?_
 apply qH (by kernel_rfl) rfl
 apply qY (ct_r11Encode (p := pg) (c := cg) hE hgok hG4 hgt) rfl (hE.f (by kernel_rfl))
 ·((repeat constructor); done)
 rintro _ _ ⟨g1, c1, rfl, hl1, rfl⟩
 simp only [List.cons_append, List.nil_append]
 generalize hU : vput G.length ++ encG 0 G = U at hl1 ⊢
 have hv6 := vput_ten (n := l.length) (by omega)
 refine qA (qC rfl) rfl ?_
 refine qL (qJ (qK (qI ?_)))
 refine qA (qB rfl) rfl ?_
 refine qA (qB rfl) rfl ?_
 refine qA (qQ rfl (hE.t rfl)) rfl ?_
 refine qA (kK rfl (hE.t rfl) (hE.t rfl) (by first | exact kL (by omega) (by omega) | exact kM (by omega) (by omega))) rfl ?_
 apply qH (by kernel_rfl) rfl
 apply qY (ct_r7Put (n := l.length) hE (by omega)) rfl (hE.f (by kernel_rfl))
 ·((repeat constructor); done)
 rintro _ _ ⟨g2, c2, rfl, rfl⟩
 simp only [List.cons_append, List.nil_append]
 skip
 apply qH (by kernel_rfl) rfl
 apply ld_append_sl (hE.t rfl) (hE.t rfl) rfl rfl rfl
 ·((repeat constructor); done)
 ·((repeat constructor); done)
 ·exact byC_cells _
 ·exact (vput_pos _)
 ·first | omega | (simp only [List.length_append, List.length_cons, List.length_nil]; omega)
 ·unfold maxLen; first | omega | (simp only [List.length_append, List.length_cons, List.length_nil]; omega)
 intro g3 c3 m' x' hm' hx'
 obtain rfl : m' = (U ++ vput l.length).length := by rw [hm']; simp only [List.length_append, List.length_cons, List.length_nil] <;> omega
 obtain rfl : x' = byC (U ++ vput l.length) := hx'.trans (byC_append _ _).symm
 clear hm' hx'
 refine qA (qC rfl) rfl ?_
 refine qL (qJ (qK (qK (qI ?_))))
 refine qA (qC rfl) rfl ?_
 refine qL (qJ (zJ ?_))
 refine w_say (p := sl pr cr 3 1 l.length (idC ns)) (by ((repeat constructor); done)) (fun _ h => fun hpos => sl_form h hpos) (fun hpr => ?_)
 skip
 refine w_loop (fun x : ReG => [(0, .slice a l.length ca), (4, .slice pr l.length cr), (5, .slice (some ⟨x.p, 0, none⟩) x.done.length x.c), (6, .int .i64 (x.k : Nat))]) (fun x => [q, sl pr cr 3 1 l.length (idC ns), sl (some ⟨x.p, 0, none⟩) x.c 5 1 x.done.length (byC x.done), R]) (fun x => l.length - x.k)
  (fun x => x.k ≤ l.length ∧ x.done = U ++ vput l.length ++ encM ((nmA l ns).take x.k) ∧ x.done.length ≤ 20 + 21 * G.length + 1020 * x.k) ⟨0, U ++ vput l.length, g3, c3⟩ ⟨Nat.zero_le _, by simp [encM], by simp only [List.length_append]; omega⟩ ⟨rfl, rfl, rfl, rfl, trivial⟩ (by (apply ent; (repeat constructor); done)) ?_
 rintro ⟨k, done, p4, c4⟩ ⟨hk, hdone, hdl⟩
 simp only at hk hdone hdl ⊢
 skip
 refine qK (qK (qI ?_))
 refine qA (qB rfl) rfl ?_
 refine qA (qB rfl) rfl ?_
 refine qA (qQ rfl (hE.t rfl)) rfl ?_
 refine qA (y_lt rfl rfl) rfl ?_
 refine qL (qJ ?_)
 refine zD rfl (fun h1 => ?_) (fun h1 => ?_)
 ·skip
  have hkl : k < l.length := by omega
  obtain ⟨x, hx⟩ : ∃ x, l[k]? = some x := ⟨_, List.getElem?_eq_getElem hkl⟩
  obtain ⟨n, hnk⟩ : ∃ x, ns[k]? = some x := ⟨_, List.getElem?_eq_getElem (by omega)⟩
  have hxl := hnm x (List.mem_of_getElem? hx)
  have hnn := hnb n (List.mem_of_getElem? hnk)
  obtain ⟨g, o, rfl, hq'⟩ := hq (imC_ne (by omega))
  obtain ⟨gr, rfl⟩ := hpr (by omega)
  have f0 := (imC_at hx).1
  have f1 := idC_get hnk (((k : Nat) : Int).toNat) (by omega)
  have f2 := idC_get hnk (0 + ((k : Nat) : Int).toNat) (by omega)
  have hv1 := vput_ten (n := x.name.length) (by omega)
  have hv3 := vput_ten (n := n) (by omega)
  have hbl : (bputs x.name).length = (vput x.name.length).length + x.name.length := List.length_append
  have hbp : 0 < (bputs x.name).length := by have := vput_pos x.name.length; omega
  refine zB (qJ ?_)
  refine qK (zJ (qK (qI ?_)))
  refine qA (qB rfl) rfl ?_
  refine qA (qB rfl) rfl ?_
  refine qA (qB rfl) rfl ?_
  refine qA (qO rfl rfl (hE.t rfl) (by omega) (by omega)) rfl ?_
  refine qA (qD rfl (hE.t rfl) rfl) rfl ?_
  apply qA
  ·(apply zI rfl (hE.t rfl) rfl (by assumption); (focus ((repeat constructor); done)); (first | ((focus exact f0); (focus omega)) | ((focus exact f1); (focus omega)) | ((focus assumption); (focus omega))))
  ·rfl
  apply qH (by kernel_rfl) rfl
  refine ld_bytes rfl (hE.t rfl) (hE.t rfl) (hE.t rfl) (fun gb cb => ?_)
  skip
  apply qH (by kernel_rfl) rfl
  apply qY (ct_r7PutBytes (g := gb) (c := cb) (bs := x.name) hE (by omega)) rfl (hE.f (by kernel_rfl))
  ·((repeat constructor); done)
  rintro _ _ ⟨g5, c5, rfl, rfl⟩
  simp only [List.cons_append, List.nil_append]
  apply qH (by kernel_rfl) rfl
  apply ld_append_sl (hE.t rfl) (hE.t rfl) rfl rfl rfl
  ·((repeat constructor); done)
  ·((repeat constructor); done)
  ·exact byC_cells _
  ·exact hbp
  ·first | omega | (simp only [List.length_append, List.length_cons, List.length_nil]; omega)
  ·unfold maxLen; first | omega | (simp only [List.length_append, List.length_cons, List.length_nil]; omega)
  intro g6 c6 m' x' hm' hx'
  obtain rfl : m' = (done ++ bputs x.name).length := by rw [hm']; simp only [List.length_append, List.length_cons, List.length_nil] <;> omega
  obtain rfl : x' = byC (done ++ bputs x.name) := hx'.trans (byC_append _ _).symm
  clear hm' hx'
  have hd6 : (done ++ bputs x.name).length = done.length + (bputs x.name).length := List.length_append
  refine qA (qC rfl) rfl ?_
  refine qL (qJ (qI ?_))
  refine qA (qB rfl) rfl ?_
  refine qA (qB rfl) rfl ?_
  refine qA (qB rfl) rfl ?_
  apply qA
  ·exact zL rfl rfl (hE.t rfl) (by omega) (by omega)
  ·rfl
  apply qA
  ·(apply qN rfl (hE.t rfl) rfl; (repeat (first | rfl | assumption | constructor)); done)
  ·rfl
  refine qA (kK rfl (hE.t rfl) (hE.t rfl) (by first | exact kL (by omega) (by omega) | exact kM (by omega) (by omega))) rfl ?_
  apply qH (by kernel_rfl) rfl
  apply qY (ct_r7Put (n := n) hE (by omega)) rfl (hE.f (by kernel_rfl))
  ·((repeat constructor); done)
  rintro _ _ ⟨g7, c7, rfl, rfl⟩
  simp only [List.cons_append, List.nil_append]
  apply qH (by kernel_rfl) rfl
  apply ld_append_sl (hE.t rfl) (hE.t rfl) rfl rfl rfl
  ·((repeat constructor); done)
  ·((repeat constructor); done)
  ·exact byC_cells _
  ·exact (vput_pos _)
  ·first | omega | (simp only [List.length_append, List.length_cons, List.length_nil]; omega)
  ·unfold maxLen; first | omega | (simp only [List.length_append, List.length_cons, List.length_nil]; omega)
  intro g8 c8 m' x' hm' hx'
  obtain rfl : m' = (done ++ bputs x.name ++ vput n).length := by rw [hm']; simp only [List.length_append, List.length_cons, List.length_nil] <;> omega
  obtain rfl : x' = byC (done ++ bputs x.name ++ vput n) := hx'.trans (byC_append _ _).symm
  clear hm' hx'
  have hd8 : (done ++ bputs x.name ++ vput n).length = (done ++ bputs x.name).length + (vput n).length := List.length_append
  refine qA (qC rfl) rfl ?_
  refine qL (zH (qJ (qI ?_)))
  refine qA (qB rfl) rfl ?_
  refine qA (y_add rfl rfl (by omega) (by omega)) rfl ?_
  refine qA (qC rfl) rfl ?_
  refine qL ?_
  refine zR (ι := ReG) (j := ⟨k + 1, done ++ bputs x.name ++ vput n, g8, c8⟩) ⟨by simp only; omega, by simp only; rw [nmA_take hx hnk, encM_snoc, hdone]; simp only [List.append_assoc], by simp only; omega⟩ (by simp only; omega) ⟨rfl, rfl, rfl, congrArg some (zV (by simp only; omega)), trivial⟩ ?_
  (apply ent; (repeat constructor); done)
 ·skip
  obtain rfl : k = l.length := by omega
  have hnal : (nmA l ns).length = l.length := by unfold nmA; simp; omega
  have hB : done = encA G (nmA l ns) := by
   rw [hdone, List.take_of_length_le (by omega), ← hU]
   unfold encA
   rw [hnal]
  refine kH (qP (qP (zG (qJ (qK (qI ?_))))))
  refine qA (qB rfl) rfl ?_
  refine qA (qC rfl) rfl ?_
  refine qL (qJ (zY ?_))
  apply zZ
  ·rfl
  ·(apply Rs.tmp rfl; exact Rs.nil)
  ·exact ⟨p4, c4, done, rfl, hB, rfl⟩
  ·(apply ent; (repeat constructor); done)
end
section
open Go Go.RowKit Sl Eg
set_option maxRecDepth 10000
variable {E : Env}
theorem EqL.rsl {L : List Rl} {l : List Im} {ids ys : List Nat} (h : EqL L l ids ys) : RsL L l ys := ⟨h.wf, h.yl, fun i x y hx hy => by
 obtain ⟨x', id, h1, h2, h3, h4⟩ := h.at hy
 rw [hx] at h1
 cases h1
 refine ⟨h3.2.2.1.1, ?_⟩
 rw [← h4]
 exact h3.2.2.2⟩
theorem ct_CodecEncodesQ (hE : Seat E) (hB : Base E.w0) {l : List Im} {a : Option Addr} {ca k : Nat} (hk : k < 256) (hq : Rdb E.w0 a (imC l) old) (hok : ∀ x ∈ l, Rdb E.w0 x.a (byC x.bs) old) (hn : l.length ≤ maxLen) :
  Ct E 4 [.slice a l.length ca, .int .u8 (k : Nat)] [old] (fun v Q => v = .bool true ∧ Q = [old]) := by
 have hmr : 1048576 ≤ maxRules := Nat.le_refl _
 refine zN (hE.fn Tryz.func4) rfl rfl rfl (fun R => ?_)
 simp only [argsL, List.cons_append, List.nil_append]
 refine qK (qI ?_)
 refine qA (qC rfl) rfl ?_
 refine qL (qJ (qK (qK (qI ?_))))
 refine qA (qB rfl) rfl ?_
 apply qH (by kernel_rfl) rfl
 apply qY (ct_good hE hq hn) rfl (hE.f (by kernel_rfl))
 ·((repeat constructor); done)
 rintro _ _ ⟨b1, rfl, hb1, rfl⟩
 simp only [List.cons_append, List.nil_append]
 refine qA (y_not rfl) rfl ?_
 refine qL (qJ ?_)
 refine w_cond_b rfl (fun g1 => ?_) (fun g1 => ?_)
 ·skip
  refine qK (qI ?_)
  refine qA (qC rfl) rfl ?_
  refine qL (qJ (zY (qU ?_)))
  apply zZ
  ·rfl
  ·(apply Rs.tmp rfl; exact Rs.nil)
  ·exact ⟨rfl, rfl⟩
  ·(apply ent; (repeat constructor); done)
 skip
 have hg : GoodI l := hb1.1 (by simpa using g1)
 have hl6 := hg.2.2
 refine zB (qJ (qK (qI ?_)))
 apply qH (by kernel_rfl) rfl
 apply qY (ct_memo (most := 1048576) hE hmr) rfl (hE.f (by kernel_rfl))
 ·((repeat constructor); done)
 rintro _ _ ⟨m, bm, pp, s, tb, rfl, rfl⟩
 simp only [List.cons_append, List.nil_append]
 refine qA (qC rfl) rfl ?_
 refine qL (qJ (qK (qI ?_)))
 refine qA (qB rfl) rfl ?_
 refine qA (qB rfl) rfl ?_
 refine qA (qB rfl) rfl ?_
 refine qA (kK rfl (hE.t rfl) (hE.t rfl) (by first | exact kL (by omega) (by omega) | exact kM (by omega) (by omega))) rfl ?_
 have hr0 : ([] : List Ent).length + 120 * l.length ≤ 1048576 := by rw [List.length_nil]; omega
 apply qH (by kernel_rfl) rfl
 apply qY (ct_put (Es := []) (s := s) (tb := tb) (pp := pp) (most := 1048576) (m := m) (bm := bm) (w := k) hE hB hq hok (fun x hx => (hg.1 x hx).2) hl6 (by omega) hr0) rfl (hE.f (by kernel_rfl))
 ·((repeat constructor); done)
 rintro _ _ ⟨M, ids, p, c, rfl, hM, hil, htx, rfl⟩
 have htx1 : Txs (rls M) l ids := htx
 clear htx
 simp only [List.cons_append, List.nil_append]
 obtain ⟨n1, o1⟩ := mkN_names (ids := ids) hg
 have hln1 := mkN_length hil
 have hT1 : TxOk M (mkN l ids) := mkN_txok hg htx1
 rw [← hln1] at o1
 refine l_say (p := sl p c 39 2 l.length (nlC (mkN l ids))) (by ((repeat constructor); done)) (fun _ h => fun hpos => sl_form h hpos) (fun hp1 => ?_)
 have hqa : Rdb E.w0 p (nlC (mkN l ids)) (sl p c 39 2 l.length (nlC (mkN l ids))) := fun hne => by
  obtain ⟨g, rfl⟩ := hp1 (by
   rcases Nat.eq_zero_or_pos l.length with e | e
   ·exact absurd (List.eq_nil_of_length_eq_zero (by rw [nlC_length, hln1]; omega)) hne
   ·exact e)
  exact ⟨g, 0, rfl, rd_slz (fun _ _ h => h)⟩
 have hr1 : M.length + 512 * l.length ≤ 1048576 := by omega
 refine qA (qB rfl) rfl ?_
 refine qA (qS rfl rfl) rfl ?_
 refine qA (qS rfl rfl) rfl ?_
 refine qA (qC rfl) rfl ?_
 refine qA (qC rfl) rfl ?_
 refine qL (qJ (qK (qI ?_)))
 refine qA (qB rfl) rfl ?_
 refine qA (qB rfl) rfl ?_
 apply qH (by kernel_rfl) rfl
 apply qY (ct_EncodeO (Es := M) (s := s) (tb := tb) (pp := pp) (most := 1048576) (m := m) (bm := bm) (f := fun _ => none) (c := c) hE hB hln1 hqa (by omega) n1 o1 hT1 hr1 (Kn.nil _)) rfl (hE.f (by kernel_rfl))
 ·((repeat constructor); done)
 rintro _ _ ⟨M1, f1, y1, g1, c1, B1, rfl, hB1, hM1, hk1, hy1, hs1, rfl⟩
 simp only [List.cons_append, List.nil_append]
 refine l_say (p := zQ s 1048576 (M ++ M1)) (by ((repeat constructor); done)) (fun _ h => storeP_says h) (fun hw1 => ?_)
 have hE1 : (M ++ M1).length = M.length + M1.length := List.length_append
 have hr2 : (M ++ M1).length + 512 * l.length ≤ 1048576 := by omega
 refine qA (qB rfl) rfl ?_
 refine qA (qS rfl rfl) rfl ?_
 refine qA (qS rfl rfl) rfl ?_
 refine qA (qC rfl) rfl ?_
 refine qA (qC rfl) rfl ?_
 refine qL (qJ (qK (qI ?_)))
 refine qA (qB rfl) rfl ?_
 refine qA (qB rfl) rfl ?_
 apply qH (by kernel_rfl) rfl
 apply qY (ct_RulesO (Es := M ++ M1) (s := s) (tb := tb) (pp := pp) (most := 1048576) (m := m) (bm := bm) (f := f1) (c := c) hE hB hln1 hqa (by omega) n1 o1 (hT1.ext M1) hr2 hk1) rfl (hE.f (by kernel_rfl))
 ·((repeat constructor); done)
 rintro _ _ ⟨M2, f2, y2, rfl, hM2, hk2, hy2, hs2, rfl⟩
 simp only [List.cons_append, List.nil_append]
 refine l_say (p := zQ s 1048576 (M ++ M1 ++ M2)) (by ((repeat constructor); done)) (fun _ h => storeP_says h) (fun hw2 => ?_)
 rw [raw_mkN hil] at hs1 hs2 hy2
 have q1 : EqL (rls (M ++ M1)) l ids y1 := ⟨hw1.1, hil, hy1, by rw [kD]; exact htx1.ext _, hs1⟩
 have hy12 : y2 = y1 := by
  have e := hs1.ext (rls M2)
  rw [← kD] at e
  exact hs2.fn hw2.1 e hy2 (by omega)
 have hvis : kF (rls (M ++ M1 ++ M2)) y2 [] = kF (rls (M ++ M1)) y1 [] := by
  rw [hy12, kD (M ++ M1)]
  exact visits_ext hw1.1 _ _ _ q1.bound
 rw [hvis]
 have hrs := q1.rsl
 have hgl : (gram (rls (M ++ M1)) (kF (rls (M ++ M1)) y1 [])).length = (kF (rls (M ++ M1)) y1 []).length := gram_len
 have hvl := q1.acc.len
 rw [zP] at hvl
 have hG4 : (gram (rls (M ++ M1)) (kF (rls (M ++ M1)) y1 [])).length ≤ 100000 := by omega
 have hlen : ∀ x ∈ l, x.bs.length ≤ 60 := fun x hx => (hg.1 x hx).2
 have hnm : ∀ x ∈ l, x.name.length ≤ 1000 := fun x hx => by have := (hg.1 x hx).1.2.1; omega
 have hB2 : B1 = encA (gram (rls (M ++ M1)) (kF (rls (M ++ M1)) y1 [])) (nmA l (y1.map (numb (kF (rls (M ++ M1)) y1 [])))) := by
  rw [hB1, q1.enc]
  rfl
 have hr1' : Rdb E.w0 (some ⟨g1, 0, none⟩) (byC B1) (sl (some ⟨g1, 0, none⟩) c1 5 1 B1.length (byC B1)) := fun _ => ⟨g1, 0, rfl, rd_slz (fun _ _ h => h)⟩
 refine qA (qB rfl) rfl ?_
 refine qA (qS rfl rfl) rfl ?_
 refine qA (qS rfl rfl) rfl ?_
 refine qA (qC rfl) rfl ?_
 refine qA (qC rfl) rfl ?_
 refine qL (qJ (qK (qI ?_)))
 refine qA (qB rfl) rfl ?_
 apply qH (by kernel_rfl) rfl
 apply qY (ct_r50Rules hE hrs hq hok hlen hl6) rfl (hE.f (by kernel_rfl))
 ·((repeat constructor); done)
 rintro _ _ ⟨pg, cg, pr, cr, rfl, rfl⟩
 simp only [List.cons_append, List.nil_append]
 refine qA (qB rfl) rfl ?_
 refine qA (qS rfl rfl) rfl ?_
 refine qA (qS rfl rfl) rfl ?_
 refine qA (qC rfl) rfl ?_
 refine qA (qC rfl) rfl ?_
 refine qL (qJ (qK (qI ?_)))
 refine qA (qB rfl) rfl ?_
 refine qA (qB rfl) rfl ?_
 skip
 refine kO rfl rfl ?_
 apply qH (by kernel_rfl) rfl
 apply qY (ct_awake hE hB) rfl (hE.f (by kernel_rfl))
 ·((repeat constructor); done)
 rintro _ _ ⟨rfl, rfl⟩
 simp only [List.cons_append, List.nil_append]
 apply qA
 ·exact qV rfl rfl
 ·rfl
 refine qA (qB rfl) rfl ?_
 skip
 refine kO rfl rfl ?_
 refine qA (qB rfl) rfl ?_
 refine kO rfl rfl ?_
 apply qA
 ·exact y_ok_eq rfl (hE.t rfl)
 ·rfl
 apply qA
 ·exact qV rfl rfl
 ·rfl
 refine qA (qB rfl) rfl ?_
 skip
 refine kO rfl rfl ?_
 refine qA (qB rfl) rfl ?_
 refine kO rfl rfl ?_
 apply qA
 ·exact y_ok_eq rfl (hE.t rfl)
 ·rfl
 apply qA
 ·exact qV rfl rfl
 ·rfl
 refine qA (qB rfl) rfl ?_
 skip
 refine kO rfl rfl ?_
 refine qA (qB rfl) rfl ?_
 refine kO rfl rfl ?_
 refine qA (qB rfl) rfl ?_
 refine kO rfl rfl ?_
 refine qA (qQ rfl (hE.t rfl)) rfl ?_
 refine kO rfl rfl ?_
 refine qA (y_eq rfl rfl) rfl ?_
 apply qA
 ·exact qV rfl rfl
 ·rfl
 refine qA (qB rfl) rfl ?_
 refine l_split 61 rfl (fun s1 => ?_) (fun s1 => ?_)
 ·skip
  refine kO rfl rfl ?_
  refine qA (qB rfl) rfl ?_
  refine kO rfl rfl ?_
  refine qA (qB rfl) rfl ?_
  refine kO rfl rfl ?_
  apply qH (by kernel_rfl) rfl
  apply qY (ct_r50Encode hE hrs hq hok hlen hnm hl6 hG4) rfl (hE.f (by kernel_rfl))
  ·((repeat constructor); done)
  rintro _ _ ⟨g2, c2, B2, rfl, hBB, rfl⟩
  simp only [List.cons_append, List.nil_append]
  have hr2' : Rdb E.w0 (some ⟨g2, 0, none⟩) (byC B2) (sl (some ⟨g2, 0, none⟩) c2 5 1 B2.length (byC B2)) := fun _ => ⟨g2, 0, rfl, rd_slz (fun _ _ h => h)⟩
  refine kO rfl rfl ?_
  apply qH (by kernel_rfl) rfl
  apply qY (ct_Bytes (c := c1) (d := c2) hE hr1' hr2') rfl (hE.f (by kernel_rfl))
  ·((repeat constructor); done)
  rintro _ _ ⟨rfl, rfl⟩
  simp only [List.cons_append, List.nil_append]
  apply qA
  ·exact qV rfl rfl
  ·rfl
  refine qA (qC rfl) rfl ?_
  refine qL (qJ (zY ?_))
  apply zZ
  ·rfl
  ·(apply Rs.tmp rfl; exact Rs.nil)
  ·exact ⟨congrArg Value.bool (decide_eq_true (by rw [hB2, hBB])), rfl⟩
  ·(apply ent; (repeat constructor); done)
 ·exact absurd (show (((kF (rls (M ++ M1)) y1 []).length : Nat) : Int) = ((gram (rls (M ++ M1)) (kF (rls (M ++ M1)) y1 [])).length : Nat) by omega) s1
end
section
open Go Go.RowKit Sl Eg
theorem ct_CodecEncodes {E : Env} (hE : Seat E) (hB : Base E.w0) {l : List Im} {a : Option Addr} {ca k : Nat} (hk : k < 256) (hq : Rdb E.w0 a (imC l) old) (hok : ∀ x ∈ l, Rdb E.w0 x.a (byC x.bs) old) (hn : l.length ≤ maxLen) :
  Ct E 4 [.slice a l.length ca, .int .u8 (k : Nat)] [] (fun v Q => v = .bool true ∧ Q = []) := ct_unoldC (ct_CodecEncodesQ hE hB hk hq hok hn)
end
end Go.Proofs.YtkkjjablmmmmkaaGreatDoor
