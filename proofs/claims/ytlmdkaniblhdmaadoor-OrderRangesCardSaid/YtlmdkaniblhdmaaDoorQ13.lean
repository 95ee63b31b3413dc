/- evergreenref26.Common. -/
import Derived.Test.YtlmdkaniblhdmaaDoorQ11
import Derived.Test.YtlmdkaniblhdmaaDoorQ12
import Derived.Laws.IdiomStrings
import Derived.Laws.Strings
set_option linter.unusedVariables false
set_option linter.unusedSimpArgs false
namespace Go.Proofs.YtlmdkaniblhdmaaDoor
open Go Go.RowKit Sl Eg
set_option maxRecDepth 10000
variable {E : Env}
theorem str_get {a : List UInt8} {i : Nat} {x : UInt8} (h : a[i]? = some x) (k : Nat) (hk : k = i) : (⟨⟨a⟩⟩ : ByteArray)[k]? = some x := by
  subst hk
  obtain ⟨h1, h2⟩ := List.getElem?_eq_some_iff.1 h
  rw [getElem?_pos (⟨⟨a⟩⟩ : ByteArray) k (by show k < a.length; exact h1)]
  exact congrArg some h2
theorem drop_one {α : Type} {l : List α} {i : Nat} {x : α} (hx : l[i]? = some x) : l.drop i = x :: l.drop (i + 1) := by
  obtain ⟨h1, e1⟩ := List.getElem?_eq_some_iff.1 hx
  rw [List.drop_eq_getElem_cons h1, e1]
theorem size_mk (a : List UInt8) : (⟨⟨a⟩⟩ : ByteArray).size = a.length := rfl
theorem ct_refCommon (hE : Seat E) {a b : List UInt8} (ha : a.length ≤ 1152921504606846976) (hb : b.length ≤ 1152921504606846976) :
    Ct E 23 [.string ⟨⟨a⟩⟩, .string ⟨⟨b⟩⟩] [] (fun v Q => v = .int .i64 (lcp a b : Nat) ∧ Q = []) := by
  refine fn_enter (hE.fn Tryd.func23) rfl rfl rfl (fun R => ?_)
  simp only [argsL, List.cons_append, List.nil_append]
  refine w_seq (w_region ?_)
  refine l_yield (y_assign rfl) rfl ?_
  refine l_nil (a_then (w_seq (w_region ?_)))
  refine l_yield (y_assign rfl) rfl ?_
  refine l_nil (a_then (w_seq (w_block ?_)))
  skip
  refine w_loop (fun n : Nat => [(0, .string ⟨⟨a⟩⟩), (1, .string ⟨⟨b⟩⟩), (5, .int .i64 (n : Nat))]) (fun n => [R]) (fun n => a.length - n) (fun n => lcp a b = n + lcp (a.drop n) (b.drop n) ∧ n ≤ a.length) 0 ?_ ?_ ?_ ?_
  · exact ⟨by simp, Nat.zero_le _⟩
  · exact ⟨rfl, rfl, rfl, trivial⟩
  · (apply ent; (repeat constructor); done)
  rintro n ⟨hn, hna⟩
  have sa := size_mk a
  have sb := size_mk b
  skip
  refine w_seq (w_seq (w_draws (by kernel_rfl) ?_))
  refine l_yield (y_move rfl) rfl ?_
  refine l_yield (y_move rfl) rfl ?_
  refine l_yield (y_len_str rfl (hE.t rfl)) rfl ?_
  refine l_yield (y_lt rfl rfl) rfl ?_
  refine l_yield (y_move rfl) rfl ?_
  refine l_split 10 rfl (fun h1 => ?_) (fun h1 => ?_)
  · skip
    rw [size_mk] at h1
    obtain ⟨x, hx⟩ : ∃ x, a[n]? = some x := ⟨_, List.getElem?_eq_getElem (by omega)⟩
    have f0 := str_get hx ((n : Nat) : Int).toNat (by omega)
    refine l_on rfl rfl ?_
    refine l_yield (y_move rfl) rfl ?_
    refine l_on rfl rfl ?_
    refine l_yield (y_move rfl) rfl ?_
    refine l_on rfl rfl ?_
    refine l_yield (y_len_str rfl (hE.t rfl)) rfl ?_
    refine l_on rfl rfl ?_
    refine l_yield (y_lt rfl rfl) rfl ?_
    apply l_yield
    · (first | exact y_pick_t rfl rfl | exact y_pick_f rfl rfl)
    · rfl
    refine l_yield (y_move rfl) rfl ?_
    refine l_split 16 rfl (fun h2 => ?_) (fun h2 => ?_)
    · skip
      rw [size_mk] at h2
      obtain ⟨y, hy⟩ : ∃ x, b[n]? = some x := ⟨_, List.getElem?_eq_getElem (by omega)⟩
      have f1 := str_get hy ((n : Nat) : Int).toNat (by omega)
      refine l_on rfl rfl ?_
      refine l_yield (y_move rfl) rfl ?_
      refine l_on rfl rfl ?_
      refine l_yield (y_move rfl) rfl ?_
      refine l_on rfl rfl ?_
      refine l_yield (y_indexStr rfl rfl (hE.t rfl) (by omega) (by assumption)) rfl ?_
      refine l_on rfl rfl ?_
      refine l_yield (y_move rfl) rfl ?_
      refine l_on rfl rfl ?_
      refine l_yield (y_move rfl) rfl ?_
      refine l_on rfl rfl ?_
      refine l_yield (y_indexStr rfl rfl (hE.t rfl) (by omega) (by assumption)) rfl ?_
      refine l_on rfl rfl ?_
      refine l_yield (y_eq rfl rfl) rfl ?_
      apply l_yield
      · (first | exact y_pick_t rfl rfl | exact y_pick_f rfl rfl)
      · rfl
      refine l_nil (a_then ?_)
      refine w_cond_d rfl (fun h3 => ?_) (fun h3 => ?_)
      · skip
        obtain rfl : x = y := UInt8.toNat_inj.1 (by omega)
        refine w_skip (a_then (w_block (w_region ?_)))
        refine l_yield (y_move rfl) rfl ?_
        refine l_yield (y_add rfl rfl (by omega) (by omega)) rfl ?_
        refine l_yield (y_assign rfl) rfl ?_
        refine l_nil (a_block ?_)
        refine wa_eq 5 (.int .i64 ((n + 1 : Nat) : Int)) rfl (int_eq (by omega)) ?_
        refine a_round (ι := Nat) (j := n + 1) ⟨?_, by omega⟩ ?_ ⟨rfl, rfl, rfl, trivial⟩ ?_
        · rw [hn, drop_one hx, drop_one hy]; simp [lcp]; omega
        · show a.length - (n + 1) < a.length - n; omega
        · (apply ent; (repeat constructor); done)
      · skip
        have hxy : x ≠ y := fun e => h3 (by rw [e])
        have hz : lcp (a.drop n) (b.drop n) = 0 := by rw [drop_one hx, drop_one hy]; exact lcp_ne hxy _ _
        refine w_exit (a_then_exit (a_then_exit (a_block_exit (a_then (w_seq (w_region ?_))))))
        refine l_yield (y_move rfl) rfl ?_
        refine l_yield (y_assign rfl) rfl ?_
        refine l_nil (a_then (w_ret ?_))
        apply a_ret
        · rfl
        · (apply Rs.tmp rfl; exact Rs.nil)
        · refine ⟨?_, rfl⟩
          rw [hn, hz, Nat.add_zero]
          rfl
        · (apply ent; (repeat constructor); done)
    · skip
      have hz : lcp (a.drop n) (b.drop n) = 0 := by rw [List.drop_of_length_le (l := b) (by omega)]; exact lcp_nil_right _
      refine l_off rfl rfl rfl rfl (l_off rfl rfl rfl rfl (l_off rfl rfl rfl rfl (l_off rfl rfl rfl rfl (l_off rfl rfl rfl rfl (l_off rfl rfl rfl rfl (l_off rfl rfl rfl rfl ?_))))))
      apply l_yield
      · (first | exact y_pick_t rfl rfl | exact y_pick_f rfl rfl)
      · rfl
      refine l_nil (a_then ?_)
      refine w_cond_f rfl ?_
      refine w_exit (a_then_exit (a_then_exit (a_block_exit (a_then (w_seq (w_region ?_))))))
      refine l_yield (y_move rfl) rfl ?_
      refine l_yield (y_assign rfl) rfl ?_
      refine l_nil (a_then (w_ret ?_))
      apply a_ret
      · rfl
      · (apply Rs.tmp rfl; exact Rs.nil)
      · refine ⟨?_, rfl⟩
        rw [hn, hz, Nat.add_zero]
        rfl
      · (apply ent; (repeat constructor); done)
  · skip
    have hz : lcp (a.drop n) (b.drop n) = 0 := by rw [List.drop_of_length_le (l := a) (by omega)]; exact lcp_nil_left _
    refine l_off rfl rfl rfl rfl (l_off rfl rfl rfl rfl (l_off rfl rfl rfl rfl (l_off rfl rfl rfl rfl ?_)))
    apply l_yield
    · (first | exact y_pick_t rfl rfl | exact y_pick_f rfl rfl)
    · rfl
    refine l_yield (y_move rfl) rfl ?_
    skip
    refine l_off rfl rfl rfl rfl (l_off rfl rfl rfl rfl (l_off rfl rfl rfl rfl (l_off rfl rfl rfl rfl (l_off rfl rfl rfl rfl (l_off rfl rfl rfl rfl (l_off rfl rfl rfl rfl ?_))))))
    apply l_yield
    · (first | exact y_pick_t rfl rfl | exact y_pick_f rfl rfl)
    · rfl
    refine l_nil (a_then ?_)
    refine w_cond_f rfl ?_
    refine w_exit (a_then_exit (a_then_exit (a_block_exit (a_then (w_seq (w_region ?_))))))
    refine l_yield (y_move rfl) rfl ?_
    refine l_yield (y_assign rfl) rfl ?_
    refine l_nil (a_then (w_ret ?_))
    apply a_ret
    · rfl
    · (apply Rs.tmp rfl; exact Rs.nil)
    · refine ⟨?_, rfl⟩
      rw [hn, hz, Nat.add_zero]
      rfl
    · (apply ent; (repeat constructor); done)
end Go.Proofs.YtlmdkaniblhdmaaDoor
/- evergreenref26.CommonEnd. -/
namespace Go.Proofs.YtlmdkaniblhdmaaDoor
open Go Go.RowKit Sl Eg
set_option maxRecDepth 10000
variable {E : Env}
theorem ct_refCommonEnd (hE : Seat E) {a b : List UInt8} (ha : a.length ≤ 1152921504606846976) (hb : b.length ≤ 1152921504606846976) :
    Ct E 24 [.string ⟨⟨a⟩⟩, .string ⟨⟨b⟩⟩] [] (fun v Q => v = .int .i64 (lcp a.reverse b.reverse : Nat) ∧ Q = []) := by
  refine fn_enter (hE.fn Tryd.func24) rfl rfl rfl (fun R => ?_)
  simp only [argsL, List.cons_append, List.nil_append]
  refine w_seq (w_region ?_)
  refine l_yield (y_assign rfl) rfl ?_
  refine l_nil (a_then (w_seq (w_region ?_)))
  refine l_yield (y_assign rfl) rfl ?_
  refine l_nil (a_then (w_seq (w_block ?_)))
  skip
  refine w_loop (fun n : Nat => [(0, .string ⟨⟨a⟩⟩), (1, .string ⟨⟨b⟩⟩), (5, .int .i64 (n : Nat))]) (fun n => [R]) (fun n => a.length - n) (fun n => lcp a.reverse b.reverse = n + lcp (a.reverse.drop n) (b.reverse.drop n) ∧ n ≤ a.length) 0 ?_ ?_ ?_ ?_
  · exact ⟨by simp, Nat.zero_le _⟩
  · exact ⟨rfl, rfl, rfl, trivial⟩
  · (apply ent; (repeat constructor); done)
  rintro n ⟨hn, hna⟩
  have sa := size_mk a
  have sb := size_mk b
  skip
  refine w_seq (w_seq (w_draws (by kernel_rfl) ?_))
  refine l_yield (y_move rfl) rfl ?_
  refine l_yield (y_move rfl) rfl ?_
  refine l_yield (y_len_str rfl (hE.t rfl)) rfl ?_
  refine l_yield (y_lt rfl rfl) rfl ?_
  refine l_yield (y_move rfl) rfl ?_
  refine l_split 10 rfl (fun h1 => ?_) (fun h1 => ?_)
  · skip
    rw [size_mk] at h1
    obtain ⟨x, hx⟩ : ∃ x, a.reverse[n]? = some x := ⟨_, List.getElem?_eq_getElem (by simp; omega)⟩
    have f0 : (⟨⟨a⟩⟩ : ByteArray)[(((⟨⟨a⟩⟩ : ByteArray).size : Int) - 1 - (n : Nat)).toNat]? = some x := str_get (i := a.length - 1 - n) (by rw [← hx, List.getElem?_reverse (by omega)]) _ (by omega)
    refine l_on rfl rfl ?_
    refine l_yield (y_move rfl) rfl ?_
    refine l_on rfl rfl ?_
    refine l_yield (y_move rfl) rfl ?_
    refine l_on rfl rfl ?_
    refine l_yield (y_len_str rfl (hE.t rfl)) rfl ?_
    refine l_on rfl rfl ?_
    refine l_yield (y_lt rfl rfl) rfl ?_
    apply l_yield
    · (first | exact y_pick_t rfl rfl | exact y_pick_f rfl rfl)
    · rfl
    refine l_yield (y_move rfl) rfl ?_
    refine l_split 16 rfl (fun h2 => ?_) (fun h2 => ?_)
    · skip
      rw [size_mk] at h2
      obtain ⟨y, hy⟩ : ∃ x, b.reverse[n]? = some x := ⟨_, List.getElem?_eq_getElem (by simp; omega)⟩
      have f1 : (⟨⟨b⟩⟩ : ByteArray)[(((⟨⟨b⟩⟩ : ByteArray).size : Int) - 1 - (n : Nat)).toNat]? = some y := str_get (i := b.length - 1 - n) (by rw [← hy, List.getElem?_reverse (by omega)]) _ (by omega)
      refine l_on rfl rfl ?_
      refine l_yield (y_move rfl) rfl ?_
      refine l_on rfl rfl ?_
      refine l_yield (y_move rfl) rfl ?_
      refine l_on rfl rfl ?_
      refine l_yield (y_len_str rfl (hE.t rfl)) rfl ?_
      refine l_on rfl rfl ?_
      refine l_yield (y_sub rfl rfl (by omega) (by omega)) rfl ?_
      refine l_on rfl rfl ?_
      refine l_yield (y_move rfl) rfl ?_
      refine l_on rfl rfl ?_
      refine l_yield (y_sub rfl rfl (by omega) (by omega)) rfl ?_
      refine l_on rfl rfl ?_
      refine l_yield (y_indexStr rfl rfl (hE.t rfl) (by omega) (by assumption)) rfl ?_
      refine l_on rfl rfl ?_
      refine l_yield (y_move rfl) rfl ?_
      refine l_on rfl rfl ?_
      refine l_yield (y_move rfl) rfl ?_
      refine l_on rfl rfl ?_
      refine l_yield (y_len_str rfl (hE.t rfl)) rfl ?_
      refine l_on rfl rfl ?_
      refine l_yield (y_sub rfl rfl (by omega) (by omega)) rfl ?_
      refine l_on rfl rfl ?_
      refine l_yield (y_move rfl) rfl ?_
      refine l_on rfl rfl ?_
      refine l_yield (y_sub rfl rfl (by omega) (by omega)) rfl ?_
      refine l_on rfl rfl ?_
      refine l_yield (y_indexStr rfl rfl (hE.t rfl) (by omega) (by assumption)) rfl ?_
      refine l_on rfl rfl ?_
      refine l_yield (y_eq rfl rfl) rfl ?_
      apply l_yield
      · (first | exact y_pick_t rfl rfl | exact y_pick_f rfl rfl)
      · rfl
      refine l_nil (a_then ?_)
      refine w_cond_d rfl (fun h3 => ?_) (fun h3 => ?_)
      · skip
        obtain rfl : x = y := UInt8.toNat_inj.1 (by omega)
        refine w_skip (a_then (w_block (w_region ?_)))
        refine l_yield (y_move rfl) rfl ?_
        refine l_yield (y_add rfl rfl (by omega) (by omega)) rfl ?_
        refine l_yield (y_assign rfl) rfl ?_
        refine l_nil (a_block ?_)
        refine wa_eq 5 (.int .i64 ((n + 1 : Nat) : Int)) rfl (int_eq (by omega)) ?_
        refine a_round (ι := Nat) (j := n + 1) ⟨?_, by omega⟩ ?_ ⟨rfl, rfl, rfl, trivial⟩ ?_
        · rw [hn, drop_one hx, drop_one hy]; simp [lcp]; omega
        · show a.length - (n + 1) < a.length - n; omega
        · (apply ent; (repeat constructor); done)
      · skip
        have hxy : x ≠ y := fun e => h3 (by rw [e])
        have hz : lcp (a.reverse.drop n) (b.reverse.drop n) = 0 := by rw [drop_one hx, drop_one hy]; exact lcp_ne hxy _ _
        refine w_exit (a_then_exit (a_then_exit (a_block_exit (a_then (w_seq (w_region ?_))))))
        refine l_yield (y_move rfl) rfl ?_
        refine l_yield (y_assign rfl) rfl ?_
        refine l_nil (a_then (w_ret ?_))
        apply a_ret
        · rfl
        · (apply Rs.tmp rfl; exact Rs.nil)
        · refine ⟨?_, rfl⟩
          rw [hn, hz, Nat.add_zero]
          rfl
        · (apply ent; (repeat constructor); done)
    · skip
      have hz : lcp (a.reverse.drop n) (b.reverse.drop n) = 0 := by rw [List.drop_of_length_le (l := b.reverse) (by simp; omega)]; exact lcp_nil_right _
      refine l_off rfl rfl rfl rfl (l_off rfl rfl rfl rfl (l_off rfl rfl rfl rfl (l_off rfl rfl rfl rfl (l_off rfl rfl rfl rfl (l_off rfl rfl rfl rfl (l_off rfl rfl rfl rfl (l_off rfl rfl rfl rfl ?_)))))))
      refine l_off rfl rfl rfl rfl (l_off rfl rfl rfl rfl (l_off rfl rfl rfl rfl (l_off rfl rfl rfl rfl (l_off rfl rfl rfl rfl (l_off rfl rfl rfl rfl (l_off rfl rfl rfl rfl ?_))))))
      apply l_yield
      · (first | exact y_pick_t rfl rfl | exact y_pick_f rfl rfl)
      · rfl
      refine l_nil (a_then ?_)
      refine w_cond_f rfl ?_
      refine w_exit (a_then_exit (a_then_exit (a_block_exit (a_then (w_seq (w_region ?_))))))
      refine l_yield (y_move rfl) rfl ?_
      refine l_yield (y_assign rfl) rfl ?_
      refine l_nil (a_then (w_ret ?_))
      apply a_ret
      · rfl
      · (apply Rs.tmp rfl; exact Rs.nil)
      · refine ⟨?_, rfl⟩
        rw [hn, hz, Nat.add_zero]
        rfl
      · (apply ent; (repeat constructor); done)
  · skip
    have hz : lcp (a.reverse.drop n) (b.reverse.drop n) = 0 := by rw [List.drop_of_length_le (l := a.reverse) (by simp; omega)]; exact lcp_nil_left _
    refine l_off rfl rfl rfl rfl (l_off rfl rfl rfl rfl (l_off rfl rfl rfl rfl (l_off rfl rfl rfl rfl ?_)))
    apply l_yield
    · (first | exact y_pick_t rfl rfl | exact y_pick_f rfl rfl)
    · rfl
    refine l_yield (y_move rfl) rfl ?_
    skip
    refine l_off rfl rfl rfl rfl (l_off rfl rfl rfl rfl (l_off rfl rfl rfl rfl (l_off rfl rfl rfl rfl (l_off rfl rfl rfl rfl (l_off rfl rfl rfl rfl (l_off rfl rfl rfl rfl (l_off rfl rfl rfl rfl ?_)))))))
    refine l_off rfl rfl rfl rfl (l_off rfl rfl rfl rfl (l_off rfl rfl rfl rfl (l_off rfl rfl rfl rfl (l_off rfl rfl rfl rfl (l_off rfl rfl rfl rfl (l_off rfl rfl rfl rfl ?_))))))
    apply l_yield
    · (first | exact y_pick_t rfl rfl | exact y_pick_f rfl rfl)
    · rfl
    refine l_nil (a_then ?_)
    refine w_cond_f rfl ?_
    refine w_exit (a_then_exit (a_then_exit (a_block_exit (a_then (w_seq (w_region ?_))))))
    refine l_yield (y_move rfl) rfl ?_
    refine l_yield (y_assign rfl) rfl ?_
    refine l_nil (a_then (w_ret ?_))
    apply a_ret
    · rfl
    · (apply Rs.tmp rfl; exact Rs.nil)
    · refine ⟨?_, rfl⟩
      rw [hn, hz, Nat.add_zero]
      rfl
    · (apply ent; (repeat constructor); done)
end Go.Proofs.YtlmdkaniblhdmaaDoor
/- Parts of strings. -/
namespace Sl
open Go Go.RowKit
variable {E : Env} {n : Nat} {L : Fr} {S : List HP} {ty : TypeId} {pos : String} {af : Array Edge} {d : Option Nat} {gd : Option (Nat × Bool)}
theorem y_slice_str {x : Operand} {t : TypeId} {bs : ByteArray} {sz : Nat} {zs : List Value} {lo hi : Option Operand} {l h : Nat} (hx : ev L x = some (.string bs)) (ht : E.tab t = some ⟨.string, sz, zs⟩)
    (hlo : match lo with | none => l = 0 | some y => ∃ k, ev L y = some (.int k (l : Nat))) (hhi : match hi with | none => h = bs.size | some y => ∃ k, ev L y = some (.int k (h : Nat))) (h1 : l ≤ h) (h2 : h ≤ bs.size) :
    Yl E n L S ⟨d, .slice t x lo hi none, ty, pos, af, gd⟩ (.string (bs.extract l h)) := fun a w g _ => by
  obtain ⟨i', z, _, _, _, _, hk⟩ := tab_info ht
  simp only [TK.holds] at hk
  have hu : E.P.underlying t = some .string := by
    split at hk
    · assumption
    · cases hk
  have hB : ∀ (v : Nat) (y : Nat) (c : BoundsCode) (k : IntKind), v ≤ y → (Instr.sliceBound (.int k v) y c).run E.P w = .ok v w := by
    intro v y c k hv
    simp [Instr.sliceBound, asIntOf, hv]
  cases lo with
  | none =>
    subst hlo
    cases hi with
    | none =>
      subst hhi
      simp [execOp, Instr.sliceAt, Instr.slice, Instr.sliceBounds, underlying, program, Sem.run, hu, g.ev hx]
    | some y =>
      obtain ⟨k, hy⟩ := hhi
      simp [execOp, Instr.sliceAt, Instr.slice, Instr.sliceBounds, underlying, program, Sem.run, hu, g.ev hx, g.ev hy, hB _ _ _ _ h2]
  | some z =>
    obtain ⟨k', hz⟩ := hlo
    cases hi with
    | none =>
      subst hhi
      simp [execOp, Instr.sliceAt, Instr.slice, Instr.sliceBounds, underlying, program, Sem.run, hu, g.ev hx, g.ev hz, hB _ _ _ _ h1]
    | some y =>
      obtain ⟨k, hy⟩ := hhi
      simp [execOp, Instr.sliceAt, Instr.slice, Instr.sliceBounds, underlying, program, Sem.run, hu, g.ev hx, g.ev hz, g.ev hy, hB _ _ _ _ h1, hB _ _ _ _ h2]
theorem extract_mk (a : List UInt8) (l h : Nat) (hh : h ≤ a.length) : (⟨⟨a⟩⟩ : ByteArray).extract l h = ⟨⟨(a.take h).drop l⟩⟩ := by
  apply ByteArray.ext
  apply Array.toList_inj.1
  rw [ByteArray.data_extract]
  simp [List.extract_eq_take_drop, List.drop_take]
end Sl
/- evergreenlaw26.cut. -/
namespace Go.Proofs.YtlmdkaniblhdmaaDoor
open Go Go.RowKit Sl Eg
set_option maxRecDepth 10000
variable {E : Env}
theorem ct_cut (hE : Seat E) {a : List UInt8} {m : Nat} :
    Ct E 16 [.string ⟨⟨a⟩⟩, .int .i64 (m : Nat)] [] (fun v Q => v = .string ⟨⟨a.take m⟩⟩ ∧ Q = []) := by
  have sa := size_mk a
  have hmin : (if ((m : Nat) : Int) < (((⟨⟨a⟩⟩ : ByteArray).size : Nat) : Int) then ((m : Nat) : Int) else (((⟨⟨a⟩⟩ : ByteArray).size : Nat) : Int)) = ((min m a.length : Nat) : Int) := by rw [sa]; split <;> omega
  have hmm : min m a.length ≤ (⟨⟨a⟩⟩ : ByteArray).size := by rw [sa]; omega
  refine fn_enter (hE.fn Tryd.func16) rfl rfl rfl (fun R => ?_)
  simp only [argsL, List.cons_append, List.nil_append]
  skip
  refine w_seq (w_region ?_)
  refine l_yield (y_assign rfl) rfl ?_
  refine l_nil (a_then (w_seq (w_region ?_)))
  refine l_yield (y_move rfl) rfl ?_
  refine l_yield (y_move rfl) rfl ?_
  refine l_yield (y_len_str rfl (hE.t rfl)) rfl ?_
  refine l_yield (y_move rfl) rfl ?_
  refine l_yield (y_min rfl rfl) rfl ?_
  apply l_yield
  · exact y_slice_str (h := min m a.length) rfl (hE.t rfl) rfl ⟨.i64, congrArg (fun v => some (Value.int IntKind.i64 v)) hmin⟩ (Nat.zero_le _) hmm
  · rfl
  refine l_yield (y_assign rfl) rfl ?_
  refine l_nil (a_then (w_ret ?_))
  rw [extract_mk a 0 _ (Nat.min_le_right _ _), List.drop_zero, List.take_eq_take_min.symm]
  apply a_ret
  · rfl
  · (apply Rs.tmp rfl; exact Rs.nil)
  · exact ⟨rfl, rfl⟩
  · (apply ent; (repeat constructor); done)
end Go.Proofs.YtlmdkaniblhdmaaDoor
/- intern.New. -/
namespace Sl
open Go Go.RowKit
variable {E : Env} {n : Nat} {L : Fr} {S H H' : List HP} {ty : TypeId} {pos : String} {af : Array Edge} {d : Option Nat} {gd : Option (Nat × Bool)} {K : Value → List HP → Prop} {Q : Exit → Act → World → Prop}
theorem ld_makeMap {t : TypeId} (hk : ∀ b, K (.map (some b)) (pt b (.map #[] 0) :: H)) : Ld E n L H ⟨d, .makeMap t none, ty, pos, af, gd⟩ K := fun Q next a w G hn => by
  have hrun : (execOp a.eval ⟨d, .makeMap t none, ty, pos, af, gd⟩).run E.P w = .ok (.value (.map (some w.heap.size))) (w.alloc (.map #[] 0)) := by
    simp [execOp, Instr.makeMap]
  unfold Oper.wp
  rw [hrun, Oper.upon_value]
  exact hn _ _ _ (hk _) (G.hp.new _)
theorem wa_sat {e : Exit} (hH : ∀ w, Sat E.w0 w H → Sat E.w0 w H') (h : AT E Q e n L H') : AT E Q e n L H := fun a w g => h a w ⟨g.f, hH w g.hp⟩
end Sl
namespace Go.Proofs.YtlmdkaniblhdmaaDoor
open Go Go.RowKit Sl Eg
set_option maxRecDepth 10000
variable {E : Env}
theorem wf_nil : Wf [] := ⟨fun i r h => by simp at h, fun i j r h => by simp at h, fun i => by cases i <;> simp [len, txt, nth, tab], by simp⟩
theorem store_new {w0 w : World} {H : List HP} {s bm most : Nat} (hm : most ≤ maxRules) (h : Sat w0 w (cells s [.int .i64 most, .slice none 0 0, .map (some bm)] 119 :: pt bm (.map #[] 0) :: H)) : Sat w0 w (storeP s most [] :: H) := by
  have h1 := (h.ptr).1
  have h2 := (h.tail.ptr).1
  have hs : StoreAt w s most [] (.slice none 0 0) bm := ⟨h1, ⟨rfl, .inl ⟨rfl, rfl⟩⟩, h2, wf_nil, fun i x h => by simp at h, hm, Nat.zero_le _⟩
  refine h.imp fun k hk => stars_pack (ps := [cells s [.int .i64 most, .slice none 0 0, .map (some bm)] 119, pt bm (.map #[] 0)]) (fun j hj => ?_) hk
  obtain ⟨k1, k2, dj, rfl, e1, k3, k4, dj2, rfl, e2, _⟩ := hj
  refine ⟨w, _, bm, hs, fun b hb => ?_⟩
  have e1' : k1 s = _ := e1
  have e2' : k3 bm = _ := e2
  rcases hb with rfl | rfl | hb
  · rw [h1]; simp [join, e1']
  · rw [h2]
    have : k1 b = none := by
      rcases dj b with h | h
      · exact h
      · simp [join, e2'] at h
    simp [join, this, e2']
  · cases hb
theorem ct_Clip (hE : Seat E) {m lo hi : Int} (h1 : ¬ m < lo) (h2 : ¬ hi < m) : Ct E 73 [.int .i64 m, .int .i64 lo, .int .i64 hi] [] (fun v Q => v = .int .i64 m ∧ Q = []) := by
  apply ct_same
  intro w
  rw [hE.P]
  refine (length_clip m lo hi w).mono ?_
  rintro e w' ⟨e1, e2⟩
  rw [if_neg h1, if_neg h2] at e1
  exact ⟨e1, e2⟩
theorem ct_intNew (hE : Seat E) {most : Nat} (hm : most ≤ maxRules) : Ct E 28 [.int .i64 (most : Nat)] [] (fun v Q => ∃ s, v = .pointer (some ⟨s, 0, none⟩) ∧ Q = [storeP s most []]) := by
  have hmx : maxRules = 1048576 := rfl
  have c1 : ¬ ((most : Nat) : Int) < 0 := by omega
  have c2 : ¬ (1048576 : Int) < ((most : Nat) : Int) := by omega
  refine fn_enter (hE.fn Tryd.func28) rfl rfl rfl (fun R => ?_)
  simp only [argsL, List.cons_append, List.nil_append]
  refine w_seq (w_region ?_)
  refine l_yield (y_assign rfl) rfl ?_
  refine l_nil (a_then (w_seq (w_region ?_)))
  refine l_yield (y_move rfl) rfl ?_
  apply l_loud (by kernel_rfl) rfl
  apply ld_call (ct_Clip hE c1 c2) rfl (hE.f (by kernel_rfl))
  · ((repeat constructor); done)
  rintro _ _ ⟨rfl, rfl⟩
  simp only [List.cons_append, List.nil_append]
  skip
  apply l_loud (by kernel_rfl) rfl
  refine ld_makeMap (fun b5 => ?_)
  apply l_yield
  · (first | exact y_build (hE.t rfl) rfl rfl | exact y_buildA (hE.t rfl) rfl rfl)
  · rfl
  apply l_loud (by kernel_rfl) rfl
  refine ld_box rfl (fun b7 => ?_)
  refine l_yield (y_assign rfl) rfl ?_
  refine l_nil (a_then (w_ret ?_))
  refine wa_sat (H' := storeP b7 most [] :: [R]) (fun w h => store_new (bm := b5) hm (h.imp ?_)) ?_
  · (apply ent; (repeat constructor); done)
  apply a_ret
  · rfl
  · (apply Rs.tmp rfl; exact Rs.nil)
  · exact ⟨b7, rfl, rfl⟩
  · (apply ent; (repeat constructor); done)
end Go.Proofs.YtlmdkaniblhdmaaDoor
/- []byte(s). -/
namespace Sl
open Go Go.RowKit
variable {E : Env} {n : Nat} {L : Fr} {S H H' : List HP} {ty : TypeId} {pos : String} {af : Array Edge} {d : Option Nat} {gd : Option (Nat × Bool)} {K : Value → List HP → Prop} {Q : Exit → Act → World → Prop}
theorem ld_bytes {x : Operand} {src dst e : TypeId} {bs : List UInt8} {s by_ sz sz1 sz2 : Nat} {zs zs1 zs2 : List Value} (hx : ev L x = some (.string ⟨⟨bs⟩⟩)) (hs : E.tab src = some ⟨.string, sz, zs⟩) (ht : E.tab dst = some ⟨.slice e s by_, sz1, zs1⟩) (he : E.tab e = some ⟨.int .u8, sz2, zs2⟩)
    (hk : ∀ g c, K (.slice (some ⟨g, 0, none⟩) bs.length c) (ro g (bs.map fun b => Value.int .u8 (b.toNat : Nat)) :: H)) : Ld E n L H ⟨d, .convert src dst x, ty, pos, af, gd⟩ K := fun Q next a w G hn => by
  obtain ⟨i', z, _, _, _, _, hk'⟩ := tab_info hs
  simp only [TK.holds] at hk'
  have hu : E.P.underlying src = some .string := by
    split at hk'
    · assumption
    · cases hk'
  obtain ⟨hd, _⟩ := tab_slice ht
  have hr := run_bytes_of_string (P := E.P) w src dst e ⟨⟨bs⟩⟩ hu hd (tab_int he)
  have hrun : (execOp a.eval ⟨d, .convert src dst x, ty, pos, af, gd⟩).run E.P w = .ok (.value (.slice (some ⟨w.heap.size, 0, none⟩) bs.length (grownCap w bs.length 0 e))) (w.drew.alloc (.cells (bytesRow ⟨⟨bs⟩⟩ (grownCap w bs.length 0 e)) e ((bytesRow ⟨⟨bs⟩⟩ (grownCap w bs.length 0 e)).size, (bytesRow ⟨⟨bs⟩⟩ (grownCap w bs.length 0 e)).size + 1))) := by
    have hr' : (convert src dst (.string ⟨⟨bs⟩⟩)).run E.P w = .ok (.slice (some ⟨w.heap.size, 0, none⟩) bs.length (grownCap w bs.length 0 e)) (w.drew.alloc (.cells (bytesRow ⟨⟨bs⟩⟩ (grownCap w bs.length 0 e)) e ((bytesRow ⟨⟨bs⟩⟩ (grownCap w bs.length 0 e)).size, (bytesRow ⟨⟨bs⟩⟩ (grownCap w bs.length 0 e)).size + 1))) := hr
    simp only [execOp, G.f.ev hx, Sem.run_bind, Sem.run_map, hr']
    simp [hr']
  unfold Oper.wp
  rw [hrun, Oper.upon_value]
  refine hn _ _ _ (hk _ _) ?_
  refine (G.hp.drew.new _).imp fun _ => stars_head fun k h => ⟨_, _, _, h, fun i v hv => ?_⟩
  have hi : i < bs.length := by have := (List.getElem?_eq_some_iff.1 hv).1; simpa using this
  unfold bytesRow
  rw [Array.getElem?_append_left (by simpa using hi)]
  simpa using hv
end Sl
/- []byte(b) of a slice of bytes: its block gets a mark. -/
namespace Sl
open Go Go.RowKit
variable {E : Env} {n : Nat} {L : Fr} {S H H' : List HP} {ty : TypeId} {pos : String} {af : Array Edge} {d : Option Nat} {gd : Option (Nat × Bool)} {K : Value → List HP → Prop} {Q : Exit → Act → World → Prop}
theorem ld_mark {x : Operand} {t e bt : TypeId} {us : List Value} {g a c s by_ sz1 sz2 : Nat} {zs1 zs2 : List Value} (hx : ev L x = some (.slice (some ⟨g, 0, none⟩) a c)) (ht : E.tab t = some ⟨.slice e s by_, sz1, zs1⟩) (he : E.tab e = some ⟨.int .u8, sz2, zs2⟩) (hm : Take (cells g us bt) H H')
    (hk : K (.slice (some ⟨g, 0, none⟩) a c) (ro g us :: H')) : Ld E n L H ⟨d, .convert t t x, ty, pos, af, gd⟩ K := fun Q next A w G hn => by
  obtain ⟨hd, _⟩ := tab_slice ht
  have s1 := G.hp.take hm
  have hp := (s1.ptr).1
  have hsh : w.shape? g = some (bt, us.length) := by unfold World.shape?; rw [hp]; rfl
  have hrun : (execOp A.eval ⟨d, .convert t t x, ty, pos, af, gd⟩).run E.P w = .ok (.value (.slice (some ⟨g, 0, none⟩) a c)) (w.freeze ⟨g, us.length, none⟩ 1) := by
    simp [execOp, convert, underlying, program, Sem.run, hd, tab_int he, G.f.ev hx, markStringish, shape, freeze, hsh]
  unfold Oper.wp
  rw [hrun, Oper.upon_value]
  refine hn _ _ _ hk ?_
  have hw : Sat E.w0 (w.freeze ⟨g, us.length, none⟩ 1) (pt g (.cells ⟨us⟩ bt (us.length, us.length + 1)) :: H') := Sat.write s1 ⟨rfl, rfl, rfl, by simp [World.freeze]⟩ (by simp [World.freeze, Array.getElem?_modify, hp]) (fun k hk => by simp [World.freeze, Array.getElem?_modify, Ne.symm hk])
  exact hw.imp fun _ => stars_head fun k h => ⟨_, _, _, h, fun i v hv => by simpa using hv⟩
end Sl
/- Type assertions to a type of integers; evergreenbase.Num, Is. -/
namespace Sl
open Go Go.RowKit
variable {E : Env} {n : Nat} {L : Fr} {S : List HP} {ty : TypeId} {pos : String} {af : Array Edge} {d : Option Nat} {gd : Option (Nat × Bool)}
theorem y_assert_int {x : Operand} {xt t : TypeId} {k : IntKind} {v : Value} {sz : Nat} {zs : List Value} (hx : ev L x = some (.iface t v)) (ht : E.tab t = some ⟨.int k, sz, zs⟩) :
    Yl E n L S ⟨d, .typeAssert x xt t true, ty, pos, af, gd⟩ (.tuple #[v, .bool true]) := fun a w g _ => by
  simp [execOp, Instr.typeAssert, run_underlying (tab_int ht), g.ev hx]
theorem y_eq_str {x y : Operand} {xt yt : TypeId} {a b : List UInt8} (hx : ev L x = some (.string ⟨⟨a⟩⟩)) (hy : ev L y = some (.string ⟨⟨b⟩⟩)) :
    Yl E n L S ⟨d, .binOp .eql xt x y yt, ty, pos, af, gd⟩ (.bool (decide (a = b))) := fun o w g _ => by
  simp [execOp, eqGuard, binOp_string_eql, ByteArray.toList_eq, g.ev hx, g.ev hy, pure]
  exact Bool.eq_iff_iff.2 (by simp)
theorem y_ne_str {x y : Operand} {xt yt : TypeId} {a b : List UInt8} (hx : ev L x = some (.string ⟨⟨a⟩⟩)) (hy : ev L y = some (.string ⟨⟨b⟩⟩)) :
    Yl E n L S ⟨d, .binOp .neq xt x y yt, ty, pos, af, gd⟩ (.bool (decide (¬ a = b))) := fun o w g _ => by
  simp [execOp, eqGuard, binOp_string_neq, ByteArray.toList_eq, g.ev hx, g.ev hy, pure]
  exact Bool.eq_iff_iff.2 (by simp)
variable {H : List HP} {Q : Exit → Act → World → Prop}
/-- A guarded operation that is wanted, and alone may come up. -/
theorem d_loud_on {ops : List Oper} {S : List HP} {fuel : Nat} {listed : Array Bool} (i : Nat) {d : Option Nat} {op : Op} {ty : TypeId} {pos : String} {af : Array Edge} {j t : Nat} {b : Bool} (hi : ops[i]? = some ⟨d, op, ty, pos, af, some (j, b)⟩)
    (hj : (ops[j]?).bind (·.dst) = some t) (hl : look L t = some (.bool b)) (hr : Region.ready .any ops.toArray listed = [i]) (hd : inB n d = true)
    (h : Ld E n L H ⟨d, op, ty, pos, af, some (j, b)⟩ (fun v H' => (∀ k, stars H' k → stars S k) ∧ WPD E ops S Q fuel (listed.setIfInBounds i true) n (putL d v L) H')) : WPD E ops S Q (fuel + 1) listed n L H := fun _ a w g =>
  wpAnyH_all hr (by simp) fun j' hj' => by
    obtain rfl : j' = i := by simpa using hj'
    have hj2 : (ops.toArray[j]?).bind (·.dst) = some t := by simpa using hj
    have hyl : yielded ops.toArray a.tmps j = some b := by simp only [yielded, hj2, Option.bind_some, g.f.fr t _ hl]
    unfold wpOp
    simp only [get_toArray hi, Region.wanted, hyl, beq_self_eq_true, if_true]
    exact .inl (h _ _ a w g (fun v H' w' hk hs => ⟨hs.imp hk.1, hk.2 hk.1 _ _ ⟨g.f.put d v hd, hs⟩⟩))
theorem d_split {ops : List Oper} {S : List HP} {fuel : Nat} {listed : Array Bool} (t : Nat) {p : Prop} [Decidable p] (hl : look L t = some (.bool (decide p))) (h1 : p → WPD E ops S Q fuel listed n ((t, .bool true) :: L) H) (h2 : ¬ p → WPD E ops S Q fuel listed n ((t, .bool false) :: L) H) : WPD E ops S Q fuel listed n L H := fun hS a w g => by
  by_cases hp : p
  · exact h1 hp hS a w ⟨g.f.eq hl (by simp [hp]), g.hp⟩
  · exact h2 hp hS a w ⟨g.f.eq hl (by simp [hp]), g.hp⟩
end Sl
namespace Go.Proofs.YtlmdkaniblhdmaaDoor
open Go Go.RowKit Sl Eg
set_option maxRecDepth 10000
variable {E : Env}
theorem ct_Num0 (hE : Seat E) : Ct E 40 [.nilIface] [] (fun v Q => v = .int .i64 0 ∧ Q = []) := by
  refine fn_enter (hE.fn Tryd.func40) rfl rfl rfl (fun R => ?_)
  simp only [argsL, List.cons_append, List.nil_append]
  refine w_seq (w_region ?_)
  refine l_yield (y_assign rfl) rfl ?_
  refine l_nil (a_then (w_seq (w_seq (w_region ?_))))
  refine l_yield (y_move rfl) rfl ?_
  apply l_yield
  · (first | exact y_ok_eq rfl (hE.t rfl) | exact y_err_eq rfl (hE.t rfl))
  · rfl
  refine l_nil (a_then ?_)
  refine w_cond_t rfl ?_
  refine w_seq (w_region ?_)
  refine l_yield (y_assign rfl) rfl ?_
  refine l_nil (a_then (w_ret (a_then_ret ?_)))
  apply a_ret
  · rfl
  · (apply Rs.tmp rfl; exact Rs.nil)
  · exact ⟨rfl, rfl⟩
  · (apply ent; (repeat constructor); done)
theorem ct_Num (hE : Seat E) {i : Int} : Ct E 40 [.iface 38 (.int .i64 i)] [] (fun v Q => v = .int .i64 i ∧ Q = []) := by
  refine fn_enter (hE.fn Tryd.func40) rfl rfl rfl (fun R => ?_)
  simp only [argsL, List.cons_append, List.nil_append]
  refine w_seq (w_region ?_)
  refine l_yield (y_assign rfl) rfl ?_
  refine l_nil (a_then (w_seq (w_seq (w_region ?_))))
  refine l_yield (y_move rfl) rfl ?_
  apply l_yield
  · (first | exact y_ok_eq rfl (hE.t rfl) | exact y_err_eq rfl (hE.t rfl))
  · rfl
  refine l_nil (a_then ?_)
  refine w_cond_f rfl ?_
  refine w_skip (a_then (w_seq (w_region ?_)))
  refine l_yield (y_move rfl) rfl ?_
  apply l_yield
  · exact y_assert_int rfl (hE.t rfl)
  · rfl
  refine l_yield (y_move rfl) rfl ?_
  refine l_yield (y_extract rfl rfl) rfl ?_
  refine l_yield (y_extract rfl rfl) rfl ?_
  refine l_yield (y_assign rfl) rfl ?_
  refine l_yield (y_assign rfl) rfl ?_
  refine l_nil (a_then (w_seq (w_seq (w_region ?_))))
  refine l_yield (y_move rfl) rfl ?_
  refine l_yield (y_not rfl) rfl ?_
  refine l_nil (a_then ?_)
  refine w_cond_f rfl ?_
  refine w_skip (a_then (w_seq (w_region ?_)))
  refine l_yield (y_move rfl) rfl ?_
  refine l_yield (y_assign rfl) rfl ?_
  refine l_nil (a_then (w_ret ?_))
  apply a_ret
  · rfl
  · (apply Rs.tmp rfl; exact Rs.nil)
  · exact ⟨rfl, rfl⟩
  · (apply ent; (repeat constructor); done)
theorem ct_Is (hE : Seat E) {i : Int} (hi : i ≠ 0) : Ct E 22 [.iface 38 (.int .i64 i), .int .i64 i] [] (fun v Q => v = .bool true ∧ Q = []) := by
  refine fn_enter (hE.fn Tryd.func22) rfl rfl rfl (fun R => ?_)
  simp only [argsL, List.cons_append, List.nil_append]
  refine w_seq (w_region ?_)
  refine l_yield (y_assign rfl) rfl ?_
  refine l_nil (a_then (w_seq (w_region ?_)))
  refine l_yield (y_move rfl) rfl ?_
  apply l_loud (by kernel_rfl) rfl
  apply ld_call (ct_Num hE) rfl (hE.f (by kernel_rfl))
  · ((repeat constructor); done)
  rintro _ _ ⟨rfl, rfl⟩
  simp only [List.cons_append, List.nil_append]
  refine l_yield (y_move rfl) rfl ?_
  refine l_yield (y_eq rfl rfl) rfl ?_
  refine l_yield (y_move rfl) rfl ?_
  refine l_split 9 rfl (fun h => ?_) (fun h => ?_)
  · skip
    refine l_on rfl rfl ?_
    refine l_yield (y_move rfl) rfl ?_
    refine l_on rfl rfl ?_
    refine l_yield (y_ne rfl rfl) rfl ?_
    apply l_yield
    · (first | exact y_pick_t rfl rfl | exact y_pick_f rfl rfl)
    · rfl
    refine l_yield (y_assign rfl) rfl ?_
    refine l_nil (a_then (w_ret ?_))
    apply a_ret
    · rfl
    · (apply Rs.tmp rfl; exact Rs.nil)
    · exact ⟨by simp [one, hi], rfl⟩
    · (apply ent; (repeat constructor); done)
  · exact absurd rfl h
theorem ct_Is_no (hE : Seat E) {i : Int} (hi : i ≠ 0) : Ct E 22 [.nilIface, .int .i64 i] [] (fun v Q => v = .bool false ∧ Q = []) := by
  refine fn_enter (hE.fn Tryd.func22) rfl rfl rfl (fun R => ?_)
  simp only [argsL, List.cons_append, List.nil_append]
  refine w_seq (w_region ?_)
  refine l_yield (y_assign rfl) rfl ?_
  refine l_nil (a_then (w_seq (w_region ?_)))
  refine l_yield (y_move rfl) rfl ?_
  apply l_loud (by kernel_rfl) rfl
  apply ld_call (ct_Num0 hE) rfl (hE.f (by kernel_rfl))
  · ((repeat constructor); done)
  rintro _ _ ⟨rfl, rfl⟩
  simp only [List.cons_append, List.nil_append]
  refine l_yield (y_move rfl) rfl ?_
  refine l_yield (y_eq rfl rfl) rfl ?_
  refine l_yield (y_move rfl) rfl ?_
  refine l_split 9 rfl (fun h => ?_) (fun h => ?_)
  · exact absurd h.symm hi
  · skip
    refine l_off rfl rfl rfl rfl (l_off rfl rfl rfl rfl ?_)
    apply l_yield
    · (first | exact y_pick_t rfl rfl | exact y_pick_f rfl rfl)
    · rfl
    refine l_yield (y_assign rfl) rfl ?_
    refine l_nil (a_then (w_ret ?_))
    apply a_ret
    · rfl
    · (apply Rs.tmp rfl; exact Rs.nil)
    · exact ⟨rfl, rfl⟩
    · (apply ent; (repeat constructor); done)
end Go.Proofs.YtlmdkaniblhdmaaDoor
/- evergreenlaw26.Parser. -/
namespace Go.Proofs.YtlmdkaniblhdmaaDoor
open Go Go.RowKit Sl Eg
set_option maxRecDepth 10000
variable {E : Env}
theorem tx_f (L : List Rl) (i : Nat) : tx L false i = txt L i := rfl
theorem tx_t (L : List Rl) (i : Nat) : tx L true i = (txt L i).reverse := rfl
theorem lit1 : lcp [98, 97, 110, 97, 110, 97] [98, 97, 110, 100, 97, 110, 97] = 3 := by decide
theorem lit2 : lcp ([98, 97, 110, 97, 110, 97] : List UInt8).reverse ([98, 97, 110, 100, 97, 110, 97] : List UInt8).reverse = 3 := by decide
theorem lit3 : lcp (([98, 97, 110, 97, 110, 97] : List UInt8).drop 1) (([98, 97, 110, 97, 110, 97] : List UInt8).drop 3) = 3 := by decide
theorem lit_le : ∀ {A B : List UInt8} {a b : Nat}, A.length = a → B.length = b → a + b ≤ 100 → A.length + B.length < 8388608 := fun h1 h2 h3 => by omega
theorem ct_Parser (hE : Seat E) (hB : Base E.w0) : Ct E 15 [] [] (fun v Q => ∃ pp s tb M, v = .tuple #[.pointer (some ⟨pp, 0, none⟩), .bool true] ∧ M.length ≤ 26 ∧ Q = [cells pp [.pointer (some ⟨s, 0, none⟩), .pointer (some ⟨tb, 0, none⟩)] 108, tabP tb s (rls M), storeP s 1048576 M]) := by
  refine fn_enter (hE.fn Tryd.func15) rfl rfl rfl (fun R => ?_)
  simp only [argsL, List.cons_append, List.nil_append]
  refine w_seq (w_region ?_)
  refine l_yield (y_assign rfl) rfl ?_
  refine l_yield (y_assign rfl) rfl ?_
  refine l_nil (a_then (w_seq (w_region ?_)))
  apply l_loud (by kernel_rfl) rfl
  apply ld_call (ct_intNew (most := 1048576) hE (Nat.le_refl _)) rfl (hE.f (by kernel_rfl))
  · ((repeat constructor); done)
  rintro _ _ ⟨s, rfl, rfl⟩
  simp only [List.cons_append, List.nil_append]
  skip
  apply l_loud (by kernel_rfl) rfl
  apply ld_call (ct_sigNew hE) rfl (hE.f (by kernel_rfl))
  · ((repeat constructor); done)
  rintro _ _ ⟨pp, tb, rfl, rfl⟩
  simp only [List.cons_append, List.nil_append]
  refine l_yield (y_assign rfl) rfl ?_
  refine l_nil (a_then (w_seq (w_seq (w_region ?_))))
  refine l_yield (y_move rfl) rfl ?_
  apply l_yield
  · (first | exact y_eq_ptr rfl (hE.t rfl) | exact y_eq_nil rfl (hE.t rfl))
  · rfl
  refine l_nil (a_then ?_)
  refine w_cond_f rfl ?_
  refine w_skip (a_then (w_seq (w_region ?_)))
  refine l_yield (y_move rfl) rfl ?_
  apply l_loud (by kernel_rfl) rfl
  refine ld_buildSlice (hE.t rfl) (hE.t rfl) rfl rfl rfl (fun b19 => ?_)
  apply l_loud (by kernel_rfl) rfl
  refine ld_mark rfl (hE.t rfl) (hE.t rfl) (by ((repeat constructor); done)) ?_
  skip
  have n1 : ([98, 97, 110, 97, 110, 97] : List UInt8).length ≤ 65536 := by decide
  have r1 : ([] : List Ent).length + 2 * ([98, 97, 110, 97, 110, 97] : List UInt8).length ≤ 1048576 := by decide
  apply l_loud (by kernel_rfl) rfl
  apply ld_call (ct_Of (bs := [98, 97, 110, 97, 110, 97]) hE hB n1 r1) rfl (hE.f (by kernel_rfl))
  · ((repeat constructor); done)
  rintro _ _ ⟨M1, x, rfl, hM1, tx1, gx, -, rfl⟩
  simp only [List.cons_append, List.nil_append]
  refine l_yield (y_move rfl) rfl ?_
  refine l_yield (y_extract rfl rfl) rfl ?_
  refine l_yield (y_extract rfl rfl) rfl ?_
  refine l_yield (y_assign rfl) rfl ?_
  refine l_yield (y_assign rfl) rfl ?_
  refine l_nil (a_then (w_seq (w_region ?_)))
  refine l_yield (y_move rfl) rfl ?_
  apply l_loud (by kernel_rfl) rfl
  refine ld_buildSlice (hE.t rfl) (hE.t rfl) rfl rfl rfl (fun b26 => ?_)
  apply l_loud (by kernel_rfl) rfl
  refine ld_mark rfl (hE.t rfl) (hE.t rfl) (by ((repeat constructor); done)) ?_
  skip
  have n2 : ([98, 97, 110, 100, 97, 110, 97] : List UInt8).length ≤ 65536 := by decide
  have r2 : ([] ++ M1 : List Ent).length + 2 * ([98, 97, 110, 100, 97, 110, 97] : List UInt8).length ≤ 1048576 := by simp at hM1 ⊢; omega
  apply l_loud (by kernel_rfl) rfl
  apply ld_call (ct_Of (bs := [98, 97, 110, 100, 97, 110, 97]) hE hB n2 r2) rfl (hE.f (by kernel_rfl))
  · ((repeat constructor); done)
  rintro _ _ ⟨M2, y, rfl, hM2, ty1, gy, -, rfl⟩
  simp only [List.cons_append, List.nil_append]
  have gx' : good (rls ([] ++ M1 ++ M2)) x := ⟨by have := gx.1; rw [rls_append ([] ++ M1), List.length_append]; omega, by rw [rls_append ([] ++ M1), lvl_ext _ gx.1]; exact gx.2⟩
  have tx2 : txt (rls ([] ++ M1 ++ M2)) x = [98, 97, 110, 97, 110, 97] := by rw [rls_append ([] ++ M1), txt_ext _ gx.1]; exact tx1
  have lx : len (rls ([] ++ M1 ++ M2)) x = 6 := by unfold len; rw [tx2]; rfl
  have ly : len (rls ([] ++ M1 ++ M2)) y = 7 := by unfold len; rw [ty1]; rfl
  have hMM : ([] ++ M1 ++ M2 : List Ent).length ≤ 26 := by simp at hM1 hM2 ⊢; omega
  refine l_yield (y_move rfl) rfl ?_
  refine l_yield (y_extract rfl rfl) rfl ?_
  refine l_yield (y_extract rfl rfl) rfl ?_
  refine l_yield (y_assign rfl) rfl ?_
  refine l_yield (y_assign rfl) rfl ?_
  refine l_nil (a_then (w_seq (w_region ?_)))
  refine l_yield (y_move rfl) rfl ?_
  refine l_yield (y_move rfl) rfl ?_
  refine l_yield (y_move rfl) rfl ?_
  apply l_loud (by kernel_rfl) rfl
  apply ld_call (ct_Common hE hB gx' gy) rfl (hE.f (by kernel_rfl))
  · ((repeat constructor); done)
  rintro _ _ ⟨c1, rfl, -, e1, rfl⟩
  obtain rfl : c1 = 3 := by
    rw [e1 (by rw [tx_length, tx_length]; omega), tx_f, tx_f, tx2, ty1]
    exact lit1
  simp only [List.cons_append, List.nil_append]
  refine l_yield (y_move rfl) rfl ?_
  refine l_yield (y_extract rfl rfl) rfl ?_
  refine l_yield (y_extract rfl rfl) rfl ?_
  refine l_yield (y_assign rfl) rfl ?_
  refine l_yield (y_assign rfl) rfl ?_
  refine l_nil (a_then (w_seq (w_region ?_)))
  refine l_yield (y_move rfl) rfl ?_
  refine l_yield (y_move rfl) rfl ?_
  refine l_yield (y_move rfl) rfl ?_
  apply l_loud (by kernel_rfl) rfl
  apply ld_call (ct_CommonEnd hE hB gx' gy) rfl (hE.f (by kernel_rfl))
  · ((repeat constructor); done)
  rintro _ _ ⟨c2, rfl, -, e2, rfl⟩
  obtain rfl : c2 = 3 := by
    rw [e2 (by rw [tx_length, tx_length]; omega), tx_t, tx_t, tx2, ty1]
    exact lit2
  simp only [List.cons_append, List.nil_append]
  refine l_yield (y_move rfl) rfl ?_
  refine l_yield (y_extract rfl rfl) rfl ?_
  refine l_yield (y_extract rfl rfl) rfl ?_
  refine l_yield (y_assign rfl) rfl ?_
  refine l_yield (y_assign rfl) rfl ?_
  refine l_nil (a_then (w_seq (w_region ?_)))
  refine l_yield (y_move rfl) rfl ?_
  refine l_yield (y_move rfl) rfl ?_
  refine l_yield (y_move rfl) rfl ?_
  apply l_loud (by kernel_rfl) rfl
  apply ld_call (ct_CommonAt (x := 1) (y := 3) hE hB gx' gx' (by omega) (by omega)) rfl (hE.f (by kernel_rfl))
  · ((repeat constructor); done)
  rintro _ _ ⟨c3, rfl, -, e3, rfl⟩
  obtain rfl : c3 = 3 := by
    rw [e3 (by simp only [List.length_drop, tx_length]; omega), tx_f, tx2]
    exact lit3
  simp only [List.cons_append, List.nil_append]
  refine l_yield (y_move rfl) rfl ?_
  refine l_yield (y_extract rfl rfl) rfl ?_
  refine l_yield (y_extract rfl rfl) rfl ?_
  refine l_yield (y_assign rfl) rfl ?_
  refine l_yield (y_assign rfl) rfl ?_
  refine l_nil (a_then (w_seq (w_region ?_)))
  refine l_yield (y_move rfl) rfl ?_
  refine l_yield (y_move rfl) rfl ?_
  apply l_yield
  · (first | exact y_ok_eq rfl (hE.t rfl) | exact y_err_eq rfl (hE.t rfl))
  · rfl
  refine l_yield (y_move rfl) rfl ?_
  skip
  refine l_on rfl rfl ?_
  refine l_yield (y_move rfl) rfl ?_
  refine l_on rfl rfl ?_
  apply l_yield
  · (first | exact y_ok_eq rfl (hE.t rfl) | exact y_err_eq rfl (hE.t rfl))
  · rfl
  apply l_yield
  · (first | exact y_pick_t rfl rfl | exact y_pick_f rfl rfl)
  · rfl
  refine l_yield (y_move rfl) rfl ?_
  skip
  refine l_on rfl rfl ?_
  refine l_yield (y_move rfl) rfl ?_
  refine l_on rfl rfl ?_
  apply l_yield
  · (first | exact y_ok_eq rfl (hE.t rfl) | exact y_err_eq rfl (hE.t rfl))
  · rfl
  apply l_yield
  · (first | exact y_pick_t rfl rfl | exact y_pick_f rfl rfl)
  · rfl
  refine l_yield (y_move rfl) rfl ?_
  skip
  refine l_on rfl rfl ?_
  refine l_yield (y_move rfl) rfl ?_
  refine l_on rfl rfl ?_
  apply l_yield
  · (first | exact y_ok_eq rfl (hE.t rfl) | exact y_err_eq rfl (hE.t rfl))
  · rfl
  apply l_yield
  · (first | exact y_pick_t rfl rfl | exact y_pick_f rfl rfl)
  · rfl
  refine l_yield (y_move rfl) rfl ?_
  skip
  refine l_on rfl rfl ?_
  refine l_yield (y_move rfl) rfl ?_
  refine l_on rfl rfl ?_
  apply l_yield
  · (first | exact y_ok_eq rfl (hE.t rfl) | exact y_err_eq rfl (hE.t rfl))
  · rfl
  apply l_yield
  · (first | exact y_pick_t rfl rfl | exact y_pick_f rfl rfl)
  · rfl
  refine l_yield (y_move rfl) rfl ?_
  skip
  refine l_on rfl rfl ?_
  refine l_yield (y_move rfl) rfl ?_
  refine l_on rfl rfl ?_
  refine l_yield (y_eq rfl rfl) rfl ?_
  apply l_yield
  · (first | exact y_pick_t rfl rfl | exact y_pick_f rfl rfl)
  · rfl
  refine l_yield (y_move rfl) rfl ?_
  skip
  refine l_on rfl rfl ?_
  refine l_yield (y_move rfl) rfl ?_
  refine l_on rfl rfl ?_
  refine l_yield (y_eq rfl rfl) rfl ?_
  apply l_yield
  · (first | exact y_pick_t rfl rfl | exact y_pick_f rfl rfl)
  · rfl
  refine l_yield (y_move rfl) rfl ?_
  skip
  refine l_on rfl rfl ?_
  refine l_yield (y_move rfl) rfl ?_
  refine l_on rfl rfl ?_
  refine l_yield (y_eq rfl rfl) rfl ?_
  apply l_yield
  · (first | exact y_pick_t rfl rfl | exact y_pick_f rfl rfl)
  · rfl
  refine l_yield (y_assign rfl) rfl ?_
  refine l_yield (y_assign rfl) rfl ?_
  refine l_nil (a_then (w_ret ?_))
  apply a_ret
  · rfl
  · (apply Rs.tmp rfl; apply Rs.tmp rfl; exact Rs.nil)
  · exact ⟨pp, s, tb, [] ++ M1 ++ M2, rfl, hMM, rfl⟩
  · (apply ent; (repeat constructor); done)
end Go.Proofs.YtlmdkaniblhdmaaDoor
