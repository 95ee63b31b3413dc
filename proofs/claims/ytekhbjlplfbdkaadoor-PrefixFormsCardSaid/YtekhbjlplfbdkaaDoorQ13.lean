/- intern.New. -/
import Derived.Test.YtekhbjlplfbdkaaDoorQ11
import Derived.Test.YtekhbjlplfbdkaaDoorQ12
import Derived.Laws.IdiomStrings
import Derived.Laws.Strings
set_option linter.unusedVariables false
set_option linter.unusedSimpArgs false
namespace Sl
open Go Go.RowKit
variable {E : Env} {n : Nat} {L : Fr} {S H H' : List HP} {ty : TypeId} {pos : String} {af : Array Edge} {d : Option Nat} {gd : Option (Nat × Bool)} {K : Value → List HP → Prop} {Q : Exit → Act → World → Prop}
theorem ld_makeMap {t : TypeId} (hk : ∀ b, K (.map (some b)) (pt b (.map #[] 0) :: H)) : Ld E n L H ⟨d, .makeMap t none, ty, pos, af, gd⟩ K := fun Q next a w G hn => by
  have hrun : (execOp a.eval ⟨d, .makeMap t none, ty, pos, af, gd⟩).run E.P w = .ok (.value (.map (some w.heap.size))) (w.alloc (.map #[] 0)) := by
    simp [execOp, Instr.makeMap]
  unfold Oper.wp
  rw [hrun, Oper.upon_value]
  exact hn _ _ _ (hk _) (G.hp.new _)
theorem wa_sat {e : Exit} (hH : ∀ w, Sat E.w0 w H → Sat E.w0 w H') (h : AT E Q e n L H') : AT E Q e n L H := fun a w g => h a w ⟨g.f, hH w g.hp⟩
end Sl
namespace Go.Proofs.YtekhbjlplfbdkaaDoor
open Go Go.RowKit Sl Eg
set_option maxRecDepth 10000
variable {E : Env}
theorem wf_nil : Wf [] := ⟨fun i r h => by simp at h, fun i j r h => by simp at h, fun i => by cases i <;> simp [len, txt, nth, tab], by simp⟩
theorem store_new {w0 w : World} {H : List HP} {s bm most : Nat} (hm : most ≤ maxRules) (h : Sat w0 w (cells s [.int .i64 most, .slice none 0 0, .map (some bm)] 74 :: pt bm (.map #[] 0) :: H)) : Sat w0 w (storeP s most [] :: H) := by
  have h1 := (h.ptr).1
  have h2 := (h.tail.ptr).1
  have hs : StoreAt w s most [] (.slice none 0 0) bm := ⟨h1, ⟨rfl, .inl ⟨rfl, rfl⟩⟩, h2, wf_nil, fun i x h => by simp at h, hm, Nat.zero_le _⟩
  refine h.imp fun k hk => stars_pack (ps := [cells s [.int .i64 most, .slice none 0 0, .map (some bm)] 74, pt bm (.map #[] 0)]) (fun j hj => ?_) hk
  obtain ⟨k1, k2, dj, rfl, e1, k3, k4, dj2, rfl, e2, _⟩ := hj
  refine ⟨w, _, bm, hs, fun b hb => ?_⟩
  have e1' : k1 s = _ := e1
  have e2' : k3 bm = _ := e2
  rcases hb with rfl | rfl | hb
  · rw [h1]; simp [join, e1']
  · rw [h2]
    have : k1 b = none := by
      rcases dj b with h | h
      · exact h
      · simp [join, e2'] at h
    simp [join, this, e2']
  · cases hb
theorem ct_Clip (hE : Seat E) {m lo hi : Int} (h1 : ¬ m < lo) (h2 : ¬ hi < m) : Ct E 27 [.int .i64 m, .int .i64 lo, .int .i64 hi] [] (fun v Q => v = .int .i64 m ∧ Q = []) := by
  apply ct_same
  intro w
  rw [hE.P]
  refine (length_clip m lo hi w).mono ?_
  rintro e w' ⟨e1, e2⟩
  rw [if_neg h1, if_neg h2] at e1
  exact ⟨e1, e2⟩
theorem ct_intNew (hE : Seat E) {most : Nat} (hm : most ≤ maxRules) : Ct E 8 [.int .i64 (most : Nat)] [] (fun v Q => ∃ s, v = .pointer (some ⟨s, 0, none⟩) ∧ Q = [storeP s most []]) := by
  have hmx : maxRules = 1048576 := rfl
  have c1 : ¬ ((most : Nat) : Int) < 0 := by omega
  have c2 : ¬ (1048576 : Int) < ((most : Nat) : Int) := by omega
  refine fn_enter (hE.fn Tryd.func8) rfl rfl rfl (fun R => ?_)
  simp only [argsL, List.cons_append, List.nil_append]
  refine w_seq (wR ?_)
  refine lY (yA rfl) rfl ?_
  refine l_nil (aT (w_seq (wR ?_)))
  refine lY (yM rfl) rfl ?_
  apply lL (by kernel_rfl) rfl
  apply ld_call (ct_Clip hE c1 c2) rfl (hE.f (by kernel_rfl))
  · ((repeat constructor); done)
  rintro _ _ ⟨rfl, rfl⟩
  simp only [List.cons_append, List.nil_append]
  skip
  apply lL (by kernel_rfl) rfl
  refine ld_makeMap (fun b5 => ?_)
  apply lY
  · (first | exact y_build (hE.t rfl) rfl rfl | exact y_buildA (hE.t rfl) rfl rfl)
  · rfl
  apply lL (by kernel_rfl) rfl
  refine ld_box rfl (fun b7 => ?_)
  refine lY (yA rfl) rfl ?_
  refine l_nil (aT (w_ret ?_))
  refine wa_sat (H' := storeP b7 most [] :: [R]) (fun w h => store_new (bm := b5) hm (h.imp ?_)) ?_
  · (apply ent; (repeat constructor); done)
  apply a_ret
  · rfl
  · (apply Rs.tmp rfl; exact Rs.nil)
  · exact ⟨b7, rfl, rfl⟩
  · (apply ent; (repeat constructor); done)
end Go.Proofs.YtekhbjlplfbdkaaDoor
namespace Sl
open Go Go.RowKit
variable {E : Env} {n : Nat} {L : Fr} {S H H' : List HP} {ty : TypeId} {pos : String} {af : Array Edge} {d : Option Nat} {gd : Option (Nat × Bool)} {K : Value → List HP → Prop} {Q : Exit → Act → World → Prop}
theorem ld_mark {x : Operand} {t e bt : TypeId} {us : List Value} {g a c s by_ sz1 sz2 : Nat} {zs1 zs2 : List Value} (hx : ev L x = some (.slice (some ⟨g, 0, none⟩) a c)) (ht : E.tab t = some ⟨.slice e s by_, sz1, zs1⟩) (he : E.tab e = some ⟨.int .u8, sz2, zs2⟩) (hm : Take (cells g us bt) H H')
    (hk : K (.slice (some ⟨g, 0, none⟩) a c) (ro g us :: H')) : Ld E n L H ⟨d, .convert t t x, ty, pos, af, gd⟩ K := fun Q next A w G hn => by
  obtain ⟨hd, _⟩ := tab_slice ht
  have s1 := G.hp.take hm
  have hp := (s1.ptr).1
  have hsh : w.shape? g = some (bt, us.length) := by unfold World.shape?; rw [hp]; rfl
  have hrun : (execOp A.eval ⟨d, .convert t t x, ty, pos, af, gd⟩).run E.P w = .ok (.value (.slice (some ⟨g, 0, none⟩) a c)) (w.freeze ⟨g, us.length, none⟩ 1) := by
    simp [execOp, convert, underlying, program, Sem.run, hd, tab_int he, G.f.ev hx, markStringish, shape, freeze, hsh]
  unfold Oper.wp
  rw [hrun, Oper.upon_value]
  refine hn _ _ _ hk ?_
  have hw : Sat E.w0 (w.freeze ⟨g, us.length, none⟩ 1) (pt g (.cells ⟨us⟩ bt (us.length, us.length + 1)) :: H') := Sat.write s1 ⟨rfl, rfl, rfl, by simp [World.freeze]⟩ (by simp [World.freeze, Array.getElem?_modify, hp]) (fun k hk => by simp [World.freeze, Array.getElem?_modify, Ne.symm hk])
  exact hw.imp fun _ => stars_head fun k h => ⟨_, _, _, h, fun i v hv => by simpa using hv⟩
end Sl
namespace Sl
open Go Go.RowKit
variable {E : Env} {n : Nat} {L : Fr} {S : List HP} {ty : TypeId} {pos : String} {af : Array Edge} {d : Option Nat} {gd : Option (Nat × Bool)}
theorem y_assert_int {x : Operand} {xt t : TypeId} {k : IntKind} {v : Value} {sz : Nat} {zs : List Value} (hx : ev L x = some (.iface t v)) (ht : E.tab t = some ⟨.int k, sz, zs⟩) :
    Yl E n L S ⟨d, .typeAssert x xt t true, ty, pos, af, gd⟩ (.tuple #[v, .bool true]) := fun a w g _ => by
  simp [execOp, Instr.typeAssert, run_underlying (tab_int ht), g.ev hx]
variable {H : List HP} {Q : Exit → Act → World → Prop}
end Sl
namespace Go.Proofs.YtekhbjlplfbdkaaDoor
open Go Go.RowKit Sl Eg
set_option maxRecDepth 10000
variable {E : Env}
theorem ct_Num (hE : Seat E) {i : Int} : Ct E 41 [.iface 43 (.int .i64 i)] [] (fun v Q => v = .int .i64 i ∧ Q = []) := by
  refine fn_enter (hE.fn Tryd.func41) rfl rfl rfl (fun R => ?_)
  simp only [argsL, List.cons_append, List.nil_append]
  refine w_seq (wR ?_)
  refine lY (yA rfl) rfl ?_
  refine l_nil (aT (w_seq (w_seq (wR ?_))))
  refine lY (yM rfl) rfl ?_
  apply lY
  · (first | exact y_ok_eq rfl (hE.t rfl) | exact y_err_eq rfl (hE.t rfl))
  · rfl
  refine l_nil (aT ?_)
  refine w_cond_f rfl ?_
  refine w_skip (aT (w_seq (wR ?_)))
  refine lY (yM rfl) rfl ?_
  apply lY
  · exact y_assert_int rfl (hE.t rfl)
  · rfl
  refine lY (yM rfl) rfl ?_
  refine lY (y_extract rfl rfl) rfl ?_
  refine lY (y_extract rfl rfl) rfl ?_
  refine lY (yA rfl) rfl ?_
  refine lY (yA rfl) rfl ?_
  refine l_nil (aT (w_seq (w_seq (wR ?_))))
  refine lY (yM rfl) rfl ?_
  refine lY (y_not rfl) rfl ?_
  refine l_nil (aT ?_)
  refine w_cond_f rfl ?_
  refine w_skip (aT (w_seq (wR ?_)))
  refine lY (yM rfl) rfl ?_
  refine lY (yA rfl) rfl ?_
  refine l_nil (aT (w_ret ?_))
  apply a_ret
  · rfl
  · (apply Rs.tmp rfl; exact Rs.nil)
  · exact ⟨rfl, rfl⟩
  · (apply ent; (repeat constructor); done)
theorem ct_Is (hE : Seat E) {i : Int} (hi : i ≠ 0) : Ct E 20 [.iface 43 (.int .i64 i), .int .i64 i] [] (fun v Q => v = .bool true ∧ Q = []) := by
  refine fn_enter (hE.fn Tryd.func20) rfl rfl rfl (fun R => ?_)
  simp only [argsL, List.cons_append, List.nil_append]
  refine w_seq (wR ?_)
  refine lY (yA rfl) rfl ?_
  refine l_nil (aT (w_seq (wR ?_)))
  refine lY (yM rfl) rfl ?_
  apply lL (by kernel_rfl) rfl
  apply ld_call (ct_Num hE) rfl (hE.f (by kernel_rfl))
  · ((repeat constructor); done)
  rintro _ _ ⟨rfl, rfl⟩
  simp only [List.cons_append, List.nil_append]
  refine lY (yM rfl) rfl ?_
  refine lY (y_eq rfl rfl) rfl ?_
  refine lY (yM rfl) rfl ?_
  refine l_split 9 rfl (fun h => ?_) (fun h => ?_)
  · skip
    refine l_on rfl rfl ?_
    refine lY (yM rfl) rfl ?_
    refine l_on rfl rfl ?_
    refine lY (y_ne rfl rfl) rfl ?_
    apply lY
    · (first | exact y_pick_t rfl rfl | exact y_pick_f rfl rfl)
    · rfl
    refine lY (yA rfl) rfl ?_
    refine l_nil (aT (w_ret ?_))
    apply a_ret
    · rfl
    · (apply Rs.tmp rfl; exact Rs.nil)
    · exact ⟨by simp [one, hi], rfl⟩
    · (apply ent; (repeat constructor); done)
  · exact absurd rfl h
end Go.Proofs.YtekhbjlplfbdkaaDoor
namespace Go.Proofs.YtekhbjlplfbdkaaDoor
open Go Go.RowKit Sl Eg
set_option maxRecDepth 10000
variable {E : Env}
theorem tx_f (L : List Rl) (i : Nat) : tx L false i = txt L i := rfl
theorem tx_t (L : List Rl) (i : Nat) : tx L true i = (txt L i).reverse := rfl
theorem lit1 : lcp [98, 97, 110, 97, 110, 97] [98, 97, 110, 100, 97, 110, 97] = 3 := by decide
theorem lit2 : lcp ([98, 97, 110, 97, 110, 97] : List UInt8).reverse ([98, 97, 110, 100, 97, 110, 97] : List UInt8).reverse = 3 := by decide
theorem lit3 : lcp (([98, 97, 110, 97, 110, 97] : List UInt8).drop 1) (([98, 97, 110, 97, 110, 97] : List UInt8).drop 3) = 3 := by decide
theorem ct_Parser (hE : Seat E) (hB : Base E.w0) : Ct E 7 [] [] (fun v Q => ∃ pp s tb M, v = .tuple #[.pointer (some ⟨pp, 0, none⟩), .bool true] ∧ M.length ≤ 26 ∧ Q = [cells pp [.pointer (some ⟨s, 0, none⟩), .pointer (some ⟨tb, 0, none⟩)] 78, tabP tb s (rls M), storeP s 1048576 M]) := by
  refine fn_enter (hE.fn Tryd.func7) rfl rfl rfl (fun R => ?_)
  simp only [argsL, List.cons_append, List.nil_append]
  refine w_seq (wR ?_)
  refine lY (yA rfl) rfl ?_
  refine lY (yA rfl) rfl ?_
  refine l_nil (aT (w_seq (wR ?_)))
  apply lL (by kernel_rfl) rfl
  apply ld_call (ct_intNew (most := 1048576) hE (Nat.le_refl _)) rfl (hE.f (by kernel_rfl))
  · ((repeat constructor); done)
  rintro _ _ ⟨s, rfl, rfl⟩
  simp only [List.cons_append, List.nil_append]
  skip
  apply lL (by kernel_rfl) rfl
  apply ld_call (ct_sigNew hE) rfl (hE.f (by kernel_rfl))
  · ((repeat constructor); done)
  rintro _ _ ⟨pp, tb, rfl, rfl⟩
  simp only [List.cons_append, List.nil_append]
  refine lY (yA rfl) rfl ?_
  refine l_nil (aT (w_seq (w_seq (wR ?_))))
  refine lY (yM rfl) rfl ?_
  apply lY
  · (first | exact y_eq_ptr rfl (hE.t rfl) | exact y_eq_nil rfl (hE.t rfl))
  · rfl
  refine l_nil (aT ?_)
  refine w_cond_f rfl ?_
  refine w_skip (aT (w_seq (wR ?_)))
  refine lY (yM rfl) rfl ?_
  apply lL (by kernel_rfl) rfl
  refine ld_buildSlice (hE.t rfl) (hE.t rfl) rfl rfl rfl (fun b19 => ?_)
  apply lL (by kernel_rfl) rfl
  refine ld_mark rfl (hE.t rfl) (hE.t rfl) (by ((repeat constructor); done)) ?_
  skip
  have n1 : ([98, 97, 110, 97, 110, 97] : List UInt8).length ≤ 65536 := by decide
  have r1 : ([] : List Ent).length + 2 * ([98, 97, 110, 97, 110, 97] : List UInt8).length ≤ 1048576 := by decide
  apply lL (by kernel_rfl) rfl
  apply ld_call (ct_Of (bs := [98, 97, 110, 97, 110, 97]) hE hB n1 r1) rfl (hE.f (by kernel_rfl))
  · ((repeat constructor); done)
  rintro _ _ ⟨M1, x, rfl, hM1, tx1, gx, -, rfl⟩
  simp only [List.cons_append, List.nil_append]
  refine lY (yM rfl) rfl ?_
  refine lY (y_extract rfl rfl) rfl ?_
  refine lY (y_extract rfl rfl) rfl ?_
  refine lY (yA rfl) rfl ?_
  refine lY (yA rfl) rfl ?_
  refine l_nil (aT (w_seq (wR ?_)))
  refine lY (yM rfl) rfl ?_
  apply lL (by kernel_rfl) rfl
  refine ld_buildSlice (hE.t rfl) (hE.t rfl) rfl rfl rfl (fun b26 => ?_)
  apply lL (by kernel_rfl) rfl
  refine ld_mark rfl (hE.t rfl) (hE.t rfl) (by ((repeat constructor); done)) ?_
  skip
  have n2 : ([98, 97, 110, 100, 97, 110, 97] : List UInt8).length ≤ 65536 := by decide
  have r2 : ([] ++ M1 : List Ent).length + 2 * ([98, 97, 110, 100, 97, 110, 97] : List UInt8).length ≤ 1048576 := by simp at hM1 ⊢; omega
  apply lL (by kernel_rfl) rfl
  apply ld_call (ct_Of (bs := [98, 97, 110, 100, 97, 110, 97]) hE hB n2 r2) rfl (hE.f (by kernel_rfl))
  · ((repeat constructor); done)
  rintro _ _ ⟨M2, y, rfl, hM2, ty1, gy, -, rfl⟩
  simp only [List.cons_append, List.nil_append]
  have gx' : good (rls ([] ++ M1 ++ M2)) x := ⟨by have := gx.1; rw [rls_append ([] ++ M1), List.length_append]; omega, by rw [rls_append ([] ++ M1), lvl_ext _ gx.1]; exact gx.2⟩
  have tx2 : txt (rls ([] ++ M1 ++ M2)) x = [98, 97, 110, 97, 110, 97] := by rw [rls_append ([] ++ M1), txt_ext _ gx.1]; exact tx1
  have lx : len (rls ([] ++ M1 ++ M2)) x = 6 := by unfold len; rw [tx2]; rfl
  have ly : len (rls ([] ++ M1 ++ M2)) y = 7 := by unfold len; rw [ty1]; rfl
  have hMM : ([] ++ M1 ++ M2 : List Ent).length ≤ 26 := by simp at hM1 hM2 ⊢; omega
  refine lY (yM rfl) rfl ?_
  refine lY (y_extract rfl rfl) rfl ?_
  refine lY (y_extract rfl rfl) rfl ?_
  refine lY (yA rfl) rfl ?_
  refine lY (yA rfl) rfl ?_
  refine l_nil (aT (w_seq (wR ?_)))
  refine lY (yM rfl) rfl ?_
  refine lY (yM rfl) rfl ?_
  refine lY (yM rfl) rfl ?_
  apply lL (by kernel_rfl) rfl
  apply ld_call (ct_Common hE hB gx' gy) rfl (hE.f (by kernel_rfl))
  · ((repeat constructor); done)
  rintro _ _ ⟨c1, rfl, -, e1, rfl⟩
  obtain rfl : c1 = 3 := by
    rw [e1 (by rw [tx_length, tx_length]; omega), tx_f, tx_f, tx2, ty1]
    exact lit1
  simp only [List.cons_append, List.nil_append]
  refine lY (yM rfl) rfl ?_
  refine lY (y_extract rfl rfl) rfl ?_
  refine lY (y_extract rfl rfl) rfl ?_
  refine lY (yA rfl) rfl ?_
  refine lY (yA rfl) rfl ?_
  refine l_nil (aT (w_seq (wR ?_)))
  refine lY (yM rfl) rfl ?_
  refine lY (yM rfl) rfl ?_
  refine lY (yM rfl) rfl ?_
  apply lL (by kernel_rfl) rfl
  apply ld_call (ct_CommonEnd hE hB gx' gy) rfl (hE.f (by kernel_rfl))
  · ((repeat constructor); done)
  rintro _ _ ⟨c2, rfl, -, e2, rfl⟩
  obtain rfl : c2 = 3 := by
    rw [e2 (by rw [tx_length, tx_length]; omega), tx_t, tx_t, tx2, ty1]
    exact lit2
  simp only [List.cons_append, List.nil_append]
  refine lY (yM rfl) rfl ?_
  refine lY (y_extract rfl rfl) rfl ?_
  refine lY (y_extract rfl rfl) rfl ?_
  refine lY (yA rfl) rfl ?_
  refine lY (yA rfl) rfl ?_
  refine l_nil (aT (w_seq (wR ?_)))
  refine lY (yM rfl) rfl ?_
  refine lY (yM rfl) rfl ?_
  refine lY (yM rfl) rfl ?_
  apply lL (by kernel_rfl) rfl
  apply ld_call (ct_CommonAt (x := 1) (y := 3) hE hB gx' gx' (by omega) (by omega)) rfl (hE.f (by kernel_rfl))
  · ((repeat constructor); done)
  rintro _ _ ⟨c3, rfl, -, e3, rfl⟩
  obtain rfl : c3 = 3 := by
    rw [e3 (by simp only [List.length_drop, tx_length]; omega), tx_f, tx2]
    exact lit3
  simp only [List.cons_append, List.nil_append]
  refine lY (yM rfl) rfl ?_
  refine lY (y_extract rfl rfl) rfl ?_
  refine lY (y_extract rfl rfl) rfl ?_
  refine lY (yA rfl) rfl ?_
  refine lY (yA rfl) rfl ?_
  refine l_nil (aT (w_seq (wR ?_)))
  refine lY (yM rfl) rfl ?_
  refine lY (yM rfl) rfl ?_
  apply lY
  · (first | exact y_ok_eq rfl (hE.t rfl) | exact y_err_eq rfl (hE.t rfl))
  · rfl
  refine lY (yM rfl) rfl ?_
  skip
  refine l_on rfl rfl ?_
  refine lY (yM rfl) rfl ?_
  refine l_on rfl rfl ?_
  apply lY
  · (first | exact y_ok_eq rfl (hE.t rfl) | exact y_err_eq rfl (hE.t rfl))
  · rfl
  apply lY
  · (first | exact y_pick_t rfl rfl | exact y_pick_f rfl rfl)
  · rfl
  refine lY (yM rfl) rfl ?_
  skip
  refine l_on rfl rfl ?_
  refine lY (yM rfl) rfl ?_
  refine l_on rfl rfl ?_
  apply lY
  · (first | exact y_ok_eq rfl (hE.t rfl) | exact y_err_eq rfl (hE.t rfl))
  · rfl
  apply lY
  · (first | exact y_pick_t rfl rfl | exact y_pick_f rfl rfl)
  · rfl
  refine lY (yM rfl) rfl ?_
  skip
  refine l_on rfl rfl ?_
  refine lY (yM rfl) rfl ?_
  refine l_on rfl rfl ?_
  apply lY
  · (first | exact y_ok_eq rfl (hE.t rfl) | exact y_err_eq rfl (hE.t rfl))
  · rfl
  apply lY
  · (first | exact y_pick_t rfl rfl | exact y_pick_f rfl rfl)
  · rfl
  refine lY (yM rfl) rfl ?_
  skip
  refine l_on rfl rfl ?_
  refine lY (yM rfl) rfl ?_
  refine l_on rfl rfl ?_
  apply lY
  · (first | exact y_ok_eq rfl (hE.t rfl) | exact y_err_eq rfl (hE.t rfl))
  · rfl
  apply lY
  · (first | exact y_pick_t rfl rfl | exact y_pick_f rfl rfl)
  · rfl
  refine lY (yM rfl) rfl ?_
  skip
  refine l_on rfl rfl ?_
  refine lY (yM rfl) rfl ?_
  refine l_on rfl rfl ?_
  refine lY (y_eq rfl rfl) rfl ?_
  apply lY
  · (first | exact y_pick_t rfl rfl | exact y_pick_f rfl rfl)
  · rfl
  refine lY (yM rfl) rfl ?_
  skip
  refine l_on rfl rfl ?_
  refine lY (yM rfl) rfl ?_
  refine l_on rfl rfl ?_
  refine lY (y_eq rfl rfl) rfl ?_
  apply lY
  · (first | exact y_pick_t rfl rfl | exact y_pick_f rfl rfl)
  · rfl
  refine lY (yM rfl) rfl ?_
  skip
  refine l_on rfl rfl ?_
  refine lY (yM rfl) rfl ?_
  refine l_on rfl rfl ?_
  refine lY (y_eq rfl rfl) rfl ?_
  apply lY
  · (first | exact y_pick_t rfl rfl | exact y_pick_f rfl rfl)
  · rfl
  refine lY (yA rfl) rfl ?_
  refine lY (yA rfl) rfl ?_
  refine l_nil (aT (w_ret ?_))
  apply a_ret
  · rfl
  · (apply Rs.tmp rfl; apply Rs.tmp rfl; exact Rs.nil)
  · exact ⟨pp, s, tb, [] ++ M1 ++ M2, rfl, hMM, rfl⟩
  · (apply ent; (repeat constructor); done)
end Go.Proofs.YtekhbjlplfbdkaaDoor
