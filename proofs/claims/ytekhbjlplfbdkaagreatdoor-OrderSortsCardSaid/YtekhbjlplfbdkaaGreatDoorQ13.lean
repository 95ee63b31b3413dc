/- intern.New. -/
import Derived.Test.YtekhbjlplfbdkaaGreatDoorQ11
import Derived.Test.YtekhbjlplfbdkaaGreatDoorQ12
import Derived.Laws.IdiomStrings
import Derived.Laws.Strings
set_option linter.unusedVariables false
set_option linter.unusedSimpArgs false
namespace Sl
open Go Go.RowKit
variable {E : Env} {n : Nat} {L : Fr} {S H H' : List HP} {ty : TypeId} {pos : String} {af : Array Edge} {d : Option Nat} {gd : Option (Nat × Bool)} {K : Value → List HP → Prop} {Q : Exit → Act → World → Prop}
theorem ld_makeMap {t : TypeId} (hk : ∀ b, K (.map (some b)) (pt b (.map #[] 0) :: H)) : Ld E n L H ⟨d, .makeMap t none, ty, pos, af, gd⟩ K := fun Q next a w G hn => by
  have hrun : (execOp a.eval ⟨d, .makeMap t none, ty, pos, af, gd⟩).run E.P w = .ok (.value (.map (some w.heap.size))) (w.alloc (.map #[] 0)) := by
    simp [execOp, Instr.makeMap]
  unfold Oper.wp
  rw [hrun, Oper.upon_value]
  exact hn _ _ _ (hk _) (G.hp.new _)
theorem wa_sat {e : Exit} (hH : ∀ w, Sat E.w0 w H → Sat E.w0 w H') (h : AT E Q e n L H') : AT E Q e n L H := fun a w g => h a w ⟨g.f, hH w g.hp⟩
end Sl
namespace Go.Proofs.YtekhbjlplfbdkaaGreatDoor
open Go Go.RowKit Sl Eg
set_option maxRecDepth 10000
variable {E : Env}
theorem wf_nil : Wf [] := ⟨fun i r h => by simp at h, fun i j r h => by simp at h, fun i => by cases i <;> simp [len, txt, nth, tab], by simp⟩
theorem store_new {w0 w : World} {H : List HP} {s bm most : Nat} (hm : most ≤ maxRules) (h : Sat w0 w (cells s [.int .i64 most, .slice none 0 0, .map (some bm)] 81 :: pt bm (.map #[] 0) :: H)) : Sat w0 w (storeP s most [] :: H) := by
  have h1 := (h.ptr).1
  have h2 := (h.tail.ptr).1
  have hs : StoreAt w s most [] (.slice none 0 0) bm := ⟨h1, ⟨rfl, .inl ⟨rfl, rfl⟩⟩, h2, wf_nil, fun i x h => by simp at h, hm, Nat.zero_le _⟩
  refine h.imp fun k hk => stars_pack (ps := [cells s [.int .i64 most, .slice none 0 0, .map (some bm)] 81, pt bm (.map #[] 0)]) (fun j hj => ?_) hk
  obtain ⟨k1, k2, dj, rfl, e1, k3, k4, dj2, rfl, e2, _⟩ := hj
  refine ⟨w, _, bm, hs, fun b hb => ?_⟩
  have e1' : k1 s = _ := e1
  have e2' : k3 bm = _ := e2
  rcases hb with rfl | rfl | hb
  · rw [h1]; simp [join, e1']
  · rw [h2]
    have : k1 b = none := by
      rcases dj b with h | h
      · exact h
      · simp [join, e2'] at h
    simp [join, this, e2']
  · cases hb
theorem ct_Clip (hE : Seat E) {m lo hi : Int} (h1 : ¬ m < lo) (h2 : ¬ hi < m) : Ct E 43 [.int .i64 m, .int .i64 lo, .int .i64 hi] [] (fun v Q => v = .int .i64 m ∧ Q = []) := by
  apply ct_same
  intro w
  rw [hE.P]
  refine (length_clip m lo hi w).mono ?_
  rintro e w' ⟨e1, e2⟩
  rw [if_neg h1, if_neg h2] at e1
  exact ⟨e1, e2⟩
theorem ct_intNew (hE : Seat E) {most : Nat} (hm : most ≤ maxRules) : Ct E 20 [.int .i64 (most : Nat)] [] (fun v Q => ∃ s, v = .pointer (some ⟨s, 0, none⟩) ∧ Q = [storeP s most []]) := by
  have hmx : maxRules = 1048576 := rfl
  have c1 : ¬ ((most : Nat) : Int) < 0 := by omega
  have c2 : ¬ (1048576 : Int) < ((most : Nat) : Int) := by omega
  refine fn_enter (hE.fn Tryz.func20) rfl rfl rfl (fun R => ?_)
  simp only [argsL, List.cons_append, List.nil_append]
  refine w_seq (wR ?_)
  refine lY (yA rfl) rfl ?_
  refine l_nil (aT (w_seq (wR ?_)))
  refine lY (yM rfl) rfl ?_
  apply lL (by kernel_rfl) rfl
  apply ld_call (ct_Clip hE c1 c2) rfl (hE.f (by kernel_rfl))
  · ((repeat constructor); done)
  rintro _ _ ⟨rfl, rfl⟩
  simp only [List.cons_append, List.nil_append]
  skip
  apply lL (by kernel_rfl) rfl
  refine ld_makeMap (fun b5 => ?_)
  apply lY
  · (first | exact y_build (hE.t rfl) rfl rfl | exact y_buildA (hE.t rfl) rfl rfl)
  · rfl
  apply lL (by kernel_rfl) rfl
  refine ld_box rfl (fun b7 => ?_)
  refine lY (yA rfl) rfl ?_
  refine l_nil (aT (w_ret ?_))
  refine wa_sat (H' := storeP b7 most [] :: [R]) (fun w h => store_new (bm := b5) hm (h.imp ?_)) ?_
  · (apply ent; (repeat constructor); done)
  apply a_ret
  · rfl
  · (apply Rs.tmp rfl; exact Rs.nil)
  · exact ⟨b7, rfl, rfl⟩
  · (apply ent; (repeat constructor); done)
end Go.Proofs.YtekhbjlplfbdkaaGreatDoor
namespace Sl
open Go Go.RowKit
variable {E : Env} {n : Nat} {L : Fr} {S H H' : List HP} {ty : TypeId} {pos : String} {af : Array Edge} {d : Option Nat} {gd : Option (Nat × Bool)} {K : Value → List HP → Prop} {Q : Exit → Act → World → Prop}
theorem ld_mark {x : Operand} {t e bt : TypeId} {us : List Value} {g a c s by_ sz1 sz2 : Nat} {zs1 zs2 : List Value} (hx : ev L x = some (.slice (some ⟨g, 0, none⟩) a c)) (ht : E.tab t = some ⟨.slice e s by_, sz1, zs1⟩) (he : E.tab e = some ⟨.int .u8, sz2, zs2⟩) (hm : Take (cells g us bt) H H')
    (hk : K (.slice (some ⟨g, 0, none⟩) a c) (ro g us :: H')) : Ld E n L H ⟨d, .convert t t x, ty, pos, af, gd⟩ K := fun Q next A w G hn => by
  obtain ⟨hd, _⟩ := tab_slice ht
  have s1 := G.hp.take hm
  have hp := (s1.ptr).1
  have hsh : w.shape? g = some (bt, us.length) := by unfold World.shape?; rw [hp]; rfl
  have hrun : (execOp A.eval ⟨d, .convert t t x, ty, pos, af, gd⟩).run E.P w = .ok (.value (.slice (some ⟨g, 0, none⟩) a c)) (w.freeze ⟨g, us.length, none⟩ 1) := by
    simp [execOp, convert, underlying, program, Sem.run, hd, tab_int he, G.f.ev hx, markStringish, shape, freeze, hsh]
  unfold Oper.wp
  rw [hrun, Oper.upon_value]
  refine hn _ _ _ hk ?_
  have hw : Sat E.w0 (w.freeze ⟨g, us.length, none⟩ 1) (pt g (.cells ⟨us⟩ bt (us.length, us.length + 1)) :: H') := Sat.write s1 ⟨rfl, rfl, rfl, by simp [World.freeze]⟩ (by simp [World.freeze, Array.getElem?_modify, hp]) (fun k hk => by simp [World.freeze, Array.getElem?_modify, Ne.symm hk])
  exact hw.imp fun _ => stars_head fun k h => ⟨_, _, _, h, fun i v hv => by simpa using hv⟩
end Sl
namespace Go.Proofs.YtekhbjlplfbdkaaGreatDoor
open Go Go.RowKit Sl Eg
set_option maxRecDepth 10000
variable {E : Env}
theorem tx_f (L : List Rl) (i : Nat) : tx L false i = txt L i := rfl
end Go.Proofs.YtekhbjlplfbdkaaGreatDoor
