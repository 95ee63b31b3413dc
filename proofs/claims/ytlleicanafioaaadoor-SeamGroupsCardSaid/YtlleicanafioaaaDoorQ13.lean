import Derived.Test.YtlleicanafioaaaDoorQ12
import Derived.Laws.IdiomStrings
import Derived.Laws.Strings
set_option linter.all false
set_option maxHeartbeats 1000000
namespace Go.Proofs.YtlleicanafioaaaDoor
open Go Go.RowKit Sl Eg
set_option maxRecDepth 10000
variable {E : Env}
theorem size_mk (a : List UInt8) : (⟨⟨a⟩⟩ : ByteArray).size = a.length := rfl
end Go.Proofs.YtlleicanafioaaaDoor
namespace Sl
section
open Go Go.RowKit
variable {E : Env} {n : Nat} {L : Fr} {S : List HP} {ty : TypeId} {pos : String} {af : Array Edge} {d : Option Nat} {gd : Option (Nat × Bool)}
theorem qVz {x : Operand} {t : TypeId} {bs : ByteArray} {sz : Nat} {zs : List Value} {lo hi : Option Operand} {l h : Nat} (hx : ev L x = some (.string bs)) (ht : E.tab t = some ⟨.string, sz, zs⟩)
  (hlo : match lo with | none => l = 0 | some y => ∃ k, ev L y = some (.int k (l : Nat))) (hhi : match hi with | none => h = bs.size | some y => ∃ k, ev L y = some (.int k (h : Nat))) (h1 : l ≤ h) (h2 : h ≤ bs.size) :
  Yl E n L S ⟨d, .slice t x lo hi none, ty, pos, af, gd⟩ (.string (bs.extract l h)) := fun a w g _ => by
 obtain ⟨i', z, _, _, _, _, hk⟩ := qAv ht
 simp only [TK.holds] at hk
 have hu : E.P.underlying t = some .string := by
  split at hk
  ·assumption
  cases hk
 have hB : ∀ (v : Nat) (y : Nat) (c : BoundsCode) (k : IntKind), v ≤ y → (Instr.sliceBound (.int k v) y c).run E.P w = .ok v w := by
  intro v y c k hv
  simp [Instr.sliceBound, asIntOf, hv]
 cases lo with
 | none =>
  subst hlo
  cases hi with
  | none =>
   subst hhi
   simp [execOp, Instr.sliceAt, Instr.slice, Instr.sliceBounds, underlying, program, Sem.run, hu, g.ev hx]
  | some y =>
   obtain ⟨k, hy⟩ := hhi
   simp [execOp, Instr.sliceAt, Instr.slice, Instr.sliceBounds, underlying, program, Sem.run, hu, g.ev hx, g.ev hy, hB _ _ _ _ h2]
 | some z =>
  obtain ⟨k', hz⟩ := hlo
  cases hi with
  | none =>
   subst hhi
   simp [execOp, Instr.sliceAt, Instr.slice, Instr.sliceBounds, underlying, program, Sem.run, hu, g.ev hx, g.ev hz, hB _ _ _ _ h1]
  | some y =>
   obtain ⟨k, hy⟩ := hhi
   simp [execOp, Instr.sliceAt, Instr.slice, Instr.sliceBounds, underlying, program, Sem.run, hu, g.ev hx, g.ev hz, g.ev hy, hB _ _ _ _ h1, hB _ _ _ _ h2]
theorem qYn (a : List UInt8) (l h : Nat) (hh : h ≤ a.length) : (⟨⟨a⟩⟩ : ByteArray).extract l h = ⟨⟨(a.take h).drop l⟩⟩ := by
 apply ByteArray.ext
 apply Array.toList_inj.1
 rw [ByteArray.data_extract]
 simp [List.extract_eq_take_drop, List.drop_take]
end
section
open Go Go.RowKit
variable {E : Env} {n : Nat} {L : Fr} {S H H' : List HP} {ty : TypeId} {pos : String} {af : Array Edge} {d : Option Nat} {gd : Option (Nat × Bool)} {K : Value → List HP → Prop} {Q : Exit → Act → World → Prop}
theorem qYw {t : TypeId} (hk : ∀ b, K (.map (some b)) (pt b (.map #[] 0) :: H)) : Ld E n L H ⟨d, .makeMap t none, ty, pos, af, gd⟩ K := fun Q next a w G hn => by
 have hrun : (execOp a.eval ⟨d, .makeMap t none, ty, pos, af, gd⟩).run E.P w = .ok (.value (.map (some w.heap.size))) (w.alloc (.map #[] 0)) := by
  simp [execOp, Instr.makeMap]
 unfold Oper.wp
 rw [hrun, Oper.upon_value]
 exact hn _ _ _ (hk _) (G.hp.new _)
theorem wa_sat {e : Exit} (hH : ∀ w, Sat E.w0 w H → Sat E.w0 w H') (h : AT E Q e n L H') : AT E Q e n L H := fun a w g => h a w ⟨g.f, hH w g.hp⟩
end
end Sl
namespace Go.Proofs.YtlleicanafioaaaDoor
open Go Go.RowKit Sl Eg
set_option maxRecDepth 10000
variable {E : Env}
theorem wf_nil : Wf [] := ⟨fun i r h => by simp at h, fun i j r h => by simp at h, fun i => by cases i <;> simp [len, txt, nth, tab]⟩
theorem zCs {w0 w : World} {H : List HP} {s bm most : Nat} (hm : most ≤ qAw) (h : Sat w0 w (cells s [.int .i64 most, .slice none 0 0, .map (some bm)] 90 :: pt bm (.map #[] 0) :: H)) : Sat w0 w (zU s most [] :: H) := by
 have h1 := (h.ptr).1
 have h2 := (h.tail.ptr).1
 have hs : StoreAt w s most [] (.slice none 0 0) bm := ⟨h1, ⟨rfl, .inl ⟨rfl, rfl⟩⟩, h2, wf_nil, fun i x h => by simp at h, hm, Nat.zero_le _, fun i x h => by simp at h⟩
 refine h.imp fun k hk => qPu (ps := [cells s [.int .i64 most, .slice none 0 0, .map (some bm)] 90, pt bm (.map #[] 0)]) (fun j hj => ?_) hk
 obtain ⟨k1, k2, dj, rfl, e1, k3, k4, dj2, rfl, e2, _⟩ := hj
 refine ⟨w, _, bm, hs, fun b hb => ?_⟩
 have e1' : k1 s = _ := e1
 have e2' : k3 bm = _ := e2
 rcases hb with rfl | rfl | hb
 ·rw [h1]; simp [join, e1']
 ·rw [h2]
  have : k1 b = none := by
   rcases dj b with h | h
   ·exact h
   simp [join, e2'] at h
  simp [join, this, e2']
 cases hb
theorem ct_Clip (hE : Seat E) {m lo hi : Int} (h1 : ¬ m < lo) (h2 : ¬ hi < m) : Ct E 36 [.int .i64 m, .int .i64 lo, .int .i64 hi] [] (fun v Q => v = .int .i64 m ∧ Q = []) := by
 apply qKp
 intro w
 rw [hE.P]
 refine (qVg m lo hi w).mono ?_
 rintro e w' ⟨e1, e2⟩
 rw [if_neg h1, if_neg h2] at e1
 exact ⟨e1, e2⟩
theorem zAf (hE : Seat E) {most : Nat} (hm : most ≤ qAw) : Ct E 16 [.int .i64 (most : Nat)] [] (fun v Q => ∃ s, v = uPt s ∧ Q = [zU s most []]) := by
 have hmx : qAw = 1048576 := rfl
 have c1 : ¬ ((most : Nat) : Int) < 0 := by omega
 have c2 : ¬ (1048576 : Int) < ((most : Nat) : Int) := by omega
 refine zR (hE.fn Tryd.func16) rfl rfl rfl (fun R => ?_)
 simp only [qAo, uV, uW]
 refine qN (qL (uA rfl (qO (qM (qN (qL (uM rfl (uX (ct_Clip hE c1 c2) rfl ?_))))))))
 rintro _ _ ⟨rfl, rfl⟩
 simp only [uV, uW]
 refine uU ?_
 refine qYw (fun b5 => ?_)
 refine uB (qAl (hE.t rfl) rfl rfl) ?_
 refine uU ?_
 refine qIh rfl (fun b7 => ?_)
 refine uA rfl (qO (qM (kE ?_)))
 refine wa_sat (H' := zU b7 most [] :: [R]) (fun w h => zCs (bm := b5) hm (h.imp ?_)) ?_
 ·exact uI
 exact uZ rfl (.tmp rfl .nil) ⟨b7, rfl, rfl⟩
end Go.Proofs.YtlleicanafioaaaDoor
namespace Sl
section
open Go Go.RowKit
variable {E : Env} {n : Nat} {L : Fr} {S H H' : List HP} {ty : TypeId} {pos : String} {af : Array Edge} {d : Option Nat} {gd : Option (Nat × Bool)} {K : Value → List HP → Prop} {Q : Exit → Act → World → Prop}
theorem qQu {x : Operand} {src dst e : TypeId} {bs : List UInt8} {s by_ sz sz1 sz2 : Nat} {zs zs1 zs2 : List Value} (hx : ev L x = some (.string ⟨⟨bs⟩⟩)) (hs : E.tab src = some ⟨.string, sz, zs⟩) (ht : E.tab dst = some ⟨.slice e s by_, sz1, zs1⟩) (he : E.tab e = some ⟨.int .u8, sz2, zs2⟩)
  (hk : ∀ g c, K (.slice (some ⟨g, 0, none⟩) bs.length c) (ro g (bs.map fun b => Value.int .u8 (b.toNat : Nat)) :: H)) : Ld E n L H ⟨d, .convert src dst x, ty, pos, af, gd⟩ K := fun Q next a w G hn => by
 obtain ⟨i', z, _, _, _, _, hk'⟩ := qAv hs
 simp only [TK.holds] at hk'
 have hu : E.P.underlying src = some .string := by
  split at hk'
  ·assumption
  cases hk'
 obtain ⟨hd, _⟩ := qBc ht
 have hr := run_bytes_of_string (P := E.P) w src dst e ⟨⟨bs⟩⟩ hu hd (qLh he)
 have hrun : (execOp a.eval ⟨d, .convert src dst x, ty, pos, af, gd⟩).run E.P w = .ok (.value (.slice (some ⟨w.heap.size, 0, none⟩) bs.length (grownCap w bs.length 0 e))) (w.drew.alloc (.cells (bytesRow ⟨⟨bs⟩⟩ (grownCap w bs.length 0 e)) e ((bytesRow ⟨⟨bs⟩⟩ (grownCap w bs.length 0 e)).size, (bytesRow ⟨⟨bs⟩⟩ (grownCap w bs.length 0 e)).size + 1))) := by
  have hr' : (convert src dst (.string ⟨⟨bs⟩⟩)).run E.P w = .ok (.slice (some ⟨w.heap.size, 0, none⟩) bs.length (grownCap w bs.length 0 e)) (w.drew.alloc (.cells (bytesRow ⟨⟨bs⟩⟩ (grownCap w bs.length 0 e)) e ((bytesRow ⟨⟨bs⟩⟩ (grownCap w bs.length 0 e)).size, (bytesRow ⟨⟨bs⟩⟩ (grownCap w bs.length 0 e)).size + 1))) := hr
  simp only [execOp, G.f.ev hx, Sem.run_bind, Sem.run_map, hr']
  simp [hr']
 unfold Oper.wp
 rw [hrun, Oper.upon_value]
 refine hn _ _ _ (hk _ _) ?_
 refine (G.hp.drew.new _).imp fun _ => qCr fun k h => ⟨_, _, _, h, fun i v hv => ?_⟩
 have hi : i < bs.length := by have := (List.getElem?_eq_some_iff.1 hv).1; simpa using this
 unfold bytesRow
 rw [Array.getElem?_append_left (by simpa using hi)]
 simpa using hv
end
section
open Go Go.RowKit
variable {E : Env} {n : Nat} {L : Fr} {S H H' : List HP} {ty : TypeId} {pos : String} {af : Array Edge} {d : Option Nat} {gd : Option (Nat × Bool)} {K : Value → List HP → Prop} {Q : Exit → Act → World → Prop}
theorem zBj {x : Operand} {t e bt : TypeId} {us : List Value} {g a c s by_ sz1 sz2 : Nat} {zs1 zs2 : List Value} (hx : ev L x = some (.slice (some ⟨g, 0, none⟩) a c)) (ht : E.tab t = some ⟨.slice e s by_, sz1, zs1⟩) (he : E.tab e = some ⟨.int .u8, sz2, zs2⟩) (hm : Take (cells g us bt) H H')
  (hk : K (.slice (some ⟨g, 0, none⟩) a c) (ro g us :: H')) : Ld E n L H ⟨d, .convert t t x, ty, pos, af, gd⟩ K := fun Q next A w G hn => by
 obtain ⟨hd, _⟩ := qBc ht
 have s1 := G.hp.take hm
 have hp := (s1.ptr).1
 have hsh : w.shape? g = some (bt, us.length) := by unfold World.shape?; rw [hp]; rfl
 have hrun : (execOp A.eval ⟨d, .convert t t x, ty, pos, af, gd⟩).run E.P w = .ok (.value (.slice (some ⟨g, 0, none⟩) a c)) (w.freeze ⟨g, us.length, none⟩ 1) := by
  simp [execOp, convert, underlying, program, Sem.run, hd, qLh he, G.f.ev hx, markStringish, shape, freeze, hsh]
 unfold Oper.wp
 rw [hrun, Oper.upon_value]
 refine hn _ _ _ hk ?_
 have hw : Sat E.w0 (w.freeze ⟨g, us.length, none⟩ 1) (pt g (.cells ⟨us⟩ bt (us.length, us.length + 1)) :: H') := Sat.write s1 ⟨rfl, rfl, rfl, by simp [World.freeze]⟩ (by simp [World.freeze, Array.getElem?_modify, hp]) (fun k hk => by simp [World.freeze, Array.getElem?_modify, Ne.symm hk])
 exact hw.imp fun _ => qCr fun k h => ⟨_, _, _, h, fun i v hv => by simpa using hv⟩
end
section
open Go Go.RowKit
variable {E : Env} {n : Nat} {L : Fr} {S : List HP} {ty : TypeId} {pos : String} {af : Array Edge} {d : Option Nat} {gd : Option (Nat × Bool)}
variable {H : List HP} {Q : Exit → Act → World → Prop}
theorem qTc {ops : List Oper} {S : List HP} {fuel : Nat} {listed : Array Bool} (i : Nat) {d : Option Nat} {op : Op} {ty : TypeId} {pos : String} {af : Array Edge} {j t : Nat} {b : Bool} (hi : ops[i]? = some ⟨d, op, ty, pos, af, some (j, b)⟩)
  (hj : (ops[j]?).bind (·.dst) = some t) (hl : look L t = some (.bool b)) (hr : Region.ready .any ops.toArray listed = [i]) (hd : inB n d = true)
  (h : Ld E n L H ⟨d, op, ty, pos, af, some (j, b)⟩ (fun v H' => (∀ k, qAe H' k → qAe S k) ∧ WPD E ops S Q fuel (listed.setIfInBounds i true) n (putL d v L) H')) : WPD E ops S Q (fuel + 1) listed n L H := fun _ a w g =>
 wpAnyH_all hr (by simp) fun j' hj' => by
  obtain rfl : j' = i := by simpa using hj'
  have hj2 : (ops.toArray[j]?).bind (·.dst) = some t := by simpa using hj
  have hyl : yielded ops.toArray a.tmps j = some b := by simp only [yielded, hj2, Option.bind_some, g.f.fr t _ hl]
  unfold wpOp
  simp only [qAr hi, Region.wanted, hyl, beq_self_eq_true, if_true]
  exact .inl (h _ _ a w g (fun v H' w' hk hs => ⟨hs.imp hk.1, hk.2 hk.1 _ _ ⟨g.f.put d v hd, hs⟩⟩))
theorem d_split {ops : List Oper} {S : List HP} {fuel : Nat} {listed : Array Bool} (t : Nat) {p : Prop} [Decidable p] (hl : look L t = some (.bool (decide p))) (h1 : p → WPD E ops S Q fuel listed n ((t, .bool true) :: L) H) (h2 : ¬ p → WPD E ops S Q fuel listed n ((t, .bool false) :: L) H) : WPD E ops S Q fuel listed n L H := fun hS a w g => by
 by_cases hp : p
 ·exact h1 hp hS a w ⟨g.f.eq hl (by simp [hp]), g.hp⟩
 exact h2 hp hS a w ⟨g.f.eq hl (by simp [hp]), g.hp⟩
end
end Sl
namespace Go.Proofs.YtlleicanafioaaaDoor
open Go Go.RowKit Sl Eg
set_option maxRecDepth 10000
end Go.Proofs.YtlleicanafioaaaDoor
