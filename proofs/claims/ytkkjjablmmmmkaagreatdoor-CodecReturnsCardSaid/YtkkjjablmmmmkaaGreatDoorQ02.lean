import Derived.Test.YtkkjjablmmmmkaaGreatDoorQ01
import Derived.Test.YtkkjjablmmmmkaaGreatDoorQApz
import Derived.BigQuiet
import Derived.Deep.QuietTactic
import Derived.Deep.RegionHeld3
import Derived.Laws.Bits64b
import Derived.Laws.StructEq
import Derived.Lib.Hide
import Derived.Lib.Mul64
import Derived.StillTailTactics
set_option linter.all false
namespace Sl
open Go Go.RowKit Go.Proofs.YtkkjjablmmmmkaaGreatDoor
variable {E : Env} {n : Nat} {L : Fr} {S H H' : List HP} {ty : TypeId} {pos : String} {af : Array Edge} {d : Option Nat} {gd : Option (Nat × Bool)} {K : Value → List HP → Prop}
theorem qBq {x y : Operand} {t e : TypeId} {p : Option Addr} {len cap : Nat} {s b sz : Nat} {zs : List Value} {k : IntKind} {i : Int} (m : Nat) (hx : ev L x = some (.slice p len cap)) (hy : ev L y = some (.int k i)) (ht : E.tab t = some ⟨.slice e s b, sz, zs⟩) (hi : i = (m : Nat)) (hm : m ≤ cap) :
  Yl E n L S ⟨d, .slice t x none (some y) none, ty, pos, af, gd⟩ (.slice p m cap) := fun a w g hs => by
 subst hi
 have := qFp (S := S) (d := d) (ty := ty) (pos := pos) (af := af) (gd := gd) (lo := none) (hi := some y) (l := 0) (h := m) hx ht rfl ⟨k, hy⟩ (Nat.zero_le _) hm a w g hs
 rw [this]
 have e0 : (p.map (·.add (0 * s))) = p := by cases p <;> simp [Addr.add]
 simp only [e0, ite_self, Nat.sub_zero]
theorem qMd {x y : Operand} {t tn e : TypeId} {p : Option Addr} {c m k es by_ sz sz' szn : Nat} {xs zs zs' zsn : List Value} {kk : TK} {kn : IntKind} {i : Int} (ht : E.tab t = some ⟨.slice e es by_, sz, zs⟩) (he : E.tab e = some ⟨kk, sz', zs'⟩) (htn : E.tab tn = some ⟨.int kn, szn, zsn⟩) (hz : (Nat.beq zs'.length es && (Nat.blt 0 es && qCk zs')) = true)
  (hx : ev L x = some (.slice p m c)) (hy : ev L y = some (.int .i64 i)) (hi : i = (k : Nat)) (hm : Take (sl p c e es m xs) H H') (h0 : 0 < k) (hb : (m + k) * by_ ≤ 140737488355328) (hb2 : m + k ≤ maxLen)
  (hk : ∀ g' c' us, (∀ z : Value, z.cells.toList = zs' → us = (Builtin.zeroCells z.cells k).toList) → K (.slice (some ⟨g', 0, none⟩) (m + k) c') (sl (some ⟨g', 0, none⟩) c' e es (m + k) (xs ++ us) :: H')) : Ld E n L H ⟨d, .call { callee := .builtin .append, args := #[x, y], argTypes := #[t, tn] }, ty, pos, af, gd⟩ K := fun Q next a w G hn => by
 obtain ⟨hu, j, hj, hs, hby⟩ := qAt ht
 obtain ⟨i', z, hi', hi2, hiz, hzc, _⟩ := qAr he
 obtain rfl : i' = j := by rw [hi'] at hj; simpa using hj
 simp only [Bool.and_eq_true] at hz
 have z1 := Nat.eq_of_beq_eq_true hz.1
 have z2 : 0 < es := by simpa [Nat.blt_eq] using hz.2.1
 have s2 := G.hp.take hm
 subst hi
 obtain ⟨g', c', w', hr, ho, hgr, hat, _⟩ := qLh (P := E.P) w t tn ty E.w0.heap.size e i' z kn es by_ hu (qFm htn) hi' hiz hs hby (by rw [← Array.length_toList, hzc]; exact z1) z2 (by rw [hzc]; exact qKj hz.2.2) (.slice p m c) m xs s2.owns k h0 hb2 hb s2.size
 have hrun : (execOp a.eval ⟨d, .call { callee := .builtin .append, args := #[x, y], argTypes := #[t, tn] }, ty, pos, af, gd⟩).run E.P w = .ok (.value (.slice (some ⟨g', 0, none⟩) (m + k) c')) w' := by
  simp [execOp, resolve, invoke, builtin, G.f.ev hx, G.f.ev hy, hr]
 unfold Oper.wp
 rw [hrun, Oper.upon_value]
 refine hn _ _ _ (hk g' c' _ (fun z' hz' => ?_)) (s2.resl ho hgr hat)
 have : z.cells = z'.cells := Array.toList_inj.1 (by rw [hzc, hz'])
 rw [this]
theorem qEm {ι : Type} {Q : Exit → Act → World → Prop} (I : ι → Fr) (J : ι → List HP) (ok : ι → Prop) {x y : Code} (h1 : WP E x (Exit.then (fun a w => ∃ i, ok i ∧ Good E n (I i) (J i) a w) Q) n L H) (h2 : ∀ i, ok i → WP E y Q n (I i) (J i)) : WP E (.seq x y) Q n L H := fun a w g =>
 wp_seq (Code.wp_mono (fun e a w q => by
  cases e with
  | normal => obtain ⟨i, hi, hg⟩ := q; exact h2 i hi a w hg
  | _ => exact q) (h1 a w g))
theorem qAp {ι : Type} {Q : Exit → Act → World → Prop} {I : ι → Fr} {J : ι → List HP} {ok : ι → Prop} (i : ι) (hi : ok i) (hL : wk L (I i)) (hH : ∀ k, qAa H k → qAa (J i) k) : AT E (Exit.then (fun a w => ∃ i, ok i ∧ Good E n (I i) (J i) a w) Q) .normal n L H := fun _ _ g => ⟨i, hi, g.f.wk hL, g.hp.imp hH⟩
end Sl
namespace Go
section
variable {P : Program} {ops : Array Oper} {Q : Exit → Act → World → Prop} {md : Region.Mode} {S : World → Prop} {m : Nat}
def qOe (P : Program) (md : Region.Mode) (ops : Array Oper) (Q : Exit → Act → World → Prop) (S : World → Prop) (m : Nat) : Nat → Array Bool → Act → World → Prop
 | 0, listed, a, w => Region.ready md ops listed = [] ∧ Q .normal a w
 | fuel + 1, listed, a, w =>
  (Region.ready md ops listed = [] → Q .normal a w) ∧
  ∀ i ∈ Region.ready md ops listed, wpOp P ops Q i (fun a' w' => (i ≠ m → S w') ∧ qOe P md ops Q S m fuel (listed.setIfInBounds i true) a' w') a w
theorem qPg : ∀ (fuel : Nat) (listed : Array Bool) (a : Act) (w : World), qOe P md ops Q S m fuel listed a w → wpAny P md ops Q fuel listed a w
 | 0, _, _, _, h => h
 | fuel + 1, _, _, _, h => ⟨h.1, fun i hi => wpOp_mono (fun a' w' h' => qPg fuel _ a' w' h'.2) (h.2 i hi)⟩
theorem qIa {i j : Nat} {listed : Array Bool} (hj : j ∈ Region.ready md ops listed) (hi : i ∈ Region.ready md ops listed) (hw : Region.waitsFor md ops j i = true) : False := by
 obtain ⟨oj, hoj, e, he, hb, heq⟩ := Region.waitsFor_spec hw
 obtain ⟨_, oj', hoj', hall⟩ := mem_ready.1 hj
 rw [hoj] at hoj'
 cases hoj'
 have h1 := hall e he hb
 have h0 := (mem_ready.1 hi).1
 rw [heq] at h1
 rcases Nat.lt_or_ge i listed.size with h' | h'
 ·simp [h'] at h0 h1; rw [h0] at h1; cases h1
 simp [Array.getElem?_eq_none h'] at h1
theorem qTg {i : Nat} {oi : Oper} {v : Value} (hi : ops[i]? = some oi) (hsel : ∀ (j : Nat) (o : Oper) cs b, ops[j]? = some o → o.op ≠ .select cs b)
  (hQ : ∀ c a w, Q (.panic c) (a.put oi.dst v) w → Q (.panic c) a w) (him : i ≠ m) (hw : Region.waitsFor md ops m i = true) :
  ∀ (fuel : Nat) (listed : Array Bool) (a : Act) (w : World),
   (∀ j oj, ops[j]? = some oj → j ≠ i → listed.getD j true = false → (∀ e ∈ oj.after, Region.binds md e = true → e.on ≠ i) → oi.apart ops oj = true) →
   i ∈ Region.ready md ops listed → YieldsIf P ops S oi v a → S w →
   qOe P md ops Q S m fuel (listed.setIfInBounds i true) (a.put oi.dst v) w → qOe P md ops Q S m (fuel + 1) listed a w := by
 intro fuel
 induction fuel with
 | zero =>
  intro listed a w _ hr hy hS H
  refine ⟨fun h => (by rw [h] at hr; cases hr), fun j hj => ?_⟩
  by_cases hji : j = i
  ·subst hji; exact hy.wpOp hi hS ⟨fun _ => hS, H⟩
  have := ready_mono hj hji
  rw [H.1] at this
  cases this
 | succ fuel ih =>
  intro listed a w hfree hr hy hS H
  refine ⟨fun h => (by rw [h] at hr; cases hr), fun j hj => ?_⟩
  by_cases hji : j = i
  ·subst hji; exact hy.wpOp hi hS ⟨fun _ => hS, H⟩
  have hjm : j ≠ m := fun e => qIa (e ▸ hj) hr hw
  have h1 := H.2 j (ready_mono hj hji)
  obtain ⟨hjun, oj, hoj, hall⟩ := mem_ready.1 hj
  have hnot : ∀ e ∈ oj.after, Region.binds md e = true → e.on ≠ i := fun e he hb heq => by
   have h1 := hall e he hb
   have h0 := (mem_ready.1 hr).1
   rw [heq] at h1
   rcases Nat.lt_or_ge i listed.size with h' | h'
   ·simp [h'] at h0 h1; rw [h0] at h1; cases h1
   simp [Array.getElem?_eq_none h'] at h1
  have h2 := wpOp_putIf hoj (hfree j oj hoj hji hjun hnot) (fun cs b => hsel i oi cs b hi) (fun cs b => hsel j oj cs b hoj) hQ hy h1
  have hfree' : ∀ k ok, ops[k]? = some ok → k ≠ i → (listed.setIfInBounds j true).getD k true = false →
    (∀ e ∈ ok.after, Region.binds md e = true → e.on ≠ i) → oi.apart ops ok = true := fun k ok hk hki hun hno => by
   refine hfree k ok hk hki ?_ hno
   by_cases hjk : j = k
   ·subst hjk; exact hjun
   rw [getD_set_ne true hjk] at hun; exact hun
  refine wpOp_mono (fun a' w' h3 => ⟨h3.2.1, ih (listed.setIfInBounds j true) a' w' hfree' (ready_mono hr (Ne.symm hji)) h3.1 (h3.2.1 hjm) ?_⟩) h2
  rw [Array.setIfInBounds_comm _ _ hji]
  exact h3.2.2
end
end Go
namespace Sl
section
open Go Go.RowKit
variable {E : Env} {n : Nat} {L : Fr} {H : List HP} {Q : Exit → Act → World → Prop} {m : Nat}
def WPM (E : Env) (ops : List Oper) (m : Nat) (S : List HP) (Q : Exit → Act → World → Prop) (fuel : Nat) (listed : Array Bool) (n : Nat) (L : Fr) (H : List HP) : Prop :=
 (∀ k, qAa H k → qAa S k) → ∀ a w, Good E n L H a w → qOe E.P .any ops.toArray Q (fun w => Sat E.w0 w S) m fuel listed a w
theorem qQk (m : Nat) (S : List HP) {id : Nat} {ops : List Oper} (hS : ∀ k, qAa H k → qAa S k) (h : WPM E ops m S Q ops.toArray.size (Array.replicate ops.toArray.size false) n L H) : WP E (.region id ops.toArray true) Q n L H := fun a _ g =>
 wp_region_any E.mixed (qPg _ _ _ _ (h hS a _ ⟨g.f, g.hp.drew⟩))
def qXp (ops : Array Oper) (m : Nat) (listed : Array Bool) (i : Nat) : Bool := Region.noSelect ops && (Region.free .any ops listed i && ((Region.ready .any ops listed).contains i && (!(i == m) && Region.waitsFor .any ops m i)))
theorem zY {ops : List Oper} {S : List HP} {fuel : Nat} {listed : Array Bool} (i : Nat) {d : Option Nat} {op : Op} {ty : TypeId} {pos : String} {af : Array Edge} {v : Value} (hi : ops[i]? = some ⟨d, op, ty, pos, af, none⟩)
  (hy : Yl E n L S ⟨d, op, ty, pos, af, none⟩ v) (hQ : Calm Q) (hf : qXp ops.toArray m listed i = true) (hd : inB n d = true)
  (k : WPM E ops m S Q fuel (listed.setIfInBounds i true) n (putL d v L) H) : WPM E ops m S Q (fuel + 1) listed n L H := fun hS a w g => by
 simp only [qXp, Bool.and_eq_true, Bool.not_eq_true', beq_eq_false_iff_ne] at hf
 exact qTg (qAg hi) (Region.noSelect_spec hf.1) (fun c a w h => hQ c a w d v h) hf.2.2.2.1 hf.2.2.2.2 fuel listed a w (Region.free_spec (qAg hi) hf.2.1) (by simpa using hf.2.2.1) (.inl ⟨rfl, fun w hw => hy a w g.f hw⟩) (g.hp.imp hS) (k hS _ _ ⟨g.f.put d v hd, g.hp⟩)
theorem qNi {P : Program} {ops : Array Oper} {md : Region.Mode} {S : World → Prop} {listed : Array Bool} {a : Act} {w : World} (hr : Region.ready md ops listed = []) (h : Q .normal a w) : ∀ fuel, qOe P md ops Q S m fuel listed a w
 | 0 => ⟨hr, h⟩
 | _ + 1 => ⟨fun _ => h, by rw [hr]; simp⟩
theorem qLf {ops : List Oper} {S : List HP} {fuel : Nat} {listed : Array Bool} (hr : Region.ready .any ops.toArray listed = []) (k : AT E Q .normal n L H) : WPM E ops m S Q fuel listed n L H := fun _ a w g => qNi hr (k a w g) fuel
theorem qAm {ops : List Oper} {S : List HP} {fuel : Nat} {listed : Array Bool} (i : Nat) {d : Option Nat} {op : Op} {ty : TypeId} {pos : String} {af : Array Edge} (hi : ops[i]? = some ⟨d, op, ty, pos, af, none⟩) (hr : Region.ready .any ops.toArray listed = [i]) (hd : inB n d = true)
  (h : Ld E n L H ⟨d, op, ty, pos, af, none⟩ (fun v H' => (∀ k, qAa H' k → qAa S k) ∧ WPM E ops m S Q fuel (listed.setIfInBounds i true) n (putL d v L) H')) : WPM E ops m S Q (fuel + 1) listed n L H := fun _ a w g =>
 ⟨fun h0 => (by rw [hr] at h0; cases h0), fun j hj => by
  obtain rfl : j = i := by rw [hr] at hj; simpa using hj
  unfold wpOp
  simp only [qAg hi, Region.wanted, if_true]
  exact .inl (h _ _ a w g (fun v H' w' hk hs => ⟨fun _ => hs.imp hk.1, hk.2 hk.1 _ _ ⟨g.f.put d v hd, hs⟩⟩))⟩
theorem kL {ops : List Oper} {S : List HP} {fuel : Nat} {listed : Array Bool} (i : Nat) {d : Option Nat} {op : Op} {ty : TypeId} {pos : String} {af : Array Edge} {v : Value} (hi : ops[i]? = some ⟨d, op, ty, pos, af, none⟩) (hr : Region.ready .any ops.toArray listed = [i])
  (hy : Yl E n L H ⟨d, op, ty, pos, af, none⟩ v) (hd : inB n d = true) (k : WPM E ops m S Q fuel (listed.setIfInBounds i true) n (putL d v L) H) : WPM E ops m S Q (fuel + 1) listed n L H := fun hS a w g =>
 ⟨fun h0 => (by rw [hr] at h0; cases h0), fun j hj => by
  obtain rfl : j = i := by rw [hr] at hj; simpa using hj
  unfold wpOp
  simp only [qAg hi, Region.wanted, if_true]
  refine .inl ?_
  unfold Oper.wp
  rw [hy a w g.f g.hp, Oper.upon_value]
  exact ⟨fun _ => g.hp.imp hS, k hS _ _ ⟨g.f.put d v hd, g.hp⟩⟩⟩
theorem qDt {ops : List Oper} {S : List HP} {fuel : Nat} {listed : Array Bool} {d : Option Nat} {op : Op} {ty : TypeId} {pos : String} {af : Array Edge} (hi : ops[m]? = some ⟨d, op, ty, pos, af, none⟩) (hr : Region.ready .any ops.toArray listed = [m]) (hr2 : Region.ready .any ops.toArray (listed.setIfInBounds m true) = []) (hd : inB n d = true)
  (h : Ld E n L H ⟨d, op, ty, pos, af, none⟩ (fun v H' => AT E Q .normal n (putL d v L) H')) : WPM E ops m S Q (fuel + 1) listed n L H := fun _ a w g =>
 ⟨fun h0 => (by rw [hr] at h0; cases h0), fun j hj => by
  obtain rfl : j = m := by rw [hr] at hj; simpa using hj
  unfold wpOp
  simp only [qAg hi, Region.wanted, if_true]
  exact .inl (h _ _ a w g (fun v H' w' hk hs => ⟨fun h => absurd rfl h, qNi hr2 (hk _ _ ⟨g.f.put d v hd, hs⟩) fuel⟩))⟩
theorem GoodF.eq {a : Act} (g : GoodF n L a) {t : Nat} {v v' : Value} (hl : look L t = some v) (e : v = v') : GoodF n ((t, v') :: L) a := ⟨g.sz, g.df, fun u x hx => by
 rw [qFs] at hx
 by_cases hu : t = u
 ·subst hu; rw [if_pos rfl] at hx; cases hx; subst e; exact g.fr t _ hl
 rw [if_neg hu] at hx; exact g.fr u x hx⟩
theorem l_eq {all : Array Oper} {s : Nat} {l : List Oper} (t : Nat) {v : Value} (v' : Value) (hl : look L t = some v) (e : v = v') (k : WPL E all Q s l n ((t, v') :: L) H) : WPL E all Q s l n L H := fun a w g => k a w ⟨g.f.eq hl e, g.hp⟩
theorem w_eq {c : Code} (t : Nat) {v : Value} (v' : Value) (hl : look L t = some v) (e : v = v') (k : WP E c Q n ((t, v') :: L) H) : WP E c Q n L H := fun a w g => k a w ⟨g.f.eq hl e, g.hp⟩
theorem qFb {ex : Exit} (t : Nat) {v : Value} (v' : Value) (hl : look L t = some v) (e : v = v') (k : AT E Q ex n ((t, v') :: L) H) : AT E Q ex n L H := fun a w g => k a w ⟨g.f.eq hl e, g.hp⟩
theorem zW {k : IntKind} {i j : Int} (h : i = j) : Value.int k i = .int k j := by rw [h]
theorem qAo {all : Array Oper} {s : Nat} {d : Option Nat} {op : Op} {ty : TypeId} {pos : String} {af : Array Edge} {rest : List Oper} {j t : Nat} {b : Bool} (hj : (all[j]?).bind (·.dst) = some t) (hl : look L t = some undef) (hd : inB n d = true)
  (k : WPL E all Q (s - 1) rest n (putL d undef L) H) : WPL E all Q s (⟨d, op, ty, pos, af, some (j, b)⟩ :: rest) n L H := fun a w g => by
 have hk := k _ _ ⟨g.f.put d undef hd, g.hp⟩
 have hy : yielded all a.tmps j = none := by simp [yielded, hj, g.f.fr t _ hl, undef]
 have hw : Region.wanted ⟨d, op, ty, pos, af, some (j, b)⟩ (yielded all a.tmps) = false := by simp [Region.wanted, hy]
 cases s with
 | zero =>
  simp only [List.take_zero, List.drop_zero, wpStill]
  unfold wpList
  rw [if_neg (by rw [hw]; simp)]
  exact hk
 | succ s =>
  simp only [List.take_succ_cons, List.drop_succ_cons]
  unfold wpStill
  rw [if_neg (by rw [hw]; simp)]
  exact hk
end
section
open Go Go.RowKit
variable {E : Env} {n : Nat} {L : Fr} {H H' S : List HP} {ty : TypeId} {pos : String} {af : Array Edge} {d : Option Nat} {gd : Option (Nat × Bool)} {K : Value → List HP → Prop} {Q : Exit → Act → World → Prop} {all : Array Oper} {s : Nat} {rest : List Oper}
abbrev uPt (b : Nat) : Value := .pointer (some ⟨b, 0, none⟩)
theorem uM {d : Nat} {x : Operand} {v : Value} (h : ev L x = some v) (k : WPL E all Q (s - 1) rest n ((d, v) :: L) H) (hd : Nat.blt d n = true := by exact rfl) : WPL E all Q s (⟨some d, .move x, ty, pos, af, none⟩ :: rest) n L H := qA (qB h) hd k
theorem uA {d : Nat} {x : Operand} {v : Value} (h : ev L x = some v) (k : WPL E all Q (s - 1) rest n ((d, v) :: L) H) (hd : Nat.blt d n = true := by exact rfl) : WPL E all Q s (⟨some d, .assign x, ty, pos, af, none⟩ :: rest) n L H := qA (qC h) hd k
theorem uL {d : Nat} {x : Operand} {t : TypeId} {b o : Nat} {k : TK} {sz : Nat} {zs : List Value} {v : Value} (w : WPL E all Q (s - 1) rest n ((d, v) :: L) H) (ht : E.tab t = some ⟨k, sz, zs⟩ := by exact hE.t rfl) (h : ev L x = some (.pointer (some ⟨b, o, none⟩)) := by exact rfl) (hk : k.agg = false := by exact rfl)
  (hm : HasC H b o v := by (repeat (first | rfl | assumption | constructor))) (hd : Nat.blt d n = true := by exact rfl) : WPL E all Q s (⟨some d, .load t x, ty, pos, af, none⟩ :: rest) n L H := qA (qN h ht hk hm) hd w
theorem uY {x : Operand} {t : TypeId} {b o : Nat} {k : TK} {sz : Nat} {zs : List Value} {v : Value} (ht : E.tab t = some ⟨k, sz, zs⟩ := by exact hE.t rfl) (h : ev L x = some (.pointer (some ⟨b, o, none⟩)) := by exact rfl) (hk : k.agg = false := by exact rfl)
  (hm : HasC S b o v := by (repeat (first | rfl | assumption | constructor))) : Yl E n L S ⟨d, .load t x, ty, pos, af, gd⟩ v := qN h ht hk hm
theorem uD {ops : List Oper} {fuel : Nat} {listed : Array Bool} (i : Nat) {op : Op} {v : Value} (hi : ops[i]? = some ⟨d, op, ty, pos, af, none⟩) (hy : Yl E n L S ⟨d, op, ty, pos, af, none⟩ v) (k : WPD E ops S Q fuel (listed.setIfInBounds i true) n (putL d v L) H)
  (hQ : Calm Q := by with_reducible (repeat (first | exact qE | apply qF | apply qG))) (hf : (Region.noSelect ops.toArray && (Region.free .any ops.toArray listed i && (Region.ready .any ops.toArray listed).contains i)) = true := by kernel_rfl) (hd : inB n d = true := by exact rfl) : WPD E ops S Q (fuel + 1) listed n L H := zG i hi hy hQ hf hd k
theorem uT {ops : List Oper} {fuel m : Nat} {listed : Array Bool} (i : Nat) {op : Op} {v : Value} (hi : ops[i]? = some ⟨d, op, ty, pos, af, none⟩) (hy : Yl E n L S ⟨d, op, ty, pos, af, none⟩ v) (k : WPM E ops m S Q fuel (listed.setIfInBounds i true) n (putL d v L) H)
  (hQ : Calm Q := by with_reducible (repeat (first | exact qE | apply qF | apply qG))) (hf : qXp ops.toArray m listed i = true := by kernel_rfl) (hd : inB n d = true := by exact rfl) : WPM E ops m S Q (fuel + 1) listed n L H := zY i hi hy hQ hf hd k
theorem uU {op : Op} (h : Ld E n L H ⟨d, op, ty, pos, af, none⟩ (fun v H' => WPL E all Q 0 rest n (putL d v L) H')) (hs : Nat.beq s 0 = true := by kernel_rfl) (hd : inB n d = true := by exact rfl) : WPL E all Q s (⟨d, op, ty, pos, af, none⟩ :: rest) n L H := qH hs hd h
theorem uE {P : Prop} (k : P) (h : ∀ k, qAa H k → qAa S k := by (apply ent; (repeat constructor); done)) : (∀ k, qAa H k → qAa S k) ∧ P := ⟨h, k⟩
theorem uC {f : FuncId} {args : List Operand} {ts : Array TypeId} {vs : List Value} {Pre : List HP} {Φ : Value → List HP → Prop} (hc : Ct E f vs Pre Φ) (ha : evs L args = some vs) (hk : ∀ v Qs, Φ v Qs → K v (Qs ++ H')) (hf : goFn E.P f = true := by exact hE.f (by kernel_rfl)) (hs : Sub Pre H H' := by ((repeat constructor); done)) :
  Ld E n L H ⟨d, .call { callee := .value (.func f), args := args.toArray, argTypes := ts }, ty, pos, af, gd⟩ K := qZ hc ha hf hs hk
theorem uS {x y : Operand} {t : TypeId} {b o : Nat} {vs : List Value} {bt : TypeId} {k : TK} {sz : Nat} {zs : List Value} {v : Value} (hk : K undef (cells b (zX vs o (zP v)) bt :: H')) (ht : E.tab t = some ⟨k, sz, zs⟩ := by exact hE.t rfl) (h : ev L x = some (.pointer (some ⟨b, o, none⟩)) := by exact rfl) (hy : ev L y = some v := by exact rfl)
  (hsz : (zP v).length = sz := by exact rfl) (hm : Take (cells b vs bt) H H' := by ((repeat constructor); done)) (hp : qCk (zP v) = true := by exact rfl) (hl : o + sz ≤ vs.length := by exact Nat.le_of_ble_eq_true rfl) : Ld E n L H ⟨d, .store t x y, ty, pos, af, gd⟩ K := zL h hy ht hsz hm hp hl hk
theorem uH (S : List HP) {id : Nat} {ops : List Oper} (h : WPD E ops S Q ops.toArray.size (Array.replicate ops.toArray.size false) n L H) (hS : ∀ k, qAa H k → qAa S k := by (apply ent; (repeat constructor); done)) : WP E (.region id ops.toArray true) Q n L H := w_held S hS h
theorem uN (m : Nat) (S : List HP) {id : Nat} {ops : List Oper} (h : WPM E ops m S Q ops.toArray.size (Array.replicate ops.toArray.size false) n L H) (hS : ∀ k, qAa H k → qAa S k := by (apply ent; (repeat constructor); done)) : WP E (.region id ops.toArray true) Q n L H := qQk m S hS h
theorem uO {ops : List Oper} {fuel : Nat} {listed : Array Bool} (i : Nat) {op : Op} {v : Value} {j t : Nat} {b : Bool} (hi : ops[i]? = some ⟨d, op, ty, pos, af, some (j, b)⟩) (hj : (ops[j]?).bind (·.dst) = some t) (hl : look L t = some (.bool b)) (hy : Yl E n L S ⟨d, op, ty, pos, af, some (j, b)⟩ v)
  (k : WPD E ops S Q fuel (listed.setIfInBounds i true) n (putL d v L) H) (hQ : Calm Q := by with_reducible (repeat (first | exact qE | apply qF | apply qG))) (hf : (Region.noSelect ops.toArray && (Region.free .any ops.toArray listed i && (Region.ready .any ops.toArray listed).contains i)) = true := by kernel_rfl) (hd : inB n d = true := by exact rfl) : WPD E ops S Q (fuel + 1) listed n L H := d_on i hi hj hl hy hQ hf hd k
theorem uR {ops : List Oper} {fuel : Nat} {listed : Array Bool} (i : Nat) {op : Op} {j t : Nat} {b c : Bool} (hi : ops[i]? = some ⟨d, op, ty, pos, af, some (j, b)⟩) (hj : (ops[j]?).bind (·.dst) = some t) (hl : look L t = some (.bool c)) (hbc : (c == b) = false)
  (k : WPD E ops S Q fuel (listed.setIfInBounds i true) n (putL d undef L) H) (hQ : Calm Q := by with_reducible (repeat (first | exact qE | apply qF | apply qG))) (hf : (Region.noSelect ops.toArray && (Region.free .any ops.toArray listed i && (Region.ready .any ops.toArray listed).contains i)) = true := by kernel_rfl) (hd : inB n d = true := by exact rfl) : WPD E ops S Q (fuel + 1) listed n L H := d_off i hi hj hl hbc hQ hf hd k
theorem uG {x : Operand} {t : TypeId} {b o : Nat} {k : TK} {sz : Nat} {zs us : List Value} (ht : E.tab t = some ⟨k, sz, zs⟩ := by exact hE.t rfl) (h : ev L x = some (.pointer (some ⟨b, o, none⟩)) := by exact rfl) (hk : k.agg = true := by exact rfl)
  (hm : HasCs S b o sz us := by (repeat (first | rfl | assumption | constructor))) : Yl E n L S ⟨d, .load t x, ty, pos, af, gd⟩ (.agg ⟨us⟩) := zV h ht hk hm
theorem uI {H H' : List HP} (h : ∀ k, qAa H k → qAa H' k := by (apply ent; (repeat constructor); done)) : ∀ k, qAa H k → qAa H' k := h
theorem uK {P : Prop} (h : P := by ((repeat constructor); done)) : P := h
theorem uV {α : Type} (a : α) (s t : List α) : (a :: s) ++ t = a :: (s ++ t) := rfl
theorem uW {α : Type} (t : List α) : [] ++ t = t := rfl
theorem uAa {x y : Operand} {xt yt : TypeId} {i j : Int} (hx : ev L x = some (.int .i64 i)) (hy : ev L y = some (.int .i64 j)) (h0 : -9223372036854775808 ≤ i + j := by omega) (h1 : i + j ≤ 9223372036854775807 := by omega) : Yl E n L S ⟨d, .binOp .add xt x y yt, ty, pos, af, gd⟩ (.int .i64 (i + j)) := y_add hx hy h0 h1
theorem uAs {x y : Operand} {xt yt : TypeId} {i j : Int} (hx : ev L x = some (.int .i64 i)) (hy : ev L y = some (.int .i64 j)) (h0 : -9223372036854775808 ≤ i - j := by omega) (h1 : i - j ≤ 9223372036854775807 := by omega) : Yl E n L S ⟨d, .binOp .sub xt x y yt, ty, pos, af, gd⟩ (.int .i64 (i - j)) := y_sub hx hy h0 h1
theorem uAi {x y : Operand} {t e : TypeId} {b o len cap : Nat} {k : IntKind} {i : Int} {s by_ sz : Nat} {zs : List Value} (h : ev L x = some (.slice (some ⟨b, o, none⟩) len cap)) (hy : ev L y = some (.int k i)) (ht : E.tab t = some ⟨.slice e s by_, sz, zs⟩ := by exact hE.t rfl) (h0 : 0 ≤ i := by omega) (h1 : i < len := by omega) : Yl E n L S ⟨d, .indexAddr t x y, ty, pos, af, gd⟩ (.pointer (some ⟨b, o + i.toNat * s, none⟩)) := qO h hy ht h0 h1
theorem uAj {x y : Operand} {t e : TypeId} {b len cap : Nat} {k : IntKind} {i : Int} {by_ sz : Nat} {zs : List Value} (h : ev L x = some (.slice (some ⟨b, 0, none⟩) len cap)) (hy : ev L y = some (.int k i)) (ht : E.tab t = some ⟨.slice e 1 by_, sz, zs⟩ := by exact hE.t rfl) (h0 : 0 ≤ i := by omega) (h1 : i < len := by omega) : Yl E n L S ⟨d, .indexAddr t x y, ty, pos, af, gd⟩ (.pointer (some ⟨b, i.toNat, none⟩)) := zM h hy ht h0 h1
theorem uAc {x : Operand} {s t : TypeId} {kd k' ks : IntKind} {i : Int} {sz sz' : Nat} {zs zs' : List Value} (hx : ev L x = some (.int kd i)) (hs : E.tab s = some ⟨.int ks, sz, zs⟩ := by exact hE.t rfl) (ht : E.tab t = some ⟨.int k', sz', zs'⟩ := by exact hE.t rfl) (hw : k'.wrap i = i := by first | exact kP (by omega) (by omega) | exact kQ (by omega) (by omega)) : Yl E n L S ⟨d, .convert s t x, ty, pos, af, gd⟩ (.int k' i) := kN hx hs ht hw
theorem uJ {x y : Operand} {t : TypeId} {b o : Nat} {xs : List Value} {c m esz : Nat} {bt : TypeId} {k : TK} {sz : Nat} {zs : List Value} {v : Value} (hk : K undef (sl (some ⟨b, 0, none⟩) c bt esz m (zX xs o (zP v)) :: H')) (ht : E.tab t = some ⟨k, sz, zs⟩ := by exact hE.t rfl) (h : ev L x = some (.pointer (some ⟨b, o, none⟩)) := by exact rfl) (hy : ev L y = some v := by exact rfl)
  (hsz : (zP v).length = sz := by exact rfl) (hm : Take (sl (some ⟨b, 0, none⟩) c bt esz m xs) H H' := by ((repeat constructor); done)) (hp : qCk (zP v) = true := by exact rfl) (hl : o + sz ≤ m * esz := by first | omega | (simp only [zP, qM, List.length_cons, List.length_nil]; omega)) : Ld E n L H ⟨d, .store t x y, ty, pos, af, gd⟩ K := qR h hy ht hsz hm hp hl hk
theorem uB {d : Nat} {op : Op} {v : Value} (h : Yl E n L H ⟨some d, op, ty, pos, af, none⟩ v) (k : WPL E all Q (s - 1) rest n ((d, v) :: L) H) (hd : Nat.blt d n = true := by exact rfl) : WPL E all Q s (⟨some d, op, ty, pos, af, none⟩ :: rest) n L H := qA h hd k
theorem uBl {x : Operand} {t e : TypeId} {p : Option Addr} {len cap : Nat} {s b sz : Nat} {zs : List Value} (hx : ev L x = some (.slice p len cap)) (ht : E.tab t = some ⟨.slice e s b, sz, zs⟩ := by exact hE.t rfl) : Yl E n L S ⟨d, .call { callee := .builtin .len, args := #[x], argTypes := #[t] }, ty, pos, af, gd⟩ (.int .i64 (len : Nat)) := qQ hx ht
theorem uBf {x : Operand} {t : TypeId} {k b o fo fs_ : Nat} {fs : List (Nat × Nat)} {sz : Nat} {zs : List Value} (h : ev L x = some (.pointer (some ⟨b, o, none⟩))) (ht : E.tab t = some ⟨.struct fs, sz, zs⟩ := by exact hE.t rfl) (hk : fs[k]? = some (fo, fs_) := by exact rfl) : Yl E n L S ⟨d, .fieldAddr t x k, ty, pos, af, gd⟩ (.pointer (some ⟨b, o + fo, none⟩)) := qD h ht hk
theorem uX {f : FuncId} {args : List Operand} {ts : Array TypeId} {vs : List Value} {Pre : List HP} {Φ : Value → List HP → Prop} (hc : Ct E f vs Pre Φ) (ha : evs L args = some vs) (hk : ∀ v Qs, Φ v Qs → WPL E all Q 0 rest n (putL d v L) (Qs ++ H')) (h0 : Nat.beq s 0 = true := by kernel_rfl) (hd : inB n d = true := by exact rfl) (hf : goFn E.P f = true := by exact hE.f (by kernel_rfl)) (hs : Sub Pre H H' := by ((repeat constructor); done)) :
  WPL E all Q s (⟨d, .call { callee := .value (.func f), args := args.toArray, argTypes := ts }, ty, pos, af, none⟩ :: rest) n L H := qH h0 hd (qZ hc ha hf hs hk)
theorem uZ {fn : Func} {rs : List ResultVar} {vs : List Value} {Φ : Value → List HP → Prop} {R : HP} {Qs : List HP} (hrs : fn.results = ⟨rs⟩) (h : Rs E L H rs vs) (hΦ : Φ (one vs) Qs) (hH : ∀ k, qAa H k → qAa (Qs ++ [R]) k := by (apply ent; (repeat constructor); done)) : AT E (bodyPost E.P fn (RetP E Φ R)) .ret n L H := kC Qs hrs h hΦ hH
theorem uZe {fn : Func} {rs : List ResultVar} {vs : List Value} {Φ : Value → List HP → Prop} {R : HP} {Qs : List HP} (hrs : fn.results = ⟨rs⟩) (h : Rs E L H rs vs) (hΦ : Φ (one vs) Qs) (hH : ∀ k, qAa H k → qAa (Qs ++ [R]) k := by (apply ent; (repeat constructor); done)) : AT E (bodyPost E.P fn (RetP E Φ R)) .normal n L H := a_end Qs hrs h hΦ hH
end
end Sl
namespace Eg
section

theorem qPy {β : Type} {p : List β → Prop} (h0 : p []) (h1 : ∀ l a, p l → p (l ++ [a])) : ∀ l, p l := by
 intro l
 have h : ∀ m : List β, p m.reverse := by
  intro m
  induction m with
  | nil => exact h0
  | cons a m ih => rw [List.reverse_cons]; exact h1 _ _ ih
 have := h l.reverse
 rwa [List.reverse_reverse] at this

inductive Rl where
 | letter (b : UInt8)
 | pair (l r : Nat)
 | power (x k : Nat)
deriving DecidableEq

def Rl.kind : Rl → Nat | .letter _ => 1 | .pair _ _ => 2 | .power _ _ => 3
def Rl.byte : Rl → Nat | .letter b => b.toNat | _ => 0
def Rl.left : Rl → Nat | .letter _ => 0 | .pair l _ => l | .power x _ => x
def Rl.right : Rl → Nat | .letter _ => 0 | .pair _ r => r | .power _ _ => 0
def Rl.times : Rl → Nat | .letter _ => 0 | .pair _ _ => 0 | .power _ k => k

def Rl.ok (n : Nat) : Rl → Prop
 | .letter _ => True
 | .pair l r => 1 ≤ l ∧ l < n ∧ 1 ≤ r ∧ r < n
 | .power x k => 1 ≤ x ∧ x < n ∧ 2 ≤ k

section
variable {α : Type}
def tab (f : List α → Rl → α) (L : List Rl) : List α := L.foldl (fun acc r => acc ++ [f acc r]) []

variable {f : List α → Rl → α} {L M : List Rl} {r : Rl}
theorem qPp : tab f (L ++ [r]) = tab f L ++ [f (tab f L) r] := by simp [tab, List.foldl_append]
theorem qEr (L : List Rl) : (tab f L).length = L.length := by
 induction L using qPy with
 | h0 => rfl
 | h1 l a ih => simp [qPp, ih]
theorem qYh (L M : List Rl) : (tab f (L ++ M)).take L.length = tab f L := by
 induction M using qPy with
 | h0 => simp [← qEr (f := f) L]
 | h1 m a ih =>
  rw [← List.append_assoc, qPp, List.take_append_of_le_length, ih]
  rw [qEr, List.length_append]; omega
theorem qZe (L M : List Rl) {i : Nat} (h : i < L.length) : (tab f (L ++ M))[i]? = (tab f L)[i]? := by
 rw [← qYh (f := f) L M, List.getElem?_take, if_pos h]
theorem qPz (L : List Rl) {i : Nat} (h : L[i]? = some r) : (tab f L)[i]? = some (f (tab f (L.take i)) r) := by
 have hi : i < L.length := (List.getElem?_eq_some_iff.1 h).1
 have e : L = (L.take i ++ [r]) ++ L.drop (i + 1) := by
  rw [← (List.getElem?_eq_some_iff.1 h).2, List.take_append_getElem, List.take_append_drop]
 have hl : i < (L.take i ++ [r]).length := by simp; omega
 conv => lhs; rw [e]
 rw [qZe _ _ hl, qPp, List.getElem?_append_right]
 ·simp [qEr, Nat.min_eq_left (Nat.le_of_lt hi)]
 simp [qEr]; omega
def nth (d : α) (l : List α) (i : Nat) : α := if i = 0 then d else l[i - 1]?.getD d
theorem qFl (d : α) (l : List α) (i : Nat) : nth d l (i + 1) = l[i]?.getD d := by simp [nth]
theorem qQz (d : α) {L : List Rl} (M : List Rl) {i : Nat} (h : i ≤ L.length) : nth d (tab f (L ++ M)) i = nth d (tab f L) i := by
 cases i with
 | zero => rfl
 | succ i => rw [qFl, qFl, qZe L M h]
theorem qHs (d : α) {L : List Rl} {i k : Nat} (h : i ≤ k) (hk : k ≤ L.length) : nth d (tab f (L.take k)) i = nth d (tab f L) i := by
 have := qQz (f := f) d (L := L.take k) (L.drop k) (i := i) (by simp; omega)
 rw [List.take_append_drop] at this
 exact this.symm
end

def rtext (acc : List (List UInt8)) : Rl → List UInt8
 | .letter b => [b]
 | .pair l r => nth [] acc l ++ nth [] acc r
 | .power x k => (List.replicate k (nth [] acc x)).flatten
def txt (L : List Rl) (i : Nat) : List UInt8 := nth [] (tab rtext L) i

theorem qDz (L : List Rl) : txt L 0 = [] := rfl
theorem qAz {L : List Rl} (M : List Rl) {i : Nat} (h : i ≤ L.length) : txt (L ++ M) i = txt L i := qQz [] M h
theorem qAy {L : List Rl} {i : Nat} {b : UInt8} (h : L[i]? = some (.letter b)) : txt L (i + 1) = [b] := by
 rw [txt, qFl, qPz L h]; rfl
theorem qCd {L : List Rl} {i l r : Nat} (h : L[i]? = some (.pair l r)) (hk : (Rl.pair l r).ok (i + 1)) : txt L (i + 1) = txt L l ++ txt L r := by
 have hi : i < L.length := (List.getElem?_eq_some_iff.1 h).1
 obtain ⟨_, h1, _, h2⟩ := hk
 rw [txt, qFl, qPz L h]
 simp only [rtext, Option.getD_some]
 rw [qHs [] (by omega) (by omega), qHs [] (by omega) (by omega)]; rfl
theorem qBu {L : List Rl} {i x k : Nat} (h : L[i]? = some (.power x k)) (hk : (Rl.power x k).ok (i + 1)) : txt L (i + 1) = (List.replicate k (txt L x)).flatten := by
 have hi : i < L.length := (List.getElem?_eq_some_iff.1 h).1
 obtain ⟨_, h1, _⟩ := hk
 rw [txt, qFl, qPz L h]
 simp only [rtext, Option.getD_some]
 rw [qHs [] (by omega) (by omega)]; rfl

def kH : Nat := 1152921504606846976
def qBe : Nat := 1048576
def len (L : List Rl) (i : Nat) : Nat := (txt L i).length

structure Wf (L : List Rl) : Prop where
 ok : ∀ (i : Nat) (r : Rl), L[i]? = some r → r.ok (i + 1)
 nodup : ∀ (i j : Nat) (r : Rl), L[i]? = some r → L[j]? = some r → i = j
 short : ∀ i : Nat, len L i ≤ kH
 room : L.length ≤ qBe

theorem len_zero (L : List Rl) : len L 0 = 0 := rfl
theorem qVj {L : List Rl} (M : List Rl) {i : Nat} (h : i ≤ L.length) : len (L ++ M) i = len L i := by rw [len, qAz M h, len]
theorem qQm {L : List Rl} {i : Nat} (h : L.length < i) : len L i = 0 := by
 cases i with
 | zero => rfl
 | succ i =>
  rw [len, txt, qFl, List.getElem?_eq_none]
  ·rfl
  rw [qEr]; omega
theorem Wf.pos {L : List Rl} (h : Wf L) : ∀ i, 1 ≤ i → i ≤ L.length → 1 ≤ len L i := by
 intro i
 induction i using Nat.strongRecOn with
 | ind i ih =>
  intro h1 h2
  obtain ⟨j, rfl⟩ : ∃ j, i = j + 1 := ⟨i - 1, by omega⟩
  have hj : L[j]? = some L[j] := List.getElem?_eq_getElem (by omega)
  generalize L[j] = r at hj
  have hr := h.ok j r hj
  cases r with
  | letter b => rw [len, qAy hj]; simp
  | pair l r =>
   have := ih l (by have := hr.2.1; omega) hr.1 (by have := hr.2.1; omega)
   rw [len] at *
   rw [qCd hj hr, List.length_append]; omega
  | power x k =>
   have := ih x (by have := hr.2.1; omega) hr.1 (by have := hr.2.1; omega)
   rw [len] at *
   rw [qBu hj hr]
   simp only [List.length_flatten, List.map_replicate, List.sum_replicate_nat]
   exact Nat.mul_pos (by have := hr.2.2; omega) this
end
section
def U64 : Nat := 18446744073709551616
def P61 : Nat := 2305843009213693951
def redm (x : Nat) : Nat := x % P61
def addm (a b : Nat) : Nat := (a + b) % P61
def mulm (a b : Nat) : Nat := a * b % P61
def powm (a n : Nat) : Nat := a ^ n % P61
def mix (k x y : Nat) : Nat := powm (addm k (addm (mulm 1234567890123456789 x) (mulm 987654321987654321 y))) 17

theorem P61_pos : 0 < P61 := by unfold P61; omega
theorem P61_lt : P61 < U64 := by unfold P61 U64; omega
theorem qId (x : Nat) : redm x < P61 := Nat.mod_lt _ P61_pos
theorem qVl (a b : Nat) : addm a b < P61 := Nat.mod_lt _ P61_pos
theorem qJv (a b : Nat) : mulm a b < P61 := Nat.mod_lt _ P61_pos
theorem qTv (a b : Nat) : powm a b < P61 := Nat.mod_lt _ P61_pos
theorem zBt (k x y : Nat) : mix k x y < P61 := qTv _ _
theorem ltU {x : Nat} (h : x < P61) : x < U64 := Nat.lt_trans h P61_lt
theorem redm_sum (a b : Nat) : redm (redm a + redm b) = addm a b := by unfold redm addm; rw [← Nat.add_mod]
theorem qMs (a b : Nat) : redm a + redm b < U64 := by
 have := qId a; have := qId b; unfold P61 U64 at *; omega
theorem redm_mul (a b : Nat) : redm a * redm b % P61 = mulm a b := by
 unfold redm mulm; rw [← Nat.mul_mod]
theorem fold_mul (p : Nat) (hp : p < 5316911983139663491615228241121378304) :
  (p / 18446744073709551616 * 8 + p % 18446744073709551616 / 2305843009213693952) + p % 18446744073709551616 % 2305843009213693952 < 18446744073709551616 ∧
  redm ((p / 18446744073709551616 * 8 + p % 18446744073709551616 / 2305843009213693952) + p % 18446744073709551616 % 2305843009213693952) = p % P61 := by
 unfold redm P61; omega
theorem qKr (a b : Nat) : redm a * redm b < 5316911983139663491615228241121378304 := by
 have h1 := qId a; have h2 := qId b
 have h3 : redm a * redm b ≤ 2305843009213693951 * 2305843009213693951 := Nat.mul_le_mul (by unfold P61 at h1; omega) (by unfold P61 at h2; omega)
 omega

theorem qYc (a b c : Nat) : mulm (mulm a b) c = mulm a (mulm b c) := by
 unfold mulm; rw [Nat.mod_mul_mod, Nat.mul_mod_mod, Nat.mul_assoc]
theorem qTc (a : Nat) : powm a 0 = 1 := by unfold powm P61; rfl
theorem zBo (a n : Nat) : powm (redm a) n = powm a n := by unfold powm redm; rw [← Nat.pow_mod]
theorem powm_add (a m n : Nat) : powm a (m + n) = mulm (powm a m) (powm a n) := by
 unfold powm mulm; rw [Nat.pow_add, ← Nat.mul_mod]
theorem pow_even (r a n : Nat) (h : n % 2 = 0) : mulm r (powm (mulm a a) (n / 2)) = mulm r (powm a n) := by
 unfold mulm powm
 rw [← Nat.pow_mod, Nat.mul_mod_mod, Nat.mul_mod_mod, show a * a = a ^ 2 from (Nat.pow_two a).symm, ← Nat.pow_mul, show 2 * (n / 2) = n from by omega]
theorem pow_odd (r a n : Nat) (h : n % 2 = 1) : mulm (mulm r a) (powm (mulm a a) (n / 2)) = mulm r (powm a n) := by
 unfold mulm powm
 rw [← Nat.pow_mod, Nat.mul_mod_mod, Nat.mod_mul_mod, Nat.mul_mod_mod, show a * a = a ^ 2 from (Nat.pow_two a).symm, ← Nat.pow_mul, Nat.mul_assoc, ← Nat.pow_succ', show (2 * (n / 2)).succ = n from by omega]
theorem pow_end (r a : Nat) (h : r < P61) : mulm r (powm a 0) = r := by
 rw [qTc]; unfold mulm; rw [Nat.mul_one, Nat.mod_eq_of_lt h]
theorem qZu (a n : Nat) : mulm 1 (powm (redm a) n) = powm a n := by
 rw [zBo]; unfold mulm; rw [Nat.one_mul]; exact Nat.mod_eq_of_lt (qTv _ _)
end
section
def base : Nat := 1103515245
def dstep (v : Nat) (b : UInt8) : Nat := addm (mulm v base) (b.toNat + 1)
def dval (t : List UInt8) : Nat := t.foldl dstep 0
def qAl (t : List UInt8) : Nat := powm base t.length
def qBa (t : List UInt8) : Nat := t.count 10
def qDi (t : List UInt8) : Nat := (t.takeWhile (· != 10)).length
def qDh (t : List UInt8) : Nat := (t.reverse.takeWhile (· != 10)).length

theorem qIe (l : List UInt8) (a : UInt8) : dval (l ++ [a]) = addm (mulm (dval l) base) (a.toNat + 1) := by
 unfold dval
 rw [List.foldl_append, List.foldl_cons, List.foldl_nil, dstep]
theorem qIf : dval [] = 0 := by unfold dval; rw [List.foldl_nil]
theorem qEt (t : List UInt8) : dval t < P61 := by
 induction t using qPy with
 | h0 => rw [qIf]; exact P61_pos
 | h1 l a _ => rw [qIe]; exact qVl _ _
theorem qEd (t : List UInt8) : qAl t < P61 := qTv _ _
theorem dval_one (b : UInt8) : dval [b] = b.toNat + 1 := by
 have := b.toNat_lt
 have h := qIe [] b
 rw [List.nil_append, qIf] at h
 rw [h]
 unfold addm mulm P61
 omega
theorem qPm : qAl [] = 1 := by unfold qAl; rw [List.length_nil, qTc]
theorem qOr (b : UInt8) : qAl [b] = base := by
 unfold qAl powm base P61; rw [List.length_singleton, Nat.pow_one]
theorem qDo (s t : List UInt8) : qAl (s ++ t) = mulm (qAl s) (qAl t) := by
 unfold qAl; rw [List.length_append, powm_add]
theorem qZc (a b c d : Nat) : addm (mulm (addm a b) c) d = addm (mulm a c) (addm (mulm b c) d) := by
 unfold addm mulm
 generalize P61 = p
 simp only [Nat.mod_mul_mod, Nat.mod_add_mod, Nat.add_mod_mod, Nat.add_mul, Nat.add_assoc]
theorem qGk (s t : List UInt8) : dval (s ++ t) = addm (mulm (dval s) (qAl t)) (dval t) := by
 induction t using qPy with
 | h0 =>
  rw [List.append_nil, qPm, qIf]; unfold mulm addm
  rw [Nat.mul_one, Nat.add_zero, Nat.mod_mod, Nat.mod_eq_of_lt (qEt s)]
 | h1 l a ih =>
  rw [← List.append_assoc, qIe, qIe, ih, qDo, qOr, qZc, qYc]

theorem qFe (s t : List UInt8) : qBa (s ++ t) = qBa s + qBa t := List.count_append
theorem no_line {t : List UInt8} (h : qBa t = 0) : ∀ b ∈ t, (b != 10) = true := by
 intro b hb
 have := List.count_eq_zero.1 h
 simp only [bne_iff_ne]; rintro rfl; exact this hb
theorem qRb {p : UInt8 → Bool} {t : List UInt8} (h : ∀ b ∈ t, p b = true) (u : List UInt8) : (t ++ u).takeWhile p = t ++ u.takeWhile p := by
 induction t with
 | nil => rfl
 | cons a t ih => rw [List.cons_append, List.takeWhile_cons, if_pos (h a (by simp)), ih (fun b hb => h b (by simp [hb])), List.cons_append]
theorem qNv {p : UInt8 → Bool} {t : List UInt8} (h : ∃ b ∈ t, p b = false) (u : List UInt8) : (t ++ u).takeWhile p = t.takeWhile p := by
 induction t with
 | nil => obtain ⟨b, hb, _⟩ := h; cases hb
 | cons a t ih =>
  rw [List.cons_append, List.takeWhile_cons, List.takeWhile_cons]
  by_cases ha : p a = true
  ·rw [if_pos ha, if_pos ha, ih]
   obtain ⟨b, hb, hp⟩ := h
   cases hb with
   | head => rw [ha] at hp; cases hp
   | tail _ hb => exact ⟨b, hb, hp⟩
  rw [if_neg ha, if_neg ha]
theorem zBz {t : List UInt8} (h : qBa t ≠ 0) : ∃ b ∈ t, (b != 10) = false := by
 have h1 : (10 : UInt8) ∈ t := by
  rw [← List.count_pos_iff]; unfold qBa at h; omega
 exact ⟨10, h1, by decide⟩
theorem qDf (s t : List UInt8) : qDi (s ++ t) = if qBa s = 0 then s.length + qDi t else qDi s := by
 unfold qDi
 split
 ·rw [qRb (no_line ‹_›), List.length_append]
 rw [qNv (zBz ‹_›)]
theorem qEl (t : List UInt8) : qBa t.reverse = qBa t := List.count_reverse
theorem qLr (t : List UInt8) : qDh t = qDi t.reverse := rfl
theorem qEe (s t : List UInt8) : qDh (s ++ t) = if qBa t = 0 then t.length + qDh s else qDh t := by
 rw [qLr, List.reverse_append, qDf, qEl, List.length_reverse]; rfl
theorem qHp {t : List UInt8} (h : qBa t = 0) : qDi t = t.length := by
 have := qDf t []
 rw [List.append_nil, if_pos h] at this; simpa [qDi] using this
theorem qJu {t : List UInt8} (h : qBa t = 0) : qDh t = t.length := by
 rw [qLr, qHp (by rwa [qEl]), List.length_reverse]
theorem qQb (t : List UInt8) : qDi t ≤ t.length := (List.takeWhile_sublist _).length_le
theorem qWa (t : List UInt8) : qDh t ≤ t.length := by rw [qLr]; have := qQb t.reverse; rwa [List.length_reverse] at this
theorem qSi {t : List UInt8} (h : qBa t ≠ 0) : ∃ u v, t = u ++ 10 :: v ∧ qBa u = 0 := by
 induction t with
 | nil => exact absurd rfl h
 | cons a t ih =>
  by_cases ha : a = 10
  ·exact ⟨[], t, by rw [ha]; rfl, rfl⟩
  have ht : qBa t ≠ 0 := by
   unfold qBa at *; rwa [List.count_cons_of_ne ha] at h
  obtain ⟨u, v, rfl, hu⟩ := ih ht
  exact ⟨a :: u, v, rfl, by unfold qBa at *; rw [List.count_cons_of_ne ha]; exact hu⟩
theorem qLk (t : List UInt8) : qBa t ≤ t.length := List.count_le_length
theorem qOs (v : List UInt8) : qBa (10 :: v) = qBa v + 1 := by unfold qBa; rw [List.count_cons_self]
theorem qIg {t : List UInt8} (h : qBa t ≠ 0) :
  qDi t + qDh t + qBa t ≤ t.length ∧ (qBa t = 1 → qDi t + qDh t + 1 = t.length) := by
 obtain ⟨u, v, rfl, hu⟩ := qSi h
 have h1 : qDi (u ++ 10 :: v) = u.length := by rw [qDf, if_pos hu]; simp [qDi]
 have hl : qBa (u ++ 10 :: v) = qBa v + 1 := by rw [qFe, hu, qOs]; omega
 by_cases hv : qBa v = 0
 ·have h2 : qDh (u ++ 10 :: v) = v.length := by
   rw [show u ++ 10 :: v = (u ++ [10]) ++ v by simp, qEe, if_pos hv]
   have : qDh (u ++ [10]) = 0 := by rw [qEe, if_neg (by decide)]; rfl
   omega
  rw [h1, h2, hl, hv]; simp; omega
 have h2 : qDh (u ++ 10 :: v) = qDh v := by
  rw [show u ++ 10 :: v = (u ++ [10]) ++ v by simp, qEe, if_neg hv]
 have hr : qBa v.reverse ≠ 0 := by rwa [qEl]
 obtain ⟨x, y, hxy, hx⟩ := qSi hr
 have hv' : v = y.reverse ++ 10 :: x.reverse := by
  have := congrArg List.reverse hxy
  rw [List.reverse_reverse] at this; rw [this]; simp
 have h3 : qDh v = x.length := by
  rw [qLr, hxy, qDf, if_pos hx]; simp [qDi]
 have h4 : qBa v = qBa y + 1 := by rw [← qEl, hxy, qFe, hx, qOs]; omega
 have h5 : v.length = y.length + 1 + x.length := by rw [hv']; simp; omega
 have h6 := qLk y
 rw [h1, h2, h3, hl, h4]
 simp only [List.length_append, List.length_cons]
 omega
def rep (k : Nat) (t : List UInt8) : List UInt8 := (List.replicate k t).flatten
theorem qRf (t : List UInt8) : rep 0 t = [] := rfl
theorem qDp (k : Nat) (t : List UInt8) : rep (k + 1) t = t ++ rep k t := by simp [rep, List.replicate_succ]
theorem rep_one (t : List UInt8) : rep 1 t = t := by rw [qDp, qRf, List.append_nil]
theorem qOc (k : Nat) (t : List UInt8) : (rep k t).length = k * t.length := by
 simp [rep]
theorem rep_add (j k : Nat) (t : List UInt8) : rep (j + k) t = rep j t ++ rep k t := by
 induction j with
 | zero => rw [Nat.zero_add, qRf, List.nil_append]
 | succ j ih => rw [Nat.succ_add, qDp, qDp, ih, List.append_assoc]
theorem rep_comm (k : Nat) (t : List UInt8) : rep k t ++ t = t ++ rep k t := by
 have h1 := rep_add k 1 t; have h2 := qDp k t
 rw [rep_one] at h1; rw [← h1, h2]
theorem qOu (k : Nat) (t : List UInt8) : rep k (t ++ t) = rep (2 * k) t := by
 induction k with
 | zero => rfl
 | succ k ih => rw [qDp, ih, show 2 * (k + 1) = (2 * k + 1) + 1 by omega, qDp, qDp, List.append_assoc]
theorem rep_even (r t : List UInt8) {k : Nat} (h : k % 2 = 0) : r ++ rep (k / 2) (t ++ t) = r ++ rep k t := by
 rw [qOu, show 2 * (k / 2) = k by omega]
theorem rep_odd (r t : List UInt8) {k : Nat} (h : k % 2 = 1) : (r ++ t) ++ rep (k / 2) (t ++ t) = r ++ rep k t := by
 rw [qOu, List.append_assoc, ← qDp, show 2 * (k / 2) + 1 = k by omega]
theorem qMl (k : Nat) (t : List UInt8) : qBa (rep k t) = qBa t * k := by
 induction k with
 | zero => rfl
 | succ k ih => rw [qDp, qFe, ih, Nat.mul_succ]; omega
theorem zAr {k : Nat} {t : List UInt8} (hk : 1 ≤ k) (h : qBa t ≠ 0) : qDi (rep k t) = qDi t := by
 obtain ⟨j, rfl⟩ : ∃ j, k = j + 1 := ⟨k - 1, by omega⟩
 rw [qDp, qDf, if_neg h]
theorem zAj {k : Nat} {t : List UInt8} (hk : 1 ≤ k) (h : qBa t ≠ 0) : qDh (rep k t) = qDh t := by
 obtain ⟨j, rfl⟩ : ∃ j, k = j + 1 := ⟨k - 1, by omega⟩
 rw [qDp, ← rep_comm, qEe, if_neg h]
end
end Eg
namespace Go.Proofs.YtkkjjablmmmmkaaGreatDoor
section
open Go Go.RowKit

def Blk (w : World) (b : Nat) (c : List Value) (e : TypeId) : Prop := w.heap[b]? = some (.cells c.toArray e (0, 0))

variable {w w' : World} {b b' o : Nat} {c : List Value} {e : TypeId} {v : Value}
theorem Blk.lt (h : Blk w b c e) : b < w.heap.size := (Array.getElem?_eq_some_iff.1 h).1
theorem Blk.cell (h : Blk w b c e) (o : Nat) {v : Value} (hv : c[o]? = some v) : w.cell? ⟨b, o, none⟩ = some v := by
 unfold Blk at h
 simp [World.cell?, h, hv]
theorem Blk.frozen (h : Blk w b c e) (o : Nat) : w.frozen? ⟨b, o, none⟩ = false := by
 unfold Blk at h
 simp [World.frozen?, h]
theorem Blk.set_same (h : Blk w b c e) (o : Nat) (v : Value) : Blk (w.setCell ⟨b, o, none⟩ v) b (c.set o v) e := by
 unfold Blk at *
 have hlt : b < w.heap.size := (Array.getElem?_eq_some_iff.1 h).1
 simp [World.setCell, Array.getElem?_modify, h]
theorem Blk.set_other (h : Blk w b c e) (hne : b' ≠ b) (o : Nat) (v : Value) : Blk (w.setCell ⟨b', o, none⟩ v) b c e := by
 unfold Blk at *
 simp [World.setCell, Array.getElem?_modify, hne, h]
theorem Blk.alloc (h : Blk w b c e) (x : Obj) : Blk (w.alloc x) b c e := by
 have hlt := h.lt
 unfold Blk at *
 rw [Below.heap_alloc w x b hlt]; exact h
theorem Blk.drew (h : Blk w b c e) : Blk w.drew b c e := h
theorem Blk.below {B : Nat} (h : Blk w b c e) (hb : Below B w w') (hlt : b < B) : Blk w' b c e := by
 unfold Blk at *
 rw [hb.block b hlt]; exact h
theorem Blk.grown {row : Option Nat} (h : Blk w b c e) (hg : w.grownBy w' row) (hne : some b ≠ row) : Blk w' b c e := by
 have hlt := h.lt
 unfold Blk at *
 rw [hg.block b hlt hne]; exact h
theorem Blk.new (w : World) (c : List Value) (e : TypeId) : Blk (w.alloc (.cells c.toArray e)) w.heap.size c e := by
 unfold Blk
 exact heap_alloc_new w _
theorem Blk.new_at (w : World) {b : Nat} (h : b = w.heap.size) (c : List Value) (e : TypeId) : Blk (w.alloc (.cells c.toArray e)) b c e := h ▸ Blk.new w c e
theorem Blk.inj {c' : List Value} (h : Blk w b c e) (h' : Blk w b c' e) : c = c' := by
 unfold Blk at *
 rw [h] at h'
 simpa using h'
theorem qNm (w : World) (a : Addr) (v : Value) : w.grownBy (w.setCell a v) (some a.block) :=
 ⟨rfl, rfl, rfl, by simp [World.setCell], fun k _ hk => Below.heap_setCell _ _ _ _ (fun e => hk (by rw [e]))⟩
theorem qGp {p R : World → Prop} (W : World) (hR : R W) (h : ∀ wx, R wx → p wx) : p W := h W hR
theorem zBx {B n : Nat} {a w : World} (h : Below B a w) : Below B a (w.drewN n) := ⟨h.os, h.tape, h.output, h.size, h.block⟩
theorem qUp {W w1 : World} (hb : Below W.heap.size W w1) : (∀ b o, b < W.heap.size → w1.cell? ⟨b, o, none⟩ = W.cell? ⟨b, o, none⟩) ∧ (∀ b o, b < W.heap.size → w1.frozen? ⟨b, o, none⟩ = W.frozen? ⟨b, o, none⟩) :=
 ⟨fun b o h => hb.cell (p := ⟨b, o, none⟩) h, fun b o h => hb.frozen (p := ⟨b, o, none⟩) h⟩
end
section
open Go Go.RowKit Eg
set_option maxRecDepth 100000

def qKl (r : Rl) : Value := .agg #[.int .i64 (Rl.kind (r) : Nat), .int .u8 (Rl.byte (r) : Nat), .int .i64 (Rl.left (r) : Nat), .int .i64 (Rl.right (r) : Nat), .int .i64 (Rl.times (r) : Nat)]

theorem rule_inj {a b : Rl} (h1 : a.kind = b.kind) (h2 : a.byte = b.byte) (h3 : a.left = b.left) (h4 : a.right = b.right) (h5 : a.times = b.times) : a = b := by
 cases a <;> cases b <;> simp_all [Rl.kind, Rl.byte, Rl.left, Rl.right, Rl.times]
 exact UInt8.toNat_inj.1 h2

theorem zAv : Tryz.prog.underlying 82 = some (.struct (Tryz.prog.fieldsOf 82)) := by kernel_rfl
theorem held60 : Tryz.prog.stoodInHeld 82 = false := by kernel_rfl

theorem fields60 : (Tryz.prog.fieldsOf 82).toList = [⟨ "Kind", 3, 0, false, "", "", 0⟩, ⟨ "Letter", 5, 1, false, "", "", 8⟩, ⟨ "Left", 37, 2, false, "", "", 16⟩, ⟨ "Right", 37, 3, false, "", "", 24⟩, ⟨ "Times", 3, 4, false, "", "", 32⟩] := by kernel_rfl
theorem qXo (a b : Rl) (w : World) : (Op.equal 82 (qKl a) (qKl b)).run Tryz.prog w = .ok (decide (a = b)) w := by
 have h : (decide (a = b)) = ((a.kind : Int) == b.kind && ((a.byte : Int) == b.byte && ((a.left : Int) == b.left && ((a.right : Int) == b.right && (a.times : Int) == b.times)))) := by
  rw [Bool.eq_iff_iff]
  simp only [decide_eq_true_eq, Bool.and_eq_true, beq_iff_eq]
  constructor
  ·rintro rfl; simp
  rintro ⟨h1, h2, h3, h4, h5⟩
  exact rule_inj (by omega) (by omega) (by omega) (by omega) (by omega)
 rw [h]
 unfold Op.equal Op.maxDepth qKl
 rw [show (10000 : Nat) = 9999 + 1 from rfl, run_equalIn_struct _ _ _ _ _ zAv held60, fields60]
 simp only [Op.eqFields]
 simp [go_sem]
 by_cases e1 : (a.kind : Int) = b.kind
 ·by_cases e2 : (a.byte : Int) = b.byte
  ·by_cases e3 : (a.left : Int) = b.left
   ·by_cases e4 : (a.right : Int) = b.right
    ·by_cases e5 : (a.times : Int) = b.times
     ·simp [e1, e2, e3, e4, e5]
     simp [e1, e2, e3, e4, e5]
    simp [e1, e2, e3, e4]
   simp [e1, e2, e3]
  simp [e1, e2]
 simp [e1]

def qFk : List Rl → Rl → Nat → Nat
 | [], _, _ => 0
 | x :: l, r, i => if r = x then i + 1 else qFk l r (i + 1)
def idOf (L : List Rl) (r : Rl) : Nat := qFk L r 0
theorem qLu {L : List Rl} {r : Rl} {i : Nat} : qFk L r i = 0 ↔ r ∉ L := by
 induction L generalizing i with
 | nil => simp [qFk]
 | cons x l ih =>
  unfold qFk
  split
  ·subst_vars; simp
  rw [ih]; simp [*]
theorem qMw {L : List Rl} {r : Rl} {i : Nat} (h : r ∈ L) : ∃ k, qFk L r i = i + k + 1 ∧ L[k]? = some r := by
 induction L generalizing i with
 | nil => cases h
 | cons x l ih =>
  unfold qFk
  split
  ·subst_vars; exact ⟨0, rfl, rfl⟩
  rename_i hne
  obtain ⟨k, h1, h2⟩ := ih (i := i + 1) (by rcases List.mem_cons.1 h with h' | h'; exact absurd h' hne; exact h')
  exact ⟨k + 1, by omega, by simpa using h2⟩
theorem qEh {L : List Rl} {r : Rl} : idOf L r = 0 ↔ r ∉ L := qLu
theorem qZj {L : List Rl} {r : Rl} (h : r ∈ L) : 1 ≤ idOf L r ∧ L[idOf L r - 1]? = some r := by
 obtain ⟨k, h1, h2⟩ := qMw (i := 0) h
 unfold idOf
 rw [h1]
 exact ⟨by omega, by rw [show 0 + k + 1 - 1 = k by omega]; exact h2⟩

def qDk : List Rl → Nat → List MapEntry
 | [], _ => []
 | x :: l, i => ⟨qKl x, .int .i64 ((i : Int) + 1), i⟩ :: qDk l (i + 1)
def qLc (L : List Rl) : Array MapEntry := (qDk L 0).toArray
theorem qOb (L M : List Rl) (i : Nat) : qDk (L ++ M) i = qDk L i ++ qDk M (i + L.length) := by
 induction L generalizing i with
 | nil => simp [qDk]
 | cons x l ih => simp [qDk, ih, Nat.add_assoc, Nat.add_comm 1]
theorem qYs (L : List Rl) (r : Rl) : qLc (L ++ [r]) = (qLc L).push ⟨qKl r, .int .i64 ((L.length : Int) + 1), L.length⟩ := by
 simp [qLc, qOb, qDk]

theorem qVm (L : List Rl) (r : Rl) (i : Nat) (w : World) (j : Nat) :
  (Instr.findAsking 82 (qKl r) (qDk L i) j).run Tryz.prog w = .ok (if qFk L r i = 0 then none else some (j + (qFk L r i - i - 1), .int .i64 (qFk L r i : Nat))) w := by
 induction L generalizing i j with
 | nil => simp [qDk, Instr.findAsking, qFk]
 | cons x l ih =>
  unfold qDk Instr.findAsking qFk
  simp only [Sem.run_bind, qXo, Result.andThen_ok]
  by_cases h : r = x
  ·simp [h]
  simp only [h, decide_false, Bool.false_eq_true, if_false, ih]
  by_cases hz : qFk l r (i + 1) = 0
  ·simp [hz]
  have hm : r ∈ l := by
   rcases Classical.em (r ∈ l) with hm | hm
   ·exact hm
   exact absurd (qLu.2 hm) hz
  obtain ⟨k, hk, _⟩ := qMw (i := i + 1) hm
  rw [if_neg hz, if_neg hz, hk]
  congr 3
  omega

theorem qVw (L : List Rl) (r : Rl) (w : World) :
  (Instr.findKey 82 (qKl r) (qLc L).toList).run Tryz.prog w = .ok (if idOf L r = 0 then none else some (idOf L r - 1, .int .i64 (idOf L r : Nat))) w := by
 unfold Instr.findKey qLc idOf
 simp only [Sem.run_bind, run_underlying zAv, Result.andThen_ok]
 cases L with
 | nil => simp [qDk, Instr.findNow, qFk]
 | cons x l =>
  have h : Instr.findNow (.struct (Tryz.prog.fieldsOf 82)) (qKl r) (qDk (x :: l) 0) 0 = none := by
   simp [qDk, Instr.findNow, Instr.sameNow]
  rw [h]
  simpa using qVm (x :: l) r 0 w 0

theorem qTd (b : Bool) (r : Rl) (w : World) : (Instr.checkKey b 10000 82 (qKl r)).run Tryz.prog w = .ok () w := by
 unfold qKl
 generalize (r.kind : Int) = x0
 generalize (r.byte : Int) = x1
 generalize (r.left : Int) = x2
 generalize (r.right : Int) = x3
 generalize (r.times : Int) = x4
 kernel_rfl

theorem qRq : Tryz.prog.underlying 120 = some (.map 82 37) := by kernel_rfl

theorem qYn (L : List Rl) (r : Rl) (w : World) (bm : Nat) (h : w.heap[bm]? = some (.map (qLc L) L.length)) :
  (Instr.lookup 120 (.map (some bm)) (qKl r) true).run Tryz.prog w = .ok (.tuple #[.int .i64 (idOf L r : Nat), .bool (!decide (idOf L r = 0))]) w := by
 unfold Instr.lookup
 simp only [Sem.run_bind, run_underlying qRq, Result.andThen_ok]
 simp only [getObj, Sem.run, h]
 simp only [Result.andThen, Sem.run_bind, Sem.run_pure, qTd, qVw]
 by_cases hz : idOf L r = 0
 ·simp [hz]
 simp [hz]

theorem qXh (L : List Rl) (r : Rl) (w : World) (bm : Nat) (h : w.heap[bm]? = some (.map (qLc L) L.length)) (hr : r ∉ L) :
  ∃ w', (Instr.mapUpdate 120 (.map (some bm)) (qKl r) (.int .i64 ((L.length : Int) + 1))).run Tryz.prog w = .ok () w' ∧ w'.heap[bm]? = some (.map (qLc (L ++ [r])) (L ++ [r]).length) ∧ w.grownBy w' (some bm) := by
 have hlt : bm < w.heap.size := (Array.getElem?_eq_some_iff.1 h).1
 refine ⟨ChangeMaps.setBlock w bm (.map (qLc (L ++ [r])) (L ++ [r]).length), ?_, ?_, ?_⟩
 ·unfold Instr.mapUpdate
  simp only [Sem.run_bind, run_underlying qRq, Result.andThen_ok]
  simp only [getObj, Sem.run, h]
  simp only [Result.andThen, Sem.run_bind, qTd, qVw, qEh.2 hr, if_true]
  simp only [setObj, Sem.run, qYs, List.length_append, List.length_singleton]
  rw [h]
  rfl
 ·simp [ChangeMaps.setBlock, hlt]
 refine ⟨rfl, rfl, rfl, by simp [ChangeMaps.setBlock], fun k _ hk => ?_⟩
 simp only [ChangeMaps.setBlock]
 rw [Array.getElem?_setIfInBounds_ne (by intro e; exact hk (by rw [e]))]
end
section
open Go Go.RowKit Eg

theorem qGy {k : IntKind} {a b : Int} (h : a = b) : Ending.returned (.int k a) = .returned (.int k b) := by rw [h]

namespace Mul64
theorem maskN (a : Nat) (ha : a < 18446744073709551616) : bits .and .u64 (a : Int) 4294967295 = ((a % 4294967296 : Nat) : Int) := by
 have h := bits_and_u64_nat a 4294967295 ha (by omega)
 have e : a &&& 4294967295 = a % 4294967296 := Nat.and_two_pow_sub_one_eq_mod a 32
 rw [e] at h
 exact h
theorem divN (a : Nat) : (a : Int) / 4294967296 = ((a / 4294967296 : Nat) : Int) := by omega
theorem mulN (a b : Nat) : (a : Int) * (b : Int) = ((a * b : Nat) : Int) := (Int.natCast_mul a b).symm
theorem addN (a b : Nat) : (a : Int) + (b : Int) = ((a + b : Nat) : Int) := (Int.natCast_add a b).symm
theorem wrapN (a : Nat) (ha : a < 18446744073709551616) : IntKind.u64.wrap (a : Int) = (a : Int) := by rw [IntKind.wrap_u64]; omega
theorem wrapM (a : Nat) : IntKind.u64.wrap (a : Int) = ((a % 18446744073709551616 : Nat) : Int) := by rw [IntKind.wrap_u64]; omega
end Mul64

set_option maxHeartbeats 1000000 in
theorem qYp (x y : Nat) (hx : x < 18446744073709551616) (hy : y < 18446744073709551616) (w : World) :
  Calls Tryz.prog 148 #[.int .u64 x, .int .u64 y] w fun e w' => e = .returned (.tuple #[.int .u64 ((x * y / 18446744073709551616 : Nat) : Int), .int .u64 ((x * y % 18446744073709551616 : Nat) : Int)]) ∧ w = w' := by
 obtain ⟨bd, bt, bw, hhi⟩ := Lib.mul64_hi x y hx hy
 have ba := Lib.half_mul_le (a := x / 4294967296) (b := y / 4294967296) (by omega) (by omega)
 have bb := Lib.half_mul_le (a := x / 4294967296) (b := y % 4294967296) (by omega) (by omega)
 have bc := Lib.half_mul_le (a := x % 4294967296) (b := y / 4294967296) (by omega) (by omega)
 have ba' : x / 4294967296 * (y / 4294967296) < 18446744073709551616 := by omega
 have bb' : x / 4294967296 * (y % 4294967296) < 18446744073709551616 := by omega
 have bc' : x % 4294967296 * (y / 4294967296) < 18446744073709551616 := by omega
 have bh1 : x / 4294967296 * (y / 4294967296) + (x / 4294967296 * (y % 4294967296) + x % 4294967296 * (y % 4294967296) / 4294967296) / 4294967296 < 18446744073709551616 := by omega
 have bh : x / 4294967296 * (y / 4294967296) + (x / 4294967296 * (y % 4294967296) + x % 4294967296 * (y % 4294967296) / 4294967296) / 4294967296 + ((x / 4294967296 * (y % 4294967296) + x % 4294967296 * (y % 4294967296) / 4294967296) % 4294967296 + x % 4294967296 * (y / 4294967296)) / 4294967296 < 18446744073709551616 := by omega
 go_enter Tryz.func148, Tryz.ntmps148
 go_wp2
 simp only [Mul64.maskN x hx, Mul64.maskN y hy, Mul64.divN, Mul64.mulN, Mul64.addN, Mul64.wrapN _ bd, Mul64.wrapN _ bb', Mul64.wrapN _ bt, Mul64.maskN _ bt, Mul64.wrapN _ bc', Mul64.wrapN _ bw, Mul64.wrapN _ ba', Mul64.wrapN _ bh1, Mul64.wrapN _ bh, Mul64.wrapM (x * y)]
 rw [hhi]
 go_ret2
 exact ⟨rfl, rfl⟩

theorem qQp (x : Nat) (hx : x < 18446744073709551616) : bits .and .u64 (x : Int) 2305843009213693951 = ((x % 2305843009213693952 : Nat) : Int) := by
 rw [show (2305843009213693951 : Int) = ((2305843009213693951 : Nat) : Int) from rfl, u64_and_nat x _ hx (by omega), show (2305843009213693951 : Nat) = 2 ^ 61 - 1 from rfl, Nat.and_two_pow_sub_one_eq_mod]

set_option maxRecDepth 100000 in
theorem qDy (x : Nat) (w : World) (hx : x < U64) :
  Calls Tryz.prog 147 #[.int .u64 x] w fun e w' => e = .returned (.int .u64 (redm x : Nat)) ∧ w = w' := by
 unfold U64 at hx
 have h1 := qQp x hx
 by_cases hc : 2305843009213693951 ≤ x % 2305843009213693952 + x / 2305843009213693952
 ·have e : (x : Int) % 2305843009213693952 + (x : Int) / 2305843009213693952 - 2305843009213693951 = ((redm x : Nat) : Int) := by unfold redm P61; omega
  have E := Lib.hid e
  have hb : decide ((2305843009213693951 : Int) ≤ (x : Int) % 2305843009213693952 + (x : Int) / 2305843009213693952) = true := by simp; omega
  clear e
  go_enter Tryz.func147, Tryz.ntmps147
  go_wp2
  go_ret
  exact ⟨qGy E.out, rfl⟩
 have e : (x : Int) % 2305843009213693952 + (x : Int) / 2305843009213693952 = ((redm x : Nat) : Int) := by unfold redm P61; omega
 have E := Lib.hid e
 have hb : decide ((2305843009213693951 : Int) ≤ (x : Int) % 2305843009213693952 + (x : Int) / 2305843009213693952) = false := by simp; omega
 clear e
 go_enter Tryz.func147, Tryz.ntmps147
 go_wp2
 go_ret
 exact ⟨qGy E.out, rfl⟩

theorem wrap_u64 (a : Nat) (ha : a < U64) : IntKind.u64.wrap (a : Int) = (a : Int) := by unfold U64 at ha; rw [IntKind.wrap_u64]; omega

theorem qJm (a b : Nat) (w : World) (ha : a < U64) (hb : b < U64) :
  Calls Tryz.prog 125 #[.int .u64 a, .int .u64 b] w fun e w' => e = .returned (.int .u64 (addm a b : Nat)) ∧ w = w' := by
 have hs := wrap_u64 _ (qMs a b)
 rw [Int.natCast_add] at hs
 go_enter Tryz.func125, Tryz.ntmps125
 go_wp2_with fail
 refine (qDy a w ha).mono ?_
 rintro e w' ⟨rfl, rfl⟩
 go_wp2_with fail
 refine (qDy b w hb).mono ?_
 rintro e w' ⟨rfl, rfl⟩
 go_wp2_with fail
 rw [← Int.natCast_add]
 refine (qDy (redm a + redm b) w (qMs a b)).mono ?_
 rintro e w' ⟨rfl, rfl⟩
 rw [redm_sum]
 go_wp2_with fail
 go_ret
 exact ⟨rfl, rfl⟩

def foldq (p : Nat) : Nat := (p / 18446744073709551616 * 8 + p % 18446744073709551616 / 2305843009213693952) + p % 18446744073709551616 % 2305843009213693952
theorem mul_arg (p : Nat) (hp : p < 5316911983139663491615228241121378304) :
  IntKind.u64.wrap ((p : Int) / 18446744073709551616 * 8 + (p : Int) % 18446744073709551616 / 2305843009213693952 + bits .and .u64 ((p : Int) % 18446744073709551616) 2305843009213693951) = ((foldq p : Nat) : Int) := by
 have h1 := qQp (p % 18446744073709551616) (Nat.mod_lt _ (by omega))
 rw [Int.natCast_emod] at h1
 rw [show ((18446744073709551616 : Nat) : Int) = 18446744073709551616 from rfl] at h1
 rw [h1, IntKind.wrap_u64]
 unfold foldq
 omega

theorem qEn (a b : Nat) (w : World) (ha : a < U64) (hb : b < U64) :
  Calls Tryz.prog 126 #[.int .u64 a, .int .u64 b] w fun e w' => e = .returned (.int .u64 (mulm a b : Nat)) ∧ w = w' := by
 obtain ⟨f1, f2⟩ := fold_mul _ (qKr a b)
 rw [redm_mul] at f2
 have hp := qKr a b
 have hra := ltU (qId a)
 have hrb := ltU (qId b)
 unfold U64 at hra hrb
 have F1 := Lib.hid f1
 have F2 := Lib.hid f2
 clear f1 f2
 go_enter Tryz.func126, Tryz.ntmps126
 go_wp2_with fail
 refine (qDy a w ha).mono ?_
 rintro e w' ⟨rfl, rfl⟩
 go_wp2_with fail
 refine (qDy b w hb).mono ?_
 rintro e w' ⟨rfl, rfl⟩
 go_wp2_with fail
 refine (qYp _ _ hra hrb w).mono ?_
 rintro e w' ⟨rfl, rfl⟩
 clear hra hrb
 generalize redm a * redm b = p at *
 go_wp2_with fail
 rw [mul_arg p hp]
 refine (qDy (foldq p) w F1.out).mono ?_
 rintro e w' ⟨rfl, rfl⟩
 rw [show redm (foldq p) = mulm a b from F2.out]
 go_wp2_with fail
 go_ret
 exact ⟨rfl, rfl⟩

theorem qFx (a n : Nat) (w : World) (ha : a < U64) (hn : n < 9223372036854775808) :
  Calls Tryz.prog 124 #[.int .u64 a, .int .u64 n] w fun e w' => e = .returned (.int .u64 (powm a n : Nat)) ∧ w = w' := by
 go_enter Tryz.func124, Tryz.ntmps124
 go_wp2_with fail
 refine (qDy a w ha).mono ?_
 rintro e w' ⟨rfl, rfl⟩
 go_wp2_with fail
 go_loop [0, 1, 5] (fun x m r => ∃ a' n' r' : Nat, x = .int .u64 a' ∧ m = .int .u64 n' ∧ r = .int .u64 r' ∧ a' < P61 ∧ r' < P61 ∧ n' < 9223372036854775808 ∧ mulm r' (powm a' n') = powm a n) (fun _ m _ => (intOf m).toNat)
 case atStart => exact ⟨redm a, n, 1, rfl, rfl, rfl, qId a, by decide, hn, qZu a n⟩
 case round =>
  obtain ⟨a', n', r', rfl, rfl, rfl, ha', hr', hn', he⟩ := hrel
  have HE := Lib.hid he
  clear he
  have HA := Lib.hid ha'
  have HR := Lib.hid hr'
  clear ha' hr'
  by_cases h0 : 0 < n'
  ·by_cases h1 : n' % 2 = 1
   ·go_wp2_with fail
    refine (qEn r' a' w (ltU HR.out) (ltU HA.out)).mono ?_
    rintro e w' ⟨rfl, rfl⟩
    go_wp2_with fail
    refine (qEn a' a' w (ltU HA.out) (ltU HA.out)).mono ?_
    rintro e w' ⟨rfl, rfl⟩
    go_wp2_with fail
    go_round
    case rel => exact ⟨mulm a' a', n' / 2, mulm r' a', rfl, by go_num, rfl, qJv _ _, qJv _ _, by omega, (pow_odd r' a' n' h1).trans HE.out⟩
    case measure => simp [intOf]; omega
   go_wp2_with fail
   refine (qEn a' a' w (ltU HA.out) (ltU HA.out)).mono ?_
   rintro e w' ⟨rfl, rfl⟩
   go_wp2_with fail
   go_round
   case rel => exact ⟨mulm a' a', n' / 2, r', rfl, by go_num, rfl, qJv _ _, HR.out, by omega, (pow_even r' a' n' (by omega)).trans HE.out⟩
   case measure => simp [intOf]; omega
  go_wp2_with fail
  go_ret
  obtain rfl : n' = 0 := by omega
  refine ⟨qGy ?_, rfl⟩
  rw [← HE.out, pow_end _ _ HR.out]

theorem qJz (k x y : Nat) (w : World) (hk : k < U64) (hx : x < U64) (hy : y < U64) :
  Calls Tryz.prog 145 #[.int .u64 k, .int .u64 x, .int .u64 y] w fun e w' => e = .returned (.int .u64 (mix k x y : Nat)) ∧ w = w' := by
 go_enter Tryz.func145, Tryz.ntmps145
 go_wp2_with fail
 refine (qEn 1234567890123456789 x w (by unfold U64; omega) hx).mono ?_
 rintro e w' ⟨rfl, rfl⟩
 go_wp2_with fail
 refine (qEn 987654321987654321 y w (by unfold U64; omega) hy).mono ?_
 rintro e w' ⟨rfl, rfl⟩
 go_wp2_with fail
 refine (qJm _ _ w (ltU (qJv _ _)) (ltU (qJv _ _))).mono ?_
 rintro e w' ⟨rfl, rfl⟩
 go_wp2_with fail
 refine (qJm _ _ w hk (ltU (qVl _ _))).mono ?_
 rintro e w' ⟨rfl, rfl⟩
 go_wp2_with fail
 refine (qFx _ 17 w (ltU (qVl _ _)) (by omega)).mono ?_
 rintro e w' ⟨rfl, rfl⟩
 go_wp2_with fail
 go_ret
 exact ⟨rfl, rfl⟩
end
section
open Go Go.RowKit Eg
set_option maxRecDepth 100000

theorem qMn (w : World) :
  Calls Tryz.prog 123 #[] w fun e w' => e = .returned (.agg #[.int .u64 0, .int .u64 1]) ∧ Below w.heap.size w w' := by
 go_enter Tryz.func123, Tryz.ntmps123
 go_wp2
 refine bodyPost_ret (v := .agg #[.int .u64 0, .int .u64 1]) (by simp [results, Tryz.results123, go_sem]) rfl ⟨rfl, by go_grown⟩

theorem same {P : Program} {f : FuncId} {args : Array Value} {w : World} {v : Value} (h : Calls P f args w fun e w' => e = .returned v ∧ w = w') : Calls P f args w fun e w' => e = .returned v ∧ w' = w :=
 h.mono fun _ _ ⟨he, hw⟩ => ⟨he, hw.symm⟩

theorem qCz {P : Program} {id : Nat} {Q : Exit → Act → World → Prop} {a : Act} {w : World} {l : List Oper} (n : Nat) (hm : P.follows .mixedOrders = true) (hB : Region.lexTailB .any l.toArray n = true)
  (h : wpStill P l.toArray w.drew (fun a' => wpList P l.toArray Q (l.drop n) a' w.drew) (l.take n) a) : (Code.region id l.toArray true).wp P Q a w :=
 wp_region_still_tail n hm hB h

theorem qGh (a b c d : Nat) (w : World) (ha : a < P61) (hb : b < P61) (hc : c < P61) (hd : d < P61) :
  Calls Tryz.prog 101 #[.agg #[.int .u64 a, .int .u64 b], .agg #[.int .u64 c, .int .u64 d]] w fun e w' => e = .returned (.agg #[.int .u64 (addm (mulm a d) c : Nat), .int .u64 (mulm b d : Nat)]) ∧ Below w.heap.size w w' := by
 go_enter Tryz.func101, Tryz.ntmps101
 go_wp2_with fail
 refine qCz 14 (by kernel_rfl) (by kernel_rfl) ?_
 simp only [List.take_succ_cons, List.take_zero, List.drop_succ_cons, List.drop_zero]
 repeat (first | still_step | still_call (same (qEn _ _ _ (ltU (by assumption)) (ltU (by assumption)))) | still_call (same (qJm _ _ _ (ltU (qJv _ _)) (ltU (by assumption)))))
 refine wpStill_nil ?_
 go_wp2_with fail
 refine bodyPost_ret (v := .agg #[.int .u64 (addm (mulm a d) c : Nat), .int .u64 (mulm b d : Nat)]) (by simp [results, Tryz.results101, go_sem]) rfl ⟨rfl, ?_⟩
 go_grown

theorem qIm (b : UInt8) (w : World) :
  Calls Tryz.prog 97 #[.int .u8 b.toNat] w fun e w' => e = .returned (.agg #[.int .u64 (dval [b] : Nat), .int .u64 (qAl [b] : Nat)]) ∧ Below w.heap.size w w' := by
 have hb := b.toNat_lt
 have e1 := dval_one b
 have e2 := qOr b
 rw [e1, e2]
 clear e1 e2
 unfold base
 generalize b.toNat = n at *
 go_enter Tryz.func97, Tryz.ntmps97
 go_wp2
 refine bodyPost_ret (v := .agg #[.int .u64 ((n + 1 : Nat) : Int), .int .u64 1103515245]) (by simp [results, Tryz.results97, go_sem]) rfl ⟨rfl, by go_grown⟩

theorem qCp (n : Nat) (w : World) (hn : n ≤ kH) :
  Calls Tryz.prog 99 #[.int .i64 n] w fun e w' => e = .returned (.bool true) ∧ w = w' := by
 have h1 : decide ((n : Int) ≤ 1152921504606846976) = true := by unfold kH at hn; simp; omega
 have h2 : decide ((0 : Int) ≤ (n : Int)) = true := by simp
 clear hn
 go_enter Tryz.func99, Tryz.ntmps99
 go_wp2
 go_ret
 exact ⟨rfl, rfl⟩

theorem qOq (a b : Nat) (w : World) (h : a + b ≤ kH) :
  Calls Tryz.prog 77 #[.int .i64 a, .int .i64 b] w fun e w' => e = .returned (.tuple #[.int .i64 ((a + b : Nat) : Int), .nilIface]) ∧ w = w' := by
 have ha : a ≤ kH := by omega
 have hb : b ≤ kH := by omega
 have h1 : decide ((1152921504606846976 : Int) - (b : Int) < (a : Int)) = false := by unfold kH at h; simp; omega
 have h2 : b ≤ 1152921504606846976 := hb
 have h3 : a ≤ 1152921504606846976 := ha
 have ha' := Lib.hid ha
 have hb' := Lib.hid hb
 clear ha hb h
 go_enter Tryz.func77, Tryz.ntmps77
 go_wp2_with fail
 refine (qCp a w ha'.out).mono ?_
 rintro e w' ⟨rfl, rfl⟩
 go_wp2_with fail
 refine (qCp b w hb'.out).mono ?_
 rintro e w' ⟨rfl, rfl⟩
 go_wp2_with fail
 go_ret2
 exact ⟨by simp, rfl⟩

end
section
open Go Go.RowKit Eg
set_option maxRecDepth 100000

theorem qPj (a k : Nat) (w : World) (ha : a ≤ kH) (h0 : 1 ≤ a) (h : a * k ≤ kH) :
  Calls Tryz.prog 95 #[.int .i64 a, .int .i64 k] w fun e w' => e = .returned (.tuple #[.int .i64 ((a * k : Nat) : Int), .nilIface]) ∧ w = w' := by
 have hq : k ≤ 1152921504606846976 / a := (Nat.le_div_iff_mul_le (by omega)).2 (by rw [Nat.mul_comm]; exact h)
 have h1 : decide ((1152921504606846976 : Int) / (a : Int) < (k : Int)) = false := by
  rw [show (1152921504606846976 : Int) / (a : Int) = ((1152921504606846976 / a : Nat) : Int) from by rw [Int.natCast_ediv]; rfl]
  rw [decide_eq_false_iff_not]; intro hh; exact absurd hq (Nat.not_le.2 (Int.ofNat_lt.1 hh))
 have hw : wrap64 ((a : Int) * (k : Int)) = ((a * k : Nat) : Int) := by
  rw [← Int.natCast_mul]; unfold kH at h; exact IntWalk.wrap64_in _ ⟨by omega, by omega⟩
 have h3 : a ≤ 1152921504606846976 := ha
 have h4 : ((a : Int) == 0) = false := by simp; omega
 have h5 : decide ((k : Int) < 0) = false := by simp
 have ha' := Lib.hid ha
 have HW := Lib.hid hw
 clear ha hq h hw
 go_enter Tryz.func95, Tryz.ntmps95
 go_wp2_with fail
 refine (qCp a w ha'.out).mono ?_
 rintro e w' ⟨rfl, rfl⟩
 go_wp2_with fail
 go_ret2
 exact ⟨by simp [HW.out], rfl⟩

theorem qVa (n lo hi : Int) (w : World) :
  Calls Tryz.prog 57 #[.int .i64 n, .int .i64 lo, .int .i64 hi] w fun e w' => e = .returned (.int .i64 (if n < lo then lo else if hi < n then hi else n)) ∧ w = w' := by
 by_cases h1 : n < lo
 ·rw [if_pos h1]
  go_enter Tryz.func57, Tryz.ntmps57
  go_wp2
  go_ret
  exact ⟨rfl, rfl⟩
 rw [if_neg h1]
 by_cases h2 : hi < n
 ·rw [if_pos h2]
  go_enter Tryz.func57, Tryz.ntmps57
  go_wp2
  go_ret
  exact ⟨rfl, rfl⟩
 rw [if_neg h2]
 go_enter Tryz.func57, Tryz.ntmps57
 go_wp2
 go_ret
 exact ⟨rfl, rfl⟩

theorem qQi (t : List UInt8) (k : Nat) (w : World) (hk : k < 9223372036854775808) :
  Calls Tryz.prog 122 #[.agg #[.int .u64 (dval t), .int .u64 (qAl t)], .int .i64 k] w fun e w' => e = .returned (.agg #[.int .u64 (dval (rep k t) : Nat), .int .u64 (qAl (rep k t) : Nat)]) ∧ Below w.heap.size w w' := by
 go_enter Tryz.func122, Tryz.ntmps122
 go_wp2_with fail
 refine (qMn _).mono ?_
 rintro e w1 ⟨rfl, hb⟩
 have hz : w.heap.size + 1 < w1.heap.size := by have := hb.size; simp at this; omega
 have b1 : Blk w1 w.heap.size [.int .u64 (dval t : Nat), .int .u64 (qAl t : Nat)] 135 := ((Blk.new w _ _).alloc _).below hb (by simp; omega)
 have b2 : Blk w1 (w.heap.size + 1) [.int .u64 0, .int .u64 0] 135 := by
  have := (Blk.new (w.alloc (.cells #[.int .u64 (dval t : Nat), .int .u64 (qAl t : Nat)] 135)) [.int .u64 0, .int .u64 0] 135).below hb (by simp)
  simpa using this
 have hbw : Below w.heap.size w w1 := by
  refine Below.trans ?_ (hb.mono (by simp; omega))
  go_grown
 clear hb
 go_wp2_with fail
 go_loopw [1] (fun x wr => ∃ (m : Nat) (R D : List UInt8), x = .int .i64 m ∧ m < 9223372036854775808 ∧ R ++ rep m D = rep k t ∧
   Blk wr w.heap.size [.int .u64 (dval D : Nat), .int .u64 (qAl D : Nat)] 135 ∧ Blk wr (w.heap.size + 1) [.int .u64 0, .int .u64 0] 135 ∧
   Blk wr w1.heap.size [.int .u64 (dval R : Nat), .int .u64 (qAl R : Nat)] 135 ∧ Below w.heap.size w wr) (fun x _ => (intOf x).toNat)
 case atStart =>
  refine ⟨k, [], t, rfl, hk, rfl, b1.alloc _, b2.alloc _, ?_, ?_⟩
  ·have := Blk.new w1 [.int .u64 0, .int .u64 1] 135
   rw [qIf, qPm]; exact this
  exact hbw.alloc (by omega) _
 case round =>
  obtain ⟨m, R, D, rfl, hm, he, c1, c2, c3, hbr⟩ := hrel
  have HE := Lib.hid he
  clear he
  have k1 := c1.cell 0 rfl
  have k2 := c1.cell 1 rfl
  have k3 := c3.cell 0 rfl
  have k4 := c3.cell 1 rfl
  have f1 := c1.frozen 0
  have f2 := c1.frozen 1
  have f3 := c3.frozen 0
  have f4 := c3.frozen 1
  have k5 := c2.cell 0 rfl
  have k6 := c2.cell 1 rfl
  have f5 := c2.frozen 0
  have f6 := c2.frozen 1
  have hlt := c3.lt
  by_cases h0 : 0 < m
  ·by_cases h1 : m % 2 = 1
   ·go_wp2_with fail
    refine (qGh _ _ _ _ _ (qEt R) (qEd R) (qEt D) (qEd D)).mono ?_
    rintro e w2 ⟨rfl, hb2⟩
    rw [← qGk, ← qDo]
    have d1 := c1.below hb2 (by omega)
    have d2 := c2.below hb2 (by omega)
    have d3 := c3.below hb2 hlt
    have hbr2 : Below w.heap.size w w2 := hbr.trans (hb2.mono (by omega))
    have e1 := d1.cell 0 rfl
    have e2 := d1.cell 1 rfl
    have e3 := d3.cell 0 rfl
    have e4 := d3.cell 1 rfl
    have g3 := d3.frozen 0
    have g4 := d3.frozen 1
    have hlt2 := d3.lt
    clear k1 k2 k3 k4 k5 k6 f1 f2 f3 f4 f5 f6 c1 c2 c3 hb2 hbr
    go_wp2_with fail
    refine (qGh _ _ _ _ _ (qEt D) (qEd D) (qEt D) (qEd D)).mono ?_
    rintro e w3 ⟨rfl, hb3⟩
    rw [← qGk, ← qDo]
    have hs3 : ((w2.setCell ⟨w1.heap.size, 0, none⟩ (.int .u64 (dval (R ++ D) : Nat))).setCell ⟨w1.heap.size, 1, none⟩ (.int .u64 (qAl (R ++ D) : Nat))).heap.size = w2.heap.size := by simp
    have q1 := ((d1.set_other (b' := w1.heap.size) (by omega) 0 (.int .u64 (dval (R ++ D) : Nat))).set_other (b' := w1.heap.size) (by omega) 1 (.int .u64 (qAl (R ++ D) : Nat))).below hb3 (by omega)
    have q2 := ((d2.set_other (b' := w1.heap.size) (by omega) 0 (.int .u64 (dval (R ++ D) : Nat))).set_other (b' := w1.heap.size) (by omega) 1 (.int .u64 (qAl (R ++ D) : Nat))).below hb3 (by omega)
    have q3 := ((d3.set_same 0 (.int .u64 (dval (R ++ D) : Nat))).set_same 1 (.int .u64 (qAl (R ++ D) : Nat))).below hb3 (by omega)
    have hbr3 : Below w.heap.size w w3 := ((hbr2.setCell (p := ⟨w1.heap.size, 0, none⟩) (by simp; omega) _).setCell (p := ⟨w1.heap.size, 1, none⟩) (by simp; omega) _).trans (hb3.mono (by omega))
    clear hs3 hb3 e1 e2 e3 e4 g3 g4 d1 d2 d3 hbr2
    have k1 := q1.cell 0 rfl
    have k2 := q1.cell 1 rfl
    have f1 := q1.frozen 0
    have f2 := q1.frozen 1
    have hlt3 := q3.lt
    go_wp2_with fail
    go_roundw
    case rel =>
     refine ⟨m / 2, R ++ D, D ++ D, by go_num, by omega, (rep_odd R D h1).trans HE.out, (q1.set_same 0 _).set_same 1 _, (q2.set_other (by omega) 0 _).set_other (by omega) 1 _, (q3.set_other (by omega) 0 _).set_other (by omega) 1 _, (hbr3.setCell (by simp) _).setCell (by simp) _⟩
    case measure => simp [intOf]; omega
   go_wp2_with fail
   refine (qGh _ _ _ _ _ (qEt D) (qEd D) (qEt D) (qEd D)).mono ?_
   rintro e w3 ⟨rfl, hb3⟩
   rw [← qGk, ← qDo]
   have q1 := c1.below hb3 (by omega)
   have q2 := c2.below hb3 (by omega)
   have q3 := c3.below hb3 (by omega)
   have hbr3 : Below w.heap.size w w3 := hbr.trans (hb3.mono (by omega))
   clear hb3 k1 k2 k3 k4 k5 k6 f1 f2 f3 f4 f5 f6 c1 c2 c3 hbr
   have k1 := q1.cell 0 rfl
   have k2 := q1.cell 1 rfl
   have f1 := q1.frozen 0
   have f2 := q1.frozen 1
   have hlt3 := q3.lt
   go_wp2_with fail
   go_roundw
   case rel =>
    refine ⟨m / 2, R, D ++ D, by go_num, by omega, (rep_even R D (by omega)).trans HE.out, (q1.set_same 0 _).set_same 1 _, (q2.set_other (by omega) 0 _).set_other (by omega) 1 _, (q3.set_other (by omega) 0 _).set_other (by omega) 1 _, (hbr3.setCell (by simp) _).setCell (by simp) _⟩
   case measure => simp [intOf]; omega
  obtain rfl : m = 0 := by omega
  have hR : R = rep k t := by have := HE.out; rwa [qRf, List.append_nil] at this
  subst hR
  go_wp2_with fail
  refine bodyPost_ret (v := .agg #[.int .u64 (dval (rep k t) : Nat), .int .u64 (qAl (rep k t) : Nat)]) ?_ rfl ⟨rfl, ?_⟩
  ·simp [results, Tryz.results122, go_sem, k5, k6]
  exact (hbr.setCell (by simp) _).setCell (by simp) _

theorem qUw (w : World) : Calls Tryz.prog 98 #[] w fun e w' => e = .returned (.agg #[.int .i64 0, .int .i64 0, .int .i64 0, .int .i64 0, .int .u64 0, .int .u64 1]) ∧ Below w.heap.size w w' := by
 go_enter Tryz.func98, Tryz.ntmps98
 go_wp2_with fail
 refine (qMn _).mono ?_
 rintro e w1 ⟨rfl, hb⟩
 obtain ⟨hc, hf⟩ := qUp hb
 have hz : w.heap.size < w1.heap.size := by have := hb.size; simp at this; omega
 have hbw : Below w.heap.size w w1 := by
  refine Below.trans ?_ (hb.mono (by simp))
  go_grown
 go_wp2_with fail
 refine bodyPost_ret (v := .agg #[.int .i64 0, .int .i64 0, .int .i64 0, .int .i64 0, .int .u64 0, .int .u64 1]) (by simp [results, Tryz.results98, go_sem, hc]) rfl ⟨rfl, ?_⟩
 repeat (refine Below.setCell ?_ (by simp) _)
 exact hbw

theorem qPv (b : UInt8) (w : World) : Calls Tryz.prog 75 #[.int .u8 b.toNat] w fun e w' => e = .returned (.agg #[.int .i64 (List.length ([b]) : Nat), .int .i64 (qBa ([b]) : Nat), .int .i64 (qDi ([b]) : Nat), .int .i64 (qDh ([b]) : Nat), .int .u64 (dval ([b]) : Nat), .int .u64 (qAl ([b]) : Nat)]) ∧ Below w.heap.size w w' := by
 have hb := b.toNat_lt
 by_cases h10 : b = 10
 ·subst h10
  go_enter Tryz.func75, Tryz.ntmps75
  go_wp2_with fail
  refine (qIm 10 _).mono ?_
  rintro e w1 ⟨rfl, hb⟩
  obtain ⟨hc, hf⟩ := qUp hb
  have hz : w.heap.size < w1.heap.size := by have := hb.size; simp at this; omega
  have hbw : Below w.heap.size w w1 := by
   refine Below.trans ?_ (hb.mono (by simp))
   go_grown
  go_wp2_with fail
  refine bodyPost_ret (v := .agg #[.int .i64 1, .int .i64 1, .int .i64 0, .int .i64 0, .int .u64 (dval [10] : Nat), .int .u64 (qAl [10] : Nat)]) (by simp [results, Tryz.results75, go_sem, hc]) rfl ⟨rfl, ?_⟩
  repeat (refine Below.setCell ?_ (by simp) _)
  exact hbw
 have hn : ((b.toNat : Int) == 10) = false := by
  simp only [beq_eq_false_iff_ne]
  intro h
  exact h10 (UInt8.toNat_inj.1 (by have : (10 : UInt8).toNat = 10 := rfl; omega))
 have hl : qBa [b] = 0 := by unfold qBa; rw [List.count_cons_of_ne h10]; rfl
 rw [qHp hl, qJu hl, hl]
 go_enter Tryz.func75, Tryz.ntmps75
 go_wp2_with fail
 refine (qIm b _).mono ?_
 rintro e w1 ⟨rfl, hb⟩
 obtain ⟨hc, hf⟩ := qUp hb
 have hz : w.heap.size < w1.heap.size := by have := hb.size; simp at this; omega
 have hbw : Below w.heap.size w w1 := by
  refine Below.trans ?_ (hb.mono (by simp))
  go_grown
 go_wp2_with fail
 refine bodyPost_ret (v := .agg #[.int .i64 1, .int .i64 0, .int .i64 1, .int .i64 1, .int .u64 (dval [b] : Nat), .int .u64 (qAl [b] : Nat)]) (by simp [results, Tryz.results75, go_sem, hc]) rfl ⟨rfl, ?_⟩
 repeat (refine Below.setCell ?_ (by simp) _)
 exact hbw
end
section
open Go Go.RowKit Eg
set_option maxRecDepth 100000

structure Ent where
 r : Rl
 t : List UInt8
 d : Int
 e : Bool
def Ent.cells (x : Ent) : List Value := [.int .i64 (Rl.kind (x.r) : Nat), .int .u8 (Rl.byte (x.r) : Nat), .int .i64 (Rl.left (x.r) : Nat), .int .i64 (Rl.right (x.r) : Nat), .int .i64 (Rl.times (x.r) : Nat), .int .i64 (List.length (x.t) : Nat), .int .i64 (qBa (x.t) : Nat), .int .i64 (qDi (x.t) : Nat), .int .i64 (qDh (x.t) : Nat), .int .u64 (dval (x.t) : Nat), .int .u64 (qAl (x.t) : Nat), .int .i64 x.d, .bool x.e]
theorem Ent.cells_length (x : Ent) : x.cells.length = 13 := rfl
def rls (E : List Ent) : List Rl := E.map (·.r)
theorem zQ (E : List Ent) : (rls E).length = E.length := List.length_map _
theorem kG (E M : List Ent) : rls (E ++ M) = rls E ++ rls M := List.map_append
theorem qPo {E : List Ent} {i : Nat} {x : Ent} (h : E[i]? = some x) : (rls E)[i]? = some x.r := by simp [rls, h]
def qIx (E : List Ent) : List Value := E.flatMap Ent.cells
theorem qTj (E M : List Ent) : qIx (E ++ M) = qIx E ++ qIx M := List.flatMap_append
theorem qRw {E : List Ent} {i : Nat} {x : Ent} (h : E[i]? = some x) (j : Nat) (hj : j < 13) : (qIx E)[i * 13 + j]? = x.cells[j]? := by
 induction E generalizing i with
 | nil => simp at h
 | cons y E ih =>
  unfold qIx
  rw [List.flatMap_cons]
  cases i with
  | zero =>
   obtain rfl : y = x := by simpa using h
   rw [List.getElem?_append_left (by rw [Ent.cells_length]; omega)]
   congr 1
   omega
  | succ i =>
   rw [List.getElem?_append_right (by rw [Ent.cells_length]; omega)]
   have := ih (i := i) (by simpa using h)
   unfold qIx at this
   rw [← this, Ent.cells_length]
   congr 1
   omega

structure StoreAt (w : World) (s most : Nat) (E : List Ent) (lv : Value) (bm : Nat) : Prop where
 top : Blk w s [.int .i64 most, lv, .map (some bm)] 123
 row : w.ownsRow 0 139 13 lv E.length (qIx E)
 ids : w.heap[bm]? = some (.map (qLc (rls E)) (rls E).length)
 wf : Wf (rls E)
 texts : ∀ (i : Nat) (x : Ent), E[i]? = some x → x.t = txt (rls E) (i + 1)
 most_le : most ≤ qBe
 fits : E.length ≤ most

variable {w w' : World} {s most bm : Nat} {E : List Ent} {lv : Value}
theorem StoreAt.slice (h : StoreAt w s most E lv bm) : ∃ a c, lv = .slice a E.length c ∧ E.length ≤ c := by
 rcases h.row.2 with ⟨rfl, h0⟩ | ⟨g, cap, cur, rfl, _, _, hc, _⟩
 ·exact ⟨none, 0, by rw [h0], by omega⟩
 exact ⟨_, _, rfl, hc⟩
theorem StoreAt.below (h : StoreAt w s most E lv bm) (hb : Below w.heap.size w w') : StoreAt w' s most E lv bm := by
 have hlt : bm < w.heap.size := (Array.getElem?_eq_some_iff.1 h.ids).1
 refine ⟨h.top.below hb h.top.lt, ?_, by rw [hb.block bm hlt]; exact h.ids, h.wf, h.texts, h.most_le, h.fits⟩
 exact h.row.kept (row := none) ⟨hb.os, hb.tape, hb.output, hb.size, fun k hk _ => hb.block k hk⟩ (by cases hv : lv.ownBlock <;> simp)
theorem StoreAt.cell (h : StoreAt w s most E lv bm) {i : Nat} {x : Ent} (hi : E[i]? = some x) :
  ∃ g c, lv = .slice (some ⟨g, 0, none⟩) E.length c ∧ E.length ≤ c ∧ g < w.heap.size ∧ ∀ j v, x.cells[j]? = some v → w.cell? ⟨g, i * 13 + j, none⟩ = some v := by
 have hlt : i < E.length := (List.getElem?_eq_some_iff.1 hi).1
 rcases h.row.2 with ⟨rfl, h0⟩ | ⟨g, cap, cur, rfl, _, hg, hc, _, _, ht⟩
 ·omega
 refine ⟨g, cap, rfl, hc, (Array.getElem?_eq_some_iff.1 hg).1, fun j v hj => ?_⟩
 have hj13 : j < 13 := by rw [← Ent.cells_length x]; exact (List.getElem?_eq_some_iff.1 hj).1
 have := qRw hi j hj13
 rw [hj, ← ht, List.getElem?_take] at this
 split at this
 ·rw [cell_of_row w g _ cur _ (0, 0) hg]; simpa using this
 cases this

theorem zAx (w : World) (h : StoreAt w s most E lv bm) :
  Calls Tryz.prog 59 #[.pointer (some ⟨s, 0, none⟩)] w fun e w' => e = .returned (.int .i64 (E.length : Nat)) ∧ w = w' := by
 obtain ⟨a, c, rfl, hc⟩ := h.slice
 have k1 := h.top.cell 1 rfl
 have hl : E.length ≤ 1048576 := Nat.le_trans h.fits h.most_le
 clear h hc
 go_enter Tryz.func59, Tryz.ntmps59
 go_wp2
 go_ret
 exact ⟨rfl, rfl⟩
theorem qFa (w : World) (n : Int) (h : StoreAt w s most E lv bm) :
  Calls Tryz.prog 62 #[.pointer (some ⟨s, 0, none⟩), .int .i64 n] w fun e w' => e = .returned (.bool (decide (0 ≤ n) && decide (n ≤ (E.length : Int)))) ∧ w = w' := by
 obtain ⟨a, c, rfl, hc⟩ := h.slice
 have k1 := h.top.cell 1 rfl
 have hl : E.length ≤ 1048576 := Nat.le_trans h.fits h.most_le
 clear h hc
 by_cases h0 : 0 ≤ n
 ·have d0 : decide (0 ≤ n) = true := by simpa using h0
  by_cases h1 : n ≤ (E.length : Int)
  ·have d1 : decide (n ≤ (E.length : Int)) = true := by simpa using h1
   rw [d0, d1]
   go_enter Tryz.func62, Tryz.ntmps62
   go_wp2
   go_ret
   exact ⟨rfl, rfl⟩
  have d1 : decide (n ≤ (E.length : Int)) = false := by simpa using h1
  rw [d0, d1]
  go_enter Tryz.func62, Tryz.ntmps62
  go_wp2
  go_ret
  exact ⟨rfl, rfl⟩
 have d0 : decide (0 ≤ n) = false := by simpa using h0
 rw [d0]
 go_enter Tryz.func62, Tryz.ntmps62
 go_wp2
 go_ret
 exact ⟨rfl, rfl⟩
end
section
open Go Go.RowKit Eg
set_option maxRecDepth 100000
variable {w w' : World} {s most bm : Nat} {E : List Ent} {lv : Value}

theorem qLp (w : World) (i : Nat) (x : Ent) (h : StoreAt w s most E lv bm) (hi : E[i]? = some x) :
  Calls Tryz.prog 76 #[.pointer (some ⟨s, 0, none⟩), .int .i64 ((i + 1 : Nat) : Int)] w fun e w' => e = .returned (.agg #[.int .i64 (Rl.kind (x.r) : Nat), .int .u8 (Rl.byte (x.r) : Nat), .int .i64 (Rl.left (x.r) : Nat), .int .i64 (Rl.right (x.r) : Nat), .int .i64 (Rl.times (x.r) : Nat), .int .i64 (List.length (x.t) : Nat), .int .i64 (qBa (x.t) : Nat), .int .i64 (qDi (x.t) : Nat), .int .i64 (qDh (x.t) : Nat), .int .u64 (dval (x.t) : Nat), .int .u64 (qAl (x.t) : Nat), .int .i64 x.d, .bool x.e]) ∧ Below w.heap.size w w' := by
 obtain ⟨g, c, rfl, hc, hg, hcell⟩ := h.cell hi
 have hlt : i < E.length := (List.getElem?_eq_some_iff.1 hi).1
 have k1 := h.top.cell 1 rfl
 have hl : E.length ≤ 1048576 := Nat.le_trans h.fits h.most_le
 have b0 := h.top.lt
 have c0 := hcell 0 _ rfl
 rw [Nat.add_zero] at c0
 have c1 := hcell 1 _ rfl
 have c2 := hcell 2 _ rfl
 have c3 := hcell 3 _ rfl
 have c4 := hcell 4 _ rfl
 have c5 := hcell 5 _ rfl
 have c6 := hcell 6 _ rfl
 have c7 := hcell 7 _ rfl
 have c8 := hcell 8 _ rfl
 have c9 := hcell 9 _ rfl
 have c10 := hcell 10 _ rfl
 have c11 := hcell 11 _ rfl
 have c12 := hcell 12 _ rfl
 clear h hc hcell hi
 go_enter Tryz.func76, Tryz.ntmps76
 go_wp2
 refine bodyPost_ret (v := .agg #[.int .i64 (Rl.kind (x.r) : Nat), .int .u8 (Rl.byte (x.r) : Nat), .int .i64 (Rl.left (x.r) : Nat), .int .i64 (Rl.right (x.r) : Nat), .int .i64 (Rl.times (x.r) : Nat), .int .i64 (List.length (x.t) : Nat), .int .i64 (qBa (x.t) : Nat), .int .i64 (qDi (x.t) : Nat), .int .i64 (qDh (x.t) : Nat), .int .u64 (dval (x.t) : Nat), .int .u64 (qAl (x.t) : Nat), .int .i64 x.d, .bool x.e]) (by simp [results, Tryz.results76, go_sem]) rfl ⟨rfl, by go_grown⟩

theorem store_at0 (w : World) (a : Addr) :
  Calls Tryz.prog 76 #[.pointer (some a), .int .i64 0] w fun e w' => e = .returned (.agg #[.int .i64 0, .int .u8 0, .int .i64 0, .int .i64 0, .int .i64 0, .int .i64 0, .int .i64 0, .int .i64 0, .int .i64 0, .int .u64 0, .int .u64 1, .int .i64 0, .bool true]) ∧ Below w.heap.size w w' := by
 go_enter Tryz.func76, Tryz.ntmps76
 go_wp2_with fail
 refine (qUw _).mono ?_
 rintro e w1 ⟨rfl, hb⟩
 obtain ⟨hc, hf⟩ := qUp hb
 have hz : w.heap.size < w1.heap.size := by have := hb.size; simp at this; omega
 have hbw : Below w.heap.size w w1 := Below.trans (by go_grown) (hb.mono (by simp))
 go_wp2_with fail
 refine bodyPost_ret (v := .agg #[.int .i64 0, .int .u8 0, .int .i64 0, .int .i64 0, .int .i64 0, .int .i64 0, .int .i64 0, .int .i64 0, .int .i64 0, .int .u64 0, .int .u64 1, .int .i64 0, .bool true]) (by simp [results, Tryz.results76, go_sem, hc]) rfl ⟨rfl, ?_⟩
 repeat (refine Below.setCell ?_ (by simp) _)
 exact hbw

theorem qJp (w : World) (r : Rl) (h : StoreAt w s most E lv bm) (hr : idOf (rls E) r ≠ 0 ∨ E.length < most) :
  Calls Tryz.prog 73 #[.pointer (some ⟨s, 0, none⟩), .agg #[.int .i64 (Rl.kind (r) : Nat), .int .u8 (Rl.byte (r) : Nat), .int .i64 (Rl.left (r) : Nat), .int .i64 (Rl.right (r) : Nat), .int .i64 (Rl.times (r) : Nat)]] w fun e w' => e = .returned (.tuple #[.int .i64 (idOf (rls E) r : Nat), .nilIface]) ∧ Below w.heap.size w w' := by
 have hl : E.length ≤ 1048576 := Nat.le_trans h.fits h.most_le
 have hm : most ≤ 1048576 := h.most_le
 have hlk : ∀ nq, (Instr.lookup 120 (.map (some bm)) (.agg #[.int .i64 (Rl.kind (r) : Nat), .int .u8 (Rl.byte (r) : Nat), .int .i64 (Rl.left (r) : Nat), .int .i64 (Rl.right (r) : Nat), .int .i64 (Rl.times (r) : Nat)]) true).run Tryz.prog ((w.alloc (.cells #[.int .i64 (Rl.kind (r) : Nat), .int .u8 (Rl.byte (r) : Nat), .int .i64 (Rl.left (r) : Nat), .int .i64 (Rl.right (r) : Nat), .int .i64 (Rl.times (r) : Nat)] 82)).drewN nq) = .ok (.tuple #[.int .i64 (idOf (rls E) r : Nat), .bool (!decide (idOf (rls E) r = 0))]) ((w.alloc (.cells #[.int .i64 (Rl.kind (r) : Nat), .int .u8 (Rl.byte (r) : Nat), .int .i64 (Rl.left (r) : Nat), .int .i64 (Rl.right (r) : Nat), .int .i64 (Rl.times (r) : Nat)] 82)).drewN nq) := by
  intro nq
  refine qYn (rls E) r _ bm ?_
  show (w.alloc _).heap[bm]? = _
  rw [Below.heap_alloc w _ bm (Array.getElem?_eq_some_iff.1 h.ids).1]
  exact h.ids
 obtain ⟨a, c, rfl, hc⟩ := h.slice
 have k0 := h.top.cell 0 rfl
 have k1 := h.top.cell 1 rfl
 have k2 := h.top.cell 2 rfl
 have b0 := h.top.lt
 clear h hc
 generalize idOf (rls E) r = i at *
 by_cases hi : i = 0
 ·have hlt : E.length < most := by omega
  clear hr
  subst hi
  go_enter Tryz.func73, Tryz.ntmps73
  go_wp2_with fail
  go_quiet (fail)
  go_wp2_with fail
  go_quiet (fail)
  go_wp2_with fail
  go_ret2
  exact ⟨rfl, zBx (zBx (by go_grown))⟩
 have hd : decide (i = 0) = false := by simp [hi]
 clear hr
 go_enter Tryz.func73, Tryz.ntmps73
 go_wp2_with fail
 go_quiet (fail)
 go_wp2_with fail
 go_ret2
 exact ⟨rfl, zBx (by go_grown)⟩

theorem qXf (w : World) (i : Nat) (x : Ent) (h : StoreAt w s most E lv bm) (hi : E[i]? = some x) :
  Calls Tryz.prog 36 #[.pointer (some ⟨s, 0, none⟩), .int .i64 ((i + 1 : Nat) : Int)] w fun e w' => e = .returned (.tuple #[.agg #[.int .i64 (Rl.kind (x.r) : Nat), .int .u8 (Rl.byte (x.r) : Nat), .int .i64 (Rl.left (x.r) : Nat), .int .i64 (Rl.right (x.r) : Nat), .int .i64 (Rl.times (x.r) : Nat)], .nilIface]) ∧ Below w.heap.size w w' := by
 have hlt : i < E.length := (List.getElem?_eq_some_iff.1 hi).1
 have hkn := fun W (hW : StoreAt W s most E lv bm) => qFa W ((i + 1 : Nat) : Int) hW
 have hd : (decide ((0 : Int) ≤ ((i + 1 : Nat) : Int)) && decide (((i + 1 : Nat) : Int) ≤ (E.length : Int))) = true := by simp; omega
 rw [hd] at hkn
 have HKN := Lib.hid hkn
 have HS := Lib.hid h
 obtain ⟨g, c, rfl, hc, hg, hcell⟩ := h.cell hi
 have k1 := h.top.cell 1 rfl
 have hl : E.length ≤ 1048576 := Nat.le_trans h.fits h.most_le
 have b0 := h.top.lt
 have c0 := hcell 0 _ rfl
 rw [Nat.add_zero] at c0
 have c1 := hcell 1 _ rfl
 have c2 := hcell 2 _ rfl
 have c3 := hcell 3 _ rfl
 have c4 := hcell 4 _ rfl
 have hz : (((i + 1 : Nat) : Int) == 0) = false := by simp; omega
 clear h hc hcell hi hkn hd
 go_enter Tryz.func36, Tryz.ntmps36
 go_wp2_with fail
 refine (HKN.out _ (HS.out.below (by go_grown))).mono ?_
 rintro e w' ⟨rfl, rfl⟩
 go_wp2_with fail
 refine bodyPost_ret (v := .tuple #[.agg #[.int .i64 (Rl.kind (x.r) : Nat), .int .u8 (Rl.byte (x.r) : Nat), .int .i64 (Rl.left (x.r) : Nat), .int .i64 (Rl.right (x.r) : Nat), .int .i64 (Rl.times (x.r) : Nat)], .nilIface]) (by simp [results, Tryz.results36, go_sem]) rfl ⟨rfl, by go_grown⟩

theorem qRn (v0 v1 v2 v3 v4 v5 v6 v7 v8 v9 v10 v11 v12 : Value) (w : World) : (Instr.field 139 (.agg #[v0, v1, v2, v3, v4, v5, v6, v7, v8, v9, v10, v11, v12]) 1).run Tryz.prog w = .ok (.agg #[v5, v6, v7, v8, v9, v10]) w := by kernel_rfl

theorem qSp (w : World) (i : Nat) (x : Ent) (h : StoreAt w s most E lv bm) (hi : E[i]? = some x) :
  Calls Tryz.prog 109 #[.pointer (some ⟨s, 0, none⟩), .int .i64 ((i + 1 : Nat) : Int)] w fun e w' => e = .returned (.tuple #[.agg #[.int .i64 (List.length (x.t) : Nat), .int .i64 (qBa (x.t) : Nat), .int .i64 (qDi (x.t) : Nat), .int .i64 (qDh (x.t) : Nat), .int .u64 (dval (x.t) : Nat), .int .u64 (qAl (x.t) : Nat)], .nilIface]) ∧ Below w.heap.size w w' := by
 have hlt : i < E.length := (List.getElem?_eq_some_iff.1 hi).1
 have hkn := fun W (hW : StoreAt W s most E lv bm) => qFa W ((i + 1 : Nat) : Int) hW
 have hd : (decide ((0 : Int) ≤ ((i + 1 : Nat) : Int)) && decide (((i + 1 : Nat) : Int) ≤ (E.length : Int))) = true := by simp; omega
 rw [hd] at hkn
 have HKN := Lib.hid hkn
 have HS := Lib.hid h
 have HI := Lib.hid hi
 clear h hi hkn hd hlt
 go_enter Tryz.func109, Tryz.ntmps109
 go_wp2_with fail
 refine (HKN.out _ (HS.out.below (by go_grown))).mono ?_
 rintro e w' ⟨rfl, rfl⟩
 go_wp2_with fail
 refine (qLp _ i x (HS.out.below (by go_grown)) HI.out).mono ?_
 rintro e w1 ⟨rfl, hb⟩
 obtain ⟨hc, hf⟩ := qUp hb
 have hz : w.heap.size < w1.heap.size := by have := hb.size; simp at this; omega
 have hbw : Below w.heap.size w w1 := Below.trans (by go_grown) (hb.mono (by simp))
 have hfw := qRn
 go_wp2_with fail
 refine bodyPost_ret (v := .tuple #[.agg #[.int .i64 (List.length (x.t) : Nat), .int .i64 (qBa (x.t) : Nat), .int .i64 (qDi (x.t) : Nat), .int .i64 (qDh (x.t) : Nat), .int .u64 (dval (x.t) : Nat), .int .u64 (qAl (x.t) : Nat)], .nilIface]) (by simp [results, Tryz.results109, go_sem, hc]) rfl ⟨rfl, ?_⟩
 repeat (refine Below.setCell ?_ (by simp) _)
 exact hbw

end
section
open Go Go.RowKit Eg
set_option maxRecDepth 100000

theorem val_lt {v : Nat} (h : v < P61) : decide ((2305843009213693951 : Int) ≤ (v : Int)) = false := by
 unfold P61 at h; simp; omega

theorem qRh (n v : Nat) (w : World) (hn : n ≤ kH) (hv : v < P61) (h0 : n = 0 → v = 0) :
  Calls Tryz.prog 100 #[.agg #[.int .i64 n, .int .i64 0, .int .i64 n, .int .i64 n, .int .u64 v, .int .u64 (powm base n : Nat)]] w fun e w' => e = .returned (.bool true) ∧ Below w.heap.size w w' := by
 have hv' := val_lt hv
 have hp := Lib.hid hn
 have h63 : n < 9223372036854775808 := by unfold kH at hn; omega
 generalize hs : powm base n = s at *
 have HS := Lib.hid hs
 have H0 := Lib.hid h0
 have hb : 1103515245 < U64 := by unfold U64; omega
 clear hn hv h0 hs
 by_cases hz : n = 0
 ·obtain rfl := hz
  obtain rfl : v = 0 := H0.out rfl
  go_enter Tryz.func100, Tryz.ntmps100
  go_wp2_with fail
  refine (qCp 0 _ hp.out).mono ?_
  rintro e w1 ⟨rfl, rfl⟩
  go_wp2_with fail
  refine qCz 8 (by kernel_rfl) (by kernel_rfl) ?_
  simp only [List.take_succ_cons, List.take_zero, List.drop_succ_cons, List.drop_zero]
  repeat (first | still_step | still_call (same (qFx 1103515245 0 _ hb (by omega))))
  refine wpStill_nil ?_
  rw [show powm 1103515245 0 = s from HS.out]
  go_wp2_with fail
  go_ret
  exact ⟨by simp, by go_grown⟩
 have hz1 : ((n : Int) == 0) = false := by simp; omega
 have hwr : IntKind.u64.wrap (n : Int) = n := wrap_u64 n (by unfold U64; omega)
 go_enter Tryz.func100, Tryz.ntmps100
 go_wp2_with fail
 refine (qCp n _ hp.out).mono ?_
 rintro e w1 ⟨rfl, rfl⟩
 go_wp2_with fail
 refine qCz 8 (by kernel_rfl) (by kernel_rfl) ?_
 simp only [List.take_succ_cons, List.take_zero, List.drop_succ_cons, List.drop_zero]
 repeat (first | still_step | still_call (same (qFx 1103515245 n _ hb h63)))
 refine wpStill_nil ?_
 rw [show powm 1103515245 n = s from HS.out]
 go_wp2_with fail
 go_ret
 exact ⟨by simp, by go_grown⟩

set_option maxHeartbeats 2000000 in
theorem qRi (n l a b v : Nat) (w : World) (hn : n ≤ kH) (hv : v < P61) (hl : 1 ≤ l) (h1 : a + b + l ≤ n) (h2 : l = 1 → a + b + 1 = n) :
  Calls Tryz.prog 100 #[.agg #[.int .i64 n, .int .i64 l, .int .i64 a, .int .i64 b, .int .u64 v, .int .u64 (powm base n : Nat)]] w fun e w' => e = .returned (.bool true) ∧ Below w.heap.size w w' := by
 have hv' := val_lt hv
 have hp := Lib.hid hn
 have h63 : n < 9223372036854775808 := by unfold kH at hn; omega
 generalize hs : powm base n = s at *
 have HS := Lib.hid hs
 have H2 := Lib.hid h2
 have hb : 1103515245 < U64 := by unfold U64; omega
 have hwr : IntKind.u64.wrap (n : Int) = n := wrap_u64 n (by unfold U64; omega)
 have hz1 : ((n : Int) == 0) = false := by simp; omega
 have hz2 : ((l : Int) == 0) = false := by simp; omega
 have hz3 : ((n : Int) - a - b != 1) = true → ((l : Int) == 1) = false := by
  intro hne
  simp only [bne_iff_ne, beq_eq_false_iff_ne] at *
  intro h; exact hne (by have := h2 (by omega); omega)
 have HZ3 := Lib.hid hz3
 clear hn hv hs h2 hz3
 by_cases hc : (n : Int) - a - b = 1
 ·have hc1 : ((n : Int) - a - b != 1) = false := by simp [hc]
  have HC := Lib.hid hc
  clear hc
  by_cases hq : l = 1
  ·obtain rfl := hq
   go_enter Tryz.func100, Tryz.ntmps100
   go_wp2_with fail
   refine (qCp n _ hp.out).mono ?_
   rintro e w1 ⟨rfl, rfl⟩
   go_wp2_with fail
   refine qCz 8 (by kernel_rfl) (by kernel_rfl) ?_
   simp only [List.take_succ_cons, List.take_zero, List.drop_succ_cons, List.drop_zero]
   repeat (first | still_step | still_call (same (qFx 1103515245 n _ hb h63)))
   refine wpStill_nil ?_
   rw [show powm 1103515245 n = s from HS.out]
   go_wp2_with fail
   go_ret
   exact ⟨by simp, by go_grown⟩
  exfalso
  have := HC.out
  omega
 have hc1 : ((n : Int) - a - b != 1) = true := by simp [hc]
 have hq := HZ3.out hc1
 go_enter Tryz.func100, Tryz.ntmps100
 go_wp2_with fail
 refine (qCp n _ hp.out).mono ?_
 rintro e w1 ⟨rfl, rfl⟩
 go_wp2_with fail
 refine qCz 8 (by kernel_rfl) (by kernel_rfl) ?_
 simp only [List.take_succ_cons, List.take_zero, List.drop_succ_cons, List.drop_zero]
 repeat (first | still_step | still_call (same (qFx 1103515245 n _ hb h63)))
 refine wpStill_nil ?_
 rw [show powm 1103515245 n = s from HS.out]
 go_wp2_with fail
 go_ret
 exact ⟨by simp, by go_grown⟩
end
end Go.Proofs.YtkkjjablmmmmkaaGreatDoor
