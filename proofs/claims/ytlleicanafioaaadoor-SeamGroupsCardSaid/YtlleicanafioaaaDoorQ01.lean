import Derived.Below
import Derived.Deep.AppendLies
import Derived.Handy
import Derived.Laws.EntriesVeiled
import Derived.OrdersHeld
import Derived.StillTail
import Derived.Test.YtlleicanafioaaaDoorProg
import Derived.WalkKit
import Derived.WalkLawsBesides
import Derived.WalkSpells
set_option linter.all false
set_option maxHeartbeats 1000000
namespace Sl
section
open Go Go.RowKit

abbrev PH := Nat → Option Obj
abbrev HP := PH → Prop
def join (h k : PH) : PH := fun b => (h b).or (k b)
def dis (h k : PH) : Prop := ∀ b, h b = none ∨ k b = none
def star (p q : HP) : HP := fun h => ∃ h1 h2, dis h1 h2 ∧ h = join h1 h2 ∧ p h1 ∧ q h2
def qAe : List HP → HP
 | [] => fun _ => True
 | p :: r => star p (qAe r)

theorem dis.symm {h k : PH} (d : dis h k) : dis k h := fun b => (d b).symm
theorem qJs {h k : PH} {b : Nat} {o : Obj} (e : h b = some o) : join h k b = some o := by simp [join, e]
theorem qDr {h k : PH} {b : Nat} {o : Obj} (d : dis h k) (e : k b = some o) : join h k b = some o := by
 rcases d b with e' | e'
 ·simp [join, e', e]
 rw [e] at e'; cases e'
theorem qCu {h k : PH} {b : Nat} : join h k b = none ↔ h b = none ∧ k b = none := by
 cases e : h b <;> simp [join, e]

theorem qKb : ∀ {l : List HP} {h h' : PH}, qAe l h → (∀ b o, h b = some o → h' b = some o) → qAe l h'
 | [], _, _, _, _ => trivial
 | _ :: _, h, h', ⟨h1, h2, d, e, hp, hq⟩, hh => by
  refine ⟨h1, fun b => if (h1 b).isSome then none else h' b, ?_, ?_, hp, qKb hq ?_⟩
  ·intro b; cases e1 : h1 b with
   | none => exact .inl rfl
   | some o => exact .inr (by simp [e1])
  ·funext b
   cases e1 : h1 b with
   | none => simp [join, e1]
   | some o => simp [join, e1]; exact hh b o (by rw [e]; exact qJs e1)
  intro b o e2
  rcases d b with e1 | e1
  ·simp [e1]; exact hh b o (by rw [e]; exact qDr d e2)
  rw [e2] at e1; cases e1

theorem qLd {p : HP} {l : List HP} {h : PH} : qAe (p :: l) h → qAe l h := fun ⟨_, _, d, e, _, hq⟩ =>
 qKb hq (fun b o e2 => by rw [e]; exact qDr d e2)

theorem qDa {p q : HP} {l : List HP} {h : PH} : qAe (p :: q :: l) h → qAe (q :: p :: l) h := by
 rintro ⟨h1, h2, d, e, hp, h3, h4, d', e', hq, hl⟩
 subst e'
 have d1 : dis h1 h3 := fun b => by
  rcases d b with x | x
  ·exact .inl x
  exact .inr (qCu.1 x).1
 have d2 : dis h1 h4 := fun b => by
  rcases d b with x | x
  ·exact .inl x
  exact .inr (qCu.1 x).2
 refine ⟨h3, join h1 h4, ?_, ?_, hq, h1, h4, d2, rfl, hp, hl⟩
 ·intro b
  rcases d' b with x | x
  ·exact .inl x
  rcases d1 b with y | y
  ·exact .inr (qCu.2 ⟨y, x⟩)
  exact .inl y
 rw [e]
 funext b
 rcases d1 b with x | x
 ·simp [join, x]
 simp [join, x]

theorem qBl {p : HP} {l l' : List HP} {h : PH} (hl : ∀ k, qAe l k → qAe l' k) : qAe (p :: l) h → qAe (p :: l') h :=
 fun ⟨h1, h2, d, e, hp, hq⟩ => ⟨h1, h2, d, e, hp, hl _ hq⟩
theorem qCr {p p' : HP} {l : List HP} {h : PH} (hp : ∀ k, p k → p' k) : qAe (p :: l) h → qAe (p' :: l) h :=
 fun ⟨h1, h2, d, e, hp', hq⟩ => ⟨h1, h2, d, e, hp _ hp', hq⟩

inductive Take : HP → List HP → List HP → Prop where
 | here {p : HP} {l : List HP} : Take p (p :: l) l
 | there {p q : HP} {l l' : List HP} : Take p l l' → Take p (q :: l) (q :: l')
theorem Take.out {p : HP} {l l' : List HP} (t : Take p l l') : ∀ {h : PH}, qAe l h → qAe (p :: l') h := by
 induction t with
 | here => exact fun x => x
 | there _ ih => exact fun x => qDa (qBl (fun _ y => ih y) x)
inductive Sub : List HP → List HP → List HP → Prop where
 | nil {l : List HP} : Sub [] l l
 | cons {p : HP} {ps l l' l'' : List HP} : Take p l l' → Sub ps l' l'' → Sub (p :: ps) l l''
theorem Sub.out {ps l l' : List HP} (s : Sub ps l l') : ∀ {h : PH}, qAe l h → qAe (ps ++ l') h := by
 induction s with
 | nil => exact fun x => x
 | cons t _ ih => exact fun x => qBl (fun _ y => ih y) (t.out x)
theorem qUk {l r : List HP} {h : PH} : qAe (l ++ r) h → qAe (l ++ [qAe r]) h := by
 induction l generalizing h with
 | nil => exact fun x => ⟨h, fun _ => none, fun _ => .inr rfl, by funext b; simp [join], x, trivial⟩
 | cons p l ih => exact qBl (fun _ => ih)
theorem qZc {l r : List HP} {h : PH} : qAe (l ++ [qAe r]) h → qAe (l ++ r) h := by
 induction l generalizing h with
 | nil => rintro ⟨h1, h2, d, e, hp, _⟩; exact qKb hp (fun b o x => by rw [e]; exact qJs x)
 | cons p l ih => exact qBl (fun _ => ih)
theorem qZd {l : List HP} {r : HP} {h : PH} : qAe (l ++ [r]) h → qAe l h := by
 induction l generalizing h with
 | nil => exact fun _ => trivial
 | cons p l ih => exact qBl (fun _ => ih)

def qDk (w0 w : World) : PH := fun b => if b < w0.heap.size then none else w.heap[b]?
structure Sat (w0 w : World) (H : List HP) : Prop where
 os : w.os = w0.os
 tape : w.tape = w0.tape
 output : w.output = w0.output
 size : w0.heap.size ≤ w.heap.size
 old : ∀ b, b < w0.heap.size → w.heap[b]? = w0.heap[b]?
 hp : qAe H (qDk w0 w)
variable {w0 w w' : World} {H H' : List HP}
theorem Sat.imp (s : Sat w0 w H) (h : ∀ k, qAe H k → qAe H' k) : Sat w0 w H' := ⟨s.os, s.tape, s.output, s.size, s.old, h _ s.hp⟩
theorem Sat.start (w : World) : Sat w w [] := ⟨rfl, rfl, rfl, Nat.le_refl _, fun _ _ => rfl, trivial⟩
theorem Sat.grow (s : Sat w0 w H) (b : Below w.heap.size w w') : Sat w0 w' H :=
 ⟨b.os.trans s.os, b.tape.trans s.tape, b.output.trans s.output, Nat.le_trans s.size b.size, fun k hk => (b.block k (Nat.lt_of_lt_of_le hk s.size)).trans (s.old k hk),
  qKb s.hp (fun k o e => by
   unfold qDk at *
   split at e
   ·cases e
   rename_i hk
   rw [if_neg hk, b.block k (Array.getElem?_eq_some_iff.1 e).1]; exact e)⟩
theorem Sat.drew (s : Sat w0 w H) : Sat w0 w.drew H := ⟨s.os, s.tape, s.output, s.size, s.old, s.hp⟩
theorem Sat.old_cell (s : Sat w0 w H) {a : Addr} {v : Value} (h : w0.cell? a = some v) : w.cell? a = some v := by
 rw [World.cell?_of_block (w := w0) (s.old _ (World.block_lt_of_cell? w0 a h))]; exact h

def pt (b : Nat) (o : Obj) : HP := fun h => h b = some o
def cells (b : Nat) (vs : List Value) (t : TypeId) : HP := pt b (.cells ⟨vs⟩ t (0, 0))

theorem Sat.ptr {b : Nat} {o : Obj} (s : Sat w0 w (pt b o :: H)) : w.heap[b]? = some o ∧ w0.heap.size ≤ b := by
 obtain ⟨h1, h2, d, e, hp, hq⟩ := s.hp
 have := congrFun e b
 rw [qJs hp] at this
 unfold qDk at this
 split at this
 ·cases this
 exact ⟨this, by omega⟩
theorem Sat.write {b : Nat} {o o' : Obj} (s : Sat w0 w (pt b o :: H)) (hw : w'.os = w.os ∧ w'.tape = w.tape ∧ w'.output = w.output ∧ w'.heap.size = w.heap.size)
  (hb : w'.heap[b]? = some o') (ho : ∀ k, k ≠ b → w'.heap[k]? = w.heap[k]?) : Sat w0 w' (pt b o' :: H) := by
 obtain ⟨e1, e2⟩ := s.ptr
 refine ⟨hw.1.trans s.os, hw.2.1.trans s.tape, hw.2.2.1.trans s.output, by rw [hw.2.2.2]; exact s.size, fun k hk => (ho k (by omega)).trans (s.old k hk), ?_⟩
 obtain ⟨h1, h2, d, e, hp, hq⟩ := s.hp
 have hp' : h1 b = some o := hp
 have hb2 : h2 b = none := by
  rcases d b with x | x
  ·rw [hp'] at x; cases x
  exact x
 refine ⟨fun k => if k = b then some o' else h1 k, h2, ?_, ?_, by simp [pt], hq⟩
 ·intro k
  by_cases hk : k = b
  ·subst hk; exact .inr hb2
  simp only [hk, if_false]; exact d k
 funext k
 by_cases hk : k = b
 ·subst hk
  simp [qDk, join, hb]; omega
 have := congrFun e k
 simp only [qDk, join] at this ⊢
 rw [ho k hk, this]; simp [hk]
theorem Sat.new (s : Sat w0 w H) (o : Obj) : Sat w0 (w.alloc o) (pt w.heap.size o :: H) := by
 refine ⟨s.os, s.tape, s.output, Nat.le_trans s.size (by simp), fun b hb => by rw [heap_alloc_old w o (Nat.lt_of_lt_of_le hb s.size)]; exact s.old b hb, ?_⟩
 refine ⟨fun k => if k = w.heap.size then some o else none, qDk w0 w, ?_, ?_, by simp [pt], s.hp⟩
 ·intro k
  by_cases hk : k = w.heap.size
  ·right
   unfold qDk
   have := s.size
   rw [if_neg (by omega)]; simp [hk]
  left; simp [hk]
 funext k
 have h0 := s.size
 by_cases hk : k = w.heap.size
 ·subst hk
  simp only [qDk, join, if_true, Option.some_or]
  rw [if_neg (by omega)]
  exact heap_alloc_new w o
 simp only [qDk, join, hk, if_false, Option.none_or]
 split
 ·rfl
 by_cases hlt : k < w.heap.size
 ·exact heap_alloc_old w o hlt
 have h1 : (w.alloc o).heap.size = w.heap.size + 1 := by simp
 rw [Array.getElem?_eq_none (by omega), Array.getElem?_eq_none (by omega)]
theorem Sat.take {p : HP} {H : List HP} (s : Sat w0 w H) (t : Take p H H') : Sat w0 w (p :: H') := s.imp fun _ => t.out
theorem Sat.sub {ps l' : List HP} (s : Sat w0 w H) (t : Sub ps H l') : Sat w0 w (ps ++ l') := s.imp fun _ => t.out
theorem Sat.cell {b : Nat} {vs : List Value} {t : TypeId} (s : Sat w0 w (cells b vs t :: H)) (i : Nat) {v : Value} (hv : vs[i]? = some v) : w.cell? ⟨b, i, none⟩ = some v := by
 simp [World.cell?, (s.ptr).1, hv]
theorem Sat.free {b : Nat} {vs : List Value} {t : TypeId} (s : Sat w0 w (cells b vs t :: H)) (i : Nat) : w.frozen? ⟨b, i, none⟩ = false := by
 simp [World.frozen?, (s.ptr).1]
theorem Sat.setCell {b : Nat} {vs : List Value} {t : TypeId} (s : Sat w0 w (cells b vs t :: H)) (i : Nat) (v : Value) : Sat w0 (w.setCell ⟨b, i, none⟩ v) (cells b (vs.set i v) t :: H) := by
 have e := (s.ptr).1
 refine Sat.write s ⟨rfl, rfl, rfl, by simp⟩ ?_ (fun k hk => Below.heap_setCell _ _ _ _ hk)
 simp [World.setCell, Array.getElem?_modify, e]

end
section
open Go Go.RowKit

inductive TK where
 | bool
 | int (k : IntKind)
 | struct (fields : List (Nat × Nat))
 | slice (elem : TypeId) (size bytes : Nat)
 | array (len : Nat) (elem : TypeId) (size : Nat)
 | string
 | iface
 | map (k e : TypeId)
 | ptr (e : TypeId)
structure TI where
 kind : TK
 size : Nat
 zero : List Value
def szT (P : Program) (t : TypeId) : Nat := match P.info? t with | some j => j.size | none => 0
def TK.holds (P : Program) (t : TypeId) : TK → Bool
 | .bool => match P.underlying t with | some .bool => true | _ => false
 | .int k => match P.underlying t with | some (.int k') => k == k' | _ => false
 | .string => match P.underlying t with | some .string => true | _ => false
 | .iface => match P.underlying t with | some (.interface _) => true | _ => false
 | .map k e => match P.underlying t with | some (.map k' e') => k == k' && e == e' | _ => false
 | .ptr e => match P.underlying t with | some (.pointer e') => e == e' | _ => false
 | .struct fs => match P.underlying t with
  | some (.struct gs) => gs.toList.map (fun g => (g.offset, szT P g.type)) == fs && fs.all (fun f => f.2 != 0) && gs.all (fun g => (P.info? g.type).isSome)
  | _ => false
 | .slice e s b => match P.underlying t with
  | some (.slice e') => e == e' && (match P.info? e with | some j => j.size == s && j.bytes == b | none => false)
  | _ => false
 | .array n e s => match P.underlying t with
  | some (.array n' e') => n == n' && e == e' && (match P.info? e with | some j => j.size == s | none => false)
  | _ => false
def sameV : Value → Value → Bool
 | .bool a, .bool b => a == b
 | .int k a, .int k' b => k == k' && a == b
 | .string a, .string b => a.data == b.data
 | .pointer none, .pointer none => true
 | .slice none a b, .slice none c d => a == c && b == d
 | .map none, .map none => true
 | .nilIface, .nilIface => true
 | .nilFunc, .nilFunc => true
 | _, _ => false
theorem sameV_eq : ∀ {a b : Value}, sameV a b = true → a = b := by
 intro a b h
 unfold sameV at h
 split at h <;> (try simp_all)
 all_goals (try exact ByteArray.ext h)
def sameL : List Value → List Value → Bool
 | [], [] => true
 | a :: l, b :: r => sameV a b && sameL l r
 | _, _ => false
theorem qXm : ∀ {a b : List Value}, sameL a b = true → a = b
 | [], [], _ => rfl
 | a :: l, b :: r, h => by
  simp only [sameL, Bool.and_eq_true] at h
  rw [sameV_eq h.1, qXm h.2]
 | [], _ :: _, h => by cases h
 | _ :: _, [], h => by cases h
def TI.holds (P : Program) (t : TypeId) (d : TI) : Bool :=
 match P.info? t with
 | some i => i.size == d.size && d.kind.holds P t && (match i.zero with | some z => sameL z.cells.toList d.zero | none => false)
 | none => false
def TabOk (P : Program) (tab : Nat → Option TI) : Prop := ∀ t d, tab t = some d → d.holds P t = true

structure Env where
 P : Program
 w0 : World
 tab : Nat → Option TI
 ok : TabOk P tab
 mixed : P.follows .mixedOrders = true

abbrev Fr := List (Nat × Value)
def look : Fr → Nat → Option Value
 | [], _ => none
 | (k, v) :: r, t => bif Nat.beq k t then some v else look r t
def ev (L : Fr) : Operand → Option Value
 | .tmp t => look L t
 | .const v => some v
 | .global g => some (.pointer (some ⟨g, 0, none⟩))
 | .func f => some (.func (.func f) #[] #[])
def evs (L : Fr) : List Operand → Option (List Value)
 | [] => some []
 | x :: r => match ev L x, evs L r with
  | some v, some l => some (v :: l)
  | _, _ => none
@[reducible] def putL (d : Option Nat) (v : Value) (L : Fr) : Fr := match d with | some d => (d, v) :: L | none => L
def inB (n : Nat) : Option Nat → Bool
 | some d => Nat.blt d n
 | none => true

variable {E : Env} {n : Nat} {L L' : Fr} {H H' : List HP} {Q : Exit → Act → World → Prop}

structure GoodF (n : Nat) (L : Fr) (a : Act) : Prop where
 sz : a.tmps.size = n
 df : a.defers = []
 fr : ∀ t v, look L t = some v → a.tmps[t]? = some v
structure Good (E : Env) (n : Nat) (L : Fr) (H : List HP) (a : Act) (w : World) : Prop where
 f : GoodF n L a
 hp : Sat E.w0 w H
theorem GoodF.ev {a : Act} (g : GoodF n L a) {x : Operand} {v : Value} (h : ev L x = some v) : a.eval x = v := by
 cases x with
 | tmp t => simp [Act.eval, g.fr t v h]
 | const u => simpa [Sl.ev, Act.eval] using h
 | global k => simpa [Sl.ev, Act.eval] using h
 | func k => simpa [Sl.ev, Act.eval] using h
theorem GoodF.evs {a : Act} (g : GoodF n L a) : ∀ {xs : List Operand} {vs : List Value}, evs L xs = some vs → xs.map a.eval = vs
 | [], vs, h => by simpa [Sl.evs] using h
 | x :: r, vs, h => by
  simp only [Sl.evs] at h
  split at h
  ·rename_i v l h1 h2
   simp at h
   subst h
   simp [g.ev h1, g.evs h2]
  cases h
theorem qFv (k : Nat) (v : Value) (r : Fr) (t : Nat) : look ((k, v) :: r) t = if k = t then some v else look r t := by
 simp only [look]
 cases h : Nat.beq k t with
 | true => simp [Nat.eq_of_beq_eq_true h]
 | false => simp [Nat.ne_of_beq_eq_false h]
theorem GoodF.put {a : Act} (g : GoodF n L a) (d : Option Nat) (v : Value) (hd : inB n d = true) : GoodF n (putL d v L) (a.put d v) := by
 cases d with
 | none => exact g
 | some d =>
  have hd' : d < n := by simpa [inB, Nat.blt_eq] using hd
  refine ⟨by simp [Act.put, g.sz], g.df, fun t u hu => ?_⟩
  simp only [putL, qFv] at hu
  by_cases hk : d = t
  ·subst hk
   simp only [if_true] at hu
   simp [Act.put, g.sz, hd']
   simpa using hu
  simp only [hk, if_false] at hu
  have := g.fr t u hu
  simpa [Act.put, Array.getElem?_setIfInBounds_ne hk] using this

def WP (E : Env) (c : Code) (Q : Exit → Act → World → Prop) (n : Nat) (L : Fr) (H : List HP) : Prop := ∀ a w, Good E n L H a w → c.wp E.P Q a w
def WPL (E : Env) (all : Array Oper) (Q : Exit → Act → World → Prop) (s : Nat) (l : List Oper) (n : Nat) (L : Fr) (H : List HP) : Prop := ∀ a w, Good E n L H a w → wpStill E.P all w (fun a' => wpList E.P all Q (l.drop s) a' w) (l.take s) a
def AT (E : Env) (Q : Exit → Act → World → Prop) (e : Exit) (n : Nat) (L : Fr) (H : List HP) : Prop := ∀ a w, Good E n L H a w → Q e a w

theorem qN {x y : Code} (h : WP E x (Exit.then (y.wp E.P Q) Q) n L H) : WP E (.seq x y) Q n L H := fun a w g => wp_seq (h a w g)
theorem zF (h : AT E Q .normal n L H) : WP E .skip Q n L H := fun a w g => wp_skip (h a w g)
theorem kE (h : AT E Q .ret n L H) : WP E .ret Q n L H := fun a w g => wp_ret (h a w g)
theorem kM {id : Nat} (h : AT E Q (.exit id) n L H) : WP E (.exit id) Q n L H := fun a w g => wp_exit (h a w g)
theorem zN {id : Nat} {c : Code} (h : WP E c (Exit.inBlock id Q) n L H) : WP E (.block id c) Q n L H := fun a w g => wp_block (h a w g)
theorem qL {id : Nat} {l : List Oper} (h : WPL E l.toArray Q 0 l n L H) : WP E (.region id l.toArray false) Q n L H := fun a w g => wp_region_lit (h a w g)
theorem qO {all : Array Oper} {s : Nat} (h : AT E Q .normal n L H) : WPL E all Q s [] n L H := fun a w g => by
 simp only [List.take_nil, List.drop_nil]; exact wpStill_nil (wpList_nil (h a w g))
def quietOp : Op → Bool
 | .move _ | .assign _ | .pick .. | .build .. | .load .. | .nilCheck _ | .binOp .. | .unOp .. | .convert .. | .makeInterface .. | .slice .. | .fieldAddr .. | .field .. | .indexAddr .. | .index .. | .lookup .. | .extract .. => true
 | .call { callee := .builtin .len, .. } | .call { callee := .builtin .cap, .. } | .call { callee := .builtin .min, .. } | .call { callee := .builtin .max, .. } => true
 | _ => false
def cnt : List Oper → Nat
 | [] => 0
 | o :: l => bif quietOp o.op then cnt l + 1 else 0
def drawB (l : List Oper) : Bool := bif Nat.beq (cnt l) l.length then Region.lexB .any l.toArray else Region.lexTailB .any l.toArray (cnt l)
theorem qCo {id : Nat} {l : List Oper} (hB : drawB l = true) (h : WPL E l.toArray Q (cnt l) l n L H) : WP E (.region id l.toArray true) Q n L H := fun a w g => by
 have h' := h a _ ⟨g.f, g.hp.drew⟩
 unfold drawB at hB
 cases hc : Nat.beq (cnt l) l.length with
 | true =>
  rw [hc] at hB
  have e := Nat.eq_of_beq_eq_true hc
  rw [e, List.take_length, List.drop_length] at h'
  exact wp_region_still_lit E.mixed hB h'
 | false =>
  rw [hc] at hB
  exact wp_region_still_tail _ E.mixed hB h'
theorem zI {c : Operand} {x y : Code} (hc : ev L c = some (.bool true)) (h : WP E x Q n L H) : WP E (.cond c x y) Q n L H := fun a w g => wp_cond (g.f.ev hc) (h a w g)
theorem zG {c : Operand} {x y : Code} (hc : ev L c = some (.bool false)) (h : WP E y Q n L H) : WP E (.cond c x y) Q n L H := fun a w g => wp_cond (g.f.ev hc) (h a w g)
theorem zH {c : Operand} {x y : Code} {p : Prop} [Decidable p] (hc : ev L c = some (.bool (decide p))) (h1 : p → WP E x Q n L H) (h2 : ¬ p → WP E y Q n L H) : WP E (.cond c x y) Q n L H := fun a w g => by
 refine wp_cond_split (g.f.ev hc) (fun h => h1 (by simpa using h) a w g) (fun h => h2 (by simpa using h) a w g)
theorem qM {y : Code} {Q' : Exit → Act → World → Prop} (h : WP E y Q n L H) : AT E (Exit.then (y.wp E.P Q) Q') .normal n L H := h
theorem qZ {K : Act → World → Prop} (h : AT E Q .ret n L H) : AT E (Exit.then K Q) .ret n L H := h
theorem qU {K : Act → World → Prop} {id : Nat} (h : AT E Q (.exit id) n L H) : AT E (Exit.then K Q) (.exit id) n L H := h
theorem zL {id : Nat} (h : AT E Q .normal n L H) : AT E (Exit.inBlock id Q) .normal n L H := h
theorem zQ {id : Nat} (h : AT E Q .ret n L H) : AT E (Exit.inBlock id Q) .ret n L H := h
theorem zK {id : Nat} (h : AT E Q .normal n L H) : AT E (Exit.inBlock id Q) (.exit id) n L H := fun a w g => by simp only [Exit.inBlock, if_true]; exact h a w g
def wk (L : Fr) : Fr → Prop
 | [] => True
 | (t, v) :: r => look L t = some v ∧ wk L r
theorem zDe : ∀ {L' : Fr}, wk L L' → ∀ t v, look L' t = some v → look L t = some v
 | [], _, _, _, h => by cases h
 | (k, u) :: r, hw, t, v, h => by
  rw [qFv] at h
  by_cases hk : k = t
  ·subst hk
   rw [if_pos rfl] at h
   cases h
   exact hw.1
  rw [if_neg hk] at h
  exact zDe hw.2 t v h
theorem GoodF.wk {a : Act} (g : GoodF n L a) (h : wk L L') : GoodF n L' a := ⟨g.sz, g.df, fun t v hv => g.fr t v (zDe h t v hv)⟩
theorem qKh {c : Code} (hH : ∀ k, qAe H k → qAe H' k) (h : WP E c Q n L H') : WP E c Q n L H := fun a w g => h a w ⟨g.f, g.hp.imp hH⟩
theorem zBf {all : Array Oper} {s : Nat} {l : List Oper} (hH : ∀ k, qAe H k → qAe H' k) (h : WPL E all Q s l n L H') : WPL E all Q s l n L H := fun a w g => h a w ⟨g.f, g.hp.imp hH⟩
theorem qDb {ι : Type} (I : ι → Fr) (J : ι → List HP) (m : ι → Nat) (ok : ι → Prop) {c : Code} (i0 : ι) (h0 : ok i0) (hL : wk L (I i0)) (hH : ∀ k, qAe H k → qAe (J i0) k)
  (round : ∀ i, ok i → WP E c (Exit.then (fun a w => ∃ j, ok j ∧ m j < m i ∧ Good E n (I j) (J j) a w) Q) n (I i) (J i)) : WP E (.loop c) Q n L H := fun a w g => by
 suffices hs : ∀ k i a w, m i = k → ok i → Good E n (I i) (J i) a w → (Code.loop c).wp E.P Q a w from hs _ i0 a w rfl h0 ⟨g.f.wk hL, g.hp.imp hH⟩
 intro k i a w hk hi hg
 classical
 have key : ∀ a' w', (∃ j, ok j ∧ Good E n (I j) (J j) a' w') → ∃ mm, (∃ j, ok j ∧ m j = mm ∧ Good E n (I j) (J j) a' w') ∧ ∀ j, ok j → Good E n (I j) (J j) a' w' → mm ≤ m j := by
  intro a' w' ⟨j, hj, hgj⟩
  suffices hs : ∀ N j, m j ≤ N → ok j → Good E n (I j) (J j) a' w' → ∃ mm, (∃ j, ok j ∧ m j = mm ∧ Good E n (I j) (J j) a' w') ∧ ∀ j, ok j → Good E n (I j) (J j) a' w' → mm ≤ m j from hs _ j (Nat.le_refl _) hj hgj
  intro N
  induction N with
  | zero => intro j hm hj hgj; exact ⟨0, ⟨j, hj, by omega, hgj⟩, fun _ _ _ => Nat.zero_le _⟩
  | succ N ih =>
   intro j hm hj hgj
   by_cases hex : ∃ j', m j' ≤ N ∧ ok j' ∧ Good E n (I j') (J j') a' w'
   ·obtain ⟨j', h1, h2, h3⟩ := hex; exact ih j' h1 h2 h3
   refine ⟨m j, ⟨j, hj, rfl, hgj⟩, fun j' hj' hg' => ?_⟩
   rcases Nat.lt_or_ge (m j') (m j) with hlt | hge
   ·exact absurd ⟨j', by omega, hj', hg'⟩ hex
   exact hge
 let μ : Act → World → Nat := fun a' w' => if h : ∃ j, ok j ∧ Good E n (I j) (J j) a' w' then (key a' w' h).choose else 0
 have hμ : ∀ a' w' (h : ∃ j, ok j ∧ Good E n (I j) (J j) a' w'), (∃ j, ok j ∧ m j = μ a' w' ∧ Good E n (I j) (J j) a' w') ∧ ∀ j, ok j → Good E n (I j) (J j) a' w' → μ a' w' ≤ m j := by
  intro a' w' h
  have := (key a' w' h).choose_spec
  simp only [μ, dif_pos h]
  exact this
 refine wp_loop (fun a w => ∃ j, ok j ∧ Good E n (I j) (J j) a w) μ ⟨i, hi, hg⟩ ?_
 intro a' w' hI
 obtain ⟨⟨j, hj, hmj, hgj⟩, _⟩ := hμ a' w' hI
 refine Code.wp_mono ?_ (round j hj a' w' hgj)
 intro e a2 w2 hq
 cases e with
 | normal =>
  obtain ⟨j2, hj2, hlt, hg2⟩ := hq
  refine ⟨⟨j2, hj2, hg2⟩, ?_⟩
  have := (hμ a2 w2 ⟨j2, hj2, hg2⟩).2 j2 hj2 hg2
  omega
 | _ => exact hq
theorem zV {ι : Type} {I : ι → Fr} {J : ι → List HP} {m : ι → Nat} {ok : ι → Prop} {M : Nat} (j : ι) (hj : ok j) (hm : m j < M) (hL : wk L (I j)) (hH : ∀ k, qAe H k → qAe (J j) k) :
  AT E (Exit.then (fun a w => ∃ j, ok j ∧ m j < M ∧ Good E n (I j) (J j) a w) Q) .normal n L H := fun _ _ g => ⟨j, hj, hm, g.f.wk hL, g.hp.imp hH⟩

def Yl (E : Env) (n : Nat) (L : Fr) (S : List HP) (o : Oper) (v : Value) : Prop := ∀ a w, GoodF n L a → Sat E.w0 w S → (execOp a.eval o).run E.P w = .ok (.value v) w
def Ld (E : Env) (n : Nat) (L : Fr) (H : List HP) (o : Oper) (K : Value → List HP → Prop) : Prop :=
 ∀ (Q : Exit → Act → World → Prop) (next : Act → World → Prop) a w, Good E n L H a w → (∀ v H' w', K v H' → Sat E.w0 w' H' → next (a.put o.dst v) w') → o.wp E.P a w next Q
theorem qD {all : Array Oper} {s d : Nat} {op : Op} {ty : TypeId} {pos : String} {af : Array Edge} {rest : List Oper} {v : Value} (h : Yl E n L H ⟨some d, op, ty, pos, af, none⟩ v) (hd : Nat.blt d n = true)
  (k : WPL E all Q (s - 1) rest n ((d, v) :: L) H) : WPL E all Q s (⟨some d, op, ty, pos, af, none⟩ :: rest) n L H := fun a w g => by
 have hk := k _ _ ⟨g.f.put (some d) v hd, g.hp⟩
 have hr := h a w g.f g.hp
 cases s with
 | zero =>
  refine wpList_plain rfl fun K hK => ?_
  unfold Oper.wp
  rw [hr, Oper.upon_value]
  exact hK _ _ hk
 | succ s =>
  simp only [List.take_succ_cons, List.drop_succ_cons]
  refine wpStill_step fun K hK => ?_
  simp only [Region.wanted, if_true]
  unfold Oper.still
  rw [hr, Oper.stillUpon_value]
  exact hK _ hk
theorem qK {all : Array Oper} {s : Nat} {d : Option Nat} {op : Op} {ty : TypeId} {pos : String} {af : Array Edge} {rest : List Oper} (hs : Nat.beq s 0 = true) (hd : inB n d = true)
  (h : Ld E n L H ⟨d, op, ty, pos, af, none⟩ (fun v H' => WPL E all Q 0 rest n (putL d v L) H')) : WPL E all Q s (⟨d, op, ty, pos, af, none⟩ :: rest) n L H := fun a w g => by
 obtain rfl := Nat.eq_of_beq_eq_true hs
 refine wpList_plain rfl fun K hK => ?_
 exact h _ _ a w g (fun v H' w' hk hs => hK _ _ (hk _ _ ⟨g.f.put d v hd, hs⟩))
theorem kT {all : Array Oper} {s : Nat} {d : Option Nat} {op : Op} {ty : TypeId} {pos : String} {af : Array Edge} {rest : List Oper} {j t : Nat} {b : Bool} (hj : (all[j]?).bind (·.dst) = some t) (hl : look L t = some (.bool b))
  (k : WPL E all Q s (⟨d, op, ty, pos, af, none⟩ :: rest) n L H) : WPL E all Q s (⟨d, op, ty, pos, af, some (j, b)⟩ :: rest) n L H := fun a w g => by
 have h0 := k a w g
 have hy : yielded all a.tmps j = some b := by simp [yielded, hj, g.f.fr t _ hl]
 cases s with
 | zero =>
  simp only [List.take_zero, List.drop_zero, wpStill] at h0 ⊢
  unfold wpList at h0 ⊢
  simp only [Region.wanted, hy, beq_self_eq_true, if_true] at h0 ⊢
  exact h0
 | succ s =>
  simp only [List.take_succ_cons, List.drop_succ_cons] at h0 ⊢
  unfold wpStill at h0 ⊢
  simp only [Region.wanted, hy, beq_self_eq_true, if_true] at h0 ⊢
  exact h0
theorem zW {all : Array Oper} {s : Nat} {d : Option Nat} {op : Op} {ty : TypeId} {pos : String} {af : Array Edge} {rest : List Oper} {j t : Nat} {b c : Bool} (hj : (all[j]?).bind (·.dst) = some t) (hl : look L t = some (.bool c)) (hbc : (c == b) = false) (hd : inB n d = true)
  (k : WPL E all Q (s - 1) rest n (putL d undef L) H) : WPL E all Q s (⟨d, op, ty, pos, af, some (j, b)⟩ :: rest) n L H := fun a w g => by
 have hk := k _ _ ⟨g.f.put d undef hd, g.hp⟩
 have hy : yielded all a.tmps j = some c := by simp [yielded, hj, g.f.fr t _ hl]
 cases s with
 | zero =>
  simp only [List.take_zero, List.drop_zero, wpStill]
  unfold wpList
  simp only [Region.wanted, hy]
  rw [if_neg (by simpa using hbc)]
  exact hk
 | succ s =>
  simp only [List.take_succ_cons, List.drop_succ_cons]
  unfold wpStill
  simp only [Region.wanted, hy]
  rw [if_neg (by simpa using hbc)]
  exact hk
theorem qAn {all : Array Oper} {s : Nat} {l : List Oper} (t : Nat) {p : Prop} [Decidable p] (hl : look L t = some (.bool (decide p))) (h1 : p → WPL E all Q s l n ((t, .bool true) :: L) H) (h2 : ¬ p → WPL E all Q s l n ((t, .bool false) :: L) H) : WPL E all Q s l n L H := fun a w g => by
 by_cases hp : p
 ·exact h1 hp a w ⟨⟨g.f.sz, g.f.df, fun u v hv => by
   rw [qFv] at hv
   by_cases hs : t = u
   ·subst hs; rw [if_pos rfl] at hv; cases hv; exact g.f.fr t _ (by rw [hl]; simp [hp])
   rw [if_neg hs] at hv; exact g.f.fr u v hv⟩, g.hp⟩
 exact h2 hp a w ⟨⟨g.f.sz, g.f.df, fun u v hv => by
  rw [qFv] at hv
  by_cases hs : t = u
  ·subst hs; rw [if_pos rfl] at hv; cases hv; exact g.f.fr t _ (by rw [hl]; simp [hp])
  rw [if_neg hs] at hv; exact g.f.fr u v hv⟩, g.hp⟩
theorem qWy {all : Array Oper} {s : Nat} {l : List Oper} (t : Nat) {b : Bool} (hl : look L t = some (.bool b)) (h1 : b = true → WPL E all Q s l n ((t, .bool true) :: L) H) (h2 : b = false → WPL E all Q s l n ((t, .bool false) :: L) H) : WPL E all Q s l n L H :=
 qAn (p := b = true) t (by simpa using hl) h1 (fun h => h2 (by simpa using h))

def WPD (E : Env) (ops : List Oper) (S : List HP) (Q : Exit → Act → World → Prop) (fuel : Nat) (listed : Array Bool) (n : Nat) (L : Fr) (H : List HP) : Prop :=
 (∀ k, qAe H k → qAe S k) → ∀ a w, Good E n L H a w → wpAnyH E.P .any ops.toArray Q (fun w => Sat E.w0 w S) fuel listed a w
theorem zDb (S : List HP) {id : Nat} {ops : List Oper} (hS : ∀ k, qAe H k → qAe S k) (h : WPD E ops S Q ops.toArray.size (Array.replicate ops.toArray.size false) n L H) : WP E (.region id ops.toArray true) Q n L H := fun a _ g =>
 wp_region_held E.mixed (h hS a _ ⟨g.f, g.hp.drew⟩)
def Calm (Q : Exit → Act → World → Prop) : Prop := ∀ c a w d v, Q (.panic c) (Act.put a d v) w → Q (.panic c) a w
theorem qI {K : Act → World → Prop} (h : Calm Q) : Calm (Exit.then K Q) := h
theorem qJ {id : Nat} (h : Calm Q) : Calm (Exit.inBlock id Q) := h
theorem qH {P : Program} {fn : Func} {R : Ending → World → Prop} : Calm (bodyPost P fn R) := fun c a w d v h => ⟨by cases d <;> exact h.1, h.2⟩
theorem qAr {l : List Oper} {i : Nat} {o : Oper} (h : l[i]? = some o) : l.toArray[i]? = some o := by simpa using h
theorem zJ {ops : List Oper} {S : List HP} {fuel : Nat} {listed : Array Bool} (i : Nat) {d : Option Nat} {op : Op} {ty : TypeId} {pos : String} {af : Array Edge} {v : Value} (hi : ops[i]? = some ⟨d, op, ty, pos, af, none⟩)
  (hy : Yl E n L S ⟨d, op, ty, pos, af, none⟩ v) (hQ : Calm Q) (hf : (Region.noSelect ops.toArray && (Region.free .any ops.toArray listed i && (Region.ready .any ops.toArray listed).contains i)) = true) (hd : inB n d = true)
  (k : WPD E ops S Q fuel (listed.setIfInBounds i true) n (putL d v L) H) : WPD E ops S Q (fuel + 1) listed n L H := fun hS a w g => by
 simp only [Bool.and_eq_true] at hf
 exact wpAnyH_take (qAr hi) hf.1 hf.2.1 hf.2.2 (fun c a w h => hQ c a w d v h) (.inl ⟨rfl, fun w hw => hy a w g.f hw⟩) (g.hp.imp hS) (k hS _ _ ⟨g.f.put d v hd, g.hp⟩)
theorem d_off {ops : List Oper} {S : List HP} {fuel : Nat} {listed : Array Bool} (i : Nat) {d : Option Nat} {op : Op} {ty : TypeId} {pos : String} {af : Array Edge} {j t : Nat} {b c : Bool} (hi : ops[i]? = some ⟨d, op, ty, pos, af, some (j, b)⟩)
  (hj : (ops[j]?).bind (·.dst) = some t) (hl : look L t = some (.bool c)) (hbc : (c == b) = false) (hQ : Calm Q) (hf : (Region.noSelect ops.toArray && (Region.free .any ops.toArray listed i && (Region.ready .any ops.toArray listed).contains i)) = true) (hd : inB n d = true)
  (k : WPD E ops S Q fuel (listed.setIfInBounds i true) n (putL d undef L) H) : WPD E ops S Q (fuel + 1) listed n L H := fun hS a w g => by
 simp only [Bool.and_eq_true] at hf
 have hj' : (ops.toArray[j]?).bind (·.dst) = some t := by simpa using hj
 have hyl : yielded ops.toArray a.tmps j = some c := by simp only [yielded, hj', Option.bind_some, g.f.fr t _ hl]
 exact wpAnyH_take (qAr hi) hf.1 hf.2.1 hf.2.2 (fun c a w h => hQ c a w d undef h) (.inr ⟨by simp only [Region.wanted, hyl]; simpa using hbc, rfl⟩) (g.hp.imp hS) (k hS _ _ ⟨g.f.put d undef hd, g.hp⟩)
theorem d_on {ops : List Oper} {S : List HP} {fuel : Nat} {listed : Array Bool} (i : Nat) {d : Option Nat} {op : Op} {ty : TypeId} {pos : String} {af : Array Edge} {v : Value} {j t : Nat} {b : Bool} (hi : ops[i]? = some ⟨d, op, ty, pos, af, some (j, b)⟩)
  (hj : (ops[j]?).bind (·.dst) = some t) (hl : look L t = some (.bool b)) (hy : Yl E n L S ⟨d, op, ty, pos, af, some (j, b)⟩ v) (hQ : Calm Q) (hf : (Region.noSelect ops.toArray && (Region.free .any ops.toArray listed i && (Region.ready .any ops.toArray listed).contains i)) = true) (hd : inB n d = true)
  (k : WPD E ops S Q fuel (listed.setIfInBounds i true) n (putL d v L) H) : WPD E ops S Q (fuel + 1) listed n L H := fun hS a w g => by
 simp only [Bool.and_eq_true] at hf
 have hj' : (ops.toArray[j]?).bind (·.dst) = some t := by simpa using hj
 have hyl : yielded ops.toArray a.tmps j = some b := by simp only [yielded, hj', Option.bind_some, g.f.fr t _ hl]
 exact wpAnyH_take (qAr hi) hf.1 hf.2.1 hf.2.2 (fun c a w h => hQ c a w d v h) (.inl ⟨by simp only [Region.wanted, hyl, beq_self_eq_true], fun w hw => hy a w g.f hw⟩) (g.hp.imp hS) (k hS _ _ ⟨g.f.put d v hd, g.hp⟩)
theorem qGy {ops : List Oper} {S : List HP} {fuel : Nat} {listed : Array Bool} (hr : Region.ready .any ops.toArray listed = []) (k : AT E Q .normal n L H) : WPD E ops S Q fuel listed n L H := fun _ a w g => wpAnyH_done hr (k a w g) fuel
theorem kP {ops : List Oper} {S : List HP} {fuel : Nat} {listed : Array Bool} (i : Nat) {d : Option Nat} {op : Op} {ty : TypeId} {pos : String} {af : Array Edge} (hi : ops[i]? = some ⟨d, op, ty, pos, af, none⟩) (hr : Region.ready .any ops.toArray listed = [i]) (hd : inB n d = true)
  (h : Ld E n L H ⟨d, op, ty, pos, af, none⟩ (fun v H' => (∀ k, qAe H' k → qAe S k) ∧ WPD E ops S Q fuel (listed.setIfInBounds i true) n (putL d v L) H')) : WPD E ops S Q (fuel + 1) listed n L H := fun _ a w g =>
 wpAnyH_all hr (by simp) fun j hj => by
  obtain rfl : j = i := by simpa using hj
  unfold wpOp
  simp only [qAr hi, Region.wanted, if_true]
  exact .inl (h _ _ a w g (fun v H' w' hk hs => ⟨hs.imp hk.1, hk.2 hk.1 _ _ ⟨g.f.put d v hd, hs⟩⟩))
end
section
open Go Go.RowKit
variable {E : Env} {n : Nat} {L : Fr} {S : List HP} {ty : TypeId} {pos : String} {af : Array Edge} {d : Option Nat} {gd : Option (Nat × Bool)}

def sl (p : Option Addr) (c : Nat) (t : TypeId) (sz n : Nat) (xs : List Value) : HP := fun h =>
 xs.length = n * sz ∧ ((p = none ∧ n = 0 ∧ c = 0) ∨ ∃ g cur, p = some ⟨g, 0, none⟩ ∧ h g = some (.cells cur t (0, 0)) ∧ n ≤ c ∧ c ≤ maxLen ∧ cur.size = c * sz ∧ cur.toList.take (n * sz) = xs)
inductive HasC : List HP → Nat → Nat → Value → Prop where
 | here {b o : Nat} {vs : List Value} {bt : TypeId} {v : Value} {S : List HP} : vs[o]? = some v → HasC (cells b vs bt :: S) b o v
 | slice {b o c sz m : Nat} {xs : List Value} {bt : TypeId} {v : Value} {S : List HP} : xs[o]? = some v → HasC (sl (some ⟨b, 0, none⟩) c bt sz m xs :: S) b o v
 | there {b o : Nat} {v : Value} {q : HP} {S : List HP} : HasC S b o v → HasC (q :: S) b o v
theorem Sat.tail {w0 w : World} {q : HP} {S : List HP} (s : Sat w0 w (q :: S)) : Sat w0 w S := s.imp fun _ => qLd
theorem Sat.slice {w0 w : World} {b c sz m : Nat} {xs : List Value} {bt : TypeId} {S : List HP} (s : Sat w0 w (sl (some ⟨b, 0, none⟩) c bt sz m xs :: S)) :
  ∃ cur, Sat w0 w (pt b (.cells cur bt (0, 0)) :: S) ∧ m ≤ c ∧ c ≤ maxLen ∧ cur.size = c * sz ∧ cur.toList.take (m * sz) = xs := by
 obtain ⟨h1, h2, hd, e, hp, hq⟩ := s.hp
 rcases hp.2 with ⟨h0, _⟩ | ⟨g, cur, h0, hg, r⟩
 ·cases h0
 obtain rfl : b = g := by simpa using h0
 exact ⟨cur, ⟨s.os, s.tape, s.output, s.size, s.old, ⟨h1, h2, hd, e, hg, hq⟩⟩, r⟩
theorem HasC.cell {w0 w : World} {S : List HP} {b o : Nat} {v : Value} (h : HasC S b o v) : Sat w0 w S → w.cell? ⟨b, o, none⟩ = some v := by
 induction h with
 | here hv => exact fun s => s.cell _ hv
 | slice hv =>
  intro s
  obtain ⟨cur, s', _, _, _, ht⟩ := s.slice
  rw [← ht, List.getElem?_take] at hv
  split at hv
  ·simp [World.cell?, (s'.ptr).1]; simpa using hv
  cases hv
 | there _ ih => exact fun s => ih s.tail
inductive HasCs (S : List HP) (b : Nat) : Nat → Nat → List Value → Prop where
 | nil {o : Nat} : HasCs S b o 0 []
 | cons {o k : Nat} {v : Value} {us : List Value} : HasC S b o v → HasCs S b (o + 1) k us → HasCs S b o (k + 1) (v :: us)
theorem HasCs.cells {w0 w : World} {S : List HP} {b o k : Nat} {us : List Value} (h : HasCs S b o k us) (s : Sat w0 w S) : us.length = k ∧ ∀ j u, us[j]? = some u → w.cell? ⟨b, o + j, none⟩ = some u := by
 induction h with
 | nil => exact ⟨rfl, fun j u h => by simp at h⟩
 | @cons o k v us hv _ ih =>
  refine ⟨by simp [ih.1], fun j u hu => ?_⟩
  cases j with
  | zero => simp at hu; subst hu; exact hv.cell s
  | succ j => rw [show o + (j + 1) = o + 1 + j by omega]; exact ih.2 j u (by simpa using hu)

theorem qAv {t : TypeId} {k : TK} {sz : Nat} {zs : List Value} (h : E.tab t = some ⟨k, sz, zs⟩) : ∃ i z, E.P.info? t = some i ∧ i.size = sz ∧ i.zero = some z ∧ z.cells.toList = zs ∧ k.holds E.P t = true := by
 have := E.ok t _ h
 unfold TI.holds at this
 split at this
 ·rename_i i hi
  simp only [Bool.and_eq_true] at this
  obtain ⟨⟨h1, h2⟩, h3⟩ := this
  split at h3
  ·rename_i z hz
   exact ⟨i, z, hi, by simpa using h1, hz, qXm h3, h2⟩
  cases h3
 cases this
def TK.agg : TK → Bool
 | .struct _ | .array _ _ _ => true
 | _ => false
theorem zCu {t : TypeId} {k : TK} {sz : Nat} {zs : List Value} (h : E.tab t = some ⟨k, sz, zs⟩) : ∃ u, E.P.underlying t = some u ∧ (match u with | .struct _ | .array _ _ => true | _ => false) = k.agg := by
 obtain ⟨i, z, _, _, _, _, hk⟩ := qAv h
 unfold TK.holds at hk
 split at hk <;> (split at hk <;> first | (rename_i hu; exact ⟨_, hu, rfl⟩) | (cases hk))
theorem qFy {t : TypeId} {k : TK} {sz : Nat} {zs : List Value} (h : E.tab t = some ⟨k, sz, zs⟩) (w : World) : (isAgg t).run E.P w = .ok k.agg w := by
 obtain ⟨u, hu, hk⟩ := zCu h
 rw [← hk]
 cases u <;> simp [isAgg, underlying, program, Sem.run, hu]
theorem qKe {t : TypeId} {k : TK} {sz : Nat} {zs : List Value} (h : E.tab t = some ⟨k, sz, zs⟩) (w : World) : (Go.sizeOf t).run E.P w = .ok sz w := by
 obtain ⟨i, z, hi, hs, _⟩ := qAv h
 simp [Go.sizeOf, typeInfo, program, Sem.run, hi, hs]
theorem qMj {t : TypeId} {k : TK} {sz : Nat} {zs : List Value} (h : E.tab t = some ⟨k, sz, zs⟩) (w : World) : ∃ z, (zeroValue t).run E.P w = .ok z w ∧ z.cells.toList = zs := by
 obtain ⟨i, z, hi, _, hz, hc, _⟩ := qAv h
 exact ⟨z, by simp [zeroValue, typeInfo, program, Sem.run, hi, hz], hc⟩
theorem qBc {t : TypeId} {e : TypeId} {s b sz : Nat} {zs : List Value} (h : E.tab t = some ⟨.slice e s b, sz, zs⟩) : E.P.underlying t = some (.slice e) ∧ ∃ j, E.P.info? e = some j ∧ j.size = s ∧ j.bytes = b := by
 obtain ⟨i, z, _, _, _, _, hk⟩ := qAv h
 simp only [TK.holds] at hk
 split at hk
 ·rename_i e' hu
  simp only [Bool.and_eq_true] at hk
  obtain ⟨h1, h2⟩ := hk
  obtain rfl : e = e' := by simpa using h1
  split at h2
  ·rename_i j hj
   simp only [Bool.and_eq_true] at h2
   exact ⟨hu, j, hj, by simpa using h2.1, by simpa using h2.2⟩
  cases h2
 cases hk
theorem qOi {t : TypeId} {e : TypeId} {m s sz : Nat} {zs : List Value} (h : E.tab t = some ⟨.array m e s, sz, zs⟩) : E.P.underlying t = some (.array m e) ∧ ∃ j, E.P.info? e = some j ∧ j.size = s := by
 obtain ⟨i, z, _, _, _, _, hk⟩ := qAv h
 simp only [TK.holds] at hk
 split at hk
 ·rename_i m' e' hu
  simp only [Bool.and_eq_true] at hk
  obtain ⟨⟨h0, h1⟩, h2⟩ := hk
  obtain rfl : m = m' := by simpa using h0
  obtain rfl : e = e' := by simpa using h1
  split at h2
  ·rename_i j hj
   exact ⟨hu, j, hj, by simpa using h2⟩
  cases h2
 cases hk
theorem qZh {t : TypeId} {fs : List (Nat × Nat)} {sz : Nat} {zs : List Value} (h : E.tab t = some ⟨.struct fs, sz, zs⟩) {k o s : Nat} (hk : fs[k]? = some (o, s)) :
  ∃ gs g j, E.P.underlying t = some (.struct gs) ∧ gs[k]? = some g ∧ g.offset = o ∧ E.P.info? g.type = some j ∧ j.size = s ∧ s ≠ 0 := by
 obtain ⟨i, z, _, _, _, _, hh⟩ := qAv h
 simp only [TK.holds] at hh
 split at hh
 ·rename_i gs hu
  simp only [Bool.and_eq_true] at hh
  obtain ⟨⟨h0, h1⟩, h2⟩ := hh
  have h0' : gs.toList.map (fun g => (g.offset, szT E.P g.type)) = fs := by simpa using h0
  rw [← h0', List.getElem?_map] at hk
  cases hg : gs.toList[k]? with
  | none => rw [hg] at hk; cases hk
  | some g =>
   rw [hg] at hk
   have hg' : gs[k]? = some g := by simpa using hg
   have hj : (E.P.info? g.type).isSome = true := by
    have := Array.all_eq_true_iff_forall_mem.1 h2 g (Array.mem_of_getElem? hg')
    exact this
   obtain ⟨j, hj⟩ := Option.isSome_iff_exists.1 hj
   simp only [Option.map_some, szT, hj, Option.some.injEq, Prod.mk.injEq] at hk
   refine ⟨gs, g, j, hu, hg', hk.1, hj, hk.2, ?_⟩
   have := List.all_eq_true.1 h1 (o, s) (by rw [← h0']; exact List.mem_map.2 ⟨g, List.mem_of_getElem? hg, by simp [szT, hj, hk.1, hk.2]⟩)
   simpa using this
 cases hh
theorem qCl (b o k : Nat) : (⟨b, o, none⟩ : Addr).add k = ⟨b, o + k, none⟩ := by
 unfold Addr.add
 by_cases h : k = 0
 ·rw [if_pos h, h]; rfl
 rw [if_neg h]

theorem qE {x : Operand} {v : Value} (h : ev L x = some v) : Yl E n L S ⟨d, .move x, ty, pos, af, gd⟩ v := fun a w g _ => by simp [execOp, pure, g.ev h]
theorem qF {x : Operand} {v : Value} (h : ev L x = some v) : Yl E n L S ⟨d, .assign x, ty, pos, af, gd⟩ v := fun a w g _ => by simp [execOp, pure, g.ev h]
theorem zA {c x y : Operand} {v : Value} (hc : ev L c = some (.bool true)) (h : ev L x = some v) : Yl E n L S ⟨d, .pick c x y, ty, pos, af, gd⟩ v := fun a w g _ => by simp [execOp, asBool, g.ev hc, g.ev h]
theorem zB {c x y : Operand} {v : Value} (hc : ev L c = some (.bool false)) (h : ev L y = some v) : Yl E n L S ⟨d, .pick c x y, ty, pos, af, gd⟩ v := fun a w g _ => by simp [execOp, asBool, g.ev hc, g.ev h]
theorem zD {x : Operand} {p : Addr} (h : ev L x = some (.pointer (some p))) : Yl E n L S ⟨d, .nilCheck x, ty, pos, af, gd⟩ (.pointer (some p)) := fun a w g _ => by simp [execOp, g.ev h]
theorem qQ {x : Operand} {t : TypeId} {b o : Nat} {k : TK} {sz : Nat} {zs : List Value} {v : Value} (h : ev L x = some (.pointer (some ⟨b, o, none⟩))) (ht : E.tab t = some ⟨k, sz, zs⟩) (hk : k.agg = false)
  (hm : HasC S b o v) : Yl E n L S ⟨d, .load t x, ty, pos, af, gd⟩ v := fun a w g s => by
 have hc := hm.cell s
 simp [execOp, Instr.loadAt, Instr.sureAddr, loadVar, g.ev h, qFy ht, hk, load, Sem.run, hc]
theorem qOc {P : Program} {w : World} (b o : Nat) : ∀ (us : List Value) (i : Nat) (acc : Array Value), (∀ j u, us[j]? = some u → w.cell? ⟨b, o + (i + j), none⟩ = some u) → (loadCellsFrom ⟨b, o, none⟩ i us.length acc).run P w = .ok (acc ++ us.toArray) w
 | [], i, acc, _ => by simp [loadCellsFrom]
 | u :: us, i, acc, h => by
  have h0 := h 0 u (by simp)
  rw [List.length_cons, loadCellsFrom]
  simp only [qCl, load, Sem.run_bind, Sem.run, Nat.add_zero] at h0 ⊢
  rw [h0]
  simp only [Result.andThen_ok]
  rw [qOc b o us (i + 1) _ (fun j u' hu => by have := h (j + 1) u' (by simpa using hu); rw [← this]; congr 2; omega)]
  simp
theorem zY {x : Operand} {t : TypeId} {b o : Nat} {k : TK} {sz : Nat} {zs us : List Value} (h : ev L x = some (.pointer (some ⟨b, o, none⟩))) (ht : E.tab t = some ⟨k, sz, zs⟩) (hk : k.agg = true)
  (hm : HasCs S b o sz us) : Yl E n L S ⟨d, .load t x, ty, pos, af, gd⟩ (.agg ⟨us⟩) := fun a w g s => by
 obtain ⟨hl, hc⟩ := hm.cells s
 have hr := qOc (P := E.P) b o us 0 #[] (fun j u hu => by rw [Nat.zero_add]; exact hc j u hu)
 rw [hl] at hr
 simp [execOp, Instr.loadAt, Instr.sureAddr, loadVar, g.ev h, qFy ht, hk, qKe ht, loadCells, hr]
theorem qG {x : Operand} {t : TypeId} {k b o fo fs_ : Nat} {fs : List (Nat × Nat)} {sz : Nat} {zs : List Value} (h : ev L x = some (.pointer (some ⟨b, o, none⟩))) (ht : E.tab t = some ⟨.struct fs, sz, zs⟩) (hk : fs[k]? = some (fo, fs_)) :
  Yl E n L S ⟨d, .fieldAddr t x k, ty, pos, af, gd⟩ (.pointer (some ⟨b, o + fo, none⟩)) := fun a w g _ => by
 obtain ⟨gs, f, j, hu, hg, ho, hj, hs, h0⟩ := qZh ht hk
 simp [execOp, Instr.fieldAt, Instr.sureAddr, underlying, program, Sem.run, hu, hg, g.ev h, fieldPlace, Go.sizeOf, typeInfo, hj, hs, h0, ho, qCl]
theorem qR {x y : Operand} {t e : TypeId} {b o len cap : Nat} {k : IntKind} {i : Int} {s by_ sz : Nat} {zs : List Value} (h : ev L x = some (.slice (some ⟨b, o, none⟩) len cap)) (hy : ev L y = some (.int k i)) (ht : E.tab t = some ⟨.slice e s by_, sz, zs⟩)
  (h0 : 0 ≤ i) (h1 : i < len) : Yl E n L S ⟨d, .indexAddr t x y, ty, pos, af, gd⟩ (.pointer (some ⟨b, o + i.toNat * s, none⟩)) := fun a w g _ => by
 obtain ⟨hu, j, hj, hs, _⟩ := qBc ht
 simp [execOp, Instr.indexAt, asIntOf, underlying, program, Sem.run, hu, g.ev h, g.ev hy, h0, h1, Go.sizeOf, typeInfo, hj, hs, qCl]
theorem zP {x y : Operand} {t e : TypeId} {b len cap : Nat} {k : IntKind} {i : Int} {by_ sz : Nat} {zs : List Value} (h : ev L x = some (.slice (some ⟨b, 0, none⟩) len cap)) (hy : ev L y = some (.int k i)) (ht : E.tab t = some ⟨.slice e 1 by_, sz, zs⟩)
  (h0 : 0 ≤ i) (h1 : i < len) : Yl E n L S ⟨d, .indexAddr t x y, ty, pos, af, gd⟩ (.pointer (some ⟨b, i.toNat, none⟩)) := fun a w g s => by
 have := qR (S := S) (d := d) (ty := ty) (pos := pos) (af := af) (gd := gd) h hy ht h0 h1 a w g s
 rw [this]; simp
theorem qBy {x y : Operand} {t e : TypeId} {b o len : Nat} {k : IntKind} {i : Int} {s sz : Nat} {zs : List Value} (h : ev L x = some (.pointer (some ⟨b, o, none⟩))) (hy : ev L y = some (.int k i)) (ht : E.tab t = some ⟨.array len e s, sz, zs⟩)
  (h0 : 0 ≤ i) (h1 : i < len) : Yl E n L S ⟨d, .indexAddr t x y, ty, pos, af, gd⟩ (.pointer (some ⟨b, o + i.toNat * s, none⟩)) := fun a w g _ => by
 obtain ⟨hu, j, hj, hs⟩ := qOi ht
 simp [execOp, Instr.indexAt, Instr.sureAddr, asIntOf, underlying, program, Sem.run, hu, g.ev h, g.ev hy, h0, h1, Go.sizeOf, typeInfo, hj, hs, qCl]
theorem qZi {x y : Operand} {t : TypeId} {bs : ByteArray} {k : IntKind} {i : Int} {c : UInt8} {sz : Nat} {zs : List Value} (h : ev L x = some (.string bs)) (hy : ev L y = some (.int k i)) (ht : E.tab t = some ⟨.string, sz, zs⟩)
  (h0 : 0 ≤ i) (h1 : bs[i.toNat]? = some c) : Yl E n L S ⟨d, .index t x y, ty, pos, af, gd⟩ (.int .u8 c.toNat) := fun a w g _ => by
 obtain ⟨i', z, _, _, _, _, hk⟩ := qAv ht
 simp only [TK.holds] at hk
 split at hk
 ·rename_i hu
  simp [execOp, Instr.index, asIntOf, underlying, program, Sem.run, hu, g.ev h, g.ev hy, h0, h1]
 cases hk

theorem kR {i : Int} (h0 : -9223372036854775808 ≤ i) (h1 : i ≤ 9223372036854775807) : IntKind.i64.wrap i = i := IntWalk.i64_in _ ⟨h0, h1⟩
theorem y_add {x y : Operand} {xt yt : TypeId} {i j : Int} (hx : ev L x = some (.int .i64 i)) (hy : ev L y = some (.int .i64 j)) (h0 : -9223372036854775808 ≤ i + j) (h1 : i + j ≤ 9223372036854775807) :
  Yl E n L S ⟨d, .binOp .add xt x y yt, ty, pos, af, gd⟩ (.int .i64 (i + j)) := fun a w g _ => by
 simp [execOp, eqGuard, binOp, Op.intArith, g.ev hx, g.ev hy, kR h0 h1]
theorem y_sub {x y : Operand} {xt yt : TypeId} {i j : Int} (hx : ev L x = some (.int .i64 i)) (hy : ev L y = some (.int .i64 j)) (h0 : -9223372036854775808 ≤ i - j) (h1 : i - j ≤ 9223372036854775807) :
  Yl E n L S ⟨d, .binOp .sub xt x y yt, ty, pos, af, gd⟩ (.int .i64 (i - j)) := fun a w g _ => by
 simp [execOp, eqGuard, binOp, Op.intArith, g.ev hx, g.ev hy, kR h0 h1]
theorem y_mul {x y : Operand} {xt yt : TypeId} {i j : Int} (hx : ev L x = some (.int .i64 i)) (hy : ev L y = some (.int .i64 j)) (h0 : -9223372036854775808 ≤ i * j) (h1 : i * j ≤ 9223372036854775807) :
  Yl E n L S ⟨d, .binOp .mul xt x y yt, ty, pos, af, gd⟩ (.int .i64 (i * j)) := fun a w g _ => by
 simp [execOp, eqGuard, binOp, Op.intArith, g.ev hx, g.ev hy, kR h0 h1]
theorem y_quo {x y : Operand} {xt yt : TypeId} {i j : Int} (hx : ev L x = some (.int .i64 i)) (hy : ev L y = some (.int .i64 j)) (h0 : 0 ≤ i) (h1 : 0 < j) (h2 : i ≤ 9223372036854775807) :
  Yl E n L S ⟨d, .binOp .quo xt x y yt, ty, pos, af, gd⟩ (.int .i64 (i / j)) := fun a w g _ => by
 have e1 : i.tdiv j = i / j := Int.tdiv_eq_ediv_of_nonneg h0
 have e2 : 0 ≤ i / j := Int.ediv_nonneg h0 (by omega)
 have e3 : i / j ≤ i := Int.ediv_le_self _ h0
 have hj : ¬ j = 0 := by omega
 simp [execOp, eqGuard, binOp, Op.intDiv, g.ev hx, g.ev hy, hj, e1, kR (i := i / j) (by omega) (by omega)]
theorem qVy {x y : Operand} {xt yt : TypeId} {i j : Int} {kd : IntKind} (hx : ev L x = some (.int kd i)) (hy : ev L y = some (.int kd j)) (h0 : 0 ≤ i) (h1 : 0 < j) :
  Yl E n L S ⟨d, .binOp .rem xt x y yt, ty, pos, af, gd⟩ (.int kd (i % j)) := fun a w g _ => by
 have e1 : i.tmod j = i % j := Int.tmod_eq_emod_of_nonneg h0
 have hj : ¬ j = 0 := by omega
 simp [execOp, eqGuard, binOp, Op.intDiv, g.ev hx, g.ev hy, hj, e1]
theorem y_eq {x y : Operand} {xt yt : TypeId} {i j : Int} {kd : IntKind} (hx : ev L x = some (.int kd i)) (hy : ev L y = some (.int kd j)) :
  Yl E n L S ⟨d, .binOp .eql xt x y yt, ty, pos, af, gd⟩ (.bool (decide (i = j))) := fun a w g _ => by
 simp [execOp, eqGuard, binOp, Op.intCmp, g.ev hx, g.ev hy]; rfl
theorem y_ne {x y : Operand} {xt yt : TypeId} {i j : Int} {kd : IntKind} (hx : ev L x = some (.int kd i)) (hy : ev L y = some (.int kd j)) :
  Yl E n L S ⟨d, .binOp .neq xt x y yt, ty, pos, af, gd⟩ (.bool (decide (¬ i = j))) := fun a w g _ => by
 simp [execOp, eqGuard, binOp, Op.intCmp, g.ev hx, g.ev hy]; rfl
theorem y_lt {x y : Operand} {xt yt : TypeId} {i j : Int} {kd : IntKind} (hx : ev L x = some (.int kd i)) (hy : ev L y = some (.int kd j)) :
  Yl E n L S ⟨d, .binOp .lss xt x y yt, ty, pos, af, gd⟩ (.bool (decide (i < j))) := fun a w g _ => by
 simp [execOp, eqGuard, binOp, Op.intCmp, g.ev hx, g.ev hy]
theorem y_le {x y : Operand} {xt yt : TypeId} {i j : Int} {kd : IntKind} (hx : ev L x = some (.int kd i)) (hy : ev L y = some (.int kd j)) :
  Yl E n L S ⟨d, .binOp .leq xt x y yt, ty, pos, af, gd⟩ (.bool (decide (i ≤ j))) := fun a w g _ => by
 simp [execOp, eqGuard, binOp, Op.intCmp, g.ev hx, g.ev hy]
theorem y_gt {x y : Operand} {xt yt : TypeId} {i j : Int} {kd : IntKind} (hx : ev L x = some (.int kd i)) (hy : ev L y = some (.int kd j)) :
  Yl E n L S ⟨d, .binOp .gtr xt x y yt, ty, pos, af, gd⟩ (.bool (decide (j < i))) := fun a w g _ => by
 simp [execOp, eqGuard, binOp, Op.intCmp, g.ev hx, g.ev hy]
theorem y_ge {x y : Operand} {xt yt : TypeId} {i j : Int} {kd : IntKind} (hx : ev L x = some (.int kd i)) (hy : ev L y = some (.int kd j)) :
  Yl E n L S ⟨d, .binOp .geq xt x y yt, ty, pos, af, gd⟩ (.bool (decide (j ≤ i))) := fun a w g _ => by
 simp [execOp, eqGuard, binOp, Op.intCmp, g.ev hx, g.ev hy]
theorem qRw {t e : TypeId} {sz : Nat} {zs : List Value} (h : E.tab t = some ⟨.ptr e, sz, zs⟩) : E.P.underlying t = some (.pointer e) := by
 obtain ⟨i, z, _, _, _, _, hk⟩ := qAv h
 simp only [TK.holds] at hk
 split at hk
 ·rename_i e' hu
  obtain rfl : e = e' := by simpa using hk
  exact hu
 cases hk
theorem qKd {t : TypeId} {sz : Nat} {zs : List Value} (h : E.tab t = some ⟨.iface, sz, zs⟩) : ∃ ms, E.P.underlying t = some (.interface ms) := by
 obtain ⟨i, z, _, _, _, _, hk⟩ := qAv h
 simp only [TK.holds] at hk
 split at hk
 ·rename_i ms hu; exact ⟨ms, hu⟩
 cases hk
theorem qJl {P : Program} {t e : TypeId} (hu : P.underlying t = some (.pointer e)) (p : Option Addr) (w : World) : (Op.equal t (.pointer p) (.pointer none)).run P w = .ok p.isNone w := by
 unfold Op.equal
 rw [show Op.maxDepth = 9999 + 1 from rfl, Op.equalIn]
 cases p <;> simp [underlying, program, Sem.run, hu]
theorem qIz (t : TypeId) (p : Option Addr) : binOp .eql t (.pointer p) (.pointer none) = (do pure (.bool (← Op.equal t (.pointer p) (.pointer none)))) := by cases p <;> rfl
theorem qJa (t : TypeId) (p : Option Addr) : binOp .neq t (.pointer p) (.pointer none) = (do pure (.bool (!(← Op.equal t (.pointer p) (.pointer none))))) := by cases p <;> rfl
theorem qPh {P : Program} {t : TypeId} {ms : Array (String × TypeId)} (hu : P.underlying t = some (.interface ms)) (w : World) : (Op.equal t .nilIface .nilIface).run P w = .ok true w := by
 unfold Op.equal
 rw [show Op.maxDepth = 9999 + 1 from rfl, Op.equalIn]
 simp [underlying, program, Sem.run, hu]
theorem qTd {P : Program} {t et : TypeId} {v : Value} {ms : Array (String × TypeId)} (hu : P.underlying t = some (.interface ms)) (w : World) : (Op.equal t (.iface et v) .nilIface).run P w = .ok false w := by
 unfold Op.equal
 rw [show Op.maxDepth = 9999 + 1 from rfl, Op.equalIn]
 simp [underlying, program, Sem.run, hu]
theorem qGh (op : BinOp) (t : TypeId) (x y : Operand) (p q : Option Addr) (P : Program) (w : World) : (eqGuard op t x y (.pointer p) (.pointer q)).run P w = .ok () w := by
 unfold eqGuard; split <;> simp
theorem qMw (op : BinOp) (t : TypeId) (x : Operand) (v : Value) (P : Program) (w : World) : (eqGuard op t x (.const v) .nilIface .nilIface).run P w = .ok () w := by
 unfold eqGuard; split <;> simp
theorem qMv (op : BinOp) (t et : TypeId) (x y : Operand) (v : Value) (P : Program) (w : World) : (eqGuard op t x y (.iface et v) .nilIface).run P w = .ok () w := by
 unfold eqGuard; split <;> simp
theorem qBa {x : Operand} {t yt e : TypeId} {p : Addr} {sz : Nat} {zs : List Value} (hx : ev L x = some (.pointer (some p))) (ht : E.tab t = some ⟨.ptr e, sz, zs⟩) :
  Yl E n L S ⟨d, .binOp .eql t x (.const (.pointer none)) yt, ty, pos, af, gd⟩ (.bool false) := fun a w g _ => by
 have hy : a.eval (.const (.pointer none)) = .pointer none := rfl
 simp [execOp, qGh, qIz, qJl (qRw ht), g.ev hx, hy]
theorem qDy {x : Operand} {t yt e : TypeId} {sz : Nat} {zs : List Value} (hx : ev L x = some (.pointer none)) (ht : E.tab t = some ⟨.ptr e, sz, zs⟩) :
  Yl E n L S ⟨d, .binOp .eql t x (.const (.pointer none)) yt, ty, pos, af, gd⟩ (.bool true) := fun a w g _ => by
 have hy : a.eval (.const (.pointer none)) = .pointer none := rfl
 simp [execOp, qGh, qIz, qJl (qRw ht), g.ev hx, hy]
theorem qSj {x : Operand} {t yt e : TypeId} {p : Addr} {sz : Nat} {zs : List Value} (hx : ev L x = some (.pointer (some p))) (ht : E.tab t = some ⟨.ptr e, sz, zs⟩) :
  Yl E n L S ⟨d, .binOp .neq t x (.const (.pointer none)) yt, ty, pos, af, gd⟩ (.bool true) := fun a w g _ => by
 have hy : a.eval (.const (.pointer none)) = .pointer none := rfl
 simp [execOp, qGh, qJa, qJl (qRw ht), g.ev hx, hy]
theorem qSi {x : Operand} {t yt e : TypeId} {sz : Nat} {zs : List Value} (hx : ev L x = some (.pointer none)) (ht : E.tab t = some ⟨.ptr e, sz, zs⟩) :
  Yl E n L S ⟨d, .binOp .neq t x (.const (.pointer none)) yt, ty, pos, af, gd⟩ (.bool false) := fun a w g _ => by
 have hy : a.eval (.const (.pointer none)) = .pointer none := rfl
 simp [execOp, qGh, qJa, qJl (qRw ht), g.ev hx, hy]
theorem qFc {x : Operand} {t yt : TypeId} {sz : Nat} {zs : List Value} (hx : ev L x = some .nilIface) (ht : E.tab t = some ⟨.iface, sz, zs⟩) :
  Yl E n L S ⟨d, .binOp .eql t x (.const .nilIface) yt, ty, pos, af, gd⟩ (.bool true) := fun a w g _ => by
 obtain ⟨ms, hu⟩ := qKd ht
 have hy : a.eval (.const .nilIface) = .nilIface := rfl
 simp [execOp, qMw, binOp, qPh hu, g.ev hx, hy]
theorem qAk {x : Operand} {t yt : TypeId} {sz : Nat} {zs : List Value} (hx : ev L x = some .nilIface) (ht : E.tab t = some ⟨.iface, sz, zs⟩) :
  Yl E n L S ⟨d, .binOp .neq t x (.const .nilIface) yt, ty, pos, af, gd⟩ (.bool false) := fun a w g _ => by
 obtain ⟨ms, hu⟩ := qKd ht
 have hy : a.eval (.const .nilIface) = .nilIface := rfl
 simp [execOp, qMw, binOp, qPh hu, g.ev hx, hy]
theorem qDz {x : Operand} {t yt et : TypeId} {v : Value} {sz : Nat} {zs : List Value} (hx : ev L x = some (.iface et v)) (ht : E.tab t = some ⟨.iface, sz, zs⟩) :
  Yl E n L S ⟨d, .binOp .eql t x (.const .nilIface) yt, ty, pos, af, gd⟩ (.bool false) := fun a w g _ => by
 obtain ⟨ms, hu⟩ := qKd ht
 have hy : a.eval (.const .nilIface) = .nilIface := rfl
 simp [execOp, qMv, binOp, qTd hu, g.ev hx, hy]
theorem qCf {x : Operand} {t yt et : TypeId} {v : Value} {sz : Nat} {zs : List Value} (hx : ev L x = some (.iface et v)) (ht : E.tab t = some ⟨.iface, sz, zs⟩) :
  Yl E n L S ⟨d, .binOp .neq t x (.const .nilIface) yt, ty, pos, af, gd⟩ (.bool true) := fun a w g _ => by
 obtain ⟨ms, hu⟩ := qKd ht
 have hy : a.eval (.const .nilIface) = .nilIface := rfl
 simp [execOp, qMv, binOp, qTd hu, g.ev hx, hy]
theorem qLh {t : TypeId} {k : IntKind} {sz : Nat} {zs : List Value} (h : E.tab t = some ⟨.int k, sz, zs⟩) : E.P.underlying t = some (.int k) := by
 obtain ⟨i, z, _, _, _, _, hk⟩ := qAv h
 simp only [TK.holds] at hk
 split at hk
 ·rename_i k' hu
  obtain rfl : k = k' := by simpa using hk
  exact hu
 cases hk
theorem kQ {x : Operand} {s t : TypeId} {kd k' ks : IntKind} {i : Int} {sz sz' : Nat} {zs zs' : List Value} (hx : ev L x = some (.int kd i)) (hs : E.tab s = some ⟨.int ks, sz, zs⟩) (ht : E.tab t = some ⟨.int k', sz', zs'⟩) (hw : k'.wrap i = i) :
  Yl E n L S ⟨d, .convert s t x, ty, pos, af, gd⟩ (.int k' i) := fun a w g _ => by
 simp [execOp, convert, underlying, program, Sem.run, qLh hs, qLh ht, g.ev hx, Conv.intToInt, hw]
theorem qSk {x : Operand} {t e : TypeId} {p : Option Addr} {len cap : Nat} {s b sz : Nat} {zs : List Value} {lo hi : Option Operand} {l h : Nat} (hx : ev L x = some (.slice p len cap)) (ht : E.tab t = some ⟨.slice e s b, sz, zs⟩)
  (hlo : match lo with | none => l = 0 | some y => ∃ k, ev L y = some (.int k (l : Nat))) (hhi : match hi with | none => h = len | some y => ∃ k, ev L y = some (.int k (h : Nat))) (h1 : l ≤ h) (h2 : h ≤ cap) :
  Yl E n L S ⟨d, .slice t x lo hi none, ty, pos, af, gd⟩ (.slice (if cap = l then p else p.map (·.add (l * s))) (h - l) (cap - l)) := fun a w g _ => by
 obtain ⟨hu, j, hj, hs, _⟩ := qBc ht
 have hB : ∀ (v : Nat) (y : Nat) (c : BoundsCode) (k : IntKind), v ≤ y → (Instr.sliceBound (.int k v) y c).run E.P w = .ok v w := by
  intro v y c k hv
  simp [Instr.sliceBound, asIntOf, hv]
 cases lo with
 | none =>
  subst hlo
  cases hi with
  | none =>
   subst hhi
   simp [execOp, Instr.sliceAt, Instr.slice, Instr.sliceBounds, underlying, program, Sem.run, hu, g.ev hx, Go.sizeOf, typeInfo, hj]
  | some y =>
   obtain ⟨k, hy⟩ := hhi
   simp [execOp, Instr.sliceAt, Instr.slice, Instr.sliceBounds, underlying, program, Sem.run, hu, g.ev hx, g.ev hy, Go.sizeOf, typeInfo, hj, hB _ _ _ _ h2]
 | some z =>
  obtain ⟨k', hz⟩ := hlo
  cases hi with
  | none =>
   subst hhi
   simp [execOp, Instr.sliceAt, Instr.slice, Instr.sliceBounds, underlying, program, Sem.run, hu, g.ev hx, g.ev hz, Go.sizeOf, typeInfo, hj, hs, hB _ _ _ _ h1]
  | some y =>
   obtain ⟨k, hy⟩ := hhi
   simp [execOp, Instr.sliceAt, Instr.slice, Instr.sliceBounds, underlying, program, Sem.run, hu, g.ev hx, g.ev hy, g.ev hz, Go.sizeOf, typeInfo, hj, hs, hB _ _ _ _ h2, hB _ _ _ _ h1]
theorem qIf {x : Operand} {xt : TypeId} {b : Bool} (hx : ev L x = some (.bool b)) : Yl E n L S ⟨d, .unOp .not xt x, ty, pos, af, gd⟩ (.bool (!b)) := fun a w g _ => by
 simp [execOp, Op.unary, g.ev hx]
theorem qX {x : Operand} {k : Nat} {vs : List Value} {v : Value} (hx : ev L x = some (.tuple ⟨vs⟩)) (hv : vs[k]? = some v) : Yl E n L S ⟨d, .extract x k, ty, pos, af, gd⟩ v := fun a w g _ => by
 simp [execOp, Instr.extract, g.ev hx, hv]
theorem qV {x : Operand} {t e : TypeId} {p : Option Addr} {len cap : Nat} {s b sz : Nat} {zs : List Value} (hx : ev L x = some (.slice p len cap)) (ht : E.tab t = some ⟨.slice e s b, sz, zs⟩) :
  Yl E n L S ⟨d, .call { callee := .builtin .len, args := #[x], argTypes := #[t] }, ty, pos, af, gd⟩ (.int .i64 (len : Nat)) := fun a w g _ => by
 obtain ⟨hu, _⟩ := qBc ht
 simp [execOp, resolve, invoke, builtin, Builtin.len_, underlying, program, Sem.run, hu, g.ev hx, goInt]
theorem zDh {x : Operand} {t : TypeId} {bs : ByteArray} {sz : Nat} {zs : List Value} (hx : ev L x = some (.string bs)) (ht : E.tab t = some ⟨.string, sz, zs⟩) :
  Yl E n L S ⟨d, .call { callee := .builtin .len, args := #[x], argTypes := #[t] }, ty, pos, af, gd⟩ (.int .i64 (bs.size : Nat)) := fun a w g _ => by
 obtain ⟨i', z, _, _, _, _, hk⟩ := qAv ht
 simp only [TK.holds] at hk
 split at hk
 ·rename_i hu
  simp [execOp, resolve, invoke, builtin, Builtin.len_, underlying, program, Sem.run, hu, g.ev hx, goInt]
 cases hk
theorem y_min {x y : Operand} {ts : Array TypeId} {i j : Int} {kd : IntKind} (hx : ev L x = some (.int kd i)) (hy : ev L y = some (.int kd j)) :
  Yl E n L S ⟨d, .call { callee := .builtin .min, args := #[x, y], argTypes := ts }, ty, pos, af, gd⟩ (.int kd (if j < i then j else i)) := fun a w g _ => by
 simp [execOp, resolve, invoke, builtin, Builtin.min_, Builtin.min2, g.ev hx, g.ev hy]
end
section
open Go Go.RowKit
variable {E : Env} {n : Nat} {L : Fr} {S H H' : List HP} {ty : TypeId} {pos : String} {af : Array Edge} {d : Option Nat} {gd : Option (Nat × Bool)} {K : Value → List HP → Prop} {Q : Exit → Act → World → Prop}

def zS : Value → List Value
 | .agg c => c.toList
 | v => [v]
theorem qEq (v : Value) : v.cells.toList = zS v := by cases v <;> rfl
def kC : List Value → Nat → List Value → List Value
 | vs, _, [] => vs
 | vs, o, u :: us => kC (vs.set o u) (o + 1) us
def zBy : Value → Bool
 | .agg _ | .tuple _ => false
 | _ => true
def qBu : List Value → Bool
 | [] => true
 | u :: us => zBy u && qBu us
theorem qKu : ∀ {l : List Value}, qBu l = true → ∀ u ∈ l, u.oneCell' = true
 | [], _, _, h => by cases h
 | a :: l, h, u, hu => by
  simp only [qBu, Bool.and_eq_true] at h
  rcases List.mem_cons.1 hu with rfl | hu
  ·cases u <;> first | rfl | (simp [zBy] at h)
  exact qKu h.2 u hu
theorem qEy {w0 : World} {bt : TypeId} {b : Nat} : ∀ (us : List Value) (vs : List Value) (o i : Nat) (w : World), Sat w0 w (cells b vs bt :: H) → qBu us = true → o + i + us.length ≤ vs.length →
  ∃ w', (storeCells ⟨b, o, none⟩ us i).run E.P w = .ok () w' ∧ Sat w0 w' (cells b (kC vs (o + i) us) bt :: H)
 | [], vs, o, i, w, s, _, _ => ⟨w, by simp [storeCells], s⟩
 | u :: us, vs, o, i, w, s, hp, hl => by
  simp only [qBu, Bool.and_eq_true] at hp
  simp only [List.length_cons] at hl
  have hv : vs[o + i]? = some (vs[o + i]'(by omega)) := List.getElem?_eq_getElem _
  have hc := s.cell (o + i) hv
  have hf := s.free (o + i)
  obtain ⟨w', hr, hs⟩ := qEy us (vs.set (o + i) u) o (i + 1) _ (s.setCell (o + i) u) hp.2 (by rw [List.length_set]; omega)
  refine ⟨w', ?_, by simpa [kC, Nat.add_assoc] using hs⟩
  have hst : (store ⟨b, o + i, none⟩ u).run E.P w = .ok () (w.setCell ⟨b, o + i, none⟩ u) := by
   have h1 := hp.1
   cases u <;> first | (simp [zBy] at h1; done) | simp [store, Sem.run, hc, hf]
  rw [storeCells]
  simp only [qCl, Sem.run_bind, hst, Result.andThen_ok]
  exact hr
theorem zO {x y : Operand} {t : TypeId} {b o : Nat} {vs : List Value} {bt : TypeId} {k : TK} {sz : Nat} {zs : List Value} {v : Value} (h : ev L x = some (.pointer (some ⟨b, o, none⟩))) (hy : ev L y = some v) (ht : E.tab t = some ⟨k, sz, zs⟩)
  (hsz : (zS v).length = sz) (hm : Take (cells b vs bt) H H') (hp : qBu (zS v) = true) (hl : o + sz ≤ vs.length) (hk : K undef (cells b (kC vs o (zS v)) bt :: H')) : Ld E n L H ⟨d, .store t x y, ty, pos, af, gd⟩ K := fun Q next a w g hn => by
 obtain ⟨w', hr, hs⟩ := qEy (E := E) (zS v) vs o 0 w (g.hp.take hm) hp (by omega)
 have hz : v.cells.size = sz := by rw [← Array.length_toList, qEq, hsz]
 have hrun : (execOp a.eval ⟨d, .store t x y, ty, pos, af, gd⟩).run E.P w = .ok .skip w' := by
  simp [execOp, Instr.storeAt, Instr.sureAddr, storeVar, g.f.ev h, g.f.ev hy, qKe ht, hz, qEq, hr]
 unfold Oper.wp
 rw [hrun, Oper.upon_skip]
 exact hn _ _ _ hk hs
theorem kI {t : TypeId} {k : TK} {sz : Nat} {zs : List Value} (ht : E.tab t = some ⟨k, sz, zs⟩) (hk : ∀ b, K (.pointer (some ⟨b, 0, none⟩)) (cells b zs t :: H)) : Ld E n L H ⟨d, .alloc t, ty, pos, af, gd⟩ K := fun Q next a w g hn => by
 obtain ⟨z, hz, hc⟩ := qMj ht w
 have hrun : (execOp a.eval ⟨d, .alloc t, ty, pos, af, gd⟩).run E.P w = .ok (.value (.pointer (some ⟨w.heap.size, 0, none⟩))) (w.alloc (.cells z.cells t)) := by
  simp [execOp, Instr.alloc, hz, newVar, newRow, newObj]
  rfl
 unfold Oper.wp
 rw [hrun, Oper.upon_value]
 refine hn _ _ _ (hk _) ?_
 have e : z.cells = ⟨zs⟩ := by rw [← hc]
 rw [e]
 exact g.hp.new _
theorem qIh {t : TypeId} {x : Operand} {v : Value} (hx : ev L x = some v) (hk : ∀ b, K (.pointer (some ⟨b, 0, none⟩)) (cells b (zS v) t :: H)) : Ld E n L H ⟨d, .box t x, ty, pos, af, gd⟩ K := fun Q next a w g hn => by
 have hrun : (execOp a.eval ⟨d, .box t x, ty, pos, af, gd⟩).run E.P w = .ok (.value (.pointer (some ⟨w.heap.size, 0, none⟩))) (w.alloc (.cells v.cells t)) := by
  simp [execOp, Instr.box, newVar, newRow, newObj, g.f.ev hx]
  rfl
 unfold Oper.wp
 rw [hrun, Oper.upon_value]
 refine hn _ _ _ (hk _) ?_
 have e : v.cells = ⟨zS v⟩ := by rw [← qEq]
 rw [e]
 exact g.hp.new _

def evP (L : Fr) : List (Nat × Operand) → Option (List (Nat × Value))
 | [] => some []
 | (i, x) :: r => match ev L x, evP L r with
  | some v, some l => some ((i, v) :: l)
  | _, _ => none
theorem GoodF.evP {a : Act} (g : GoodF n L a) : ∀ {xs : List (Nat × Operand)} {vs : List (Nat × Value)}, evP L xs = some vs → xs.map (fun p => (p.1, a.eval p.2)) = vs
 | [], vs, h => by simpa [Sl.evP] using h
 | (i, x) :: r, vs, h => by
  simp only [Sl.evP] at h
  split at h
  ·rename_i v l h1 h2
   simp at h
   subst h
   simp [g.ev h1, g.evP h2]
  cases h
def qUx (place : Nat → Option (Nat × Nat)) (cs : List Value) : List (Nat × Value) → Option (List Value)
 | [] => some cs
 | (i, v) :: r => match place i with
  | some (o, s) => bif Nat.beq (zS v).length s && Nat.ble (o + (zS v).length) cs.length then qUx place (kC cs o (zS v)) r else none
  | none => none
theorem qP : ∀ (us vs : List Value) (o : Nat), (kC vs o us).length = vs.length
 | [], _, _ => rfl
 | u :: us, vs, o => by simp [kC, qP us]
theorem qLq : ∀ (us : List Value) (vs : List Value) (o i : Nat), ((us.zipIdx i).foldl (fun (cs : Array Value) (p : Value × Nat) => cs.setIfInBounds (o + p.2) p.1) ⟨vs⟩) = (⟨kC vs (o + i) us⟩ : Array Value)
 | [], vs, o, i => rfl
 | u :: us, vs, o, i => by
  simp only [List.zipIdx_cons, List.foldl_cons, kC]
  have e : (⟨vs⟩ : Array Value).setIfInBounds (o + i) u = ⟨vs.set (o + i) u⟩ := List.setIfInBounds_toArray ..
  rw [Nat.add_assoc, ← qLq us (vs.set (o + i) u) o (i + 1), e]
theorem qQo (place : Nat → Option (Nat × Nat)) : ∀ (ps : List (Nat × Value)) (cs rs : List Value), qUx place cs ps = some rs → Instr.fill place ⟨cs⟩ ps = some ⟨rs⟩
 | [], cs, rs, h => by simp only [qUx, Option.some.injEq] at h; subst h; rfl
 | (i, v) :: r, cs, rs, h => by
  simp only [qUx] at h
  split at h
  ·rename_i o s hp
   cases hc : (Nat.beq (zS v).length s && Nat.ble (o + (zS v).length) cs.length) with
   | false => rw [hc] at h; cases h
   | true =>
    rw [hc] at h
    simp only [cond_true] at h
    simp only [Bool.and_eq_true] at hc
    have h1 := Nat.eq_of_beq_eq_true hc.1
    have h2 := Nat.le_of_ble_eq_true hc.2
    have hz : v.cells.size = (zS v).length := by rw [← Array.length_toList, qEq]
    rw [Instr.fill]
    simp only [hp]
    rw [if_neg (by simp [hz, h1]; omega)]
    have hf := qLq (zS v) cs o 0
    have e : v.cells = ⟨zS v⟩ := by rw [← qEq]
    have : (v.cells.zipIdx.foldl (fun (cs : Array Value) (x : Value × Nat) => match x with | (c, j) => cs.setIfInBounds (o + j) c) (⟨cs⟩ : Array Value)) = ⟨kC cs o (zS v)⟩ := by
     rw [← Array.foldl_toList, Array.toList_zipIdx, e]
     simpa using hf
    rw [this]
    exact qQo place r _ _ h
  cases h
theorem qAl {t : TypeId} {ps : List (Nat × Operand)} {vs : List (Nat × Value)} {fs : List (Nat × Nat)} {sz : Nat} {zs cs : List Value} (ht : E.tab t = some ⟨.struct fs, sz, zs⟩) (hp : evP L ps = some vs) (hf : qUx (fs[·]?) zs vs = some cs) :
  Yl E n L S ⟨d, .build t ps.toArray, ty, pos, af, gd⟩ (.agg ⟨cs⟩) := fun a w g _ => by
 obtain ⟨z, hz, hc⟩ := qMj ht w
 obtain ⟨i', z', _, _, _, _, hk⟩ := qAv ht
 have hps := g.evP hp
 simp only [TK.holds] at hk
 split at hk
 ·rename_i gs hu
  simp only [Bool.and_eq_true] at hk
  obtain ⟨⟨h0, h1⟩, h2⟩ := hk
  have h0' : gs.toList.map (fun g => (g.offset, szT E.P g.type)) = fs := by simpa using h0
  have hm : ∀ (l : List Field), (∀ g ∈ l, (E.P.info? g.type).isSome = true) → (l.mapM (fun f => do pure (f.offset, ← Go.sizeOf f.type)) : Sem (List (Nat × Nat))).run E.P w = .ok (l.map (fun g => (g.offset, szT E.P g.type))) w := by
   intro l
   induction l with
   | nil => intro _; simp
   | cons g l ih =>
    intro hl
    obtain ⟨j, hj⟩ := Option.isSome_iff_exists.1 (hl g (by simp))
    have hi := ih (fun g hg => hl g (by simp [hg]))
    have hsz : (Go.sizeOf g.type).run E.P w = .ok (szT E.P g.type) w := by simp [Go.sizeOf, typeInfo, program, Sem.run, hj, szT]
    rw [List.mapM_cons]
    simp only [Sem.run_bind, hsz, Result.andThen_ok, Sem.run_pure, hi, List.map_cons]
  have hm' := hm gs.toList (fun g hg => Array.all_eq_true_iff_forall_mem.1 h2 g (by simpa using hg))
  have hmm : (gs.mapM (fun f => do pure (f.offset, ← Go.sizeOf f.type)) : Sem (Array (Nat × Nat))).run E.P w = .ok ⟨fs⟩ w := by
   rw [h0'] at hm'
   rw [Array.mapM_eq_mapM_toList, ← bind_pure_comp, Sem.run_bind, hm']
   rfl
  have hfill := qQo (fs[·]?) vs zs cs hf
  have e : z.cells = ⟨zs⟩ := by rw [← hc]
  have hpl : (ps.toArray.map fun x => match x with | (i, x) => (i, a.eval x)).toList = vs := by simpa using hps
  simp only [execOp, Instr.build, Sem.run_bind, hz, Result.andThen_ok, underlying, program, Sem.run, hu, hmm, e, hpl, Sem.run_pure]
  have hg : (fun x : Nat => (⟨fs⟩ : Array (Nat × Nat))[x]?) = (fs[·]?) := by funext x; simp
  rw [hg, hfill]
  rfl
 cases hk

def goFn (P : Program) (f : FuncId) : Bool := match P.funcs[f]? with | some fn => fn.body.isSome && fn.name != "runtime.NumGoroutine" | none => false
def Ct (E : Env) (f : FuncId) (args : List Value) (Pre : List HP) (Φ : Value → List HP → Prop) : Prop :=
 ∀ (R : HP) (w : World), Sat E.w0 w (Pre ++ [R]) → Calls E.P f ⟨args⟩ w (fun e w' => ∃ v Qs, e = .returned v ∧ Φ v Qs ∧ Sat E.w0 w' (Qs ++ [R]))
theorem qUd {P : Program} {f : FuncId} (hf : goFn P f = true) (args : Array Value) (w : World) : (callFunc f args).run P w = .ok (.enter f args) w := by
 unfold goFn at hf
 split at hf
 ·rename_i fn hfn
  simp only [Bool.and_eq_true, bne_iff_ne, ne_eq] at hf
  obtain ⟨c, hc⟩ := Option.isSome_iff_exists.1 hf.1
  simp [callFunc, program, Sem.run, hfn, hf.2, hc]
 cases hf
theorem zC {f : FuncId} {args : List Operand} {ts : Array TypeId} {vs : List Value} {Pre : List HP} {Φ : Value → List HP → Prop} (hc : Ct E f vs Pre Φ) (ha : evs L args = some vs) (hf : goFn E.P f = true) (hs : Sub Pre H H') (hk : ∀ v Qs, Φ v Qs → K v (Qs ++ H')) :
  Ld E n L H ⟨d, .call { callee := .value (.func f), args := args.toArray, argTypes := ts }, ty, pos, af, gd⟩ K := fun Q next a w g hn => by
 have hrun : (execOp a.eval ⟨d, .call { callee := .value (.func f), args := args.toArray, argTypes := ts }, ty, pos, af, gd⟩).run E.P w = .ok (.enter f ⟨vs⟩) w := by
  have h1 := g.f.evs ha
  have h2 : a.eval (.func f) = .func (.func f) #[] #[] := rfl
  simp [execOp, resolve, Deferred.ofValue, invoke, h2, qUd hf, h1]
 unfold Oper.wp
 rw [hrun, Oper.upon_enter]
 refine (hc (qAe H') w ((g.hp.sub hs).imp fun _ => qUk)).mono ?_
 rintro e w' ⟨v, Qs, rfl, hΦ, hs'⟩
 exact hn v _ w' (hk v Qs hΦ) (hs'.imp fun _ => qZc)
def qAo : Nat → List Value → Fr
 | _, [] => []
 | i, v :: r => (i, v) :: qAo (i + 1) r
theorem qPo : ∀ (vs : List Value) (i t : Nat) (v : Value), look (qAo i vs) t = some v → i ≤ t ∧ vs[t - i]? = some v
 | [], _, _, _, h => by cases h
 | u :: us, i, t, v, h => by
  simp only [qAo, qFv] at h
  by_cases hk : i = t
  ·subst hk
   rw [if_pos rfl] at h
   exact ⟨Nat.le_refl _, by simpa using h⟩
  rw [if_neg hk] at h
  obtain ⟨h1, h2⟩ := qPo us (i + 1) t v h
  refine ⟨by omega, ?_⟩
  have : t - i = (t - (i + 1)) + 1 := by omega
  rw [this]; simpa using h2
abbrev RetP (E : Env) (Φ : Value → List HP → Prop) (R : HP) : Ending → World → Prop := fun e w' => ∃ v Qs, e = .returned v ∧ Φ v Qs ∧ Sat E.w0 w' (Qs ++ [R])
theorem zR {f : FuncId} {fn : Func} {c : Code} {args : List Value} {Pre : List HP} {Φ : Value → List HP → Prop} (hf : E.P.funcs[f]? = some fn) (hb : fn.body = some c) (hn : fn.ntmps = n) (hl : Nat.ble args.length n = true)
  (h : ∀ R, WP E c (bodyPost E.P fn (RetP E Φ R)) n (qAo 0 args) (Pre ++ [R])) : Ct E f args Pre Φ := fun R w s => by
 have hl' := Nat.le_of_ble_eq_true hl
 refine calls_of_wp hf hb (h R _ w ⟨⟨?_, rfl, fun t v hv => ?_⟩, s⟩)
 ·simp [hn]; omega
 obtain ⟨_, h2⟩ := qPo args 0 t v hv
 have hlt := (List.getElem?_eq_some_iff.1 h2).1
 rw [Array.getElem?_append_left (by simpa using hlt)]
 simpa using h2
inductive Rs (E : Env) (L : Fr) (S : List HP) : List ResultVar → List Value → Prop where
 | nil : Rs E L S [] []
 | tmp {t : Nat} {v : Value} {rs : List ResultVar} {vs : List Value} : look L t = some v → Rs E L S rs vs → Rs E L S (.tmp t :: rs) (v :: vs)
 | cell {a b o : Nat} {t : TypeId} {us zs : List Value} {k : TK} {sz : Nat} {rs : List ResultVar} {vs : List Value} : look L a = some (.pointer (some ⟨b, o, none⟩)) → E.tab t = some ⟨k, sz, zs⟩ → k.agg = true →
   HasCs S b o sz us → Rs E L S rs vs → Rs E L S (.cell a t :: rs) (.agg ⟨us⟩ :: vs)
 | cell1 {a b o : Nat} {t : TypeId} {zs : List Value} {k : TK} {sz : Nat} {rs : List ResultVar} {vs : List Value} {v : Value} : look L a = some (.pointer (some ⟨b, o, none⟩)) → E.tab t = some ⟨k, sz, zs⟩ → k.agg = false →
   HasC S b o v → Rs E L S rs vs → Rs E L S (.cell a t :: rs) (v :: vs)
def one : List Value → Value
 | [v] => v
 | vs => .tuple ⟨vs⟩
def zCd (tmps : Array Value) : ResultVar → Sem Value
 | .tmp t => pure (tmps.getD t undef)
 | .cell a t => do loadVar t (← asAddr (tmps.getD a undef))
theorem Rs.run {rs : List ResultVar} {vs : List Value} (h : Rs E L S rs vs) {a : Act} {w : World} (g : GoodF n L a) (s : Sat E.w0 w S) : (rs.mapM (zCd a.tmps)).run E.P w = .ok vs w := by
 induction h with
 | nil => simp
 | tmp h1 _ ih => simp [List.mapM_cons, zCd, g.fr _ _ h1, ih]
 | @cell a' b o t us zs k sz rs vs h1 ht hk hm _ ih =>
  obtain ⟨hl, hc⟩ := hm.cells s
  have hr := qOc (P := E.P) b o us 0 #[] (fun j u hu => by rw [Nat.zero_add]; exact hc j u hu)
  rw [hl] at hr
  simp [List.mapM_cons, zCd, g.fr _ _ h1, asAddr, loadVar, qFy ht, hk, qKe ht, loadCells, hr, ih]
 | @cell1 a' b o t zs k sz rs vs v h1 ht hk hm _ ih =>
  have hc := hm.cell s
  simp [List.mapM_cons, zCd, g.fr _ _ h1, asAddr, loadVar, qFy ht, hk, load, Sem.run, hc, ih]
theorem Rs.gives {fn : Func} {rs : List ResultVar} {vs : List Value} (hrs : fn.results = ⟨rs⟩) (h : Rs E L S rs vs) {a : Act} {w : World} (g : GoodF n L a) (s : Sat E.w0 w S) : (results fn a.tmps).run E.P w = .ok (one vs) w := by
 have hr := h.run g s
 have e : results fn a.tmps = (do let vs ← (⟨rs⟩ : Array ResultVar).mapM (zCd a.tmps); pure (if h : vs.size = 1 then vs[0] else .tuple vs)) := by
  unfold results
  rw [hrs]
  congr 2
 rw [e, Array.mapM_eq_mapM_toList]
 simp only [bind_pure_comp, Sem.run_map, hr, Result.andThen_ok]
 match vs with
 | [] => rfl
 | [v] => rfl
 | _ :: _ :: _ => rfl
theorem kF {fn : Func} {rs : List ResultVar} {vs : List Value} {Φ : Value → List HP → Prop} {R : HP} (Qs : List HP) (hrs : fn.results = ⟨rs⟩) (h : Rs E L H rs vs) (hΦ : Φ (one vs) Qs) (hH : ∀ k, qAe H k → qAe (Qs ++ [R]) k) :
  AT E (bodyPost E.P fn (RetP E Φ R)) .ret n L H := fun _ _ g => ⟨g.f.df, _, h.gives hrs g.f g.hp, _, Qs, rfl, hΦ, g.hp.imp hH⟩
theorem qLt {fn : Func} {rs : List ResultVar} {vs : List Value} {Φ : Value → List HP → Prop} {R : HP} (Qs : List HP) (hrs : fn.results = ⟨rs⟩) (h : Rs E L H rs vs) (hΦ : Φ (one vs) Qs) (hH : ∀ k, qAe H k → qAe (Qs ++ [R]) k) :
  AT E (bodyPost E.P fn (RetP E Φ R)) .normal n L H := fun _ _ g => ⟨g.f.df, _, h.gives hrs g.f g.hp, _, Qs, rfl, hΦ, g.hp.imp hH⟩
theorem ent {ps l l' : List HP} (s : Sub ps l l') : ∀ k, qAe l k → qAe ps k := fun k h => by
 have := s.out h
 clear s h
 induction ps generalizing k with
 | nil => trivial
 | cons p ps ih => exact qBl (fun k' => ih k') this
theorem qHi {w0 : World} {bt : TypeId} {b : Nat} (cur : Array Value) (o : Nat) (us : List Value) (w : World) (s : Sat w0 w (pt b (.cells cur bt (0, 0)) :: H)) (hp : qBu us = true) (hl : o + us.length ≤ cur.size) :
  ∃ w', (storeCells ⟨b, o, none⟩ us 0).run E.P w = .ok () w' ∧ Sat w0 w' (pt b (.cells ⟨kC cur.toList o us⟩ bt (0, 0)) :: H) := by
 have s' : Sat w0 w (cells b cur.toList bt :: H) := s
 obtain ⟨w', hr, hs⟩ := qEy (E := E) us cur.toList o 0 w s' hp (by simpa using hl)
 exact ⟨w', hr, by simpa [cells] using hs⟩
theorem qFo : ∀ (us vs : List Value) (o m : Nat), o + us.length ≤ m → (kC vs o us).take m = kC (vs.take m) o us
 | [], _, _, _, _ => rfl
 | u :: us, vs, o, m, h => by
  simp only [List.length_cons] at h
  rw [kC, qFo us _ _ _ (by omega), kC, List.take_set]
theorem qW {x y : Operand} {t : TypeId} {b o : Nat} {xs : List Value} {c m esz : Nat} {bt : TypeId} {k : TK} {sz : Nat} {zs : List Value} {v : Value} (h : ev L x = some (.pointer (some ⟨b, o, none⟩))) (hy : ev L y = some v) (ht : E.tab t = some ⟨k, sz, zs⟩)
  (hsz : (zS v).length = sz) (hm : Take (sl (some ⟨b, 0, none⟩) c bt esz m xs) H H') (hp : qBu (zS v) = true) (hl : o + sz ≤ m * esz) (hk : K undef (sl (some ⟨b, 0, none⟩) c bt esz m (kC xs o (zS v)) :: H')) : Ld E n L H ⟨d, .store t x y, ty, pos, af, gd⟩ K := fun Q next a w g hn => by
 have s0 := g.hp.take hm
 have hxl : xs.length = m * esz := by obtain ⟨h1, h2, _, _, hh, _⟩ := s0.hp; exact hh.1
 obtain ⟨cur, s1, h1, h2, h3, h4⟩ := s0.slice
 have hme : m * esz ≤ cur.size := by rw [h3]; exact Nat.mul_le_mul_right _ h1
 obtain ⟨w', hr, hs⟩ := qHi (E := E) cur o (zS v) w s1 hp (by omega)
 have hz : v.cells.size = sz := by rw [← Array.length_toList, qEq, hsz]
 have hrun : (execOp a.eval ⟨d, .store t x y, ty, pos, af, gd⟩).run E.P w = .ok .skip w' := by
  simp [execOp, Instr.storeAt, Instr.sureAddr, storeVar, g.f.ev h, g.f.ev hy, qKe ht, hz, qEq, hr]
 unfold Oper.wp
 rw [hrun, Oper.upon_skip]
 refine hn _ _ _ hk (hs.imp fun k' hk' => qCr (fun k'' hk'' => ?_) hk')
 refine ⟨by rw [qP, hxl], .inr ⟨b, _, rfl, hk'', h1, h2, by simpa [qP] using h3, ?_⟩⟩
 rw [qFo _ _ _ _ (by omega), h4]
theorem qY {t e : TypeId} {k : Nat} {ps : List (Nat × Operand)} {vs : List (Nat × Value)} {es by_ sz sz' : Nat} {zs zs' cs : List Value} {kk : TK} (ht : E.tab t = some ⟨.slice e es by_, sz, zs⟩) (he : E.tab e = some ⟨kk, sz', zs'⟩) (hp : evP L ps = some vs)
  (h24 : Nat.ble (k * es) 16777216 && Nat.blt 0 (k * es) = true) (hf : qUx (fun i => some (i * es, es)) ((List.range (k * es)).map (fun i => zs'.getD (i % zs'.length) default)) vs = some cs) (hk : ∀ b, K (.slice (some ⟨b, 0, none⟩) k k) (cells b cs e :: H)) :
  Ld E n L H ⟨d, .buildSlice t k ps.toArray, ty, pos, af, gd⟩ K := fun Q next a w g hn => by
 obtain ⟨hu, j, hj, hs, _⟩ := qBc ht
 obtain ⟨z, hz, hc⟩ := qMj he w
 simp only [Bool.and_eq_true] at h24
 have g1 := Nat.le_of_ble_eq_true h24.1
 have g2 : 0 < k * es := by simpa [Nat.blt_eq] using h24.2
 have hps := g.f.evP hp
 have hfill := qQo (fun i => some (i * es, es)) vs _ cs hf
 have hz0 : z.cells = ⟨zs'⟩ := by rw [← hc]
 have harr : ((Array.range (k * es)).map (fun i => z.cells[i % z.cells.size]!)) = ⟨(List.range (k * es)).map (fun i => zs'.getD (i % zs'.length) default)⟩ := by
  rw [hz0]
  apply Array.toList_inj.1
  simp only [Array.toList_map, Array.toList_range]
  refine List.map_congr_left fun i _ => ?_
  simp only [List.size_toArray, List.getElem!_toArray, List.getD_eq_getElem?_getD, List.getElem!_eq_getElem?_getD]
 have hpl : (ps.toArray.map fun x => match x with | (i, x) => (i, a.eval x)).toList = vs := by simpa using hps
 have hrun : (execOp a.eval ⟨d, .buildSlice t k ps.toArray, ty, pos, af, gd⟩).run E.P w = .ok (.value (.slice (some ⟨w.heap.size, 0, none⟩) k k)) (w.alloc (.cells ⟨cs⟩ e)) := by
  have hn24 : ¬ k * es > 2 ^ 24 := by simpa using g1
  have hn0 : ¬ k * es = 0 := by omega
  simp only [execOp, Instr.buildSlice, Sem.run_bind, underlying, program, Sem.run, hu, Result.andThen_ok, Sem.run_pure, Go.sizeOf, typeInfo, hj, hs, hn24, hn0, if_false, hz, harr, hpl, hfill]
  rfl
 unfold Oper.wp
 rw [hrun, Oper.upon_value]
 exact hn _ _ _ (hk _) (g.hp.new _)
theorem Sat.owns {w0 w : World} {p : Option Addr} {c sz m : Nat} {xs : List Value} {bt : TypeId} (s : Sat w0 w (sl p c bt sz m xs :: H)) : w.ownsRow w0.heap.size bt sz (.slice p m c) m xs := by
 have hh := s.hp
 obtain ⟨h1, h2, hd, e, hp, hq⟩ := hh
 refine ⟨hp.1, ?_⟩
 rcases hp.2 with ⟨rfl, rfl, rfl⟩ | ⟨g, cur, rfl, hg, r⟩
 ·exact .inl ⟨rfl, rfl⟩
 obtain ⟨hw, hb⟩ := Sat.ptr (b := g) (o := .cells cur bt (0, 0)) ⟨s.os, s.tape, s.output, s.size, s.old, ⟨h1, h2, hd, e, hg, hq⟩⟩
 exact .inr ⟨g, c, cur, rfl, hb, hw, r⟩
theorem Sat.resl {w0 w w' : World} {p : Option Addr} {c c' sz m m' g : Nat} {xs xs' : List Value} {bt : TypeId} (s : Sat w0 w (sl p c bt sz m xs :: H)) (ho : w'.ownsRow w0.heap.size bt sz (.slice (some ⟨g, 0, none⟩) m' c') m' xs') (hg : w.grownBy w' (Value.slice p m c).ownBlock)
  (hat : (Value.slice p m c).ownBlock = some g ∨ g = w.heap.size) : Sat w0 w' (sl (some ⟨g, 0, none⟩) c' bt sz m' xs' :: H) := by
 obtain ⟨h1, h2, hd, e, hp, hq⟩ := s.hp
 have hN : ∀ k, (Value.slice p m c).ownBlock = some k → w0.heap.size ≤ k ∧ h1 k ≠ none := by
  intro k hk
  rcases hp.2 with ⟨rfl, _⟩ | ⟨g', cur, rfl, hg', _⟩
  ·cases hk
  obtain rfl : g' = k := by simpa [Value.ownBlock] using hk
  exact ⟨(Sat.ptr (b := g') (o := .cells cur bt (0, 0)) ⟨s.os, s.tape, s.output, s.size, s.old, ⟨h1, h2, hd, e, hg', hq⟩⟩).2, by rw [hg']; simp⟩
 have hsz := s.size
 obtain ⟨cur, hcur, hgb, r⟩ : ∃ cur, w'.heap[g]? = some (.cells cur bt (0, 0)) ∧ w0.heap.size ≤ g ∧ m' ≤ c' ∧ c' ≤ maxLen ∧ cur.size = c' * sz ∧ cur.toList.take (m' * sz) = xs' := by
  rcases ho.2 with ⟨h0, _⟩ | ⟨g', cap, cur, h0, hb, hgg, r⟩
  ·cases h0
  simp only [Value.slice.injEq, Option.some.injEq, Addr.mk.injEq, and_true, true_and] at h0
  obtain ⟨rfl, rfl⟩ := h0
  exact ⟨cur, hgg, hb, r⟩
 refine ⟨hg.os.trans s.os, hg.tape.trans s.tape, hg.output.trans s.output, Nat.le_trans s.size hg.size, fun k hk => (hg.block k (Nat.lt_of_lt_of_le hk s.size) (fun ek => by have := (hN k ek.symm).1; omega)).trans (s.old k hk), ?_⟩
 have h2g : h2 g = none := by
  rcases hat with h | h
  ·rcases hd g with x | x
   ·exact absurd x (hN g h).2
   exact x
  cases x : h2 g with
  | none => rfl
  | some o =>
   have := congrFun e g
   rw [qDr hd x] at this
   unfold qDk at this
   rw [if_neg (by omega), h] at this
   simp at this
 refine ⟨fun k => if (h2 k).isSome then none else qDk w0 w' k, h2, ?_, ?_, ⟨ho.1, .inr ⟨g, cur, rfl, ?_, r⟩⟩, hq⟩
 ·intro k
  cases x : h2 k with
  | none => exact .inr rfl
  | some o => exact .inl (by simp [x])
 ·funext k
  cases x : h2 k with
  | none => simp [join, x]
  | some o =>
   simp only [join, x, Option.isSome_some, if_true, Option.none_or]
   have := congrFun e k
   rw [qDr hd x] at this
   rw [← this]
   unfold qDk at this ⊢
   split
   ·rfl
   rename_i hk
   rw [if_neg hk] at this
   refine hg.block k (Array.getElem?_eq_some_iff.1 this).1 (fun ek => ?_)
   rcases hd k with y | y
   ·exact (hN k ek.symm).2 y
   rw [x] at y; cases y
 simp only [h2g]
 unfold qDk
 rw [if_neg (by simp), if_neg (by omega)]; exact hcur
theorem zX {x y : Operand} {t e : TypeId} {p : Option Addr} {c m k cc g es by_ sz sz' : Nat} {xs us zs zs' : List Value} {kk : TK} {H'' : List HP} {bt : TypeId} (ht : E.tab t = some ⟨.slice e es by_, sz, zs⟩) (he : E.tab e = some ⟨kk, sz', zs'⟩) (hz : Nat.beq zs'.length es && Nat.blt 0 es = true)
  (hx : ev L x = some (.slice p m c)) (hy : ev L y = some (.slice (some ⟨g, 0, none⟩) k cc)) (hm : Take (cells g us bt) H H') (hm2 : Take (sl p c e es m xs) H' H'') (hp : qBu us = true) (hl : us.length = k * es) (h0 : 0 < k) (hb : (m + k) * by_ ≤ 140737488355328) (hb2 : m + k ≤ maxLen)
  (hk : ∀ g' c' m' xs', m' = m + k → xs' = xs ++ us → K (.slice (some ⟨g', 0, none⟩) m' c') (sl (some ⟨g', 0, none⟩) c' e es m' xs' :: H'')) : Ld E n L H ⟨d, .call { callee := .builtin .append, args := #[x, y], argTypes := #[t, t] }, ty, pos, af, gd⟩ K := fun Q next a w G hn => by
 obtain ⟨hu, j, hj, hs, hby⟩ := qBc ht
 obtain ⟨i, z, hi, hi2, hiz, hzc, _⟩ := qAv he
 obtain rfl : i = j := by rw [hi] at hj; simpa using hj
 simp only [Bool.and_eq_true] at hz
 have z1 := Nat.eq_of_beq_eq_true hz.1
 have z2 : 0 < es := by simpa [Nat.blt_eq] using hz.2
 have s1 := G.hp.take hm
 have s2 : Sat E.w0 w (sl p c e es m xs :: cells g us bt :: H'') := (s1.imp fun _ h => qDa (qBl (fun _ => hm2.out) h))
 have hnews : ∀ j u, us[j]? = some u → w.cell? ((⟨g, 0, none⟩ : Addr).add j) = some u := fun j u hu => by rw [qCl, Nat.zero_add]; exact s1.cell j hu
 obtain ⟨g', c', w', hr, ho, hgr, hat, _⟩ := run_append_lies (P := E.P) w t ty E.w0.heap.size e i z es by_ hu hi hiz hs hby (by rw [← Array.length_toList, hzc]; exact z1) z2 (.slice p m c) m xs s2.owns ⟨g, 0, none⟩ k cc us hl hnews (qKu hp) h0 hb2 hb s2.size _ rfl
 have hrun : (execOp a.eval ⟨d, .call { callee := .builtin .append, args := #[x, y], argTypes := #[t, t] }, ty, pos, af, gd⟩).run E.P w = .ok (.value (.slice (some ⟨g', 0, none⟩) (m + k) c')) w' := by
  simp [execOp, resolve, invoke, builtin, G.f.ev hx, G.f.ev hy, hr]
 unfold Oper.wp
 rw [hrun, Oper.upon_value]
 exact hn _ _ _ (hk g' c' _ _ rfl rfl) ((s2.resl ho hgr hat).imp fun _ => qBl fun _ => qLd)
theorem qDq {t : TypeId} {sz : Nat} : ∀ k, qAe H k → qAe (sl none 0 t sz 0 [] :: H) k := fun k h => ⟨fun _ => none, k, fun _ => .inl rfl, by funext b; simp [join], ⟨by simp, .inl ⟨rfl, rfl, rfl⟩⟩, h⟩
theorem qCc {p : Option Addr} {c m sz : Nat} {xs : List Value} {t : TypeId} {k : PH} (h : sl p c t sz m xs k) (hm : 0 < m) : ∃ g, p = some ⟨g, 0, none⟩ := by
 rcases h.2 with ⟨_, h0, _⟩ | ⟨g, cur, h0, _⟩
 ·omega
 exact ⟨g, h0⟩
theorem qKa {p : Option Addr} {c m sz : Nat} {xs : List Value} {t : TypeId} {k : PH} (h : sl p c t sz m xs k) : m ≤ c ∧ c ≤ maxLen ∧ xs.length = m * sz := by
 rcases h.2 with ⟨_, h0, h1⟩ | ⟨g, cur, _, _, h0, h1, _⟩
 ·exact ⟨by omega, by omega, h.1⟩
 exact ⟨h0, h1, h.1⟩
theorem qVq {g m sz : Nat} {us : List Value} {t : TypeId} (hl : us.length = m * sz) (hm : m ≤ maxLen) : ∀ k, cells g us t k → sl (some ⟨g, 0, none⟩) m t sz m us k := fun k h =>
 ⟨hl, .inr ⟨g, ⟨us⟩, rfl, h, Nat.le_refl _, hm, by simpa using hl, by rw [← hl]; simp⟩⟩
theorem qIj {p : Option Addr} {c m m' sz : Nat} {xs xs' : List Value} {t : TypeId} (hm : m' ≤ m) (hx : xs.take (m' * sz) = xs') (hp : p ≠ none) : ∀ k, sl p c t sz m xs k → sl p c t sz m' xs' k := fun k h => by
 have hle : m' * sz ≤ m * sz := Nat.mul_le_mul_right _ hm
 refine ⟨by rw [← hx, List.length_take, h.1]; omega, ?_⟩
 rcases h.2 with ⟨h0, _⟩ | ⟨g, cur, h0, h1, h2, h3, h4, h5⟩
 ·exact absurd h0 hp
 refine .inr ⟨g, cur, h0, h1, by omega, h3, h4, ?_⟩
 rw [← hx, ← h5, List.take_take, Nat.min_eq_left hle]
end
section
open Go Go.RowKit
inductive Tr where
 | leaf
 | node (l : Tr) (k : Nat) (v : TI) (r : Tr)
def Tr.find : Tr → Nat → Option TI
 | .leaf, _ => none
 | .node l k v r, t => bif Nat.beq t k then some v else bif Nat.blt t k then l.find t else r.find t
def Tr.all (p : Nat → TI → Bool) : Tr → Bool
 | .leaf => true
 | .node l k v r => p k v && (l.all p && r.all p)
theorem Tr.all_find {p : Nat → TI → Bool} : ∀ {T : Tr}, T.all p = true → ∀ {t : Nat} {d : TI}, T.find t = some d → p t d = true
 | .leaf, _, _, _, h => by cases h
 | .node l k v r, ha, t, d, h => by
  simp only [Tr.all, Bool.and_eq_true] at ha
  simp only [Tr.find] at h
  cases e : Nat.beq t k with
  | true =>
   rw [e] at h
   have := Nat.eq_of_beq_eq_true e
   subst this
   simp only [cond_true, Option.some.injEq] at h
   subst h
   exact ha.1
  | false =>
   rw [e] at h
   cases e2 : Nat.blt t k with
   | true => rw [e2] at h; exact Tr.all_find ha.2.1 h
   | false => rw [e2] at h; exact Tr.all_find ha.2.2 h
end
end Sl
namespace Go.Proofs.YtlleicanafioaaaDoor
open Go Go.RowKit Sl
def tabT : Tr := (.node (.node (.node (.node (.node (.node (.node .leaf 2 ⟨.int .i64, 1, [.int .i64 0]⟩ .leaf) 3 ⟨.int .i64, 1, [.int .i64 0]⟩ .leaf) 4 ⟨.bool, 1, [.bool false]⟩ (.node (.node .leaf 5 ⟨.int .u8, 1, [.int .u8 0]⟩ .leaf) 6 ⟨.int .u8, 1, [.int .u8 0]⟩ .leaf)) 7 ⟨.struct [(0, 1), (1, 1), (2, 1), (3, 1)], 4, [.int .i64 0, .int .i64 0, .bool false, .int .u8 0]⟩ (.node (.node (.node .leaf 8 ⟨.struct [(0, 1), (1, 1), (2, 1), (3, 1)], 4, [.int .i64 0, .int .i64 0, .bool false, .int .u8 0]⟩ .leaf) 9 ⟨.string, 1, [.string ByteArray.empty]⟩ .leaf) 10 ⟨.string, 1, [.string ByteArray.empty]⟩ (.node (.node .leaf 11 ⟨.string, 1, [.string ByteArray.empty]⟩ .leaf) 12 ⟨.int .u64, 1, [.int .u64 0]⟩ .leaf))) 13 ⟨.struct [(0, 1), (1, 1)], 2, [.string ByteArray.empty, .int .u64 0]⟩ (.node (.node (.node (.node .leaf 14 ⟨.struct [(0, 1), (1, 1)], 2, [.string ByteArray.empty, .int .u64 0]⟩ .leaf) 15 ⟨.ptr 177, 1, [.pointer none]⟩ .leaf) 16 ⟨.ptr 180, 1, [.pointer none]⟩ (.node (.node .leaf 17 ⟨.ptr 188, 1, [.pointer none]⟩ .leaf) 18 ⟨.struct [(0, 1)], 1, [.pointer none]⟩ .leaf)) 19 ⟨.struct [(0, 1)], 1, [.pointer none]⟩ (.node (.node (.node .leaf 20 ⟨.iface, 1, [.nilIface]⟩ .leaf) 21 ⟨.int .i32, 1, [.int .i32 0]⟩ .leaf) 22 ⟨.int .i8, 1, [.int .i8 0]⟩ (.node .leaf 23 ⟨.int .u32, 1, [.int .u32 0]⟩ .leaf)))) 24 ⟨.ptr 57, 1, [.pointer none]⟩ (.node (.node (.node (.node (.node .leaf 28 ⟨.int .i64, 1, [.int .i64 0]⟩ .leaf) 29 ⟨.iface, 1, [.nilIface]⟩ .leaf) 30 ⟨.iface, 1, [.nilIface]⟩ (.node (.node .leaf 33 ⟨.slice 5 1 1, 1, [.slice none 0 0]⟩ .leaf) 36 ⟨.int .i64, 1, [.int .i64 0]⟩ .leaf)) 39 ⟨.array 3 28 1, 3, [.int .i64 0, .int .i64 0, .int .i64 0]⟩ (.node (.node (.node .leaf 40 ⟨.array 3 9 1, 3, [.string ByteArray.empty, .string ByteArray.empty, .string ByteArray.empty]⟩ .leaf) 41 ⟨.array 3 23 1, 3, [.int .u32 0, .int .u32 0, .int .u32 0]⟩ .leaf) 42 ⟨.int .u64, 1, [.int .u64 0]⟩ (.node (.node .leaf 43 ⟨.struct [(0, 1), (1, 1)], 2, [.int .u64 0, .int .u64 0]⟩ .leaf) 44 ⟨.struct [(0, 1), (1, 1)], 2, [.int .u64 0, .int .u64 0]⟩ .leaf))) 45 ⟨.struct [(0, 1), (1, 1), (2, 1), (3, 1), (4, 2)], 6, [.int .i64 0, .int .i64 0, .int .i64 0, .int .i64 0, .int .u64 0, .int .u64 0]⟩ (.node (.node (.node (.node .leaf 46 ⟨.struct [(0, 1), (1, 1), (2, 1), (3, 1), (4, 2)], 6, [.int .i64 0, .int .i64 0, .int .i64 0, .int .i64 0, .int .u64 0, .int .u64 0]⟩ .leaf) 48 ⟨.ptr 90, 1, [.pointer none]⟩ .leaf) 55 ⟨.ptr 122, 1, [.pointer none]⟩ (.node (.node .leaf 56 ⟨.struct [(0, 1), (1, 1)], 2, [.pointer none, .pointer none]⟩ .leaf) 57 ⟨.struct [(0, 1), (1, 1)], 2, [.pointer none, .pointer none]⟩ .leaf)) 58 ⟨.slice 28 1 8, 1, [.slice none 0 0]⟩ (.node (.node (.node .leaf 59 ⟨.slice 42 1 8, 1, [.slice none 0 0]⟩ .leaf) 60 ⟨.struct [(0, 1), (1, 1)], 2, [.slice none 0 0, .slice none 0 0]⟩ .leaf) 61 ⟨.struct [(0, 1), (1, 1)], 2, [.slice none 0 0, .slice none 0 0]⟩ (.node .leaf 71 ⟨.struct [(0, 1), (1, 1), (2, 1), (3, 1), (4, 1)], 5, [.int .i64 0, .int .u8 0, .int .i64 0, .int .i64 0, .int .i64 0]⟩ .leaf))))) 72 ⟨.struct [(0, 1), (1, 1), (2, 1), (3, 1), (4, 1)], 5, [.int .i64 0, .int .u8 0, .int .i64 0, .int .i64 0, .int .i64 0]⟩ (.node (.node (.node (.node (.node (.node .leaf 78 ⟨.array 2 28 1, 2, [.int .i64 0, .int .i64 0]⟩ .leaf) 80 ⟨.struct [(0, 5), (5, 6), (11, 1), (12, 1)], 13, [.int .i64 0, .int .u8 0, .int .i64 0, .int .i64 0, .int .i64 0, .int .i64 0, .int .i64 0, .int .i64 0, .int .i64 0, .int .u64 0, .int .u64 0, .int .i64 0, .bool false]⟩ .leaf) 81 ⟨.struct [(0, 5), (5, 6), (11, 1), (12, 1)], 13, [.int .i64 0, .int .u8 0, .int .i64 0, .int .i64 0, .int .i64 0, .int .i64 0, .int .i64 0, .int .i64 0, .int .i64 0, .int .u64 0, .int .u64 0, .int .i64 0, .bool false]⟩ (.node (.node .leaf 87 ⟨.map 72 28, 1, [.map none]⟩ .leaf) 88 ⟨.slice 81 13 104, 1, [.slice none 0 0]⟩ .leaf)) 89 ⟨.struct [(0, 1), (1, 1), (2, 1)], 3, [.int .i64 0, .slice none 0 0, .map none]⟩ (.node (.node (.node .leaf 90 ⟨.struct [(0, 1), (1, 1), (2, 1)], 3, [.int .i64 0, .slice none 0 0, .map none]⟩ .leaf) 93 ⟨.ptr 61, 1, [.pointer none]⟩ .leaf) 94 ⟨.slice 97 2 16, 1, [.slice none 0 0]⟩ (.node (.node .leaf 96 ⟨.struct [(0, 1), (1, 1)], 2, [.int .i64 0, .int .i64 0]⟩ .leaf) 97 ⟨.struct [(0, 1), (1, 1)], 2, [.int .i64 0, .int .i64 0]⟩ .leaf))) 100 ⟨.slice 3 1 8, 1, [.slice none 0 0]⟩ (.node (.node (.node (.node .leaf 107 ⟨.slice 137 8 64, 1, [.slice none 0 0]⟩ .leaf) 108 ⟨.struct [(0, 1), (1, 1), (2, 1), (3, 1), (4, 1)], 5, [.pointer none, .bool false, .slice none 0 0, .int .i64 0, .int .u64 0]⟩ .leaf) 109 ⟨.struct [(0, 1), (1, 1), (2, 1), (3, 1), (4, 1)], 5, [.pointer none, .bool false, .slice none 0 0, .int .i64 0, .int .u64 0]⟩ (.node (.node .leaf 111 ⟨.slice 149 4 32, 1, [.slice none 0 0]⟩ .leaf) 112 ⟨.struct [(0, 1), (1, 5), (6, 5), (11, 1)], 12, [.pointer none, .pointer none, .bool false, .slice none 0 0, .int .i64 0, .int .u64 0, .pointer none, .bool false, .slice none 0 0, .int .i64 0, .int .u64 0, .slice none 0 0]⟩ .leaf)) 113 ⟨.struct [(0, 1), (1, 5), (6, 5), (11, 1)], 12, [.pointer none, .pointer none, .bool false, .slice none 0 0, .int .i64 0, .int .u64 0, .pointer none, .bool false, .slice none 0 0, .int .i64 0, .int .u64 0, .slice none 0 0]⟩ (.node (.node (.node .leaf 120 ⟨.slice 125 3 24, 1, [.slice none 0 0]⟩ .leaf) 121 ⟨.struct [(0, 1), (1, 1)], 2, [.pointer none, .slice none 0 0]⟩ .leaf) 122 ⟨.struct [(0, 1), (1, 1)], 2, [.pointer none, .slice none 0 0]⟩ (.node .leaf 124 ⟨.struct [(0, 1), (1, 1), (2, 1)], 3, [.int .u64 0, .int .i64 0, .bool false]⟩ .leaf)))) 125 ⟨.struct [(0, 1), (1, 1), (2, 1)], 3, [.int .u64 0, .int .i64 0, .bool false]⟩ (.node (.node (.node (.node (.node .leaf 130 ⟨.slice 133 2 16, 1, [.slice none 0 0]⟩ .leaf) 132 ⟨.struct [(0, 1), (1, 1)], 2, [.int .i64 0, .int .i64 0]⟩ .leaf) 133 ⟨.struct [(0, 1), (1, 1)], 2, [.int .i64 0, .int .i64 0]⟩ (.node (.node .leaf 136 ⟨.struct [(0, 1), (1, 5), (6, 1), (7, 1)], 8, [.int .i64 0, .int .i64 0, .int .u8 0, .int .i64 0, .int .i64 0, .int .i64 0, .int .i64 0, .int .i64 0]⟩ .leaf) 137 ⟨.struct [(0, 1), (1, 5), (6, 1), (7, 1)], 8, [.int .i64 0, .int .i64 0, .int .u8 0, .int .i64 0, .int .i64 0, .int .i64 0, .int .i64 0, .int .i64 0]⟩ .leaf)) 140 ⟨.ptr 113, 1, [.pointer none]⟩ (.node (.node (.node .leaf 141 ⟨.ptr 109, 1, [.pointer none]⟩ .leaf) 142 ⟨.ptr 137, 1, [.pointer none]⟩ .leaf) 148 ⟨.struct [(0, 1), (1, 1), (2, 1), (3, 1)], 4, [.int .i64 0, .int .i64 0, .int .u64 0, .int .i64 0]⟩ (.node .leaf 149 ⟨.struct [(0, 1), (1, 1), (2, 1), (3, 1)], 4, [.int .i64 0, .int .i64 0, .int .u64 0, .int .i64 0]⟩ .leaf))) 154 ⟨.int .u64, 1, [.int .u64 0]⟩ (.node (.node (.node (.node .leaf 176 ⟨.struct [(0, 1), (1, 1), (2, 1), (3, 1)], 4, [.pointer none, .pointer none, .pointer none, .string ByteArray.empty]⟩ .leaf) 177 ⟨.struct [(0, 1), (1, 1), (2, 1), (3, 1)], 4, [.pointer none, .pointer none, .pointer none, .string ByteArray.empty]⟩ .leaf) 178 ⟨.array 0 16 1, 0, []⟩ (.node (.node .leaf 181 ⟨.int .u8, 1, [.int .u8 0]⟩ .leaf) 182 ⟨.int .u8, 1, [.int .u8 0]⟩ .leaf)) 184 ⟨.ptr 5, 1, [.pointer none]⟩ (.node (.node (.node .leaf 185 ⟨.int .i32, 1, [.int .i32 0]⟩ .leaf) 186 ⟨.int .i32, 1, [.int .i32 0]⟩ .leaf) 187 ⟨.struct [(0, 1), (1, 1), (2, 1), (3, 1), (4, 1), (5, 1), (6, 1), (7, 1), (8, 1), (9, 1), (10, 1)], 11, [.int .u64 0, .int .u64 0, .int .u32 0, .int .u8 0, .int .u8 0, .int .u8 0, .int .u8 0, .nilFunc, .pointer none, .int .i32 0, .int .i32 0]⟩ (.node .leaf 188 ⟨.struct [(0, 1), (1, 1), (2, 1), (3, 1), (4, 1), (5, 1), (6, 1), (7, 1), (8, 1), (9, 1), (10, 1)], 11, [.int .u64 0, .int .u64 0, .int .u32 0, .int .u8 0, .int .u8 0, .int .u8 0, .int .u8 0, .nilFunc, .pointer none, .int .i32 0, .int .i32 0]⟩ .leaf))))))
theorem tab_ok : TabOk Tryd.prog tabT.find := fun _ _ h => Tr.all_find (p := fun t d => d.holds Tryd.prog t) (by kernel_rfl) h
structure Seat (E : Env) : Prop where
 P : E.P = Tryd.prog
 tab : E.tab = tabT.find
variable {E : Env}
theorem Seat.t (h : Seat E) {t : TypeId} {d : TI} (e : tabT.find t = some d) : E.tab t = some d := by rw [h.tab]; exact e
theorem Seat.f (h : Seat E) {f : FuncId} (e : goFn Tryd.prog f = true) : goFn E.P f = true := by rw [h.P]; exact e
theorem Seat.fn (h : Seat E) {f : FuncId} {fn : Func} (e : Tryd.prog.funcs[f]? = some fn) : E.P.funcs[f]? = some fn := by rw [h.P]; exact e
end Go.Proofs.YtlleicanafioaaaDoor
namespace Sl
open Go Go.RowKit
variable {E : Env} {n : Nat} {L : Fr} {H H' : List HP} {Q : Exit → Act → World → Prop}
theorem qVu {l r : List HP} {k : PH} : qAe (l ++ r) k → star (qAe l) (qAe r) k := by
 induction l generalizing k with
 | nil => exact fun h => ⟨fun _ => none, k, fun _ => .inl rfl, by funext b; simp [join], trivial, h⟩
 | cons p l ih =>
  rintro ⟨h1, h2, d, e, hp, hq⟩
  obtain ⟨h3, h4, d', e', hl, hr⟩ := ih hq
  subst e'
  have d13 : dis h1 h3 := fun b => (d b).imp id fun x => (qCu.1 x).1
  have d14 : dis h1 h4 := fun b => (d b).imp id fun x => (qCu.1 x).2
  refine ⟨join h1 h3, h4, ?_, ?_, ⟨h1, h3, d13, rfl, hp, hl⟩, hr⟩
  ·intro b
   rcases d' b with x | x
   ·rcases d14 b with y | y
    ·exact .inl (qCu.2 ⟨y, x⟩)
    exact .inr y
   exact .inr x
  rw [e]; funext b; simp [join, Option.or_assoc]
theorem qPu {ps r : List HP} {p : HP} (h : ∀ k, qAe ps k → p k) {k : PH} : qAe (ps ++ r) k → qAe (p :: r) k := fun s => by
 obtain ⟨h1, h2, d, e, hl, hr⟩ := qVu s
 exact ⟨h1, h2, d, e, h _ hl, hr⟩
theorem qLe : ∀ {l r : List HP} {a b : PH}, qAe l a → qAe r b → dis a b → qAe (l ++ r) (join a b)
 | [], _, a, b, _, hr, d => qKb hr fun _ _ x => qDr d x
 | p :: l, r, a, b, ⟨c1, c2, dc, ec, hp, hl⟩, hr, d => by
  subst ec
  have d1 : dis c1 b := fun i => (d i).imp (fun x => (qCu.1 x).1) id
  have d2 : dis c2 b := fun i => (d i).imp (fun x => (qCu.1 x).2) id
  refine ⟨c1, join c2 b, ?_, by funext i; simp [join, Option.or_assoc], hp, qLe hl hr d2⟩
  intro i
  rcases dc i with x | x
  ·exact .inl x
  rcases d1 i with y | y
  ·exact .inl y
  exact .inr (qCu.2 ⟨x, y⟩)
theorem w_open {ι : Type} {p : HP} {ps : ι → List HP} {c : Code} (ht : Take p H H') (h : ∀ k, p k → ∃ i, qAe (ps i) k) (hw : ∀ i, WP E c Q n L (ps i ++ H')) : WP E c Q n L H := fun a w g => by
 obtain ⟨h1, h2, d, e, hp, hr⟩ := ht.out g.hp.hp
 obtain ⟨i, hi⟩ := h _ hp
 exact hw i a w ⟨g.f, g.hp.os, g.hp.tape, g.hp.output, g.hp.size, g.hp.old, by rw [e]; exact qLe hi hr d⟩
theorem qQi {ι : Type} {f : FuncId} {args : List Value} {Pre : List HP} {Φ : Value → List HP → Prop} {p : HP} {ps : ι → List HP} (h : ∀ k, p k → ∃ i, qAe (ps i) k) (hw : ∀ i, Ct E f args (ps i ++ Pre) Φ) : Ct E f args (p :: Pre) Φ := fun R w s => by
 obtain ⟨h1, h2, d, e, hp, hr⟩ := s.hp
 obtain ⟨i, hi⟩ := h _ hp
 refine hw i R w ⟨s.os, s.tape, s.output, s.size, s.old, ?_⟩
 rw [e, List.append_assoc]; exact qLe hi hr d
theorem qAy {f : FuncId} {args : List Value} {Pre Pre' : List HP} {Φ : Value → List HP → Prop} {p : HP} {φ : Prop} (ht : Take p Pre Pre') (h : ∀ k, p k → φ) (hw : φ → Ct E f args Pre Φ) : Ct E f args Pre Φ := fun R w s => by
 have hs : qAe Pre (qDk E.w0 w) := qZd s.hp
 obtain ⟨h1, h2, d, e, hp, hr⟩ := ht.out hs
 exact hw (h _ hp) R w s
theorem qFd {c : Code} {p : HP} {φ : Prop} (ht : Take p H H') (h : ∀ k, p k → φ) (hw : φ → WP E c Q n L H) : WP E c Q n L H := fun a w g => by
 obtain ⟨h1, h2, d, e, hp, hr⟩ := ht.out g.hp.hp
 exact hw (h _ hp) a w g
theorem zDc {e : Exit} (hH : ∀ k, qAe H k → qAe H' k) (h : AT E Q e n L H') : AT E Q e n L H := fun a w g => h a w ⟨g.f, g.hp.imp hH⟩
theorem qLs {e : Exit} {p : HP} {φ : Prop} (ht : Take p H H') (h : ∀ k, p k → φ) (hw : φ → AT E Q e n L H) : AT E Q e n L H := fun a w g => by
 obtain ⟨h1, h2, d, e, hp, hr⟩ := ht.out g.hp.hp
 exact hw (h _ hp) a w g
theorem qId {all : Array Oper} {s : Nat} {l : List Oper} {p : HP} {φ : Prop} (ht : Take p H H') (h : ∀ k, p k → φ) (hw : φ → WPL E all Q s l n L H) : WPL E all Q s l n L H := fun a w g => by
 obtain ⟨h1, h2, d, e, hp, hr⟩ := ht.out g.hp.hp
 exact hw (h _ hp) a w g
theorem ent_pack {ps l l' : List HP} {p : HP} (s : Sub ps l l') (h : ∀ k, qAe ps k → p k) : ∀ k, qAe l k → qAe (p :: l') k := fun _ x => qPu h (s.out x)
theorem kG {l l' : List HP} {p p' : HP} (s : Take p l l') (h : ∀ k, p k → p' k) : ∀ k, qAe l k → qAe (p' :: l') k := fun _ x => qCr h (s.out x)
theorem kH {l m r : List HP} (h1 : ∀ k, qAe l k → qAe m k) (h2 : ∀ k, qAe m k → qAe r k) : ∀ k, qAe l k → qAe r k := fun k x => h2 k (h1 k x)
theorem Ct.mono {f : FuncId} {args : List Value} {Pre : List HP} {Φ Ψ : Value → List HP → Prop} (h : Ct E f args Pre Φ) (hΦ : ∀ v Q, Φ v Q → Ψ v Q) : Ct E f args Pre Ψ := fun R w s => (h R w s).mono fun e w' ⟨v, Qs, h1, h2, h3⟩ => ⟨v, Qs, h1, hΦ v Qs h2, h3⟩
theorem ct_below {f : FuncId} {args : List Value} {v : Value} (h : ∀ w, Calls E.P f ⟨args⟩ w (fun e w' => e = .returned v ∧ Below w.heap.size w w')) : Ct E f args [] (fun u Q => u = v ∧ Q = []) := fun R w s =>
 (h w).mono fun e w' ⟨h1, h2⟩ => ⟨v, [], h1, ⟨rfl, rfl⟩, s.grow h2⟩
end Sl
