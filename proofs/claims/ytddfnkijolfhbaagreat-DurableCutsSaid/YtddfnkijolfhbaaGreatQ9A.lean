import Derived.Test.YtddfnkijolfhbaaGreatQ79
import Derived.LaidEql
import Derived.Laws.BitsAllLaws
import Derived.RowKitTokens
import Derived.Stop.Asserts
import Derived.Test.YtddfnkijolfhbaaGreatChecked
set_option linter.all false
set_option maxHeartbeats 1000000
namespace Go.Proofs.YtddfnkijolfhbaaGreat
set_option maxRecDepth 10000
section
open Go Go.RowKit Sl Eg
structure Tx49 where
 new : List Rl
 sets : List (List UInt8 × Nat)
 drops : List (List UInt8)
def drB (l : List (List UInt8)) : List UInt8 := l.flatMap qAs
def Tx49.body (k : Nat) (t : Tx49) : List UInt8 := vput t.new.length ++ (encG k t.new ++ (vput t.sets.length ++ (encM t.sets ++ (vput t.drops.length ++ drB t.drops))))
def Tx49.pay (k : Nat) (t : Tx49) : List UInt8 := 69 :: 71 :: 3 :: t.body k
def pays : Nat → List Tx49 → List (List UInt8)
 | _, [] => []
 | k, t :: ts => t.pay k :: pays (k + t.new.length) ts
structure Cn where
 G : List Rl
 N : List UInt8 → Option Nat
def setN (N : List UInt8 → Option Nat) (p : List UInt8 × Nat) : List UInt8 → Option Nat := fun x => if x = p.1 then some p.2 else N x
def delN (N : List UInt8 → Option Nat) (n : List UInt8) : List UInt8 → Option Nat := fun x => if x = n then none else N x
def Cn.app (c : Cn) (t : Tx49) : Cn := ⟨c.G ++ t.new, t.drops.foldl delN (t.sets.foldl setN c.N)⟩
def Cn.nil : Cn := ⟨[], fun _ => none⟩
def qAa (c : Cn) (ts : List Tx49) : Cn := ts.foldl Cn.app c
theorem qNd : ∀ (k : Nat) (a b : List Tx49), pays k (a ++ b) = pays k a ++ pays (k + (a.map fun t => t.new.length).sum) b
 | k, [], b => by simp [pays]
 | k, t :: a, b => by
  simp only [List.cons_append, pays, List.map_cons, List.sum_cons]
  rw [qNd (k + t.new.length) a b, Nat.add_assoc]
theorem qYt (c : Cn) (ts : List Tx49) : (qAa c ts).G.length = c.G.length + (ts.map fun t => t.new.length).sum := by
 induction ts generalizing c with
 | nil => rfl
 | cons t ts ih =>
  show (qAa (c.app t) ts).G.length = _
  rw [ih, List.map_cons, List.sum_cons]
  simp only [Cn.app, List.length_append]
  omega
theorem qOe (c : Cn) (ts : List Tx49) (t : Tx49) : qAa c (ts ++ [t]) = (qAa c ts).app t := by simp [qAa]
theorem qEd {N : List UInt8 → Option Nat} {x : List UInt8} : ∀ {l : List (List UInt8 × Nat)}, x ∉ l.map (·.1) → (l.foldl setN N) x = N x := by
 intro l
 induction l generalizing N with
 | nil => intro _; rfl
 | cons p l ih =>
  intro h
  rw [List.foldl_cons, ih (fun hm => h (List.mem_cons_of_mem _ hm))]
  unfold setN
  rw [if_neg fun e => h (by rw [e]; exact List.mem_cons_self)]
theorem qNw {N : List UInt8 → Option Nat} {p : List UInt8 × Nat} : ∀ {l : List (List UInt8 × Nat)}, (l.map (·.1)).Nodup → p ∈ l → (l.foldl setN N) p.1 = some p.2 := by
 intro l
 induction l generalizing N with
 | nil => intro _ h; cases h
 | cons q l ih =>
  intro hn h
  have hn' := List.nodup_cons.1 hn
  rw [List.foldl_cons]
  rcases List.mem_cons.1 h with rfl | h
  ·rw [qEd hn'.1]
   unfold setN
   rw [if_pos rfl]
  exact ih hn'.2 h
theorem qXm {N : List UInt8 → Option Nat} {x : List UInt8} : ∀ {l : List (List UInt8)}, (l.foldl delN N) x = if x ∈ l then none else N x := by
 intro l
 induction l generalizing N with
 | nil => rfl
 | cons n l ih =>
  rw [List.foldl_cons, ih]
  unfold delN
  by_cases h1 : x ∈ l
  ·rw [if_pos h1, if_pos (List.mem_cons_of_mem _ h1)]
  rw [if_neg h1]
  by_cases h2 : x = n
  ·rw [if_pos h2, if_pos (by rw [h2]; exact List.mem_cons_self)]
  rw [if_neg h2, if_neg fun h => by rcases List.mem_cons.1 h with h | h; exact h2 h; exact h1 h]
structure Dst (L : List Rl) (V : List Nat) (f : List UInt8 → Option Nat) (ch : List UInt8 → Bool) (c : Cn) : Prop where
 lis : Lis L V
 gr : c.G = gram L V
 nm : ∀ x, ch x = false → c.N x = (f x).map (numb V)
 inV : ∀ x id, ch x = false → f x = some id → id = 0 ∨ id ∈ V
 ids : ∀ x id, f x = some id → id ≤ L.length
theorem qMs {L : List Rl} {V W : List Nat} (h : Lis L V) (h2 : Lis L (V ++ W)) : gram L (V ++ W) = gram L V ++ (gram L (V ++ W)).drop V.length := by
 have e : gram L V = (gram L (V ++ W)).take V.length := by
  apply List.ext_getElem?
  intro i
  rw [List.getElem?_take]
  by_cases hi : i < V.length
  ·rw [if_pos hi]
   obtain ⟨x, hx⟩ : ∃ x, V[i]? = some x := ⟨_, List.getElem?_eq_getElem hi⟩
   obtain ⟨n, q, rfl, hq, hk⟩ := h.mem (List.mem_of_getElem? hx)
   rw [qFz hx hq, qFz (ids := V ++ W) (by rw [List.getElem?_append_left hi]; exact hx) hq]
   congr 1
   cases q with
   | letter b => rfl
   | pair l r => simp only [qCb]; rw [qGb (hk l (by simp [kids])), qGb (hk r (by simp [kids]))]
   | power y k => simp only [qCb]; rw [qGb (hk y (by simp [kids]))]
  rw [if_neg hi, List.getElem?_eq_none_iff.2 (by rw [qDn]; omega)]
 conv => lhs; rw [← List.take_append_drop V.length (gram L (V ++ W)), ← e]
theorem Lis.ext {L : List Rl} (M : List Rl) {V : List Nat} (h : Lis L V) (hw : Wf (L ++ M)) : Lis (L ++ M) V ∧ gram (L ++ M) V = gram L V := by
 have hg : ∀ {n : Nat} {r : Rl}, n + 1 ∈ V → ((L ++ M)[n]? = some r ↔ L[n]? = some r) := fun {n r} hn => by
  have := (h.acc.2 _ hn).2
  rw [List.getElem?_append_left (by omega)]
 refine ⟨⟨hw, ⟨h.acc.1, fun x hx => ?_⟩, fun A n B r e hr => h.ord A n B r e ((hg (by rw [e]; simp)).1 hr)⟩, ?_⟩
 ·have := h.acc.2 x hx
  rw [List.length_append]
  omega
 unfold gram
 refine List.map_congr_left fun x hx => ?_
 have := h.acc.2 x hx
 rw [List.getD_eq_getElem?_getD, List.getD_eq_getElem?_getD, List.getElem?_append_left (by omega)]
theorem Dst.ext {L : List Rl} (M : List Rl) {V : List Nat} {f : List UInt8 → Option Nat} {ch : List UInt8 → Bool} {c : Cn} (h : Dst L V f ch c) (hw : Wf (L ++ M)) : Dst (L ++ M) V f ch c := by
 obtain ⟨a, b⟩ := h.lis.ext M hw
 exact ⟨a, by rw [b]; exact h.gr, h.nm, h.inV, fun x id hx => by have := h.ids x id hx; rw [List.length_append]; omega⟩
theorem Dst.set {L : List Rl} {V : List Nat} {f : List UInt8 → Option Nat} {ch : List UInt8 → Bool} {c : Cn} (h : Dst L V f ch c) {n : List UInt8} {id : Nat} (hid : id ≤ L.length) : Dst L V (fun x => if x = n then some id else f x) (fun x => x == n || ch x) c := by
 refine ⟨h.lis, h.gr, fun x hx => ?_, fun x i hx hi => ?_, fun x i hi => ?_⟩
 ·simp only [Bool.or_eq_false_iff, beq_eq_false_iff_ne] at hx
  rw [if_neg hx.1]; exact h.nm x hx.2
 ·simp only [Bool.or_eq_false_iff, beq_eq_false_iff_ne] at hx
  rw [if_neg hx.1] at hi; exact h.inV x i hx.2 hi
 by_cases e : x = n
 ·rw [if_pos e] at hi; cases hi; exact hid
 rw [if_neg e] at hi; exact h.ids x i hi
def cmtT (L : List Rl) (V W : List Nat) (f : List UInt8 → Option Nat) (l : List (List UInt8)) : Tx49 :=
 ⟨(gram L (V ++ W)).drop V.length, l.filterMap (fun x => (f x).map fun id => (x, numb (V ++ W) id)), l.filter fun x => (f x).isNone⟩
theorem Dst.commit {L : List Rl} {V W : List Nat} {f : List UInt8 → Option Nat} {ch : List UInt8 → Bool} {c : Cn} (h : Dst L V f ch c) {l : List (List UInt8)} (hl : l.Nodup) (hm : ∀ x, x ∈ l ↔ ch x = true) (hW : Lis L (V ++ W)) (hin : ∀ x id, ch x = true → f x = some id → id = 0 ∨ id ∈ V ++ W) :
  Dst L (V ++ W) f (fun _ => false) (c.app (cmtT L V W f l)) := by
 have h0 := hW.zero
 have hin' : ∀ x id, f x = some id → id = 0 ∨ id ∈ V ++ W := fun x id hf => by
  cases hc : ch x with
  | true => exact hin x id hc hf
  | false => rcases h.inV x id hc hf with e | e; exact .inl e; exact .inr (List.mem_append_left _ e)
 refine ⟨hW, ?_, fun x _ => ?_, fun x id _ hf => hin' x id hf, h.ids⟩
 ·show c.G ++ (gram L (V ++ W)).drop V.length = _
  rw [h.gr]
  exact (qMs h.lis hW).symm
 show (List.foldl delN (List.foldl setN c.N (l.filterMap fun x => (f x).map fun id => (x, numb (V ++ W) id))) (l.filter fun x => (f x).isNone)) x = _
 rw [qXm]
 have hkey : (l.filterMap fun x => (f x).map fun id => (x, numb (V ++ W) id)).map (·.1) = l.filter fun x => (f x).isSome := by
  clear hl hm
  induction l with
  | nil => rfl
  | cons a l ih =>
   cases hf : f a with
   | none => rw [List.filterMap_cons_none (by rw [hf]; rfl), List.filter_cons_of_neg (by rw [hf]; simp), ih]
   | some id => rw [List.filterMap_cons_some (by rw [hf]; rfl), List.filter_cons_of_pos (by rw [hf]; rfl), List.map_cons, ih]
 cases hf : f x with
 | none =>
  by_cases hx : x ∈ l
  ·rw [if_pos (List.mem_filter.2 ⟨hx, by rw [hf]; rfl⟩)]; rfl
  rw [if_neg fun hc => hx (List.mem_filter.1 hc).1, qEd (by rw [hkey]; exact fun hc => hx (List.mem_filter.1 hc).1)]
  have hc : ch x = false := by cases e : ch x with | true => exact absurd ((hm x).2 e) hx | false => rfl
  rw [h.nm x hc, hf]; rfl
 | some id =>
  rw [if_neg fun hc => by have := (List.mem_filter.1 hc).2; rw [hf] at this; cases this]
  by_cases hx : x ∈ l
  ·have := qNw (N := c.N) (p := (x, numb (V ++ W) id)) (by rw [hkey]; exact hl.sublist List.filter_sublist) (List.mem_filterMap.2 ⟨x, hx, by rw [hf]; rfl⟩)
   exact this
  rw [qEd (by rw [hkey]; exact fun hc => hx (List.mem_filter.1 hc).1)]
  have hc : ch x = false := by cases e : ch x with | true => exact absurd ((hm x).2 e) hx | false => rfl
  rw [h.nm x hc, hf]
  show some (numb V id) = some (numb (V ++ W) id)
  rcases h.inV x id hc hf with rfl | e
  ·rw [qBl.2 h.lis.zero, qBl.2 h0]
  rw [qGb e]
end
section
open Go Go.RowKit Sl Eg
def idV (n : Nat) : List Nat := (List.range n).map (· + 1)
theorem qMw (n : Nat) : (idV n).length = n := by simp [idV]
theorem qOq {n i : Nat} (h : i < n) : (idV n)[i]? = some (i + 1) := by unfold idV; rw [List.getElem?_map, List.getElem?_range h]; rfl
theorem qQb {n x : Nat} : x ∈ idV n ↔ 1 ≤ x ∧ x ≤ n := by
 unfold idV
 rw [List.mem_map]
 refine ⟨fun ⟨a, h, e⟩ => ?_, fun h => ⟨x - 1, List.mem_range.2 (by omega), by omega⟩⟩
 have := List.mem_range.1 h
 omega
theorem qMx (n : Nat) : (idV n).Nodup := by
 unfold idV
 rw [List.nodup_iff_pairwise_ne, List.pairwise_map]
 exact (List.nodup_iff_pairwise_ne.1 List.nodup_range).imp fun h e => h (by omega)
theorem qLm {n x : Nat} (h : x ≤ n) : numb (idV n) x = x := by
 rcases Nat.eq_zero_or_pos x with rfl | h0
 ·exact qBl.2 fun h => by have := (qQb.1 h).1; omega
 have hm := qQb.2 ⟨h0, h⟩
 have h1 := qIh hm
 have h2 := qLn hm
 have h3 := qIi (idV n) x
 rw [qMw] at h3
 rw [qOq (by omega)] at h1
 have := Option.some.inj h1
 omega
theorem lis_idV {G : List Rl} (hw : Wf G) : Lis G (idV G.length) := by
 refine ⟨hw, ⟨qMx _, fun y hy => qQb.1 hy⟩, fun A n B r e hr k hk => ?_⟩
 have hl : A.length < G.length := by
  have := congrArg List.length e
  rw [qMw, List.length_append, List.length_cons] at this
  omega
 have h1 : (idV G.length)[A.length]? = some (n + 1) := by rw [e]; simp
 rw [qOq hl] at h1
 have h2 : A.length = n := by have := Option.some.inj h1; omega
 have h3 := qGa (hw.ok _ _ hr) k hk
 have h4 : 1 ≤ k := by
  have := hw.ok _ _ hr
  cases r with
  | letter b => simp [kids] at hk
  | pair l r =>
   obtain ⟨a1, a2, a3, a4⟩ := this
   simp [kids] at hk
   rcases hk with rfl | rfl <;> omega
  | power y t =>
   obtain ⟨a1, a2, a3⟩ := this
   simp [kids] at hk
   omega
 have h5 : A = (idV G.length).take A.length := by rw [e]; simp
 rw [h5]
 obtain ⟨m, rfl⟩ : ∃ m, k = m + 1 := ⟨k - 1, by omega⟩
 refine List.mem_of_getElem? (i := m) ?_
 rw [List.getElem?_take, if_pos (by omega)]
 exact qOq (by omega)
theorem gram_idV {G : List Rl} (hw : Wf G) : gram G (idV G.length) = G := by
 apply List.ext_getElem?
 intro i
 by_cases hi : i < G.length
 ·obtain ⟨r, hr⟩ : ∃ r, G[i]? = some r := ⟨_, List.getElem?_eq_getElem hi⟩
  rw [qFz (qOq hi) hr, hr]
  have hk := qGa (hw.ok _ _ hr)
  congr 1
  cases r with
  | letter b => rfl
  | pair l r => simp only [qCb]; rw [qLm (by have := hk l (by simp [kids]); omega), qLm (by have := hk r (by simp [kids]); omega)]
  | power y k => simp only [qCb]; rw [qLm (by have := hk y (by simp [kids]); omega)]
 rw [List.getElem?_eq_none_iff.2 (by rw [qDn, qMw]; omega), List.getElem?_eq_none_iff.2 (by omega)]
theorem iso_txt {L1 L2 : List Rl} (w1 : Wf L1) (w2 : Wf L2) {x y : Nat} (h : Iso L1 L2 x y) : Eg.txt L1 x = Eg.txt L2 y := by
 induction h with
 | letter h1 h2 => rw [qCm h1, qCm h2]
 | pair h1 h2 _ _ i1 i2 => rw [qEa h1 (w1.ok _ _ h1), qEa h2 (w2.ok _ _ h2), i1, i2]
 | power h1 h2 _ i => rw [qDr h1 (w1.ok _ _ h1), qDr h2 (w2.ok _ _ h2), i]
def txm (L : List Rl) (f : List UInt8 → Option Nat) : List UInt8 → Option (List UInt8) := fun x => (f x).map (txt L)
theorem Dst.reopen {L : List Rl} {V : List Nat} {f : List UInt8 → Option Nat} {c : Cn} (h : Dst L V f (fun _ => false) c) : Wf c.G ∧ Dst c.G (idV c.G.length) c.N (fun _ => false) c ∧ txm c.G c.N = txm L f := by
 have hw : Wf c.G := by rw [h.gr]; exact h.lis.gwf
 have hlen : c.G.length = V.length := by rw [h.gr, qDn]
 have hN : ∀ x k, c.N x = some k → k ≤ c.G.length := fun x k hk => by
  rw [h.nm x rfl] at hk
  cases hf : f x with
  | none => rw [hf] at hk; cases hk
  | some id => rw [hf] at hk; cases hk; rw [hlen]; exact qIi V id
 refine ⟨hw, ⟨lis_idV hw, (gram_idV hw).symm, fun x _ => ?_, fun x id _ hx => ?_, hN⟩, ?_⟩
 ·cases hx : c.N x with
  | none => rfl
  | some k => show some k = some (numb _ k); rw [qLm (hN x k hx)]
 ·have := hN x id hx
  rcases Nat.eq_zero_or_pos id with e | e
  ·exact .inl e
  exact .inr (qQb.2 ⟨e, this⟩)
 funext x
 unfold txm
 rw [h.nm x rfl]
 cases hf : f x with
 | none => rfl
 | some id =>
  show some (txt c.G (numb V id)) = some (txt L id)
  congr 1
  rcases h.inV x id rfl hf with rfl | e
  ·rw [qBl.2 h.lis.zero]; rfl
  have := iso_txt h.lis.wf h.lis.gwf (h.lis.iso id e)
  rw [← h.gr] at this
  exact this.symm
theorem dst_nil {L : List Rl} (hw : Wf L) : Dst L [] (fun _ => none) (fun _ => false) Cn.nil :=
 ⟨⟨hw, ⟨.nil, fun y h => by cases h⟩, fun A n B r e => by simp at e⟩, rfl, fun _ _ => rfl, fun x id _ h => (by cases h), fun x id h => (by cases h)⟩
end
section
open Go Go.RowKit Sl Eg
structure FrI (L : List Rl) (V St S A : List Nat) : Prop where
 nd : S.Nodup
 rg : ∀ x ∈ S, 1 ≤ x ∧ x ≤ L.length
 dj : ∀ x ∈ S, x ∉ V
 st : ∀ x ∈ St, x ≤ L.length
 cl : ∀ n r, n + 1 ∈ S → L[n]? = some r → ∀ k ∈ kids r, k ∈ S ∨ k ∈ V ∨ k ∈ St
 rt : ∀ x ∈ A, x = 0 ∨ x ∈ S ∨ x ∈ V ∨ x ∈ St
 re : ∀ x, x ∈ S ∨ x ∈ St → x = 0 ∨ ∃ a ∈ A, Rea L a x
theorem FrI.nil (L : List Rl) (V : List Nat) : FrI L V [] [] [] := ⟨.nil, fun x h => (by cases h), fun x h => (by cases h), fun x h => (by cases h), fun n r h => (by cases h), fun x h => (by cases h), fun x h => (by rcases h with h | h <;> cases h)⟩
variable {L : List Rl} {V St S A : List Nat}
theorem FrI.len (h : FrI L V St S A) : S.length ≤ L.length := AccOk.len ⟨h.nd, h.rg⟩
theorem FrI.push (h : FrI L V St S A) {id : Nat} (hid : id ≤ L.length) : FrI L V (St ++ [id]) S (A ++ [id]) := by
 refine ⟨h.nd, h.rg, h.dj, fun x hx => ?_, fun n r hn hr k hk => ?_, fun x hx => ?_, fun x hx => ?_⟩
 ·rcases List.mem_append.1 hx with hx | hx
  ·exact h.st x hx
  simp at hx; omega
 ·rcases h.cl n r hn hr k hk with e | e | e
  ·exact .inl e
  ·exact .inr (.inl e)
  exact .inr (.inr (List.mem_append_left _ e))
 ·rcases List.mem_append.1 hx with hx | hx
  ·rcases h.rt x hx with e | e | e | e
   ·exact .inl e
   ·exact .inr (.inl e)
   ·exact .inr (.inr (.inl e))
   exact .inr (.inr (.inr (List.mem_append_left _ e)))
  exact .inr (.inr (.inr (List.mem_append_right _ hx)))
 have key : x ∈ S ∨ x ∈ St → x = 0 ∨ ∃ a ∈ A ++ [id], Rea L a x := fun hy => by
  rcases h.re x hy with e | ⟨a, ha, hr⟩
  ·exact .inl e
  exact .inr ⟨a, List.mem_append_left _ ha, hr⟩
 rcases hx with hx | hx
 ·exact key (.inl hx)
 rcases List.mem_append.1 hx with hx | hx
 ·exact key (.inr hx)
 obtain rfl := List.mem_singleton.1 hx
 rcases Nat.eq_zero_or_pos x with e | e
 ·exact .inl e
 obtain ⟨n, rfl⟩ : ∃ n, x = n + 1 := ⟨x - 1, by omega⟩
 exact .inr ⟨n + 1, List.mem_append_right _ (by simp), .self (by omega)⟩
theorem FrI.skip {id : Nat} (h : FrI L V (St ++ [id]) S A) (hw : Wf L) (hid : id = 0 ∨ id ∈ S ∨ id ∈ V) : FrI L V St S A := by
 refine ⟨h.nd, h.rg, h.dj, fun x hx => h.st x (List.mem_append_left _ hx), fun n r hn hr k hk => ?_, fun x hx => ?_, fun x hx => h.re x (hx.imp_right (List.mem_append_left _))⟩
 ·have hk1 := (qGa (hw.ok n r hr) k hk).1
  rcases h.cl n r hn hr k hk with e | e | e
  ·exact .inl e
  ·exact .inr (.inl e)
  rcases List.mem_append.1 e with e | e
  ·exact .inr (.inr e)
  simp at e
  subst e
  rcases hid with hid | hid | hid
  ·omega
  ·exact .inl hid
  exact .inr (.inl hid)
 rcases h.rt x hx with e | e | e | e
 ·exact .inl e
 ·exact .inr (.inl e)
 ·exact .inr (.inr (.inl e))
 rcases List.mem_append.1 e with e | e
 ·exact .inr (.inr (.inr e))
 simp at e
 subst e
 rcases hid with hid | hid | hid
 ·exact .inl hid
 ·exact .inr (.inl hid)
 exact .inr (.inr (.inl hid))
theorem FrI.take {n : Nat} {r : Rl} (h : FrI L V (St ++ [n + 1]) S A) (hw : Wf L) (hr : L[n]? = some r) (h1 : n + 1 ∉ S) (h2 : n + 1 ∉ V) : FrI L V (St ++ kids r) (S ++ [n + 1]) A := by
 have hn := (List.getElem?_eq_some_iff.1 hr).1
 refine ⟨?_, fun x hx => ?_, fun x hx => ?_, fun x hx => ?_, fun m q hm hq k hk => ?_, fun x hx => ?_, fun x hx => ?_⟩
 ·rw [List.nodup_append]
  exact ⟨h.nd, by simp, fun a ha b hb e => by simp at hb; subst hb; subst e; exact h1 ha⟩
 ·rcases List.mem_append.1 hx with hx | hx
  ·exact h.rg x hx
  simp at hx; omega
 ·rcases List.mem_append.1 hx with hx | hx
  ·exact h.dj x hx
  simp at hx; subst hx; exact h2
 ·rcases List.mem_append.1 hx with hx | hx
  ·exact h.st x (List.mem_append_left _ hx)
  have := (qGa (hw.ok n r hr) x hx).2
  omega
 ·rcases List.mem_append.1 hm with hm | hm
  ·rcases h.cl m q hm hq k hk with e | e | e
   ·exact .inl (List.mem_append_left _ e)
   ·exact .inr (.inl e)
   rcases List.mem_append.1 e with e | e
   ·exact .inr (.inr (List.mem_append_left _ e))
   exact .inl (List.mem_append_right _ e)
  simp at hm
  subst hm
  rw [hr] at hq
  cases hq
  exact .inr (.inr (List.mem_append_right _ hk))
 ·rcases h.rt x hx with e | e | e | e
  ·exact .inl e
  ·exact .inr (.inl (List.mem_append_left _ e))
  ·exact .inr (.inr (.inl e))
  rcases List.mem_append.1 e with e | e
  ·exact .inr (.inr (.inr (List.mem_append_left _ e)))
  exact .inr (.inl (List.mem_append_right _ e))
 rcases hx with hx | hx
 ·rcases List.mem_append.1 hx with hx | hx
  ·exact h.re x (.inl hx)
  obtain rfl := List.mem_singleton.1 hx
  exact h.re (n + 1) (.inr (List.mem_append_right _ (by simp)))
 rcases List.mem_append.1 hx with hx | hx
 ·exact h.re x (.inr (List.mem_append_left _ hx))
 rcases h.re (n + 1) (.inr (List.mem_append_right _ (by simp))) with e | ⟨a, ha, h2⟩
 ·omega
 exact .inr ⟨a, ha, h2.step hr hx hw⟩
theorem FrI.rea {W : List Nat} (h : FrI L V [] S A) (hp : W.Perm S) : ∀ x ∈ W, ∃ a ∈ A, Rea L a x := fun x hx => by
 have hxS := hp.mem_iff.1 hx
 rcases h.re x (.inl hxS) with e | e
 ·have := (h.rg x hxS).1
  omega
 exact e
theorem FrI.lis {W : List Nat} (h : FrI L V [] S A) (hV : Lis L V) (hp : W.Perm S) (hs : W.Pairwise (· ≤ ·)) : Lis L (V ++ W) ∧ ∀ x ∈ A, x = 0 ∨ x ∈ V ++ W := by
 have hw := hV.wf
 have hm : ∀ x, x ∈ W ↔ x ∈ S := fun x => hp.mem_iff
 have key : ∀ A' n B r, W = A' ++ (n + 1) :: B → L[n]? = some r → ∀ k ∈ kids r, k ∈ V ++ A' := fun A' n B r e hr k hk => by
  have hlt := (qGa (hw.ok n r hr) k hk).2
  have hnS : n + 1 ∈ S := (hm _).1 (by rw [e]; simp)
  rcases h.cl n r hnS hr k hk with e1 | e1 | e1
  ·have hk2 := (hm k).2 e1
   rw [e] at hk2 hs
   rcases List.mem_append.1 hk2 with h2 | h2
   ·exact List.mem_append_right _ h2
   exfalso
   rcases List.mem_cons.1 h2 with h2 | h2
   ·omega
   have := (List.pairwise_cons.1 (List.pairwise_append.1 hs).2.1).1 k h2
   omega
  ·exact List.mem_append_left _ e1
  cases e1
 refine ⟨⟨hw, ⟨?_, fun x hx => ?_⟩, fun A' n B r e hr k hk => ?_⟩, fun x hx => ?_⟩
 ·rw [List.nodup_append]
  exact ⟨hV.acc.1, hp.nodup_iff.2 h.nd, fun a ha b hb e => h.dj b ((hm b).1 hb) (e ▸ ha)⟩
 ·rcases List.mem_append.1 hx with hx | hx
  ·exact hV.acc.2 x hx
  exact h.rg x ((hm x).1 hx)
 ·rcases List.append_eq_append_iff.1 e with ⟨C, e1, e2⟩ | ⟨C, e1, e2⟩
  ·rw [e1]
   exact key C n B r e2 hr k hk
  cases C with
  | nil =>
   rw [List.append_nil] at e1
   rw [← e1]
   have := key [] n B r e2.symm hr k hk
   rwa [List.append_nil] at this
  | cons c C =>
   injection e2 with e3 e4
   subst e3
   exact hV.ord A' n C r e1 hr k hk
 rcases h.rt x hx with e | e | e | e
 ·exact .inl e
 ·exact .inr (List.mem_append_right _ ((hm x).2 e))
 ·exact .inr (List.mem_append_left _ e)
 cases e
end
section
open Go Go.RowKit Sl Eg
def grW (L : List Rl) (V W : List Nat) (k : Nat) : List Rl := ((gram L (V ++ W)).drop V.length).take k
theorem grW_zero (L : List Rl) (V W : List Nat) : grW L V W 0 = [] := List.take_zero
theorem grW_all (L : List Rl) (V W : List Nat) : grW L V W W.length = (gram L (V ++ W)).drop V.length := by
 unfold grW
 rw [List.take_of_length_le]
 rw [List.length_drop, qDn, List.length_append]
 omega
theorem grW_len {L : List Rl} {V W : List Nat} {k : Nat} (h : k ≤ W.length) : (grW L V W k).length = k := by
 unfold grW
 rw [List.length_take, List.length_drop, qDn, List.length_append]
 omega
theorem app_at {V W : List Nat} {k x : Nat} (h : W[k]? = some x) : (V ++ W)[V.length + k]? = some x := by
 rw [List.getElem?_append_right (by omega), show V.length + k - V.length = k by omega]
 exact h
theorem zAf {L : List Rl} {V W : List Nat} {k i : Nat} {r : Rl} (hx : W[k]? = some (i + 1)) (hr : L[i]? = some r) : encG V.length (grW L V W (k + 1)) = encG V.length (grW L V W k) ++ rulB (V.length + k + 1) (qCb (V ++ W) r) := by
 have hk := (List.getElem?_eq_some_iff.1 hx).1
 have e : grW L V W (k + 1) = grW L V W k ++ [qCb (V ++ W) r] := by
  unfold grW
  rw [List.take_add_one, List.getElem?_drop, qFz (app_at hx) hr]
  rfl
 rw [e, qIe, grW_len (by omega)]
 simp [encG]
theorem qSn {p : List UInt8 → Bool} {l : List (List UInt8)} {i : Nat} {x : List UInt8} (h : l[i]? = some x) (hp : p x = true) : (l.take (i + 1)).filter p = (l.take i).filter p ++ [x] := by
 rw [List.take_add_one, h, List.filter_append]
 congr 1
 show List.filter p [x] = [x]
 rw [List.filter_cons_of_pos hp, List.filter_nil]
theorem qSm {p : List UInt8 → Bool} {l : List (List UInt8)} {i : Nat} {x : List UInt8} (h : l[i]? = some x) (hp : p x = false) : (l.take (i + 1)).filter p = (l.take i).filter p := by
 rw [List.take_add_one, h, List.filter_append]
 show _ ++ List.filter p [x] = _
 rw [List.filter_cons_of_neg (by rw [hp]; simp), List.filter_nil, List.append_nil]
def qLg (I : List Nat) (f : List UInt8 → Option Nat) (l : List (List UInt8)) : List (List UInt8 × Nat) := l.filterMap fun x => (f x).map fun id => (x, numb I id)
theorem qKy (I : List Nat) (f : List UInt8 → Option Nat) (l : List (List UInt8)) : qLg I f (l.filter fun x => (f x).isSome) = qLg I f l := by
 unfold qLg
 induction l with
 | nil => rfl
 | cons a l ih =>
  cases h : f a with
  | none => rw [List.filter_cons_of_neg (by rw [h]; simp), List.filterMap_cons_none (by rw [h]; rfl), ih]
  | some id => rw [List.filter_cons_of_pos (by rw [h]; rfl), List.filterMap_cons_some (by rw [h]; rfl), List.filterMap_cons_some (by rw [h]; rfl), ih]
theorem zBm (I : List Nat) {f : List UInt8 → Option Nat} {l : List (List UInt8)} (h : ∀ x ∈ l, ∃ id, f x = some id) : (qLg I f l).length = l.length := by
 unfold qLg
 induction l with
 | nil => rfl
 | cons a l ih =>
  obtain ⟨id, hid⟩ := h a List.mem_cons_self
  rw [List.filterMap_cons_some (by rw [hid]; rfl), List.length_cons, List.length_cons, ih fun x hx => h x (List.mem_cons_of_mem _ hx)]
theorem qYe (I : List Nat) {f : List UInt8 → Option Nat} {l : List (List UInt8)} {i id : Nat} {x : List UInt8} (h : l[i]? = some x) (hid : f x = some id) : encM (qLg I f (l.take (i + 1))) = encM (qLg I f (l.take i)) ++ qAs x ++ vput (numb I id) := by
 unfold qLg
 rw [List.take_add_one, h, List.filterMap_append]
 have : List.filterMap (fun x => (f x).map fun id => (x, numb I id)) (some x).toList = [(x, numb I id)] := by
  show List.filterMap _ [x] = _
  rw [List.filterMap_cons_some (by rw [hid]; rfl), List.filterMap_nil]
 rw [this]
 simp [encM]
theorem drB_snoc {l : List (List UInt8)} {i : Nat} {x : List UInt8} (h : l[i]? = some x) : drB (l.take (i + 1)) = drB (l.take i) ++ qAs x := by
 rw [List.take_add_one, h]
 simp [drB]
theorem cmt_body {L : List Rl} {V W : List Nat} {f : List UInt8 → Option Nat} {l : List (List UInt8)} :
  (cmtT L V W f l).body V.length = vput W.length ++ encG V.length (grW L V W W.length) ++ vput (l.filter fun x => (f x).isSome).length ++ encM (qLg (V ++ W) f (l.filter fun x => (f x).isSome)) ++ vput (l.filter fun x => (f x).isNone).length ++ drB (l.filter fun x => (f x).isNone) := by
 unfold Tx49.body cmtT
 simp only
 have h1 : ((gram L (V ++ W)).drop V.length).length = W.length := by rw [List.length_drop, qDn, List.length_append]; omega
 have h2 : (qLg (V ++ W) f l).length = (l.filter fun x => (f x).isSome).length := by
  rw [← qKy]
  exact zBm _ fun x hx => by
   have := (List.mem_filter.1 hx).2
   cases e : f x with
   | none => rw [e] at this; cases this
   | some id => exact ⟨id, rfl⟩
 rw [h1, grW_all, qKy, ← h2]
 simp only [List.append_assoc]
 rfl
end
section
open Go Go.RowKit Sl
def crS (x : Nat) : Nat := if x % 2 = 1 then (x / 2) ^^^ 2197175160 else x / 2
def crT (i : Nat) : Nat := crS (crS (crS (crS i)))
def crH (s : Nat) : Nat := (s / 16) ^^^ crT (s % 16)
def crB (s : Nat) (c : UInt8) : Nat := crH (crH (s ^^^ c.toNat))
def crF (l : List UInt8) : Nat := l.foldl crB 4294967295
def crc (l : List UInt8) : Nat := 4294967295 ^^^ crF l
theorem qTj {a b : Nat} (ha : a < 4294967296) (hb : b < 4294967296) : a ^^^ b < 4294967296 := Nat.xor_lt_two_pow (n := 32) ha hb
theorem qRp {x : Nat} (h : x < 4294967296) : crS x < 4294967296 := by
 unfold crS
 split
 ·exact qTj (by omega) (by omega)
 omega
theorem qYy {x : Nat} (h : x < 4294967296) : crT x < 4294967296 := qRp (qRp (qRp (qRp h)))
theorem qYx {s : Nat} (h : s < 4294967296) : crH s < 4294967296 := qTj (by omega) (qYy (by omega))
theorem crB_lt {s : Nat} (c : UInt8) (h : s < 4294967296) : crB s c < 4294967296 := qYx (qYx (qTj h (by have := c.toNat_lt; omega)))
theorem qSo : ∀ (l : List UInt8) {s : Nat}, s < 4294967296 → l.foldl crB s < 4294967296
 | [], _, h => h
 | c :: l, _, h => qSo l (crB_lt c h)
theorem qYw (l : List UInt8) : crF l < 4294967296 := qSo l (by omega)
theorem qYz (l : List UInt8) : crc l < 4294967296 := qTj (by omega) (qYw l)
theorem crF_take {l : List UInt8} {i : Nat} {c : UInt8} (h : l[i]? = some c) : crF (l.take (i + 1)) = crB (crF (l.take i)) c := by
 unfold crF
 rw [List.take_add_one, h]
 simp
def be4 (n : Nat) : List UInt8 := [UInt8.ofNat (n / 16777216), UInt8.ofNat (n / 65536), UInt8.ofNat (n / 256), UInt8.ofNat n]
theorem qFc (n : Nat) : (be4 n).length = 4 := rfl
def tk4 (a b c d : UInt8) : Nat := a.toNat * 16777216 + b.toNat * 65536 + c.toNat * 256 + d.toNat
theorem qRk {n : Nat} (h : n < 4294967296) : tk4 (UInt8.ofNat (n / 16777216)) (UInt8.ofNat (n / 65536)) (UInt8.ofNat (n / 256)) (UInt8.ofNat n) = n := by
 unfold tk4
 simp only [UInt8.toNat_ofNat']
 omega
def frm (p : List UInt8) : List UInt8 := be4 p.length ++ (be4 (crc p) ++ p)
theorem qCp (p : List UInt8) : (frm p).length = p.length + 8 := by
 unfold frm
 rw [List.length_append, List.length_append, qFc, qFc]
 omega
def frs (ps : List (List UInt8)) : List UInt8 := ps.flatMap frm
theorem qDd (a b : List (List UInt8)) : frs (a ++ b) = frs a ++ frs b := by unfold frs; rw [List.flatMap_append]
theorem qGl (p : List UInt8) : frs [p] = frm p := by unfold frs; simp
end
end Go.Proofs.YtddfnkijolfhbaaGreat
namespace Sl
open Go Go.RowKit
variable {E : Env} {n : Nat} {L : Fr} {S : List HP} {ty : TypeId} {pos : String} {af : Array Edge} {d : Option Nat} {gd : Option (Nat × Bool)}
theorem qRg {x y : Operand} {xt yt : TypeId} {i j : Nat} (hx : ev L x = some (.int .u32 (i : Nat))) (hy : ev L y = some (.int .u32 (j : Nat))) (hi : i < 4294967296) (hj : j < 4294967296) :
  Yl E n L S ⟨d, .binOp .xor xt x y yt, ty, pos, af, gd⟩ (.int .u32 ((i ^^^ j : Nat) : Int)) := fun a w g _ => by
 have h := Go.u32_xor_nat i j hi hj
 simp [execOp, eqGuard, binOp, Op.intBits, g.ev hx, g.ev hy]
 exact h
theorem zCp {x y : Operand} {xt yt : TypeId} {i j : Nat} (hx : ev L x = some (.int .u32 (i : Nat))) (hy : ev L y = some (.int .u32 (j : Nat))) (hi : i < 4294967296) (hj : j < 4294967296) :
  Yl E n L S ⟨d, .binOp .or xt x y yt, ty, pos, af, gd⟩ (.int .u32 ((i ||| j : Nat) : Int)) := fun a w g _ => by
 have h := Go.u32_or_nat i j hi hj
 simp [execOp, eqGuard, binOp, Op.intBits, g.ev hx, g.ev hy]
 exact h
theorem y_low32 {x y : Operand} {xt yt : TypeId} {i j k : Nat} (hx : ev L x = some (.int .u32 (i : Nat))) (hy : ev L y = some (.int .u32 (j : Nat))) (hi : i < 4294967296) (hk : j = 2 ^ k - 1) (hj : j < 4294967296) :
  Yl E n L S ⟨d, .binOp .and xt x y yt, ty, pos, af, gd⟩ (.int .u32 ((i % 2 ^ k : Nat) : Int)) := fun a w g _ => by
 have h := Go.u32_and_nat i j hi hj
 rw [hk, Nat.and_two_pow_sub_one_eq_mod] at h
 subst hk
 simp [execOp, eqGuard, binOp, Op.intBits, g.ev hx, g.ev hy]
 exact h
theorem qRa {x y : Operand} {xt yt : TypeId} {i : Nat} (j k m : Nat) (hx : ev L x = some (.int .u32 (i : Nat))) (hy : ev L y = some (.int .u32 (j : Nat))) (hi : i < 4294967296) (hk : j = 2 ^ k - 1) (hm : 2 ^ k = m) (hj : j < 4294967296) :
  Yl E n L S ⟨d, .binOp .and xt x y yt, ty, pos, af, gd⟩ (.int .u32 ((i % m : Nat) : Int)) := by subst hm; exact y_low32 hx hy hi hk hj
theorem qGf {x y : Operand} {xt yt : TypeId} {i : Nat} {ky : IntKind} (j m : Nat) (hx : ev L x = some (.int .u32 (i : Nat))) (hy : ev L y = some (.int ky (j : Nat))) (hj : j ≤ 32) (hm : 2 ^ j = m) :
  Yl E n L S ⟨d, .binOp .shr xt x y yt, ty, pos, af, gd⟩ (.int .u32 ((i / m : Nat) : Int)) := by subst hm; exact qFs hx hy hj
theorem y_shl32 {x y : Operand} {xt yt : TypeId} {i j : Nat} {ky : IntKind} (hx : ev L x = some (.int .u32 (i : Nat))) (hy : ev L y = some (.int ky (j : Nat))) (hj : j ≤ 32) (hi : i * 2 ^ j < 4294967296) :
  Yl E n L S ⟨d, .binOp .shl xt x y yt, ty, pos, af, gd⟩ (.int .u32 ((i * 2 ^ j : Nat) : Int)) := fun a w g _ => by
 have h := shift_shl_any .u32 ky (i : Int) ((j : Nat) : Int) (Int.natCast_nonneg j)
 have hc : ((i * 2 ^ j : Nat) : Int) = (i : Int) * 2 ^ j := by rw [Int.natCast_mul, Int.natCast_pow]; rfl
 have e2 : IntKind.u32.wrap ((i : Int) * 2 ^ j) = (i : Int) * 2 ^ j := by rw [Go.IntKind.wrap_u32', ← hc]; omega
 have e : IntKind.u32.wrap ((i : Int) * 2 ^ min ((j : Nat) : Int).toNat IntKind.u32.bits) = ((i * 2 ^ j : Nat) : Int) := by
  rw [Int.toNat_natCast, show min j IntKind.u32.bits = j from Nat.min_eq_left hj, e2, hc]
 rw [e] at h
 simp [execOp, eqGuard, binOp, g.ev hx, g.ev hy, h, e2]
theorem qRd {x y : Operand} {xt yt : TypeId} {i : Nat} {ky : IntKind} (j m : Nat) (hx : ev L x = some (.int .u32 (i : Nat))) (hy : ev L y = some (.int ky (j : Nat))) (hj : j ≤ 32) (hm : 2 ^ j = m) (hi : i * m < 4294967296) :
  Yl E n L S ⟨d, .binOp .shl xt x y yt, ty, pos, af, gd⟩ (.int .u32 ((i * m : Nat) : Int)) := by subst hm; exact y_shl32 hx hy hj hi
theorem y_not32 {x : Operand} {xt : TypeId} {i : Nat} (hx : ev L x = some (.int .u32 (i : Nat))) (hi : i < 4294967296) :
  Yl E n L S ⟨d, .unOp .xor xt x, ty, pos, af, gd⟩ (.int .u32 ((4294967295 ^^^ i : Nat) : Int)) := fun a w g _ => by
 have h := Go.u32_xor_nat 4294967295 i (by omega) hi
 simp [execOp, g.ev hx, Op.unary, Op.intBits, IntKind.signed, IntKind.max]
 exact h
theorem wr32 {i : Int} (h0 : 0 ≤ i) (h1 : i < 4294967296) : IntKind.u32.wrap i = i := by rw [Go.IntKind.wrap_u32']; omega
theorem qHs (i : Nat) : IntKind.u8.wrap (i : Int) = ((UInt8.ofNat i).toNat : Nat) := by
 rw [IntKind.wrap_u8, UInt8.toNat_ofNat']
 omega
end Sl
namespace Go.Proofs.YtddfnkijolfhbaaGreat
open Go Go.RowKit Go.Extern.Stop Go.Stop Go.Extern Go.Extern.Rtype Sl
set_option maxRecDepth 10000
theorem qVq (v : Value) (w : World) : (Extern.ReflectliteType.typeOf #[.iface 31 v]).run Tryz.prog w = .ok (.iface 179 (.agg #[.pointer (some ⟨0, 31, none⟩)])) w := by kernel_rfl
theorem qKu (w : World) : ((Extern.ReflectliteType.method fun t => do noPackHeld "Comparable" t; (fun a => Value.bool a.comparable) <$> typeInfo t) #[.agg #[.pointer (some ⟨0, 31, none⟩)]]).run Tryz.prog w = .ok (.bool true) w := by kernel_rfl
theorem qEv (v : Value) (w : World) : (Go.method 380 179 v "Comparable").run Tryz.prog w = .ok (180, v) w := by kernel_rfl
theorem is_same5 (w : World) : Calls Tryz.prog 40 #[.iface 31 (.int .i64 5), .iface 31 (.int .i64 5)] w fun e w' => e = .returned (.bool true) ∧ w' = w := by
 have h8 := @run_callFunc_extern Tryz.prog 70 _ Extern.ReflectliteType.typeOf Tryz.func70 (by kernel_rfl) (by kernel_rfl) (by kernel_rfl) (by kernel_rfl)
 have h32 := @run_callFunc_extern Tryz.prog 180 _ (Extern.ReflectliteType.method fun t => do noPackHeld "Comparable" t; pure (.bool (← typeInfo t).comparable)) Tryz.func180 (by kernel_rfl) (by kernel_rfl) (by kernel_rfl) (by kernel_rfl)
 have tT := qVq
 have cT := qKu
 have mR := qEv
 have heq : ∀ w, (binOp .eql 27 (.iface 31 (.int .i64 5)) (.iface 31 (.int .i64 5))).run Tryz.prog w = .ok (.bool true) w := fun w => by kernel_rfl
 go_enter Tryz.func40, Tryz.ntmps40
 go_wp2
 refine wp_loop_rounds 1 ?_
 rw [rounds_succ]
 go_wp2
 go_ret
 exact ⟨rfl, rfl⟩
theorem is_same3 (w : World) : Calls Tryz.prog 40 #[.iface 31 (.int .i64 3), .iface 31 (.int .i64 3)] w fun e w' => e = .returned (.bool true) ∧ w' = w := by
 have h8 := @run_callFunc_extern Tryz.prog 70 _ Extern.ReflectliteType.typeOf Tryz.func70 (by kernel_rfl) (by kernel_rfl) (by kernel_rfl) (by kernel_rfl)
 have h32 := @run_callFunc_extern Tryz.prog 180 _ (Extern.ReflectliteType.method fun t => do noPackHeld "Comparable" t; pure (.bool (← typeInfo t).comparable)) Tryz.func180 (by kernel_rfl) (by kernel_rfl) (by kernel_rfl) (by kernel_rfl)
 have tT := qVq
 have cT := qKu
 have mR := qEv
 have heq : ∀ w, (binOp .eql 27 (.iface 31 (.int .i64 3)) (.iface 31 (.int .i64 3))).run Tryz.prog w = .ok (.bool true) w := fun w => by kernel_rfl
 go_enter Tryz.func40, Tryz.ntmps40
 go_wp2
 refine wp_loop_rounds 1 ?_
 rw [rounds_succ]
 go_wp2
 go_ret
 exact ⟨rfl, rfl⟩
theorem is_nil (v : Value) (w : World) : Calls Tryz.prog 40 #[.nilIface, .iface 31 v] w fun e w' => e = .returned (.bool false) ∧ w' = w := by
 have hn := run_eql_iface_nil_left (P := Tryz.prog) w 31 v Tryz.underlying27
 go_enter Tryz.func40, Tryz.ntmps40
 go_wp2
 go_ret
 exact ⟨rfl, rfl⟩
variable {E : Env}
theorem qZo (hE : Seat E) : Ct E 40 [.iface 31 (.int .i64 5), .iface 31 (.int .i64 5)] [] (fun v Q => v = .bool true ∧ Q = []) :=
 qIc fun w => by rw [hE.P]; exact (is_same5 w).mono fun e w' ⟨h1, h2⟩ => ⟨h1, h2.symm⟩
theorem qZl (hE : Seat E) : Ct E 40 [.iface 31 (.int .i64 3), .iface 31 (.int .i64 3)] [] (fun v Q => v = .bool true ∧ Q = []) :=
 qIc fun w => by rw [hE.P]; exact (is_same3 w).mono fun e w' ⟨h1, h2⟩ => ⟨h1, h2.symm⟩
theorem qVl (hE : Seat E) {v : Value} : Ct E 40 [.nilIface, .iface 31 v] [] (fun u Q => u = .bool false ∧ Q = []) :=
 qIc fun w => by rw [hE.P]; exact (is_nil v w).mono fun e w' ⟨h1, h2⟩ => ⟨h1, h2.symm⟩
end Go.Proofs.YtddfnkijolfhbaaGreat
