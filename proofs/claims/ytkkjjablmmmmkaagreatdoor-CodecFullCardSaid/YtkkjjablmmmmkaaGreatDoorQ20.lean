import Derived.Test.YtkkjjablmmmmkaaGreatDoorQ17
import Derived.Test.YtkkjjablmmmmkaaGreatDoorQSlq
set_option linter.all false
namespace Sl
open Go Go.RowKit
variable {E : Env} {n : Nat} {L : Fr} {S S' H H' H'' : List HP} {ty : TypeId} {pos : String} {af : Array Edge} {d : Option Nat} {gd : Option (Nat × Bool)} {K : Value → List HP → Prop} {Q : Exit → Act → World → Prop}
def Rdb (w0 : World) (a : Option Addr) (vs : List Value) (q : HP) : Prop := vs ≠ [] → ∃ g o, a = some ⟨g, o, none⟩ ∧ ∀ k, q k → RdAt w0 g o vs k
theorem qVh {x y : Operand} {t e : TypeId} {p : Option Addr} {c m cc g o by_ sz sz' : Nat} {xs us zs zs' : List Value} {kk : TK} {q : HP} (ht : E.tab t = some ⟨.slice e 1 by_, sz, zs⟩) (he : E.tab e = some ⟨kk, sz', zs'⟩) (hz : Nat.beq zs'.length 1 = true)
  (hx : ev L x = some (.slice p m c)) (hy : ev L y = some (.slice (some ⟨g, o, none⟩) us.length cc)) (hq : ∀ k, q k → RdAt E.w0 g o us k) (hm : Take q H H') (hm2 : Take (sl p c e 1 m xs) H' H'') (hp : ∀ u ∈ us, u.oneCell' = true) (h0 : 0 < us.length) (hb : (m + us.length) * by_ ≤ 140737488355328) (hb2 : m + us.length ≤ maxLen)
  (hk : ∀ g' c' m' xs', m' = m + us.length → xs' = xs ++ us → K (.slice (some ⟨g', 0, none⟩) m' c') (sl (some ⟨g', 0, none⟩) c' e 1 m' xs' :: q :: H'')) : Ld E n L H ⟨d, .call { callee := .builtin .append, args := #[x, y], argTypes := #[t, t] }, ty, pos, af, gd⟩ K := fun Q next a w G hn => by
 obtain ⟨hu, j, hj, hs, hby⟩ := qBe ht
 obtain ⟨i, z, hi, hi2, hiz, hzc, _⟩ := qAy he
 obtain rfl : i = j := by rw [hi] at hj; simpa using hj
 have z1 := Nat.eq_of_beq_eq_true hz
 have s1 := G.hp.take hm
 have s2 : Sat E.w0 w (sl p c e 1 m xs :: q :: H'') := (s1.imp fun _ h => qDg (qBj (fun _ => hm2.out) h))
 have hnews : ∀ j u, us[j]? = some u → w.cell? ((⟨g, o, none⟩ : Addr).add j) = some u := fun j u hu => by rw [addr_add]; exact qMr hq s1 hu
 obtain ⟨g', c', w', hr, ho, hgr, hat, _⟩ := run_append_lies (P := E.P) w t ty E.w0.heap.size e i z 1 by_ hu hi hiz hs hby (by rw [← Array.length_toList, hzc]; exact z1) (by omega) (.slice p m c) m xs s2.owns ⟨g, o, none⟩ us.length cc us (by omega) hnews hp h0 hb2 hb s2.size _ rfl
 have hrun : (execOp a.eval ⟨d, .call { callee := .builtin .append, args := #[x, y], argTypes := #[t, t] }, ty, pos, af, gd⟩).run E.P w = .ok (.value (.slice (some ⟨g', 0, none⟩) (m + us.length) c')) w' := by
  simp [execOp, resolve, invoke, builtin, G.f.ev hx, G.f.ev hy, hr]
 unfold Oper.wp
 rw [hrun, Oper.upon_value]
 exact hn _ _ _ (hk g' c' _ _ rfl rfl) (s2.resl ho hgr hat)
theorem qIk {x y : Operand} {t e : TypeId} {p a' : Option Addr} {c m cc es by_ sz : Nat} {zs xs : List Value} (ht : E.tab t = some ⟨.slice e es by_, sz, zs⟩)
  (hx : ev L x = some (.slice p m c)) (hy : ev L y = some (.slice a' 0 cc)) (hm : Take (sl p c e es m xs) H H') (hk : K (.slice p m c) H) : Ld E n L H ⟨d, .call { callee := .builtin .append, args := #[x, y], argTypes := #[t, t] }, ty, pos, af, gd⟩ K := fun Q next a w G hn => by
 obtain ⟨hu, j, hj, hs, hby⟩ := qBe ht
 obtain ⟨h1, h2, _, _, hh, _⟩ := (G.hp.take hm).hp
 have hmc := (qIi hh).1
 have hrun : (execOp a.eval ⟨d, .call { callee := .builtin .append, args := #[x, y], argTypes := #[t, t] }, ty, pos, af, gd⟩).run E.P w = .ok (.value (.slice p m c)) w := by
  cases p <;> cases a' <;> simp [execOp, resolve, invoke, builtin, G.f.ev hx, G.f.ev hy, Builtin.append_, underlying, program, Sem.run, hu, Go.sizeOf, typeInfo, hj, Builtin.lenOf, Builtin.firstCells, hmc, storeCells, loadCells, loadCellsFrom]
 unfold Oper.wp
 rw [hrun, Oper.upon_value]
 exact hn _ _ _ hk G.hp
theorem qJq {x y : Operand} {t e : TypeId} {p a : Option Addr} {c m k cc by_ sz sz' : Nat} {xs us zs zs' : List Value} {kk : TK} {q : HP} (ht : E.tab t = some ⟨.slice e 1 by_, sz, zs⟩) (he : E.tab e = some ⟨kk, sz', zs'⟩) (hz : Nat.beq zs'.length 1 = true)
  (hx : ev L x = some (.slice p m c)) (hy : ev L y = some (.slice a k cc)) (hk0 : k = us.length) (hq : Rdb E.w0 a us q) (hm : Take q H H') (hm2 : Take (sl p c e 1 m xs) H' H'') (hp : ∀ u ∈ us, u.oneCell' = true) (hb : (m + us.length) * by_ ≤ 140737488355328) (hb2 : m + us.length ≤ maxLen)
  (hk : ∀ p' c' m' xs', m' = m + us.length → xs' = xs ++ us → K (.slice p' m' c') (sl p' c' e 1 m' xs' :: q :: H'')) : Ld E n L H ⟨d, .call { callee := .builtin .append, args := #[x, y], argTypes := #[t, t] }, ty, pos, af, gd⟩ K := by
 subst hk0
 rcases Nat.eq_zero_or_pos us.length with h | h
 ·obtain rfl := List.eq_nil_of_length_eq_zero h
  have key : Ld E n L (sl p c e 1 m xs :: q :: H'') ⟨d, .call { callee := .builtin .append, args := #[x, y], argTypes := #[t, t] }, ty, pos, af, gd⟩ K := qIk ht hx hy Take.here (hk p c m xs (by simp) (by simp))
  exact fun Q next a w G hn => key Q next a w ⟨G.f, G.hp.imp fun _ s => qDg (qBj (fun _ => hm2.out) (hm.out s))⟩ hn
 obtain ⟨g, o, rfl, hq'⟩ := hq (by rintro rfl; simp at h)
 exact qVh ht he hz hx hy hq' hm hm2 hp h hb hb2 (fun g' c' => hk (some ⟨g', 0, none⟩) c')
end Sl
namespace Go.Proofs.YtkkjjablmmmmkaaGreatDoor
open Go Go.RowKit Sl Eg
set_option maxRecDepth 10000
variable {E : Env} {Es : List Ent} {pp tb s most : Nat}
def Old (w0 : World) (a : Option Addr) (bs : List UInt8) : Prop := bs ≠ [] → ∃ g o, a = some ⟨g, o, none⟩ ∧ ∀ (i : Nat) (v : Value), (byC bs)[i]? = some v → w0.cell? ⟨g, o + i, none⟩ = some v
theorem Old.rd {w0 : World} {a : Option Addr} {bs : List UInt8} (h : Old w0 a bs) : bs ≠ [] → ∃ g o, a = some ⟨g, o, none⟩ ∧ ∀ k, old k → RdAt w0 g o (byC bs) k := fun hb => by
 obtain ⟨g, o, h1, h2⟩ := h hb
 exact ⟨g, o, h1, rd_old h2⟩
end Go.Proofs.YtkkjjablmmmmkaaGreatDoor
