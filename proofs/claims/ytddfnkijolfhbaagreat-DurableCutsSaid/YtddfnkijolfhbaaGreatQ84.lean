import Derived.Test.YtddfnkijolfhbaaGreatQ83
set_option linter.all false
set_option maxHeartbeats 1000000
namespace Go.Proofs.YtddfnkijolfhbaaGreat
open Go Go.RowKit Sl Eg
set_option maxRecDepth 10000
section
variable {E : Env} {Es : List Ent} {s most : Nat}
structure Bl (L : List Rl) (id : Nat) (t : List UInt8) (d : Nat) : Prop where
 pos : 1 ≤ id
 ev : Ev L id
 tx : txt L id = t
 dp : dep L id = d
theorem Bl.ext {L : List Rl} {id d : Nat} {t : List UInt8} (h : Bl L id t d) (M : List Rl) : Bl (L ++ M) id t d := ⟨h.pos, h.ev.ext M, by rw [qIm M h.ev.le]; exact h.tx, by rw [qMn M h.ev.le]; exact h.dp⟩
theorem Bl.more {id d : Nat} {t : List UInt8} (h : Bl (rls Es) id t d) (M : List Ent) : Bl (rls (Es ++ M)) id t d := by rw [kH]; exact h.ext _
theorem Bl.le {id d : Nat} {t : List UInt8} (h : Bl (rls Es) id t d) : id ≤ Es.length := by have := h.ev.le; rwa [zR] at this
theorem Bl.pair {L : List Rl} (hw : Wf L) {i a b da db : Nat} {ta tb' : List UInt8} (hg : L[i]? = some (.pair a b)) (ha : Bl L a ta da) (hb : Bl L b tb' db) (h1 : da ≤ db + 1) (h2 : db ≤ da + 1) : Bl L (i + 1) (ta ++ tb') (1 + max da db) := by
 obtain ⟨e1, e2, e3⟩ := Ev.pair hw hg ha.ev.ev hb.ev.ev (by rw [ha.dp, hb.dp]; exact h1) (by rw [ha.dp, hb.dp]; exact h2)
 exact ⟨by omega, e1, by rw [e3, ha.tx, hb.tx], by rw [e2, ha.dp, hb.dp]⟩
def BalP (s most : Nat) (Es : List Ent) (t : List UInt8) (lo hi n : Nat) (v : Value) (Q : List HP) : Prop :=
 ∃ (M : List Ent) (id d : Nat), v = .tuple #[.int .i64 (id : Nat), .nilIface] ∧ M.length ≤ n ∧ Bl (rls (Es ++ M)) id t d ∧ lo ≤ d ∧ d ≤ hi ∧ Q = [zS s most (Es ++ M)]
theorem ct_bpair (hE : Seat E) {a b da db : Nat} {ta tb' : List UInt8} (ha : Bl (rls Es) a ta da) (hb : Bl (rls Es) b tb' db) (h1 : da ≤ db + 1) (h2 : db ≤ da + 1) (hlen : ta.length + tb'.length ≤ kI) (hroom : Es.length < most) :
  Ct E 86 [uPt s, .int .i64 (a : Nat), .int .i64 (b : Nat)] [zS s most Es] (BalP s most Es (ta ++ tb') (1 + max da db) (1 + max da db) 1) := fun R w hs => by
 obtain ⟨lv, bm, hS, hs'⟩ := qJj hs
 rw [hE.P]
 have la := ha.le
 have lb := hb.le
 obtain ⟨i, rfl⟩ : ∃ i, a = i + 1 := ⟨a - 1, by have := ha.pos; omega⟩
 obtain ⟨j, rfl⟩ : ∃ j, b = j + 1 := ⟨b - 1, by have := hb.pos; omega⟩
 obtain ⟨xl, hxl⟩ : ∃ x, Es[i]? = some x := ⟨_, List.getElem?_eq_getElem la⟩
 obtain ⟨xr, hxr⟩ : ∃ x, Es[j]? = some x := ⟨_, List.getElem?_eq_getElem lb⟩
 have t1 := hS.texts _ _ hxl
 have t2 := hS.texts _ _ hxr
 rw [ha.tx] at t1
 rw [hb.tx] at t2
 refine (qPd w i j xl xr hS hxl hxr (by rw [t1, t2]; exact hlen) hroom).mono fun e w' ⟨lv', M, id, e1, e2, e3, e4, e5, e6, e7, _⟩ => ⟨_, _, e1, ⟨M, id, _, rfl, e3, ?_, Nat.le_refl _, Nat.le_refl _, rfl⟩, qFd hs' e2 e6 e7⟩
 obtain ⟨n, rfl⟩ : ∃ n, id = n + 1 := ⟨id - 1, by omega⟩
 exact Bl.pair e2.wf e5 (ha.more M) (hb.more M) h1 h2
end
section
variable {E : Env} {Es : List Ent} {s most : Nat}
structure Be (L : List Rl) (id : Nat) (t : List UInt8) : Prop where
 ev : Ev L id
 tx : txt L id = t
theorem Be.zero (L : List Rl) : Be L 0 [] := ⟨Ev.zero _, qQt _⟩
theorem Be.le {id : Nat} {t : List UInt8} (h : Be (rls Es) id t) : id ≤ Es.length := by have := h.ev.le; rwa [zR] at this
theorem Bl.be {L : List Rl} {id d : Nat} {t : List UInt8} (h : Bl L id t d) : Be L id t := ⟨h.ev, h.tx⟩
end
end Go.Proofs.YtddfnkijolfhbaaGreat
