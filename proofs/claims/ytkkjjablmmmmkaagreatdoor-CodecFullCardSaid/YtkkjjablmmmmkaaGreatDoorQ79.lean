import Derived.Test.YtkkjjablmmmmkaaGreatDoorQ75
import Derived.Test.YtkkjjablmmmmkaaGreatDoorQ78
set_option linter.all false
namespace Go.Proofs.YtkkjjablmmmmkaaGreatDoor
open Go Go.RowKit Sl Eg
set_option maxRecDepth 10000
section
variable {E : Env} {Es : List Ent} {s most : Nat}
def qGe (w0 : World) (s most : Nat) (Es : List Ent) (g c : Nat) : HP := fun h => zT s most Es h ∧ RdAt w0 s 1 [.slice (some ⟨g, 0, none⟩) Es.length c] h ∧ RdAt w0 g 0 (qJa Es) h
theorem zBv {p : HP} {h : PH} (x : p h) : qAb [p] h := ⟨h, fun _ => none, fun _ => .inr rfl, by funext b; simp [join], x, trivial⟩
theorem qTp {w0 : World} (h0 : 0 < Es.length) {h : PH} (hs : zT s most Es h) : ∃ i : Nat × Nat, qAb [qGe w0 s most Es i.1 i.2] h := by
 obtain ⟨w, lv, bm, hS, hk⟩ := hs
 rcases hS.row.2 with ⟨_, hn⟩ | ⟨g, cap, cur, rfl, hb, hg, hc, hm, hsz, htk⟩
 ·omega
 refine ⟨(g, cap), zBv ⟨⟨w, _, bm, hS, hk⟩, fun i v hv => ?_, fun i v hv => ?_⟩⟩
 ·have hi := (List.getElem?_eq_some_iff.1 hv).1
  have hi0 : i = 0 := by simp at hi; omega
  subst hi0
  cases hv
  have ht := hS.top
  unfold Blk at ht
  exact .inr ⟨_, _, _, (hk s (.inl rfl)).trans ht, rfl⟩
 refine .inr ⟨cur, _, _, (hk g (.inr (.inr rfl))).trans hg, ?_⟩
 rw [← htk, List.getElem?_take] at hv
 split at hv
 ·rw [Nat.zero_add]; simpa using hv
 cases hv
theorem qQf {i : Nat} {x : Ent} (h : Es[i]? = some x) (p : Nat) (hp : p = i * 13) : ∀ (j : Nat) (u : Value), [.int .i64 (Rl.kind (x.r) : Nat), .int .u8 (Rl.byte (x.r) : Nat), .int .i64 (Rl.left (x.r) : Nat), .int .i64 (Rl.right (x.r) : Nat), .int .i64 (Rl.times (x.r) : Nat)][j]? = some u → (qJa Es)[p + j]? = some u := fun j u hu => by
 subst hp
 have hj := (List.getElem?_eq_some_iff.1 hu).1
 simp only [List.length_cons, List.length_nil] at hj
 rw [qUi h j (by omega)]
 have e : x.cells = [.int .i64 (Rl.kind (x.r) : Nat), .int .u8 (Rl.byte (x.r) : Nat), .int .i64 (Rl.left (x.r) : Nat), .int .i64 (Rl.right (x.r) : Nat), .int .i64 (Rl.times (x.r) : Nat)] ++ x.cells.drop 5 := by simp [Ent.cells]
 rw [e, List.getElem?_append_left (by simpa using hj)]
 exact hu
def qMv (S : List Nat) : Int → Option Value := fun x => if S.any (fun n => x == (n : Int)) then some (.bool true) else none
theorem seenF_in {S : List Nat} {x : Nat} (h : x ∈ S) : qMv S (x : Nat) = some (.bool true) := by
 unfold qMv
 rw [if_pos (List.any_eq_true.2 ⟨x, h, by simp⟩)]
theorem zCd {S : List Nat} {x : Nat} (h : x ∉ S) : qMv S (x : Nat) = none := by
 unfold qMv
 rw [if_neg]
 intro e
 obtain ⟨n, hn, e⟩ := List.any_eq_true.1 e
 have : (x : Int) = n := by simpa using e
 obtain rfl : x = n := by omega
 exact h hn
theorem qUb (S : List Nat) (x : Nat) : setF (qMv S) (x : Nat) (.bool true) = qMv (S ++ [x]) := by
 funext y
 unfold setF qMv
 rw [List.any_append]
 by_cases h : y = (x : Int)
 ·subst h; simp
 rw [if_neg h]
 simp [h]
structure RchI (L : List Rl) (id i : Nat) (S : List Nat) : Prop where
 ib : i ≤ S.length
 hd : S[0]? = some id
 nd : S.Nodup
 rch : ∀ x ∈ S, Rea L id x
 done : ∀ (t x : Nat) (r : Rl), t < i → S[t]? = some x → L[x - 1]? = some r → ∀ k ∈ kids r, k ∈ S
theorem Rea.le {L : List Rl} {k x : Nat} (h : Rea L k x) : 1 ≤ x ∧ x ≤ L.length := by
 induction h with
 | self h => exact ⟨by omega, h⟩
 | kid _ _ _ ih => exact ih
theorem Rea.step {L : List Rl} {k n z : Nat} {r : Rl} (h : Rea L k (n + 1)) (hr : L[n]? = some r) (hz : z ∈ kids r) (hw : Wf L) : Rea L k z := by
 have hzk := qCn (hw.ok n r hr) z hz
 have hn := (List.getElem?_eq_some_iff.1 hr).1
 obtain ⟨m, rfl⟩ : ∃ m, z = m + 1 := ⟨z - 1, by omega⟩
 generalize hx : n + 1 = x at h
 induction h with
 | @self a ha =>
  obtain rfl : n = a := by omega
  exact .kid hr hz (.self (by omega))
 | kid h1 h2 _ ih => exact .kid h1 h2 (ih hx)
theorem RchI.start {L : List Rl} {id : Nat} (h1 : 1 ≤ id) (h2 : id ≤ L.length) : RchI L id 0 [id] := by
 obtain ⟨n, rfl⟩ : ∃ n, id = n + 1 := ⟨id - 1, by omega⟩
 exact ⟨Nat.zero_le _, rfl, by simp, fun x hx => by rw [List.mem_singleton.1 hx]; exact .self h2, fun t x r h => by omega⟩
theorem RchI.more {L : List Rl} (hw : Wf L) {id i : Nat} {S : List Nat} (h : RchI L id i S) {x z : Nat} {r : Rl} (hx : x ∈ S) (hr : L[x - 1]? = some r) (hz : z ∈ kids r) (hn : z ∉ S) : RchI L id i (S ++ [z]) := by
 have hxb := (h.rch x hx).le
 refine ⟨by have := h.ib; rw [List.length_append]; omega, by rw [List.getElem?_append_left (List.getElem?_eq_some_iff.1 h.hd).1]; exact h.hd, List.nodup_append.2 ⟨h.nd, by simp, fun a ha b hb => by rw [List.mem_singleton.1 hb]; exact fun e => hn (e ▸ ha)⟩, fun y hy => ?_, fun t y q ht hy hq k hk => ?_⟩
 ·rcases List.mem_append.1 hy with hy | hy
  ·exact h.rch y hy
  rw [List.mem_singleton.1 hy]
  obtain ⟨n, rfl⟩ : ∃ n, x = n + 1 := ⟨x - 1, by omega⟩
  exact (h.rch _ hx).step hr hz hw
 rw [List.getElem?_append_left (by have := h.ib; omega)] at hy
 exact List.mem_append_left _ (h.done t y q ht hy hq k hk)
theorem RchI.next {L : List Rl} {id i : Nat} {S : List Nat} (h : RchI L id i S) {x : Nat} {r : Rl} (hx : S[i]? = some x) (hr : L[x - 1]? = some r) (hk : ∀ k ∈ kids r, k ∈ S) : RchI L id (i + 1) S :=
 ⟨(List.getElem?_eq_some_iff.1 hx).1, h.hd, h.nd, h.rch, fun t y q ht hy hq k hkk => by
   rcases Nat.lt_or_ge t i with hl | hl
   ·exact h.done t y q hl hy hq k hkk
   obtain rfl : t = i := by omega
   rw [hx] at hy
   cases hy
   rw [hr] at hq
   cases hq
   exact hk k hkk⟩
theorem RchI.all {L : List Rl} {id : Nat} {S : List Nat} (h : RchI L id S.length S) (x : Nat) : x ∈ S ↔ Rea L id x := by
 refine ⟨h.rch x, fun hr => ?_⟩
 have hid : id ∈ S := List.mem_of_getElem? h.hd
 refine hr.inside (fun n r hn hl k hk => ?_) hid
 obtain ⟨t, ht⟩ := List.getElem?_of_mem hn
 exact h.done t _ r (List.getElem?_eq_some_iff.1 ht).1 ht (by simpa using hl) k hk
theorem RchI.len {L : List Rl} {id i : Nat} {S : List Nat} (h : RchI L id i S) : S.length ≤ L.length :=
 AccOk.len ⟨h.nd, fun x hx => (h.rch x hx).le⟩
end
section
variable {E : Env} {Es : List Ent} {s most : Nat}
structure RcG where
 i : Nat
 j : Nat
 S : List Nat
 p : Nat
 c : Nat
theorem ct_reach (hE : Seat E) {id : Nat} (h1 : 1 ≤ id) (h2 : id ≤ Es.length) (hn : Es.length < 65536) : Ct E 87 [uPt s, .int .i64 (id : Nat)] [zT s most Es]
  (fun v Q => ∃ p c V, v = .slice (some ⟨p, 0, none⟩) V.length c ∧ V.Nodup ∧ V.Pairwise (· ≤ ·) ∧ (∀ x, x ∈ V ↔ Rea (rls Es) id x) ∧ Q = [zT s most Es, sl (some ⟨p, 0, none⟩) c 37 1 V.length (idC V)]) := by
 refine qBt (p := zT s most Es) uK (fun _ h => qAj h) (fun hsay => ?_)
 have hw := hsay.1
 have hLl := zS Es
 refine Sl.ct_open (p := zT s most Es) (ps := fun i : Nat × Nat => [qGe E.w0 s most Es i.1 i.2]) (fun k hk => qTp (w0 := E.w0) (by omega) hk) ?_
 rintro ⟨g, c0⟩
 have hq1 : ∀ k, qGe E.w0 s most Es g c0 k → RdAt E.w0 s 1 [.slice (some ⟨g, 0, none⟩) Es.length c0] k := fun k h => h.2.1
 have hq2 : ∀ k, qGe E.w0 s most Es g c0 k → RdAt E.w0 g 0 (qJa Es) k := fun k h => h.2.2
 have hm1 : E.P.underlying 128 = some (.map 37 4) := by rw [hE.P]; kernel_rfl
 have hm2 : E.P.underlying 37 = some (.int .i64) := by rw [hE.P]; kernel_rfl
 have hm3 : ∀ w, (zeroValue 4).run E.P w = .ok (.bool false) w := fun w => by rw [hE.P]; kernel_rfl
 have h0F : (fun _ : Int => (none : Option Value)) = qMv [] := by funext x; simp [qMv]
 refine zQ (hE.fn Tryz.func87) rfl rfl rfl (fun R => ?_)
 simp only [qAa, uV, uW]
 refine qK (qI (uA rfl (qL (qJ (qK (qK (qI (uM rfl (uB (y_eq rfl rfl) ?_)))))))))
 refine qL (qJ ?_)
 refine zG rfl (fun e1 => ?_) (fun e1 => ?_)
 ·exfalso; omega
 refine zD (qJ (qK (qI (uM rfl (uU ?_)))))
 refine qV (hE.t rfl) (hE.t rfl) rfl rfl rfl (fun b13 => ?_)
 refine uA rfl (qL (qJ (qK (qI (uU ?_)))))
 refine qJp .i64 (fun b14 => ?_)
 refine uM rfl (uU ?_)
 apply qVd (kt := 37) (et := 4) (by rw [hE.P]; kernel_rfl) (by rw [hE.P]; kernel_rfl) rfl rfl rfl
 ·exact uK
 refine uM rfl (uA rfl (qL (qJ (qK (qK (qI (uA rfl (qL (qJ (zM ?_))))))))))
 rw [h0F, qUb]
 refine qBz (kF (p := cells b13 [.int .i64 (id : Nat)] 37) (p' := sl (some ⟨b13, 0, none⟩) 1 37 1 1 (idC [id])) uK (qAd rfl (by unfold maxLen; omega))) ?_
 refine qAc (fun x : RcG => [(0, uPt s), (5, .slice (some ⟨x.p, 0, none⟩) x.S.length x.c), (6, .map (some b14)), (7, .int .i64 (x.i : Nat))]) (fun x => [qGe E.w0 s most Es g c0, mapF b14 .i64 (qMv x.S), sl (some ⟨x.p, 0, none⟩) x.c 37 1 x.S.length (idC x.S), R]) (fun x => Es.length - x.i) (fun x => RchI (rls Es) id x.i x.S) ⟨0, 0, [id], b13, 1⟩ (RchI.start h1 (by omega)) ⟨rfl, rfl, rfl, rfl, trivial⟩ uI ?_
 rintro ⟨i, _, S, p, c⟩ hI
 simp only at hI ⊢
 have hSl := hI.len
 have hib := hI.ib
 refine qK (qK (qI (uM rfl (uM rfl (uB (uBl rfl) ?_)))))
 refine uB (y_lt rfl rfl) ?_
 refine qL (qJ ?_)
 refine zG rfl (fun e2 => ?_) (fun e2 => ?_)
 ·have hil : i < S.length := by omega
  obtain ⟨x, hx⟩ : ∃ x, S[i]? = some x := ⟨_, List.getElem?_eq_getElem hil⟩
  have hxb := (hI.rch x (List.mem_of_getElem? hx)).le
  obtain ⟨y, hy⟩ : ∃ y, Es[x - 1]? = some y := ⟨_, List.getElem?_eq_getElem (by omega)⟩
  have hyr : (rls Es)[x - 1]? = some y.r := by unfold rls; rw [List.getElem?_map, hy]; rfl
  have hkn : (kids y.r).length ≤ 2 := by cases y.r <;> simp [kids]
  have f0 : [Value.slice (some ⟨g, 0, none⟩) Es.length c0][0]? = some (.slice (some ⟨g, 0, none⟩) Es.length c0) := rfl
  have f1 := qAl hx (((i : Nat) : Int).toNat) (by omega)
  have fm := qQf hy ((((x : Nat) : Int) - 1).toNat * 13) (by omega)
  refine zD (qJ (qK (zM (qK ?_))))
  refine uH ([qGe E.w0 s most Es g c0, sl (some ⟨p, 0, none⟩) c 37 1 S.length (idC S)]) ?_
  refine uD 0 rfl (qB rfl) ?_
  refine uD 1 rfl (zB rfl) ?_
  refine uD 2 rfl (uBf rfl) ?_
  apply zI 3 rfl
  ·(apply zL rfl (hE.t rfl) rfl (by assumption); (focus ((repeat constructor); done)); (first | ((focus exact f0); (focus omega)) | ((focus exact f1); (focus omega)) | ((focus assumption); (focus omega))))
  ·with_reducible (repeat (first | exact qE | apply qF | apply qG))
  ·kernel_rfl
  ·rfl
  refine uD 4 rfl (qB rfl) ?_
  refine uD 5 rfl (qB rfl) ?_
  refine uD 6 rfl (uAj rfl rfl) ?_
  refine uD 7 rfl (uY) ?_
  refine uD 8 rfl (uAs rfl rfl) ?_
  refine uD 9 rfl (uAi rfl rfl) ?_
  refine uD 10 rfl (uBf rfl) ?_
  apply zI 11 rfl
  ·(apply kT rfl (hE.t rfl) rfl (by assumption); (focus ((repeat constructor); done)); (focus exact fm); (focus rfl); (focus omega))
  ·with_reducible (repeat (first | exact qE | apply qF | apply qG))
  ·kernel_rfl
  ·rfl
  refine uD 14 rfl (qB rfl) ?_
  apply kP 12 rfl (by kernel_rfl) rfl
  refine uC (qSe hE y.r) rfl ?_
  rintro _ _ ⟨pk, ck, rfl, rfl⟩
  simp only [uV, uW]
  refine uE ?_
  refine uD 13 rfl (uBl rfl) ?_
  refine qCz (by kernel_rfl) ?_
  refine qJ (zM ?_)
  have hSi : ((S.length : Nat) : Int) ≤ 65536 := by omega
  clear f1 hil hSl hib e2
  refine qCy (p := sl pk ck 37 1 (kids y.r).length (idC (kids y.r))) uK (fun _ h => fun hpos => qAi h hpos) ?_
  intro hpk
  refine qAc (fun x : RcG => [(0, uPt s), (5, .slice (some ⟨x.p, 0, none⟩) x.S.length x.c), (6, .map (some b14)), (7, .int .i64 (i : Nat)), (35, .slice pk (kids y.r).length ck), (36, .int .i64 ((kids y.r).length : Nat)), (37, .int .i64 (x.j : Nat))]) (fun x => [qGe E.w0 s most Es g c0, mapF b14 .i64 (qMv x.S), sl (some ⟨x.p, 0, none⟩) x.c 37 1 x.S.length (idC x.S), sl pk ck 37 1 (kids y.r).length (idC (kids y.r)), R]) (fun x => (kids y.r).length - x.j) (fun z => z.j ≤ (kids y.r).length ∧ RchI (rls Es) id i z.S ∧ z.S[i]? = some x ∧ ∀ t k, t < z.j → (kids y.r)[t]? = some k → k ∈ z.S) ⟨0, 0, S, p, c⟩ ⟨Nat.zero_le _, hI, hx, fun t k h => by simp only at h; omega⟩ ⟨rfl, rfl, rfl, rfl, rfl, rfl, rfl, trivial⟩ uI ?_
  clear hI hx hSi
  rintro ⟨_, j, S, p, c⟩ ⟨hj, hI, hx, hall⟩
  simp only at hj hI hx hall ⊢
  have hSl := hI.len
  refine qK (qI (uB (y_lt rfl rfl) ?_))
  refine qL (qJ (qK ?_))
  refine zG rfl (fun e3 => ?_) (fun e3 => ?_)
  ·have hjl : j < (kids y.r).length := by omega
   obtain ⟨gk, rfl⟩ := hpk (by omega)
   obtain ⟨z, hz⟩ : ∃ z, (kids y.r)[j]? = some z := ⟨_, List.getElem?_eq_getElem hjl⟩
   have hzk := List.mem_of_getElem? hz
   have f1 := qAl hz (((j : Nat) : Int).toNat) (by omega)
   refine zD (qJ (qK (zM (qK (qI (uB (uAj rfl rfl) ?_))))))
   refine uL ?_
   refine uA rfl (qL (qJ (qK (qI (uM rfl (uM rfl ?_))))))
   by_cases hin : z ∈ S
   ·apply qA
    ·exact qGc hm1 hm2 hm3 rfl rfl uK (seenF_in hin)
    ·rfl
    refine l_eq 43 (.bool true) rfl rfl ?_
    refine uB (qBn rfl) ?_
    refine qL (qJ (zF rfl (zD (zK (qJ (qI (uB (uAa rfl rfl) ?_)))))))
    refine uM rfl (qL ?_)
    refine zU (ι := RcG) (j := ⟨0, j + 1, S, p, c⟩) ⟨by simp only; omega, hI, hx, fun t k ht hk => ?_⟩ (by simp only; omega) ⟨rfl, rfl, rfl, rfl, rfl, rfl, congrArg some (zY (by simp only; omega)), trivial⟩ uI
    rcases Nat.lt_or_ge t j with h | h
    ·exact hall t k h hk
    obtain rfl : t = j := by simp only at ht; omega
    rw [hz] at hk
    cases hk
    exact hin
   apply qA
   ·exact qGc hm1 hm2 hm3 rfl rfl uK (zCd hin)
   ·rfl
   refine l_eq 43 (.bool false) rfl rfl ?_
   refine uB (qBn rfl) ?_
   refine qL (qJ (zH rfl (qK (qI (uM rfl (uM rfl (uU ?_)))))))
   apply qDz (kt := 37) (et := 4) (by rw [hE.P]; kernel_rfl) (by rw [hE.P]; kernel_rfl) rfl rfl rfl
   ·exact uK
   refine qL (qJ ?_)
   rw [qUb]
   have hI2 := hI.more hw (List.mem_of_getElem? hx) hyr hzk hin
   have hSl2 := hI2.len
   rw [List.length_append, List.length_singleton] at hSl2
   refine qI (uM rfl (uM rfl (uU ?_)))
   refine qV (hE.t rfl) (hE.t rfl) rfl rfl rfl (fun b49 => ?_)
   refine uU ?_
   apply zW (hE.t rfl) (hE.t rfl) rfl rfl rfl
   ·exact uK
   ·exact uK
   ·rfl
   ·rfl
   ·omega
   ·omega
   ·(unfold maxLen; omega)
   intro g50 c50 n50 x50 hn50 hx50
   refine uA rfl (qL (zK (qJ (qI (uB (uAa rfl rfl) ?_)))))
   refine uM rfl (qL ?_)
   obtain rfl : n50 = (S ++ [z]).length := by rw [List.length_append, List.length_singleton]; omega
   obtain rfl : x50 = idC (S ++ [z]) := by rw [hx50, qBa]; rfl
   refine zU (ι := RcG) (j := ⟨0, j + 1, S ++ [z], g50, c50⟩) ⟨by simp only; omega, hI2, by simp only; rw [List.getElem?_append_left (List.getElem?_eq_some_iff.1 hx).1]; exact hx, fun t k ht hk => ?_⟩ (by simp only; omega) ⟨rfl, rfl, rfl, rfl, rfl, rfl, congrArg some (zY (by simp only; omega)), trivial⟩ uI
   rcases Nat.lt_or_ge t j with h | h
   ·exact List.mem_append_left _ (hall t k h hk)
   obtain rfl : t = j := by simp only at ht; omega
   rw [hz] at hk
   cases hk
   simp
  have hii := (List.getElem?_eq_some_iff.1 hx).1
  refine kM (qP (qP (zJ (zK (qJ (qI (uM rfl (uB (uAa rfl rfl) ?_))))))))
  refine uA rfl (qL ?_)
  refine zU (ι := RcG) (j := ⟨i + 1, 0, S, p, c⟩) (hI.next hx hyr fun k hk => by
   obtain ⟨t, ht⟩ := List.getElem?_of_mem hk
   exact hall t k (by have := (List.getElem?_eq_some_iff.1 ht).1; omega) ht) (by have := (List.getElem?_eq_some_iff.1 hx).1; simp only; omega) ⟨rfl, rfl, rfl, congrArg some (zY (by simp only; omega)), trivial⟩ uI
 obtain rfl : i = S.length := by omega
 refine kM (qP (qP (zJ (qJ (qK (qI (uM rfl (uX (qZj (l := S) hE (by omega)) rfl ?_))))))))
 rintro _ _ ⟨V, rfl, hVl, hVp, hVs, rfl⟩
 rw [← hVl]
 simp only [uV, uW]
 refine qL (qJ (qK (qI (uM rfl (uA rfl (qL (qJ (kD ?_))))))))
 apply kE
 ·rfl
 ·(apply Rs.tmp rfl; exact Rs.nil)
 ·exact ⟨p, c, V, rfl, hVp.nodup_iff.2 hI.nd, hVs, fun x => hVp.mem_iff.trans (hI.all x), rfl⟩
 refine kG (kF (p := qGe E.w0 s most Es g c0) (p' := zT s most Es) uK (fun _ h => h.1)) ?_
 exact uI
end
end Go.Proofs.YtkkjjablmmmmkaaGreatDoor
namespace Sl
open Go Go.RowKit Go.Proofs.YtkkjjablmmmmkaaGreatDoor
variable {E : Env} {n : Nat} {L : Fr} {S S' : List HP} {ty : TypeId} {pos : String} {af : Array Edge} {d : Option Nat} {gd : Option (Nat × Bool)}
theorem zBy {x y : Operand} {b : Nat} {t kt et : TypeId} {V : List Nat} {k : Nat} (ht : E.P.underlying t = some (.map kt et)) (hkt : E.P.underlying kt = some (.int .i64)) (hz : ∀ w, (zeroValue et).run E.P w = .ok (.int .i64 0) w) (hx : ev L x = some (.map (some b))) (hy : ev L y = some (.int .i64 (k : Nat))) (hm : Take (mapF b .i64 (nuF V)) S S') :
  Yl E n L S ⟨d, .lookup t x y false, ty, pos, af, gd⟩ (.int .i64 (numb V k : Nat)) := by
 have e : qRn false (.int .i64 0) (nuF V (k : Nat)) = .int .i64 (numb V k : Nat) := qQq _ _
 rw [← e]
 exact qGc ht hkt hz hx hy hm rfl
end Sl
namespace Go.Proofs.YtkkjjablmmmmkaaGreatDoor
open Go Go.RowKit Sl Eg
set_option maxRecDepth 10000
variable {E : Env} {Es : List Ent} {s most : Nat}
theorem qYr (hE : Seat E) (n : Int) : Ct E 62 [uPt s, .int .i64 n] [zT s most Es] (fun u Q => u = .bool (decide (0 ≤ n) && decide (n ≤ (Es.length : Int))) ∧ Q = [zT s most Es]) :=
 qCi hE fun w _ _ h => (qGs w n h).mono fun _ _ ⟨h1, h2⟩ => ⟨h1, qQe h2⟩
structure RcL (L : List Rl) (id : Nat) (V : List Nat) : Prop where
 nd : V.Nodup
 srt : V.Pairwise (· ≤ ·)
 all : ∀ x, x ∈ V ↔ Rea L id x
theorem RcL.split {L : List Rl} {id : Nat} {V : List Nat} (hw : Wf L) (h : RcL L id V) : Odr L V := fun A n B r e hr k hk => by
 have hn : n + 1 ∈ V := by rw [e]; simp
 have hkl := qCn (hw.ok n r hr) k hk
 have hkV : k ∈ V := (h.all k).2 (((h.all _).1 hn).step hr hk hw)
 have hs := h.srt
 rw [e] at hs hkV
 rcases List.mem_append.1 hkV with h1 | h1
 ·exact h1
 have := (List.pairwise_cons.1 (List.pairwise_append.1 hs).2.1).1
 rcases List.mem_cons.1 h1 with h2 | h2
 ·omega
 have := this k h2; omega
theorem RcL.lis {L : List Rl} {id : Nat} {V : List Nat} (hw : Wf L) (h : RcL L id V) : Lis L V := ⟨hw, ⟨h.nd, fun y hy => ((h.all y).1 hy).le⟩, h.split hw⟩
structure ExG where
 k : Nat
 p : Option Addr
 c : Nat
theorem zEs (hE : Seat E) {id : Nat} (h1 : 1 ≤ id) (h2 : id ≤ Es.length) (hn : Es.length < 65536) : Ct E 54 [uPt s, .int .i64 (id : Nat)] [zT s most Es]
  (fun v Q => ∃ V p c, v = .tuple #[.slice p V.length c, .nilIface] ∧ RcL (rls Es) id V ∧ Q = [zT s most Es, sl p c 82 5 V.length (rusC (gram (rls Es) V))]) := by
 refine qBt (p := zT s most Es) uK (fun _ h => qAj h) (fun hsay => ?_)
 have hw := hsay.1
 have hLl := zS Es
 have hm1 : E.P.underlying 101 = some (.map 37 37) := by rw [hE.P]; kernel_rfl
 have hm2 : E.P.underlying 37 = some (.int .i64) := by rw [hE.P]; kernel_rfl
 have hm3 : ∀ w, (zeroValue 37).run E.P w = .ok (.int .i64 0) w := fun w => by rw [hE.P]; kernel_rfl
 refine zQ (hE.fn Tryz.func54) rfl rfl rfl (fun R => ?_)
 simp only [qAa, uV, uW]
 refine qK (qI (uA rfl (uA rfl (qL (qJ (qK (qK (qI (uM rfl (uB (qBr rfl (hE.t rfl)) ?_))))))))))
 refine qL (qJ (zF rfl (zD (qJ (qK (qK (qI (uM rfl (uM rfl (uX (qYr hE (id : Nat)) rfl ?_))))))))))
 rintro _ _ ⟨rfl, rfl⟩
 simp only [uV, uW]
 refine uB (qBn rfl) ?_
 refine qL (qJ ?_)
 refine w_eq 18 (.bool false) rfl (by simp; omega) ?_
 refine zF rfl (zD (qJ (qK (qI (uM rfl (uM rfl (uX (ct_reach hE h1 h2 hn) rfl ?_)))))))
 rintro _ _ ⟨gv, cv, V, rfl, hV1, hV2, hV3, rfl⟩
 have hR : RcL (rls Es) id V := ⟨hV1, hV2, hV3⟩
 have hlis := hR.lis hw
 have hVl := hlis.acc.len
 have hV0 : 0 < V.length := List.length_pos_of_mem ((hV3 id).2 (by
  obtain ⟨n, rfl⟩ : ∃ n, id = n + 1 := ⟨id - 1, by omega⟩
  exact .self (by omega)))
 simp only [uV, uW]
 refine uA rfl (qL (qJ (qK (qI (uM rfl (uB (uBl rfl) ?_))))))
 refine uU ?_
 refine qLl .i64 (kt := 37) (et := 37) (by rw [hE.P]; kernel_rfl) rfl (fun b25 => ?_)
 refine uA rfl (qL (qJ (qK (qI (uM rfl (uB (uBl rfl) ?_))))))
 refine uU ?_
 refine qCo (hE.t rfl) (hE.t rfl) rfl rfl (by first | omega | exact Nat.le_of_ble_eq_true rfl) (by (unfold maxLen; first | omega | exact Nat.le_of_ble_eq_true rfl)) (fun b28 us28 hu28 => ?_)
 refine uA rfl (qL (qJ (qK (qK (qI (uM rfl (uB (uBl rfl) ?_)))))))
 refine uM rfl (qL (qJ (zM ?_)))
 rw [zEr]
 refine w_open (p := zT s most Es) (ps := fun i : Nat × Nat => [qGe E.w0 s most Es i.1 i.2]) uK (fun k hk => qTp (w0 := E.w0) (by omega) hk) ?_
 rintro ⟨g, c0⟩
 have hq1 : ∀ k, qGe E.w0 s most Es g c0 k → RdAt E.w0 s 1 [.slice (some ⟨g, 0, none⟩) Es.length c0] k := fun k h => h.2.1
 have hq2 : ∀ k, qGe E.w0 s most Es g c0 k → RdAt E.w0 g 0 (qJa Es) k := fun k h => h.2.2
 refine qBz (kF (p := sl (some ⟨b28, 0, none⟩) V.length 82 5 V.length us28) (p' := sl (some ⟨b28, 0, none⟩) V.length 82 5 0 (rusC ((gram (rls Es) V).take 0))) uK (qEt (Nat.zero_le _) (by simp [rusC]) (by simp))) ?_
 refine qAc (fun x : ExG => [(0, uPt s), (7, .map (some b25)), (8, .slice x.p x.k x.c), (29, .slice (some ⟨gv, 0, none⟩) V.length cv), (30, .int .i64 (V.length : Nat)), (31, .int .i64 (x.k : Nat))]) (fun x => [qGe E.w0 s most Es g c0, sl (some ⟨gv, 0, none⟩) cv 37 1 V.length (idC V), mapF b25 .i64 (nuF (V.take x.k)), sl x.p x.c 82 5 x.k (rusC ((gram (rls Es) V).take x.k)), R]) (fun x => V.length - x.k) (fun x => x.k ≤ V.length) ⟨0, some ⟨b28, 0, none⟩, V.length⟩ (Nat.zero_le _) ⟨rfl, rfl, rfl, rfl, rfl, rfl, trivial⟩ uI ?_
 rintro ⟨k, p, c⟩ hk
 simp only at hk ⊢
 refine qK (qI (uB (y_lt rfl rfl) ?_))
 refine qL (qJ (qK ?_))
 refine zG rfl (fun e2 => ?_) (fun e2 => ?_)
 ·have hkl : k < V.length := by omega
  obtain ⟨x, hx⟩ : ∃ x, V[k]? = some x := ⟨_, List.getElem?_eq_getElem hkl⟩
  have hxb := ((hV3 x).1 (List.mem_of_getElem? hx)).le
  obtain ⟨n, rfl⟩ : ∃ n, x = n + 1 := ⟨x - 1, by omega⟩
  obtain ⟨y, hy⟩ : ∃ y, Es[n]? = some y := ⟨_, List.getElem?_eq_getElem (by omega)⟩
  have hyr := qSk hy
  have f0 : [Value.slice (some ⟨g, 0, none⟩) Es.length c0][0]? = some (.slice (some ⟨g, 0, none⟩) Es.length c0) := rfl
  have f1 := qAl hx (((k : Nat) : Int).toNat) (by omega)
  have fm := qQf hy ((((n + 1 : Nat) : Int) - 1).toNat * 13) (by omega)
  refine zD (qJ (qK (zM (qK (qI (uM rfl (uB (uAj rfl rfl) ?_)))))))
  refine uL ?_
  refine uA rfl (uA rfl (qL (qJ (qK (qI (uM rfl (uM rfl (uM rfl (uB (uAa rfl rfl) ?_)))))))))
  refine l_eq 39 (.int .i64 ((k + 1 : Nat) : Int)) rfl (zY (by omega)) ?_
  refine uU ?_
  apply qDz (kt := 37) (et := 37) (by rw [hE.P]; kernel_rfl) (by rw [hE.P]; kernel_rfl) rfl rfl rfl
  ·exact uK
  refine qL (qJ ?_)
  rw [nuF_at hx hV1]
  refine qK (qI (uM rfl (uB (zB rfl) ?_)))
  refine uB (uBf rfl) ?_
  apply qA
  ·(apply zL rfl (hE.t rfl) rfl (by assumption); (focus ((repeat constructor); done)); (first | ((focus exact f0); (focus omega)) | ((focus exact f1); (focus omega)) | ((focus assumption); (focus omega))))
  ·rfl
  refine uM rfl (uB (uAs rfl rfl) ?_)
  refine uB (uAi rfl rfl) ?_
  refine uB (uBf rfl) ?_
  apply qA
  ·(apply kT rfl (hE.t rfl) rfl (by assumption); (focus ((repeat constructor); done)); (focus exact fm); (focus rfl); (focus omega))
  ·rfl
  refine uU (kH (hE.t rfl) (fun b11 => ?_))
  refine uU (uS ?_)
  refine qL (qJ (qK ?_))
  refine qBs 9 ([mapF b25 .i64 (nuF (V.take (k + 1))), cells b11 [.int .i64 (Rl.kind (y.r) : Nat), .int .u8 (Rl.byte (y.r) : Nat), .int .i64 (Rl.left (y.r) : Nat), .int .i64 (Rl.right (y.r) : Nat), .int .i64 (Rl.times (y.r) : Nat)] 82]) [(11, [mapF b25 .i64 (nuF (V.take (k + 1)))])] ?_ ?_
  ·exact uI
  refine uP 0 rfl (qB rfl) ?_
  refine uP 1 rfl (uBf rfl) ?_
  refine uQ 2 rfl (uY) ?_
  refine uQ 3 rfl (zBy hm1 hm2 hm3 rfl rfl (by ((repeat constructor); done))) ?_
  refine uP 4 rfl (qB rfl) ?_
  refine uP 5 rfl (uBf rfl) ?_
  refine uQ 6 rfl (uY) ?_
  apply s_keep ([mapF b25 .i64 (nuF (V.take (k + 1)))]) 7 rfl
  ·exact zBy hm1 hm2 hm3 rfl rfl uK
  ·with_reducible (repeat (first | exact qE | apply qF | apply qG))
  ·kernel_rfl
  ·kernel_rfl
  ·rfl
  ·(repeat (first | exact trivial | refine ⟨by (apply ent; (repeat constructor); done), ?_⟩))
  refine uP 8 rfl (uBf rfl) ?_
  apply qDs rfl (by kernel_rfl) rfl
  refine uS ?_
  refine uE ?_
  refine uP 10 rfl (uBf rfl) ?_
  apply qDt rfl (by kernel_rfl) (by kernel_rfl) rfl
  refine uS ?_
  refine qJ ?_
  have htk : V.take (k + 1) = V.take k ++ [n + 1] := by rw [List.take_add_one, hx]; rfl
  have hsplit : V = V.take k ++ (n + 1) :: V.drop (k + 1) := by
   have := List.take_append_drop k V
   rw [qEu hx] at this
   exact this.symm
  have hkids := hlis.ord _ _ _ _ hsplit hyr
  have h0t : 0 ∉ V.take (k + 1) := fun h => hlis.zero (List.mem_of_mem_take h)
  have hrn := qQb (V := V) (k := k + 1) (r := y.r) (fun z hz => by rw [htk]; exact List.mem_append_left _ (hkids z hz))
  refine qBz (kF (p := cells b11 [.int .i64 (y.r.kind : Nat), .int .u8 (y.r.byte : Nat), .int .i64 (numb (V.take (k + 1)) y.r.left : Nat), .int .i64 (numb (V.take (k + 1)) y.r.right : Nat), .int .i64 (y.r.times : Nat)] 82) (p' := cells b11 [.int .i64 (Rl.kind ((qAz V y.r)) : Nat), .int .u8 (Rl.byte ((qAz V y.r)) : Nat), .int .i64 (Rl.left ((qAz V y.r)) : Nat), .int .i64 (Rl.right ((qAz V y.r)) : Nat), .int .i64 (Rl.times ((qAz V y.r)) : Nat)] 82) uK (fun _ h => by rw [← hrn, qIf, qHy, qPr h0t, qNq h0t, qEe]; exact h)) ?_
  refine qI (uM rfl (uB (uG) ?_))
  refine uU ?_
  refine qV (hE.t rfl) (hE.t rfl) rfl rfl rfl (fun b61 => ?_)
  refine uU ?_
  apply zW (hE.t rfl) (hE.t rfl) rfl rfl rfl
  ·exact uK
  ·exact uK
  ·rfl
  ·rfl
  ·omega
  ·omega
  ·(unfold maxLen; omega)
  intro g62 c62 n62 x62 hn62 hx62
  refine uA rfl (qL (zK (qJ (qI (uB (uAa rfl rfl) ?_)))))
  refine uM rfl (qL ?_)
  obtain rfl : n62 = k + 1 := by omega
  obtain rfl : x62 = rusC ((gram (rls Es) V).take (k + 1)) := by rw [hx62, qJx hx hyr]; rfl
  refine zU (ι := ExG) (j := ⟨k + 1, some ⟨g62, 0, none⟩, c62⟩) (by simp only; omega) (by simp only; omega) ⟨rfl, rfl, rfl, rfl, rfl, congrArg some (zY (by simp only; omega)), trivial⟩ uI
 obtain rfl : k = V.length := by omega
 have hgt : (gram (rls Es) V).take V.length = gram (rls Es) V := by rw [← qDe (L := rls Es) (V := V), List.take_length]
 rw [hgt]
 refine kM (qP (qP (zJ (qJ (qK (qI (uM rfl (uA rfl (uA rfl (qL (qJ (kD ?_))))))))))))
 apply kE
 ·rfl
 ·(apply Rs.tmp rfl; apply Rs.tmp rfl; exact Rs.nil)
 ·exact ⟨V, p, c, rfl, hR, rfl⟩
 refine kG (kF (p := qGe E.w0 s most Es g c0) (p' := zT s most Es) uK (fun _ h => h.1)) ?_
 exact uI
end Go.Proofs.YtkkjjablmmmmkaaGreatDoor
