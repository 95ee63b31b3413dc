import Derived.Test.YtddfnkijolfhbaaGreatQ9C
set_option linter.all false
set_option maxHeartbeats 1000000
namespace Sl
open Go Go.RowKit Eg
variable {E : Env} {n : Nat} {L : Fr} {S : List HP} {d : Option Nat} {ty : TypeId} {pos : String} {af : Array Edge} {gd : Option (Nat × Bool)}
theorem cat_mkD (a b : List UInt8) : (⟨⟨a⟩⟩ : ByteArray) ++ ⟨⟨b⟩⟩ = ⟨⟨a ++ b⟩⟩ := by
 apply ByteArray.ext
 rw [ByteArray.data_append]
 simp
theorem qFr {x y : Operand} {xt yt : TypeId} {a b : List UInt8} (hx : ev L x = some (.string ⟨⟨a⟩⟩)) (hy : ev L y = some (.string ⟨⟨b⟩⟩)) (h : a.length + b.length ≤ 1000000000) :
  Yl E n L S ⟨d, .binOp .add xt x y yt, ty, pos, af, gd⟩ (.string ⟨⟨a ++ b⟩⟩) := fun o w g _ => by
 have h2 : ¬ ((((⟨⟨a⟩⟩ : ByteArray).size + (⟨⟨b⟩⟩ : ByteArray).size : Nat) : Int) > IntKind.i64.max) := by
  rw [show (⟨⟨a⟩⟩ : ByteArray).size = a.length from rfl, show (⟨⟨b⟩⟩ : ByteArray).size = b.length from rfl, show IntKind.i64.max = 9223372036854775807 from rfl]
  omega
 have e : (Op.stringOp .add ⟨⟨a⟩⟩ ⟨⟨b⟩⟩ : Sem Value) = pure (.string ⟨⟨a ++ b⟩⟩) := by
  simp only [Op.stringOp]
  rw [if_neg h2, cat_mkD]
 simp [execOp, eqGuard, binOp_string_add, e, g.ev hx, g.ev hy, pure]
end Sl
namespace Go.Proofs.YtddfnkijolfhbaaGreat
open Go Go.RowKit Sl Eg
set_option maxRecDepth 10000
variable {E : Env} {Es : List Ent} {s most : Nat}
def qAc : List UInt8 := [46, 110, 101, 119]
def hasF (x0 : Option Fl) (ps : List (List UInt8)) : Prop := (x0 = none ∧ ps = []) ∨ ∃ x, x0 = some x ∧ x.data = frs ps
theorem qId (hE : Seat E) {p : Pwr} {a : Nat} {n0 n1 : List UInt8} {x0 x1 : Option Fl} {ps : List (List UInt8)} (hn : okN n0) (hps : ∀ p ∈ ps, 1 ≤ p.length ∧ p.length ≤ 1048576) (hx : hasF x0 ps) (hl : (frs ps).length ≤ 1000000000) :
  Ct E 36 [uPt a, .string ⟨⟨n0⟩⟩] [fsP a n0 n1 x0 x1 p] (fun v Q => ∃ l ys q c, v = .tuple #[uPt l, .slice q ys.length c, .nilIface] ∧ ys.map (fun x : Py => x.2.2) = ps ∧ Q = [fsP a n0 n1 x0 x1 p, cells l [uPt a, .string ⟨⟨n0⟩⟩, .int .i64 (ys.length : Nat), .int .i64 ((frs ps).length : Nat), .bool false] 137, sl q c 57 1 ys.length (paC ys), payP ys]) := by
 rcases hx with ⟨rfl, rfl⟩ | ⟨x, rfl, hx⟩
 ·have hs : (⟨⟨n0⟩⟩ : ByteArray).size = n0.length := rfl
  obtain ⟨h1, h2⟩ := hn
  refine zP (hE.fn Tryz.func36) rfl rfl rfl (fun R => ?_)
  simp only [qAe, uV, uW]
  refine qL (qJ (uA rfl (uA rfl (uA rfl (qM (qK (qL (qL (qJ (uM rfl (uB (qAy rfl (hE.t rfl)) ?_)))))))))))
  refine qM (qK (zD rfl (zC (qK (qL (qL (qJ (uM rfl (uB (qBy rfl (hE.t rfl)) ?_)))))))))
  refine uB (y_lt rfl rfl) ?_
  refine uM rfl ?_
  refine qAl 19 rfl (fun c1 => ?_) (fun c1 => ?_)
  ·exfalso
   omega
  refine kQ rfl rfl (uM rfl (kQ rfl rfl (uB (qBy rfl (hE.t rfl)) ?_)))
  refine kQ rfl rfl (uB (y_gt rfl rfl) ?_)
  refine uB (qZ rfl rfl) ?_
  refine qM (qK ?_)
  refine zF rfl (fun c2 => ?_) (fun c2 => ?_)
  ·exfalso
   omega
  refine zC (qK (qL (qJ (uM rfl (uM rfl (uB (qBc (hE.t rfl) rfl rfl) ?_))))))
  refine uU ?_
  refine qBt rfl (fun b28 => ?_)
  refine uA rfl (qM (qK (qL (qJ (uM rfl (uM rfl (uX (qOh hE ⟨h1, h2⟩) rfl ?_)))))))
  rintro _ _ ⟨rfl, rfl⟩
  simp only [uV, uW]
  refine uM rfl (uB (qV rfl rfl) (uB (qV rfl rfl) (uA rfl (uA rfl (qM (qK (qL (qL (qJ (uM rfl ?_))))))))))
  refine uB (qCi rfl (hE.t rfl)) ?_
  refine qM (qK (zG rfl ?_))
  refine qAk (qCh (t := 57) (sz := 1)) ?_
  refine qAk (fun k h => qQh k h) ?_
  refine qL (qJ (uM rfl (uA rfl (uA rfl (uA rfl (qM (qK (kC (qX ?_)))))))))
  exact uZ rfl (.tmp rfl (.tmp rfl (.tmp rfl .nil))) ⟨b28, [], none, 0, rfl, rfl, rfl⟩
 exact qMk hE hn hps hx hl
theorem qGc {nm : List UInt8} (h1 : 1 ≤ nm.length) (h2 : nm.length ≤ 28) : okN nm ∧ okN (nm ++ qAc) ∧ nm ≠ nm ++ qAc := by
 refine ⟨⟨h1, by omega⟩, ⟨by simp [qAc], by simp [qAc]; omega⟩, fun e => ?_⟩
 have := congrArg List.length e
 simp [qAc] at this
structure DsG where
 l : Nat
 nb : Nat
 cb : Nat
 wb : Nat
 mb : Nat
 ct : Nat
 sz : Nat
def chF (ch : List UInt8 → Bool) : List UInt8 → Option Value := fun x => if ch x = true then some (.bool true) else none
theorem qTo : chF (fun _ => false) = fun _ => none := by funext x; simp [chF]
def dsP (d a : Nat) (nm : List UInt8) (s : Nat) (f : List UInt8 → Option Nat) (ch : List UInt8 → Bool) (V : List Nat) (n : Nat) : HP := fun h => ∃ i : DsG, (i.sz = n ∧ i.ct ≤ n) ∧ qAd [cells d [uPt a, .string ⟨⟨nm⟩⟩, uPt s, .pointer (some ⟨i.l, 0, none⟩), .map (some i.nb), .map (some i.cb), .pointer (some ⟨i.wb, 0, none⟩), .bool false] 97, cells i.wb [.map (some i.mb), .int .i64 (V.length : Nat)] 95, qAb i.nb (nmF f), qAb i.cb (chF ch), mapF i.mb .i64 (nuF V), cells i.l [uPt a, .string ⟨⟨nm⟩⟩, .int .i64 (i.ct : Nat), .int .i64 (i.sz : Nat), .bool false] 137] h
theorem qXr (n : Nat) : (idV n).length = n := qMw n
theorem qRs (hE : Seat E) {a : Nat} {n0 : List UInt8} {x0 X0 X1 : Option Fl} {ts : List Tx49} (h1 : 1 ≤ n0.length) (h2 : n0.length ≤ 28)
  (hrem : Ct E 35 [uPt a, .string ⟨⟨n0 ++ qAc⟩⟩] [fsP a n0 (n0 ++ qAc) X0 X1 Pwr.on] (fun v Q => v = .nilIface ∧ Q = [fsP a n0 (n0 ++ qAc) X0 none Pwr.on]))
  (hwal : Ct E 36 [uPt a, .string ⟨⟨n0⟩⟩] [fsP a n0 (n0 ++ qAc) X0 none Pwr.on] (fun v Q => ∃ l ys q c, v = .tuple #[uPt l, .slice q ys.length c, .nilIface] ∧ ys.map (fun x : Py => x.2.2) = pays 0 ts ∧ Q = [fsP a n0 (n0 ++ qAc) x0 none Pwr.on, cells l [uPt a, .string ⟨⟨n0⟩⟩, .int .i64 (ys.length : Nat), .int .i64 ((frs (pays 0 ts)).length : Nat), .bool false] 137, sl q c 57 1 ys.length (paC ys), payP ys]))
   (hfl : (frs (pays 0 ts)).length ≤ 1000000000)
  (hft : Fit [] ts) (hw : Wf (qAa Cn.nil ts).G) (hmr : most ≤ qBu) (hN : ∀ x k, (qAa Cn.nil ts).N x = some k → k ≤ (qAa Cn.nil ts).G.length) :
  Ct E 10 [uPt a, .string ⟨⟨n0⟩⟩, .int .i64 (most : Nat)] [fsP a n0 (n0 ++ qAc) X0 X1 Pwr.on]
   (fun v Q => ((qAa Cn.nil ts).G.length ≤ most ∧ ∃ d s Es, v = .tuple #[uPt d, .nilIface] ∧ rls Es = (qAa Cn.nil ts).G ∧ Q = [fsP a n0 (n0 ++ qAc) x0 none Pwr.on, zS s most Es, dsP d a n0 s (qAa Cn.nil ts).N (fun _ => false) (idV (qAa Cn.nil ts).G.length) (frs (pays 0 ts)).length]) ∨ (most < (qAa Cn.nil ts).G.length ∧ v = .tuple #[.pointer none, .iface 31 (.int .i64 3)] ∧ Q = [fsP a n0 (n0 ++ qAc) x0 none Pwr.on])) := by
 have hs : (⟨⟨n0⟩⟩ : ByteArray).size = n0.length := rfl
 obtain ⟨hn, hn1, hne⟩ := qGc h1 h2
 refine zP (hE.fn Tryz.func10) rfl rfl rfl (fun R => ?_)
 simp only [qAe, uV, uW]
 refine qL (qJ (uA rfl (uA rfl (qM (qK (qL (qL (qJ (uM rfl (uB (qAy rfl (hE.t rfl)) ?_))))))))))
 refine qM (qK (zD rfl (zC (qK (qL (qL (qJ (uM rfl (uB (qBy rfl (hE.t rfl)) ?_)))))))))
 refine uB (y_lt rfl rfl) ?_
 refine uM rfl ?_
 refine qAl 21 rfl (fun c1 => ?_) (fun c1 => ?_)
 ·exfalso
  omega
 refine kQ rfl rfl (uM rfl (kQ rfl rfl (uB (qBy rfl (hE.t rfl)) ?_)))
 refine kQ rfl rfl (uB (y_gt rfl rfl) ?_)
 refine uB (qZ rfl rfl) ?_
 refine qM (qK ?_)
 refine zF rfl (fun c2 => ?_) (fun c2 => ?_)
 ·exfalso
  omega
 refine zC (qK (qL (qL (qJ (uM rfl (uM rfl ?_))))))
 have hcat : n0.length + ([46, 110, 101, 119] : List UInt8).length ≤ 1000000000 := Nat.add_le_add h2 (by decide : 4 ≤ 999999972)
 refine uB (qFr rfl rfl hcat) ?_
 rw [show n0 ++ [46, 110, 101, 119] = n0 ++ qAc from rfl]
 refine uX (hrem) rfl ?_
 rintro _ _ ⟨rfl, rfl⟩
 simp only [uV, uW]
 refine uA rfl (qM (qK (qL (qJ (uM rfl (uB (qAf rfl (hE.t rfl)) ?_))))))
 refine qM (qK (zD rfl (zC (qK (qL (qJ (uM rfl (uM rfl (uX (hwal) rfl ?_)))))))))
 rintro _ _ ⟨l, ys, q, c, rfl, hys, rfl⟩
 simp only [uV, uW]
 refine uM rfl (uB (qV rfl rfl) (uB (qV rfl rfl) (uB (qV rfl rfl) (uA rfl (uA rfl (uA rfl (qM (qK (qL (qL (qJ ?_)))))))))))
 refine uM rfl (uB (qAf rfl (hE.t rfl)) ?_)
 refine qM (qK (zD rfl ?_))
 have hysl : ys.length = (pays 0 ts).length := by rw [← hys, List.length_map]
 have hfc := qJb (pays 0 ts)
 refine zC (qK (qL (qJ (uU ?_))))
 refine qAn (fun b44 => ?_)
 refine uB (qBc (hE.t rfl) rfl rfl) ?_
 refine uU ?_
 refine qBt rfl (fun b46 => ?_)
 refine uA rfl (qM (qK ?_))
 refine qAk (qCh (t := 115) (sz := 5)) ?_
 refine qAk (qCh (t := 3) (sz := 1)) ?_
 refine qAk (qAm (ps := [cells b46 [.slice none 0 0, .slice none 0 0, .map (some b44)] 87, sl none 0 115 5 0 [], sl none 0 3 1 0 [], qAb b44 (fun _ => none)]) (p := cnP b46 Cn.nil) uK (fun k h => ⟨⟨none, 0, none, 0, b44⟩, h⟩)) ?_
 refine qL (qL (qJ (uM rfl (uM rfl (uX (ct_cRead (ys := ys) hE hft hys (by omega)) rfl ?_)))))
 rintro _ _ ⟨rfl, rfl⟩
 simp only [uV, uW]
 refine uB (qBm rfl) ?_
 refine qM (qK (zD rfl ?_))
 refine qFa (p := cnP b46 (qAa Cn.nil ts)) (ps := fun i : CtG => [cells b46 [.slice i.rq ((qAa Cn.nil ts)).G.length i.rc, .slice i.lq ((qAa Cn.nil ts)).G.length i.lc, .map (some i.nb)] 87, sl i.rq i.rc 115 5 ((qAa Cn.nil ts)).G.length (rusC ((qAa Cn.nil ts)).G), sl i.lq i.lc 3 1 ((qAa Cn.nil ts)).G.length (idC (lnsL ((qAa Cn.nil ts)).G)), qAb i.nb (nmF ((qAa Cn.nil ts)).N)]) uK qTp ?_
 rintro ⟨rq, rc, lq, lc, kb⟩
 simp only
 refine zC (qK (qL ?_))
 refine uN 17 ([cells b46 [.slice (CtG.mk rq rc lq lc kb).rq ((qAa Cn.nil ts)).G.length (CtG.mk rq rc lq lc kb).rc, .slice (CtG.mk rq rc lq lc kb).lq ((qAa Cn.nil ts)).G.length (CtG.mk rq rc lq lc kb).lc, .map (some (CtG.mk rq rc lq lc kb).nb)] 87]) ?_
 refine uT 0 rfl (qC rfl) ?_
 refine uT 1 rfl (qC rfl) ?_
 refine uT 2 rfl (qC rfl) ?_
 refine uT 4 rfl (qC rfl) ?_
 refine uT 8 rfl (qC rfl) ?_
 refine uT 9 rfl (zB rfl) ?_
 refine uT 10 rfl (uBf rfl) ?_
 refine uT 11 rfl (uY) ?_
 refine uT 12 rfl (uBl rfl) ?_
 refine m_abs (fun W hW => ?_)
 have st356714 : ∀ (s55 b57 b58 b59 b66 : Nat), W 3 #[true, true, true, true, true, true, true, true, true, true, true, true, true, true, true, false, false, false] [(12, uPt b46), (52, uPt a), (53, .string ⟨⟨n0⟩⟩), (54, .int .i64 (most : Nat)), (56, uPt l), (64, .int .i64 ((qAa Cn.nil ts).G.length : Nat)), (55, uPt s55), (57, .map (some b57)), (58, .map (some b58)), (66, uPt b66)] [cells b46 [.slice (CtG.mk rq rc lq lc kb).rq ((qAa Cn.nil ts)).G.length (CtG.mk rq rc lq lc kb).rc, .slice (CtG.mk rq rc lq lc kb).lq ((qAa Cn.nil ts)).G.length (CtG.mk rq rc lq lc kb).lc, .map (some (CtG.mk rq rc lq lc kb).nb)] 87, sl (CtG.mk rq rc lq lc kb).rq (CtG.mk rq rc lq lc kb).rc 115 5 ((qAa Cn.nil ts)).G.length (rusC ((qAa Cn.nil ts)).G), sl (CtG.mk rq rc lq lc kb).lq (CtG.mk rq rc lq lc kb).lc 3 1 ((qAa Cn.nil ts)).G.length (idC (lnsL ((qAa Cn.nil ts)).G)), qAb (CtG.mk rq rc lq lc kb).nb (nmF ((qAa Cn.nil ts)).N), fsP a n0 (n0 ++ qAc) x0 none Pwr.on, cells l [uPt a, .string ⟨⟨n0⟩⟩, .int .i64 (ys.length : Nat), .int .i64 ((frs (pays 0 ts)).length : Nat), .bool false] 137, zS s55 most [], qAb b57 (fun _ => none), qAb b58 (fun _ => none), mapF b59 .i64 (fun _ => none), cells b66 [.map (some b59), .int .i64 ((qAa Cn.nil ts).G.length : Nat)] 95, R] := by
  intro s55 b57 b58 b59 b66
  refine (hW _ _ _ _).2 ?_
  apply kK 15 rfl (by kernel_rfl)
  ·exact qBc (hE.t rfl) rfl rfl
  ·rfl
  apply qGp 16 rfl (by kernel_rfl) rfl
  refine qBt rfl (fun b68 => ?_)
  refine uE ?_
  apply kK 17 rfl (by kernel_rfl)
  ·exact qD rfl
  ·rfl
  refine m_nil (by kernel_rfl) ?_
  refine qK (qL (qL (qJ (uM rfl ?_))))
  rw [qUt]
  refine qAx (qAm (ps := [cells b46 [.slice (CtG.mk rq rc lq lc kb).rq ((qAa Cn.nil ts)).G.length (CtG.mk rq rc lq lc kb).rc, .slice (CtG.mk rq rc lq lc kb).lq ((qAa Cn.nil ts)).G.length (CtG.mk rq rc lq lc kb).lc, .map (some (CtG.mk rq rc lq lc kb).nb)] 87, sl (CtG.mk rq rc lq lc kb).rq (CtG.mk rq rc lq lc kb).rc 115 5 ((qAa Cn.nil ts)).G.length (rusC ((qAa Cn.nil ts)).G), sl (CtG.mk rq rc lq lc kb).lq (CtG.mk rq rc lq lc kb).lc 3 1 ((qAa Cn.nil ts)).G.length (idC (lnsL ((qAa Cn.nil ts)).G)), qAb (CtG.mk rq rc lq lc kb).nb (nmF ((qAa Cn.nil ts)).N)]) (p := cnP b46 (qAa Cn.nil ts)) uK (fun k h => ⟨(CtG.mk rq rc lq lc kb), h⟩)) ?_
  refine uM rfl ?_
  rcases Nat.lt_or_ge most (qAa Cn.nil ts).G.length with hm | hm
  ·apply qI (by kernel_rfl) rfl
   refine uC (qZe (c := qAa Cn.nil ts) hE hw hm hN) rfl ?_
   rintro _ _ ⟨rfl, rfl⟩
   simp only [uV, uW]
   refine uA rfl (qM (qK (qL (qJ (uM rfl (uB (qHd rfl (hE.t rfl) rfl) ?_))))))
   refine uX (qZl hE) rfl ?_
   rintro _ _ ⟨rfl, rfl⟩
   simp only [uV, uW]
   refine qM (qK (zG rfl (qL (qJ (uB (qHd rfl (hE.t rfl) rfl) ?_)))))
   refine uA rfl (uA rfl (qM (qK (kC (qX ?_)))))
   exact uZ rfl (.tmp rfl (.tmp rfl .nil)) (.inr ⟨hm, rfl, rfl⟩)
  apply qI (by kernel_rfl) rfl
  refine uC (ct_dLoad (c := qAa Cn.nil ts) hE hw hm hN) rfl ?_
  rintro _ _ ⟨Es, rfl, hEs, rfl⟩
  simp only [uV, uW]
  refine uA rfl (qM (qK (qL (qJ (uM rfl (uB (qHd rfl (hE.t rfl) rfl) ?_))))))
  refine uX (qVl hE) rfl ?_
  rintro _ _ ⟨rfl, rfl⟩
  simp only [uV, uW]
  refine qM (qK (zD rfl (qL (qJ (uM rfl (uB (qAf rfl (hE.t rfl)) ?_))))))
  refine qM (qK (zD rfl ?_))
  refine qAk (qAm (ps := [cells b68 [uPt a, .string ⟨⟨n0⟩⟩, uPt s55, uPt l, .map (some b57), .map (some b58), uPt b66, .bool false] 97, cells b66 [.map (some b59), .int .i64 ((qAa Cn.nil ts).G.length : Nat)] 95, qAb b57 (nmF (qAa Cn.nil ts).N), qAb b58 (fun _ => none), mapF b59 .i64 (nuF (idV (qAa Cn.nil ts).G.length)), cells l [uPt a, .string ⟨⟨n0⟩⟩, .int .i64 (ys.length : Nat), .int .i64 ((frs (pays 0 ts)).length : Nat), .bool false] 137]) (p := dsP b68 a n0 s55 (qAa Cn.nil ts).N (fun _ => false) (idV (qAa Cn.nil ts).G.length) (frs (pays 0 ts)).length) uK (fun k h => ⟨⟨l, b57, b58, b66, b59, ys.length, (frs (pays 0 ts)).length⟩, ⟨rfl, by simp only; omega⟩, by rw [qTo, qXr]; exact h⟩)) ?_
  refine zC (qK (qL (qJ (uM rfl (uA rfl (uA rfl (qM (qK (kC ?_)))))))))
  exact uZ rfl (.tmp rfl (.tmp rfl .nil)) (.inl ⟨hm, b68, s55, Es, rfl, hEs, rfl⟩)
 have st3567 : ∀ (s55 b57 b58 b59 : Nat), W 4 #[true, true, true, true, true, true, true, true, true, true, true, true, true, true, false, false, false, false] [(12, uPt b46), (52, uPt a), (53, .string ⟨⟨n0⟩⟩), (54, .int .i64 (most : Nat)), (56, uPt l), (64, .int .i64 ((qAa Cn.nil ts).G.length : Nat)), (55, uPt s55), (57, .map (some b57)), (58, .map (some b58)), (65, .agg #[.map (some b59), .int .i64 ((qAa Cn.nil ts).G.length : Nat)])] [cells b46 [.slice (CtG.mk rq rc lq lc kb).rq ((qAa Cn.nil ts)).G.length (CtG.mk rq rc lq lc kb).rc, .slice (CtG.mk rq rc lq lc kb).lq ((qAa Cn.nil ts)).G.length (CtG.mk rq rc lq lc kb).lc, .map (some (CtG.mk rq rc lq lc kb).nb)] 87, sl (CtG.mk rq rc lq lc kb).rq (CtG.mk rq rc lq lc kb).rc 115 5 ((qAa Cn.nil ts)).G.length (rusC ((qAa Cn.nil ts)).G), sl (CtG.mk rq rc lq lc kb).lq (CtG.mk rq rc lq lc kb).lc 3 1 ((qAa Cn.nil ts)).G.length (idC (lnsL ((qAa Cn.nil ts)).G)), qAb (CtG.mk rq rc lq lc kb).nb (nmF ((qAa Cn.nil ts)).N), fsP a n0 (n0 ++ qAc) x0 none Pwr.on, cells l [uPt a, .string ⟨⟨n0⟩⟩, .int .i64 (ys.length : Nat), .int .i64 ((frs (pays 0 ts)).length : Nat), .bool false] 137, zS s55 most [], qAb b57 (fun _ => none), qAb b58 (fun _ => none), mapF b59 .i64 (fun _ => none), R] := by
  intro s55 b57 b58 b59
  refine (hW _ _ _ _).2 ?_
  refine qEq [14] (by kernel_rfl) (by simp) (fun i hi => ?_)
  obtain rfl : i = 14 := by simpa using hi
  refine ⟨_, _, _, _, _, rfl, rfl, ?_⟩
  refine qBt rfl (fun b66 => ?_)
  refine uE ?_
  refine qAt (l := #[true, true, true, true, true, true, true, true, true, true, true, true, true, true, true, false, false, false]) (by kernel_rfl) (qAu ?_ ?_ ?_ ((hW _ _ _ _).1 (st356714 s55 b57 b58 b59 b66)))
  ·exact ⟨rfl, rfl, rfl, rfl, rfl, rfl, rfl, rfl, rfl, rfl, trivial⟩
  ·exact uI
  exact uI
 have st35714 : ∀ (s55 b57 b59 b66 : Nat), W 4 #[true, true, true, true, true, true, false, true, true, true, true, true, true, true, true, false, false, false] [(12, uPt b46), (52, uPt a), (53, .string ⟨⟨n0⟩⟩), (54, .int .i64 (most : Nat)), (56, uPt l), (64, .int .i64 ((qAa Cn.nil ts).G.length : Nat)), (55, uPt s55), (57, .map (some b57)), (66, uPt b66)] [cells b46 [.slice (CtG.mk rq rc lq lc kb).rq ((qAa Cn.nil ts)).G.length (CtG.mk rq rc lq lc kb).rc, .slice (CtG.mk rq rc lq lc kb).lq ((qAa Cn.nil ts)).G.length (CtG.mk rq rc lq lc kb).lc, .map (some (CtG.mk rq rc lq lc kb).nb)] 87, sl (CtG.mk rq rc lq lc kb).rq (CtG.mk rq rc lq lc kb).rc 115 5 ((qAa Cn.nil ts)).G.length (rusC ((qAa Cn.nil ts)).G), sl (CtG.mk rq rc lq lc kb).lq (CtG.mk rq rc lq lc kb).lc 3 1 ((qAa Cn.nil ts)).G.length (idC (lnsL ((qAa Cn.nil ts)).G)), qAb (CtG.mk rq rc lq lc kb).nb (nmF ((qAa Cn.nil ts)).N), fsP a n0 (n0 ++ qAc) x0 none Pwr.on, cells l [uPt a, .string ⟨⟨n0⟩⟩, .int .i64 (ys.length : Nat), .int .i64 ((frs (pays 0 ts)).length : Nat), .bool false] 137, zS s55 most [], qAb b57 (fun _ => none), mapF b59 .i64 (fun _ => none), cells b66 [.map (some b59), .int .i64 ((qAa Cn.nil ts).G.length : Nat)] 95, R] := by
  intro s55 b57 b59 b66
  refine (hW _ _ _ _).2 ?_
  refine qEq [6] (by kernel_rfl) (by simp) (fun i hi => ?_)
  obtain rfl : i = 6 := by simpa using hi
  refine ⟨_, _, _, _, _, rfl, rfl, ?_⟩
  refine qAn (fun b58 => ?_)
  refine uE ?_
  refine qAt (l := #[true, true, true, true, true, true, true, true, true, true, true, true, true, true, true, false, false, false]) (by kernel_rfl) (qAu ?_ ?_ ?_ ((hW _ _ _ _).1 (st356714 s55 b57 b58 b59 b66)))
  ·exact ⟨rfl, rfl, rfl, rfl, rfl, rfl, rfl, rfl, rfl, rfl, trivial⟩
  ·exact uI
  exact uI
 have st36714 : ∀ (s55 b58 b59 b66 : Nat), W 4 #[true, true, true, true, true, false, true, true, true, true, true, true, true, true, true, false, false, false] [(12, uPt b46), (52, uPt a), (53, .string ⟨⟨n0⟩⟩), (54, .int .i64 (most : Nat)), (56, uPt l), (64, .int .i64 ((qAa Cn.nil ts).G.length : Nat)), (55, uPt s55), (58, .map (some b58)), (66, uPt b66)] [cells b46 [.slice (CtG.mk rq rc lq lc kb).rq ((qAa Cn.nil ts)).G.length (CtG.mk rq rc lq lc kb).rc, .slice (CtG.mk rq rc lq lc kb).lq ((qAa Cn.nil ts)).G.length (CtG.mk rq rc lq lc kb).lc, .map (some (CtG.mk rq rc lq lc kb).nb)] 87, sl (CtG.mk rq rc lq lc kb).rq (CtG.mk rq rc lq lc kb).rc 115 5 ((qAa Cn.nil ts)).G.length (rusC ((qAa Cn.nil ts)).G), sl (CtG.mk rq rc lq lc kb).lq (CtG.mk rq rc lq lc kb).lc 3 1 ((qAa Cn.nil ts)).G.length (idC (lnsL ((qAa Cn.nil ts)).G)), qAb (CtG.mk rq rc lq lc kb).nb (nmF ((qAa Cn.nil ts)).N), fsP a n0 (n0 ++ qAc) x0 none Pwr.on, cells l [uPt a, .string ⟨⟨n0⟩⟩, .int .i64 (ys.length : Nat), .int .i64 ((frs (pays 0 ts)).length : Nat), .bool false] 137, zS s55 most [], qAb b58 (fun _ => none), mapF b59 .i64 (fun _ => none), cells b66 [.map (some b59), .int .i64 ((qAa Cn.nil ts).G.length : Nat)] 95, R] := by
  intro s55 b58 b59 b66
  refine (hW _ _ _ _).2 ?_
  refine qEq [5] (by kernel_rfl) (by simp) (fun i hi => ?_)
  obtain rfl : i = 5 := by simpa using hi
  refine ⟨_, _, _, _, _, rfl, rfl, ?_⟩
  refine qAn (fun b57 => ?_)
  refine uE ?_
  refine qAt (l := #[true, true, true, true, true, true, true, true, true, true, true, true, true, true, true, false, false, false]) (by kernel_rfl) (qAu ?_ ?_ ?_ ((hW _ _ _ _).1 (st356714 s55 b57 b58 b59 b66)))
  ·exact ⟨rfl, rfl, rfl, rfl, rfl, rfl, rfl, rfl, rfl, rfl, trivial⟩
  ·exact uI
  exact uI
 have st56714 : ∀ (b57 b58 b59 b66 : Nat), W 4 #[true, true, true, false, true, true, true, true, true, true, true, true, true, true, true, false, false, false] [(12, uPt b46), (52, uPt a), (53, .string ⟨⟨n0⟩⟩), (54, .int .i64 (most : Nat)), (56, uPt l), (64, .int .i64 ((qAa Cn.nil ts).G.length : Nat)), (57, .map (some b57)), (58, .map (some b58)), (66, uPt b66)] [cells b46 [.slice (CtG.mk rq rc lq lc kb).rq ((qAa Cn.nil ts)).G.length (CtG.mk rq rc lq lc kb).rc, .slice (CtG.mk rq rc lq lc kb).lq ((qAa Cn.nil ts)).G.length (CtG.mk rq rc lq lc kb).lc, .map (some (CtG.mk rq rc lq lc kb).nb)] 87, sl (CtG.mk rq rc lq lc kb).rq (CtG.mk rq rc lq lc kb).rc 115 5 ((qAa Cn.nil ts)).G.length (rusC ((qAa Cn.nil ts)).G), sl (CtG.mk rq rc lq lc kb).lq (CtG.mk rq rc lq lc kb).lc 3 1 ((qAa Cn.nil ts)).G.length (idC (lnsL ((qAa Cn.nil ts)).G)), qAb (CtG.mk rq rc lq lc kb).nb (nmF ((qAa Cn.nil ts)).N), fsP a n0 (n0 ++ qAc) x0 none Pwr.on, cells l [uPt a, .string ⟨⟨n0⟩⟩, .int .i64 (ys.length : Nat), .int .i64 ((frs (pays 0 ts)).length : Nat), .bool false] 137, qAb b57 (fun _ => none), qAb b58 (fun _ => none), mapF b59 .i64 (fun _ => none), cells b66 [.map (some b59), .int .i64 ((qAa Cn.nil ts).G.length : Nat)] 95, R] := by
  intro b57 b58 b59 b66
  refine (hW _ _ _ _).2 ?_
  refine qEq [3] (by kernel_rfl) (by simp) (fun i hi => ?_)
  obtain rfl : i = 3 := by simpa using hi
  refine ⟨_, _, _, _, _, rfl, rfl, ?_⟩
  refine uC (qCk (most := most) hE hmr) rfl ?_
  rintro _ _ ⟨s55, rfl, rfl⟩
  simp only [uV, uW]
  refine uE ?_
  refine qAt (l := #[true, true, true, true, true, true, true, true, true, true, true, true, true, true, true, false, false, false]) (by kernel_rfl) (qAu ?_ ?_ ?_ ((hW _ _ _ _).1 (st356714 s55 b57 b58 b59 b66)))
  ·exact ⟨rfl, rfl, rfl, rfl, rfl, rfl, rfl, rfl, rfl, rfl, trivial⟩
  ·exact uI
  exact uI
 have st356 : ∀ (s55 b57 b58 : Nat), W 6 #[true, true, true, true, true, true, true, false, true, true, true, true, true, false, false, false, false, false] [(12, uPt b46), (52, uPt a), (53, .string ⟨⟨n0⟩⟩), (54, .int .i64 (most : Nat)), (56, uPt l), (64, .int .i64 ((qAa Cn.nil ts).G.length : Nat)), (55, uPt s55), (57, .map (some b57)), (58, .map (some b58))] [cells b46 [.slice (CtG.mk rq rc lq lc kb).rq ((qAa Cn.nil ts)).G.length (CtG.mk rq rc lq lc kb).rc, .slice (CtG.mk rq rc lq lc kb).lq ((qAa Cn.nil ts)).G.length (CtG.mk rq rc lq lc kb).lc, .map (some (CtG.mk rq rc lq lc kb).nb)] 87, sl (CtG.mk rq rc lq lc kb).rq (CtG.mk rq rc lq lc kb).rc 115 5 ((qAa Cn.nil ts)).G.length (rusC ((qAa Cn.nil ts)).G), sl (CtG.mk rq rc lq lc kb).lq (CtG.mk rq rc lq lc kb).lc 3 1 ((qAa Cn.nil ts)).G.length (idC (lnsL ((qAa Cn.nil ts)).G)), qAb (CtG.mk rq rc lq lc kb).nb (nmF ((qAa Cn.nil ts)).N), fsP a n0 (n0 ++ qAc) x0 none Pwr.on, cells l [uPt a, .string ⟨⟨n0⟩⟩, .int .i64 (ys.length : Nat), .int .i64 ((frs (pays 0 ts)).length : Nat), .bool false] 137, zS s55 most [], qAb b57 (fun _ => none), qAb b58 (fun _ => none), R] := by
  intro s55 b57 b58
  refine (hW _ _ _ _).2 ?_
  refine qEq [7] (by kernel_rfl) (by simp) (fun i hi => ?_)
  obtain rfl : i = 7 := by simpa using hi
  refine ⟨_, _, _, _, _, rfl, rfl, ?_⟩
  refine qCs .i64 (fun b59 => ?_)
  refine uE ?_
  refine uT 13 rfl (qBc (hE.t rfl) rfl rfl) ?_
  refine qAt (l := #[true, true, true, true, true, true, true, true, true, true, true, true, true, true, false, false, false, false]) (by kernel_rfl) (qAu ?_ ?_ ?_ ((hW _ _ _ _).1 (st3567 s55 b57 b58 b59)))
  ·exact ⟨rfl, rfl, rfl, rfl, rfl, rfl, rfl, rfl, rfl, rfl, trivial⟩
  ·exact uI
  exact uI
 have st357 : ∀ (s55 b57 b59 : Nat), W 5 #[true, true, true, true, true, true, false, true, true, true, true, true, true, true, false, false, false, false] [(12, uPt b46), (52, uPt a), (53, .string ⟨⟨n0⟩⟩), (54, .int .i64 (most : Nat)), (56, uPt l), (64, .int .i64 ((qAa Cn.nil ts).G.length : Nat)), (55, uPt s55), (57, .map (some b57)), (65, .agg #[.map (some b59), .int .i64 ((qAa Cn.nil ts).G.length : Nat)])] [cells b46 [.slice (CtG.mk rq rc lq lc kb).rq ((qAa Cn.nil ts)).G.length (CtG.mk rq rc lq lc kb).rc, .slice (CtG.mk rq rc lq lc kb).lq ((qAa Cn.nil ts)).G.length (CtG.mk rq rc lq lc kb).lc, .map (some (CtG.mk rq rc lq lc kb).nb)] 87, sl (CtG.mk rq rc lq lc kb).rq (CtG.mk rq rc lq lc kb).rc 115 5 ((qAa Cn.nil ts)).G.length (rusC ((qAa Cn.nil ts)).G), sl (CtG.mk rq rc lq lc kb).lq (CtG.mk rq rc lq lc kb).lc 3 1 ((qAa Cn.nil ts)).G.length (idC (lnsL ((qAa Cn.nil ts)).G)), qAb (CtG.mk rq rc lq lc kb).nb (nmF ((qAa Cn.nil ts)).N), fsP a n0 (n0 ++ qAc) x0 none Pwr.on, cells l [uPt a, .string ⟨⟨n0⟩⟩, .int .i64 (ys.length : Nat), .int .i64 ((frs (pays 0 ts)).length : Nat), .bool false] 137, zS s55 most [], qAb b57 (fun _ => none), mapF b59 .i64 (fun _ => none), R] := by
  intro s55 b57 b59
  refine (hW _ _ _ _).2 ?_
  refine qEq [6, 14] (by kernel_rfl) (by simp) (fun i hi => ?_)
  simp only [List.mem_cons, List.not_mem_nil, or_false] at hi
  rcases hi with rfl | rfl
  ·refine ⟨_, _, _, _, _, rfl, rfl, ?_⟩
   refine qAn (fun b58 => ?_)
   refine uE ?_
   refine qAt (l := #[true, true, true, true, true, true, true, true, true, true, true, true, true, true, false, false, false, false]) (by kernel_rfl) (qAu ?_ ?_ ?_ ((hW _ _ _ _).1 (st3567 s55 b57 b58 b59)))
   ·exact ⟨rfl, rfl, rfl, rfl, rfl, rfl, rfl, rfl, rfl, rfl, trivial⟩
   ·exact uI
   exact uI
  refine ⟨_, _, _, _, _, rfl, rfl, ?_⟩
  refine qBt rfl (fun b66 => ?_)
  refine uE ?_
  refine qAt (l := #[true, true, true, true, true, true, false, true, true, true, true, true, true, true, true, false, false, false]) (by kernel_rfl) (qAu ?_ ?_ ?_ ((hW _ _ _ _).1 (st35714 s55 b57 b59 b66)))
  ·exact ⟨rfl, rfl, rfl, rfl, rfl, rfl, rfl, rfl, rfl, trivial⟩
  ·exact uI
  exact uI
 have st367 : ∀ (s55 b58 b59 : Nat), W 5 #[true, true, true, true, true, false, true, true, true, true, true, true, true, true, false, false, false, false] [(12, uPt b46), (52, uPt a), (53, .string ⟨⟨n0⟩⟩), (54, .int .i64 (most : Nat)), (56, uPt l), (64, .int .i64 ((qAa Cn.nil ts).G.length : Nat)), (55, uPt s55), (58, .map (some b58)), (65, .agg #[.map (some b59), .int .i64 ((qAa Cn.nil ts).G.length : Nat)])] [cells b46 [.slice (CtG.mk rq rc lq lc kb).rq ((qAa Cn.nil ts)).G.length (CtG.mk rq rc lq lc kb).rc, .slice (CtG.mk rq rc lq lc kb).lq ((qAa Cn.nil ts)).G.length (CtG.mk rq rc lq lc kb).lc, .map (some (CtG.mk rq rc lq lc kb).nb)] 87, sl (CtG.mk rq rc lq lc kb).rq (CtG.mk rq rc lq lc kb).rc 115 5 ((qAa Cn.nil ts)).G.length (rusC ((qAa Cn.nil ts)).G), sl (CtG.mk rq rc lq lc kb).lq (CtG.mk rq rc lq lc kb).lc 3 1 ((qAa Cn.nil ts)).G.length (idC (lnsL ((qAa Cn.nil ts)).G)), qAb (CtG.mk rq rc lq lc kb).nb (nmF ((qAa Cn.nil ts)).N), fsP a n0 (n0 ++ qAc) x0 none Pwr.on, cells l [uPt a, .string ⟨⟨n0⟩⟩, .int .i64 (ys.length : Nat), .int .i64 ((frs (pays 0 ts)).length : Nat), .bool false] 137, zS s55 most [], qAb b58 (fun _ => none), mapF b59 .i64 (fun _ => none), R] := by
  intro s55 b58 b59
  refine (hW _ _ _ _).2 ?_
  refine qEq [5, 14] (by kernel_rfl) (by simp) (fun i hi => ?_)
  simp only [List.mem_cons, List.not_mem_nil, or_false] at hi
  rcases hi with rfl | rfl
  ·refine ⟨_, _, _, _, _, rfl, rfl, ?_⟩
   refine qAn (fun b57 => ?_)
   refine uE ?_
   refine qAt (l := #[true, true, true, true, true, true, true, true, true, true, true, true, true, true, false, false, false, false]) (by kernel_rfl) (qAu ?_ ?_ ?_ ((hW _ _ _ _).1 (st3567 s55 b57 b58 b59)))
   ·exact ⟨rfl, rfl, rfl, rfl, rfl, rfl, rfl, rfl, rfl, rfl, trivial⟩
   ·exact uI
   exact uI
  refine ⟨_, _, _, _, _, rfl, rfl, ?_⟩
  refine qBt rfl (fun b66 => ?_)
  refine uE ?_
  refine qAt (l := #[true, true, true, true, true, false, true, true, true, true, true, true, true, true, true, false, false, false]) (by kernel_rfl) (qAu ?_ ?_ ?_ ((hW _ _ _ _).1 (st36714 s55 b58 b59 b66)))
  ·exact ⟨rfl, rfl, rfl, rfl, rfl, rfl, rfl, rfl, rfl, trivial⟩
  ·exact uI
  exact uI
 have st3714 : ∀ (s55 b59 b66 : Nat), W 5 #[true, true, true, true, true, false, false, true, true, true, true, true, true, true, true, false, false, false] [(12, uPt b46), (52, uPt a), (53, .string ⟨⟨n0⟩⟩), (54, .int .i64 (most : Nat)), (56, uPt l), (64, .int .i64 ((qAa Cn.nil ts).G.length : Nat)), (55, uPt s55), (66, uPt b66)] [cells b46 [.slice (CtG.mk rq rc lq lc kb).rq ((qAa Cn.nil ts)).G.length (CtG.mk rq rc lq lc kb).rc, .slice (CtG.mk rq rc lq lc kb).lq ((qAa Cn.nil ts)).G.length (CtG.mk rq rc lq lc kb).lc, .map (some (CtG.mk rq rc lq lc kb).nb)] 87, sl (CtG.mk rq rc lq lc kb).rq (CtG.mk rq rc lq lc kb).rc 115 5 ((qAa Cn.nil ts)).G.length (rusC ((qAa Cn.nil ts)).G), sl (CtG.mk rq rc lq lc kb).lq (CtG.mk rq rc lq lc kb).lc 3 1 ((qAa Cn.nil ts)).G.length (idC (lnsL ((qAa Cn.nil ts)).G)), qAb (CtG.mk rq rc lq lc kb).nb (nmF ((qAa Cn.nil ts)).N), fsP a n0 (n0 ++ qAc) x0 none Pwr.on, cells l [uPt a, .string ⟨⟨n0⟩⟩, .int .i64 (ys.length : Nat), .int .i64 ((frs (pays 0 ts)).length : Nat), .bool false] 137, zS s55 most [], mapF b59 .i64 (fun _ => none), cells b66 [.map (some b59), .int .i64 ((qAa Cn.nil ts).G.length : Nat)] 95, R] := by
  intro s55 b59 b66
  refine (hW _ _ _ _).2 ?_
  refine qEq [5, 6] (by kernel_rfl) (by simp) (fun i hi => ?_)
  simp only [List.mem_cons, List.not_mem_nil, or_false] at hi
  rcases hi with rfl | rfl
  ·refine ⟨_, _, _, _, _, rfl, rfl, ?_⟩
   refine qAn (fun b57 => ?_)
   refine uE ?_
   refine qAt (l := #[true, true, true, true, true, true, false, true, true, true, true, true, true, true, true, false, false, false]) (by kernel_rfl) (qAu ?_ ?_ ?_ ((hW _ _ _ _).1 (st35714 s55 b57 b59 b66)))
   ·exact ⟨rfl, rfl, rfl, rfl, rfl, rfl, rfl, rfl, rfl, trivial⟩
   ·exact uI
   exact uI
  refine ⟨_, _, _, _, _, rfl, rfl, ?_⟩
  refine qAn (fun b58 => ?_)
  refine uE ?_
  refine qAt (l := #[true, true, true, true, true, false, true, true, true, true, true, true, true, true, true, false, false, false]) (by kernel_rfl) (qAu ?_ ?_ ?_ ((hW _ _ _ _).1 (st36714 s55 b58 b59 b66)))
  ·exact ⟨rfl, rfl, rfl, rfl, rfl, rfl, rfl, rfl, rfl, trivial⟩
  ·exact uI
  exact uI
 have st567 : ∀ (b57 b58 b59 : Nat), W 5 #[true, true, true, false, true, true, true, true, true, true, true, true, true, true, false, false, false, false] [(12, uPt b46), (52, uPt a), (53, .string ⟨⟨n0⟩⟩), (54, .int .i64 (most : Nat)), (56, uPt l), (64, .int .i64 ((qAa Cn.nil ts).G.length : Nat)), (57, .map (some b57)), (58, .map (some b58)), (65, .agg #[.map (some b59), .int .i64 ((qAa Cn.nil ts).G.length : Nat)])] [cells b46 [.slice (CtG.mk rq rc lq lc kb).rq ((qAa Cn.nil ts)).G.length (CtG.mk rq rc lq lc kb).rc, .slice (CtG.mk rq rc lq lc kb).lq ((qAa Cn.nil ts)).G.length (CtG.mk rq rc lq lc kb).lc, .map (some (CtG.mk rq rc lq lc kb).nb)] 87, sl (CtG.mk rq rc lq lc kb).rq (CtG.mk rq rc lq lc kb).rc 115 5 ((qAa Cn.nil ts)).G.length (rusC ((qAa Cn.nil ts)).G), sl (CtG.mk rq rc lq lc kb).lq (CtG.mk rq rc lq lc kb).lc 3 1 ((qAa Cn.nil ts)).G.length (idC (lnsL ((qAa Cn.nil ts)).G)), qAb (CtG.mk rq rc lq lc kb).nb (nmF ((qAa Cn.nil ts)).N), fsP a n0 (n0 ++ qAc) x0 none Pwr.on, cells l [uPt a, .string ⟨⟨n0⟩⟩, .int .i64 (ys.length : Nat), .int .i64 ((frs (pays 0 ts)).length : Nat), .bool false] 137, qAb b57 (fun _ => none), qAb b58 (fun _ => none), mapF b59 .i64 (fun _ => none), R] := by
  intro b57 b58 b59
  refine (hW _ _ _ _).2 ?_
  refine qEq [3, 14] (by kernel_rfl) (by simp) (fun i hi => ?_)
  simp only [List.mem_cons, List.not_mem_nil, or_false] at hi
  rcases hi with rfl | rfl
  ·refine ⟨_, _, _, _, _, rfl, rfl, ?_⟩
   refine uC (qCk (most := most) hE hmr) rfl ?_
   rintro _ _ ⟨s55, rfl, rfl⟩
   simp only [uV, uW]
   refine uE ?_
   refine qAt (l := #[true, true, true, true, true, true, true, true, true, true, true, true, true, true, false, false, false, false]) (by kernel_rfl) (qAu ?_ ?_ ?_ ((hW _ _ _ _).1 (st3567 s55 b57 b58 b59)))
   ·exact ⟨rfl, rfl, rfl, rfl, rfl, rfl, rfl, rfl, rfl, rfl, trivial⟩
   ·exact uI
   exact uI
  refine ⟨_, _, _, _, _, rfl, rfl, ?_⟩
  refine qBt rfl (fun b66 => ?_)
  refine uE ?_
  refine qAt (l := #[true, true, true, false, true, true, true, true, true, true, true, true, true, true, true, false, false, false]) (by kernel_rfl) (qAu ?_ ?_ ?_ ((hW _ _ _ _).1 (st56714 b57 b58 b59 b66)))
  ·exact ⟨rfl, rfl, rfl, rfl, rfl, rfl, rfl, rfl, rfl, trivial⟩
  ·exact uI
  exact uI
 have st5714 : ∀ (b57 b59 b66 : Nat), W 5 #[true, true, true, false, true, true, false, true, true, true, true, true, true, true, true, false, false, false] [(12, uPt b46), (52, uPt a), (53, .string ⟨⟨n0⟩⟩), (54, .int .i64 (most : Nat)), (56, uPt l), (64, .int .i64 ((qAa Cn.nil ts).G.length : Nat)), (57, .map (some b57)), (66, uPt b66)] [cells b46 [.slice (CtG.mk rq rc lq lc kb).rq ((qAa Cn.nil ts)).G.length (CtG.mk rq rc lq lc kb).rc, .slice (CtG.mk rq rc lq lc kb).lq ((qAa Cn.nil ts)).G.length (CtG.mk rq rc lq lc kb).lc, .map (some (CtG.mk rq rc lq lc kb).nb)] 87, sl (CtG.mk rq rc lq lc kb).rq (CtG.mk rq rc lq lc kb).rc 115 5 ((qAa Cn.nil ts)).G.length (rusC ((qAa Cn.nil ts)).G), sl (CtG.mk rq rc lq lc kb).lq (CtG.mk rq rc lq lc kb).lc 3 1 ((qAa Cn.nil ts)).G.length (idC (lnsL ((qAa Cn.nil ts)).G)), qAb (CtG.mk rq rc lq lc kb).nb (nmF ((qAa Cn.nil ts)).N), fsP a n0 (n0 ++ qAc) x0 none Pwr.on, cells l [uPt a, .string ⟨⟨n0⟩⟩, .int .i64 (ys.length : Nat), .int .i64 ((frs (pays 0 ts)).length : Nat), .bool false] 137, qAb b57 (fun _ => none), mapF b59 .i64 (fun _ => none), cells b66 [.map (some b59), .int .i64 ((qAa Cn.nil ts).G.length : Nat)] 95, R] := by
  intro b57 b59 b66
  refine (hW _ _ _ _).2 ?_
  refine qEq [3, 6] (by kernel_rfl) (by simp) (fun i hi => ?_)
  simp only [List.mem_cons, List.not_mem_nil, or_false] at hi
  rcases hi with rfl | rfl
  ·refine ⟨_, _, _, _, _, rfl, rfl, ?_⟩
   refine uC (qCk (most := most) hE hmr) rfl ?_
   rintro _ _ ⟨s55, rfl, rfl⟩
   simp only [uV, uW]
   refine uE ?_
   refine qAt (l := #[true, true, true, true, true, true, false, true, true, true, true, true, true, true, true, false, false, false]) (by kernel_rfl) (qAu ?_ ?_ ?_ ((hW _ _ _ _).1 (st35714 s55 b57 b59 b66)))
   ·exact ⟨rfl, rfl, rfl, rfl, rfl, rfl, rfl, rfl, rfl, trivial⟩
   ·exact uI
   exact uI
  refine ⟨_, _, _, _, _, rfl, rfl, ?_⟩
  refine qAn (fun b58 => ?_)
  refine uE ?_
  refine qAt (l := #[true, true, true, false, true, true, true, true, true, true, true, true, true, true, true, false, false, false]) (by kernel_rfl) (qAu ?_ ?_ ?_ ((hW _ _ _ _).1 (st56714 b57 b58 b59 b66)))
  ·exact ⟨rfl, rfl, rfl, rfl, rfl, rfl, rfl, rfl, rfl, trivial⟩
  ·exact uI
  exact uI
 have st6714 : ∀ (b58 b59 b66 : Nat), W 5 #[true, true, true, false, true, false, true, true, true, true, true, true, true, true, true, false, false, false] [(12, uPt b46), (52, uPt a), (53, .string ⟨⟨n0⟩⟩), (54, .int .i64 (most : Nat)), (56, uPt l), (64, .int .i64 ((qAa Cn.nil ts).G.length : Nat)), (58, .map (some b58)), (66, uPt b66)] [cells b46 [.slice (CtG.mk rq rc lq lc kb).rq ((qAa Cn.nil ts)).G.length (CtG.mk rq rc lq lc kb).rc, .slice (CtG.mk rq rc lq lc kb).lq ((qAa Cn.nil ts)).G.length (CtG.mk rq rc lq lc kb).lc, .map (some (CtG.mk rq rc lq lc kb).nb)] 87, sl (CtG.mk rq rc lq lc kb).rq (CtG.mk rq rc lq lc kb).rc 115 5 ((qAa Cn.nil ts)).G.length (rusC ((qAa Cn.nil ts)).G), sl (CtG.mk rq rc lq lc kb).lq (CtG.mk rq rc lq lc kb).lc 3 1 ((qAa Cn.nil ts)).G.length (idC (lnsL ((qAa Cn.nil ts)).G)), qAb (CtG.mk rq rc lq lc kb).nb (nmF ((qAa Cn.nil ts)).N), fsP a n0 (n0 ++ qAc) x0 none Pwr.on, cells l [uPt a, .string ⟨⟨n0⟩⟩, .int .i64 (ys.length : Nat), .int .i64 ((frs (pays 0 ts)).length : Nat), .bool false] 137, qAb b58 (fun _ => none), mapF b59 .i64 (fun _ => none), cells b66 [.map (some b59), .int .i64 ((qAa Cn.nil ts).G.length : Nat)] 95, R] := by
  intro b58 b59 b66
  refine (hW _ _ _ _).2 ?_
  refine qEq [3, 5] (by kernel_rfl) (by simp) (fun i hi => ?_)
  simp only [List.mem_cons, List.not_mem_nil, or_false] at hi
  rcases hi with rfl | rfl
  ·refine ⟨_, _, _, _, _, rfl, rfl, ?_⟩
   refine uC (qCk (most := most) hE hmr) rfl ?_
   rintro _ _ ⟨s55, rfl, rfl⟩
   simp only [uV, uW]
   refine uE ?_
   refine qAt (l := #[true, true, true, true, true, false, true, true, true, true, true, true, true, true, true, false, false, false]) (by kernel_rfl) (qAu ?_ ?_ ?_ ((hW _ _ _ _).1 (st36714 s55 b58 b59 b66)))
   ·exact ⟨rfl, rfl, rfl, rfl, rfl, rfl, rfl, rfl, rfl, trivial⟩
   ·exact uI
   exact uI
  refine ⟨_, _, _, _, _, rfl, rfl, ?_⟩
  refine qAn (fun b57 => ?_)
  refine uE ?_
  refine qAt (l := #[true, true, true, false, true, true, true, true, true, true, true, true, true, true, true, false, false, false]) (by kernel_rfl) (qAu ?_ ?_ ?_ ((hW _ _ _ _).1 (st56714 b57 b58 b59 b66)))
  ·exact ⟨rfl, rfl, rfl, rfl, rfl, rfl, rfl, rfl, rfl, trivial⟩
  ·exact uI
  exact uI
 have st35 : ∀ (s55 b57 : Nat), W 7 #[true, true, true, true, true, true, false, false, true, true, true, true, true, false, false, false, false, false] [(12, uPt b46), (52, uPt a), (53, .string ⟨⟨n0⟩⟩), (54, .int .i64 (most : Nat)), (56, uPt l), (64, .int .i64 ((qAa Cn.nil ts).G.length : Nat)), (55, uPt s55), (57, .map (some b57))] [cells b46 [.slice (CtG.mk rq rc lq lc kb).rq ((qAa Cn.nil ts)).G.length (CtG.mk rq rc lq lc kb).rc, .slice (CtG.mk rq rc lq lc kb).lq ((qAa Cn.nil ts)).G.length (CtG.mk rq rc lq lc kb).lc, .map (some (CtG.mk rq rc lq lc kb).nb)] 87, sl (CtG.mk rq rc lq lc kb).rq (CtG.mk rq rc lq lc kb).rc 115 5 ((qAa Cn.nil ts)).G.length (rusC ((qAa Cn.nil ts)).G), sl (CtG.mk rq rc lq lc kb).lq (CtG.mk rq rc lq lc kb).lc 3 1 ((qAa Cn.nil ts)).G.length (idC (lnsL ((qAa Cn.nil ts)).G)), qAb (CtG.mk rq rc lq lc kb).nb (nmF ((qAa Cn.nil ts)).N), fsP a n0 (n0 ++ qAc) x0 none Pwr.on, cells l [uPt a, .string ⟨⟨n0⟩⟩, .int .i64 (ys.length : Nat), .int .i64 ((frs (pays 0 ts)).length : Nat), .bool false] 137, zS s55 most [], qAb b57 (fun _ => none), R] := by
  intro s55 b57
  refine (hW _ _ _ _).2 ?_
  refine qEq [6, 7] (by kernel_rfl) (by simp) (fun i hi => ?_)
  simp only [List.mem_cons, List.not_mem_nil, or_false] at hi
  rcases hi with rfl | rfl
  ·refine ⟨_, _, _, _, _, rfl, rfl, ?_⟩
   refine qAn (fun b58 => ?_)
   refine uE ?_
   refine qAt (l := #[true, true, true, true, true, true, true, false, true, true, true, true, true, false, false, false, false, false]) (by kernel_rfl) (qAu ?_ ?_ ?_ ((hW _ _ _ _).1 (st356 s55 b57 b58)))
   ·exact ⟨rfl, rfl, rfl, rfl, rfl, rfl, rfl, rfl, rfl, trivial⟩
   ·exact uI
   exact uI
  refine ⟨_, _, _, _, _, rfl, rfl, ?_⟩
  refine qCs .i64 (fun b59 => ?_)
  refine uE ?_
  refine uT 13 rfl (qBc (hE.t rfl) rfl rfl) ?_
  refine qAt (l := #[true, true, true, true, true, true, false, true, true, true, true, true, true, true, false, false, false, false]) (by kernel_rfl) (qAu ?_ ?_ ?_ ((hW _ _ _ _).1 (st357 s55 b57 b59)))
  ·exact ⟨rfl, rfl, rfl, rfl, rfl, rfl, rfl, rfl, rfl, trivial⟩
  ·exact uI
  exact uI
 have st36 : ∀ (s55 b58 : Nat), W 7 #[true, true, true, true, true, false, true, false, true, true, true, true, true, false, false, false, false, false] [(12, uPt b46), (52, uPt a), (53, .string ⟨⟨n0⟩⟩), (54, .int .i64 (most : Nat)), (56, uPt l), (64, .int .i64 ((qAa Cn.nil ts).G.length : Nat)), (55, uPt s55), (58, .map (some b58))] [cells b46 [.slice (CtG.mk rq rc lq lc kb).rq ((qAa Cn.nil ts)).G.length (CtG.mk rq rc lq lc kb).rc, .slice (CtG.mk rq rc lq lc kb).lq ((qAa Cn.nil ts)).G.length (CtG.mk rq rc lq lc kb).lc, .map (some (CtG.mk rq rc lq lc kb).nb)] 87, sl (CtG.mk rq rc lq lc kb).rq (CtG.mk rq rc lq lc kb).rc 115 5 ((qAa Cn.nil ts)).G.length (rusC ((qAa Cn.nil ts)).G), sl (CtG.mk rq rc lq lc kb).lq (CtG.mk rq rc lq lc kb).lc 3 1 ((qAa Cn.nil ts)).G.length (idC (lnsL ((qAa Cn.nil ts)).G)), qAb (CtG.mk rq rc lq lc kb).nb (nmF ((qAa Cn.nil ts)).N), fsP a n0 (n0 ++ qAc) x0 none Pwr.on, cells l [uPt a, .string ⟨⟨n0⟩⟩, .int .i64 (ys.length : Nat), .int .i64 ((frs (pays 0 ts)).length : Nat), .bool false] 137, zS s55 most [], qAb b58 (fun _ => none), R] := by
  intro s55 b58
  refine (hW _ _ _ _).2 ?_
  refine qEq [5, 7] (by kernel_rfl) (by simp) (fun i hi => ?_)
  simp only [List.mem_cons, List.not_mem_nil, or_false] at hi
  rcases hi with rfl | rfl
  ·refine ⟨_, _, _, _, _, rfl, rfl, ?_⟩
   refine qAn (fun b57 => ?_)
   refine uE ?_
   refine qAt (l := #[true, true, true, true, true, true, true, false, true, true, true, true, true, false, false, false, false, false]) (by kernel_rfl) (qAu ?_ ?_ ?_ ((hW _ _ _ _).1 (st356 s55 b57 b58)))
   ·exact ⟨rfl, rfl, rfl, rfl, rfl, rfl, rfl, rfl, rfl, trivial⟩
   ·exact uI
   exact uI
  refine ⟨_, _, _, _, _, rfl, rfl, ?_⟩
  refine qCs .i64 (fun b59 => ?_)
  refine uE ?_
  refine uT 13 rfl (qBc (hE.t rfl) rfl rfl) ?_
  refine qAt (l := #[true, true, true, true, true, false, true, true, true, true, true, true, true, true, false, false, false, false]) (by kernel_rfl) (qAu ?_ ?_ ?_ ((hW _ _ _ _).1 (st367 s55 b58 b59)))
  ·exact ⟨rfl, rfl, rfl, rfl, rfl, rfl, rfl, rfl, rfl, trivial⟩
  ·exact uI
  exact uI
 have st37 : ∀ (s55 b59 : Nat), W 6 #[true, true, true, true, true, false, false, true, true, true, true, true, true, true, false, false, false, false] [(12, uPt b46), (52, uPt a), (53, .string ⟨⟨n0⟩⟩), (54, .int .i64 (most : Nat)), (56, uPt l), (64, .int .i64 ((qAa Cn.nil ts).G.length : Nat)), (55, uPt s55), (65, .agg #[.map (some b59), .int .i64 ((qAa Cn.nil ts).G.length : Nat)])] [cells b46 [.slice (CtG.mk rq rc lq lc kb).rq ((qAa Cn.nil ts)).G.length (CtG.mk rq rc lq lc kb).rc, .slice (CtG.mk rq rc lq lc kb).lq ((qAa Cn.nil ts)).G.length (CtG.mk rq rc lq lc kb).lc, .map (some (CtG.mk rq rc lq lc kb).nb)] 87, sl (CtG.mk rq rc lq lc kb).rq (CtG.mk rq rc lq lc kb).rc 115 5 ((qAa Cn.nil ts)).G.length (rusC ((qAa Cn.nil ts)).G), sl (CtG.mk rq rc lq lc kb).lq (CtG.mk rq rc lq lc kb).lc 3 1 ((qAa Cn.nil ts)).G.length (idC (lnsL ((qAa Cn.nil ts)).G)), qAb (CtG.mk rq rc lq lc kb).nb (nmF ((qAa Cn.nil ts)).N), fsP a n0 (n0 ++ qAc) x0 none Pwr.on, cells l [uPt a, .string ⟨⟨n0⟩⟩, .int .i64 (ys.length : Nat), .int .i64 ((frs (pays 0 ts)).length : Nat), .bool false] 137, zS s55 most [], mapF b59 .i64 (fun _ => none), R] := by
  intro s55 b59
  refine (hW _ _ _ _).2 ?_
  refine qEq [5, 6, 14] (by kernel_rfl) (by simp) (fun i hi => ?_)
  simp only [List.mem_cons, List.not_mem_nil, or_false] at hi
  rcases hi with rfl | rfl | rfl
  ·refine ⟨_, _, _, _, _, rfl, rfl, ?_⟩
   refine qAn (fun b57 => ?_)
   refine uE ?_
   refine qAt (l := #[true, true, true, true, true, true, false, true, true, true, true, true, true, true, false, false, false, false]) (by kernel_rfl) (qAu ?_ ?_ ?_ ((hW _ _ _ _).1 (st357 s55 b57 b59)))
   ·exact ⟨rfl, rfl, rfl, rfl, rfl, rfl, rfl, rfl, rfl, trivial⟩
   ·exact uI
   exact uI
  ·refine ⟨_, _, _, _, _, rfl, rfl, ?_⟩
   refine qAn (fun b58 => ?_)
   refine uE ?_
   refine qAt (l := #[true, true, true, true, true, false, true, true, true, true, true, true, true, true, false, false, false, false]) (by kernel_rfl) (qAu ?_ ?_ ?_ ((hW _ _ _ _).1 (st367 s55 b58 b59)))
   ·exact ⟨rfl, rfl, rfl, rfl, rfl, rfl, rfl, rfl, rfl, trivial⟩
   ·exact uI
   exact uI
  refine ⟨_, _, _, _, _, rfl, rfl, ?_⟩
  refine qBt rfl (fun b66 => ?_)
  refine uE ?_
  refine qAt (l := #[true, true, true, true, true, false, false, true, true, true, true, true, true, true, true, false, false, false]) (by kernel_rfl) (qAu ?_ ?_ ?_ ((hW _ _ _ _).1 (st3714 s55 b59 b66)))
  ·exact ⟨rfl, rfl, rfl, rfl, rfl, rfl, rfl, rfl, trivial⟩
  ·exact uI
  exact uI
 have st56 : ∀ (b57 b58 : Nat), W 7 #[true, true, true, false, true, true, true, false, true, true, true, true, true, false, false, false, false, false] [(12, uPt b46), (52, uPt a), (53, .string ⟨⟨n0⟩⟩), (54, .int .i64 (most : Nat)), (56, uPt l), (64, .int .i64 ((qAa Cn.nil ts).G.length : Nat)), (57, .map (some b57)), (58, .map (some b58))] [cells b46 [.slice (CtG.mk rq rc lq lc kb).rq ((qAa Cn.nil ts)).G.length (CtG.mk rq rc lq lc kb).rc, .slice (CtG.mk rq rc lq lc kb).lq ((qAa Cn.nil ts)).G.length (CtG.mk rq rc lq lc kb).lc, .map (some (CtG.mk rq rc lq lc kb).nb)] 87, sl (CtG.mk rq rc lq lc kb).rq (CtG.mk rq rc lq lc kb).rc 115 5 ((qAa Cn.nil ts)).G.length (rusC ((qAa Cn.nil ts)).G), sl (CtG.mk rq rc lq lc kb).lq (CtG.mk rq rc lq lc kb).lc 3 1 ((qAa Cn.nil ts)).G.length (idC (lnsL ((qAa Cn.nil ts)).G)), qAb (CtG.mk rq rc lq lc kb).nb (nmF ((qAa Cn.nil ts)).N), fsP a n0 (n0 ++ qAc) x0 none Pwr.on, cells l [uPt a, .string ⟨⟨n0⟩⟩, .int .i64 (ys.length : Nat), .int .i64 ((frs (pays 0 ts)).length : Nat), .bool false] 137, qAb b57 (fun _ => none), qAb b58 (fun _ => none), R] := by
  intro b57 b58
  refine (hW _ _ _ _).2 ?_
  refine qEq [3, 7] (by kernel_rfl) (by simp) (fun i hi => ?_)
  simp only [List.mem_cons, List.not_mem_nil, or_false] at hi
  rcases hi with rfl | rfl
  ·refine ⟨_, _, _, _, _, rfl, rfl, ?_⟩
   refine uC (qCk (most := most) hE hmr) rfl ?_
   rintro _ _ ⟨s55, rfl, rfl⟩
   simp only [uV, uW]
   refine uE ?_
   refine qAt (l := #[true, true, true, true, true, true, true, false, true, true, true, true, true, false, false, false, false, false]) (by kernel_rfl) (qAu ?_ ?_ ?_ ((hW _ _ _ _).1 (st356 s55 b57 b58)))
   ·exact ⟨rfl, rfl, rfl, rfl, rfl, rfl, rfl, rfl, rfl, trivial⟩
   ·exact uI
   exact uI
  refine ⟨_, _, _, _, _, rfl, rfl, ?_⟩
  refine qCs .i64 (fun b59 => ?_)
  refine uE ?_
  refine uT 13 rfl (qBc (hE.t rfl) rfl rfl) ?_
  refine qAt (l := #[true, true, true, false, true, true, true, true, true, true, true, true, true, true, false, false, false, false]) (by kernel_rfl) (qAu ?_ ?_ ?_ ((hW _ _ _ _).1 (st567 b57 b58 b59)))
  ·exact ⟨rfl, rfl, rfl, rfl, rfl, rfl, rfl, rfl, rfl, trivial⟩
  ·exact uI
  exact uI
 have st57 : ∀ (b57 b59 : Nat), W 6 #[true, true, true, false, true, true, false, true, true, true, true, true, true, true, false, false, false, false] [(12, uPt b46), (52, uPt a), (53, .string ⟨⟨n0⟩⟩), (54, .int .i64 (most : Nat)), (56, uPt l), (64, .int .i64 ((qAa Cn.nil ts).G.length : Nat)), (57, .map (some b57)), (65, .agg #[.map (some b59), .int .i64 ((qAa Cn.nil ts).G.length : Nat)])] [cells b46 [.slice (CtG.mk rq rc lq lc kb).rq ((qAa Cn.nil ts)).G.length (CtG.mk rq rc lq lc kb).rc, .slice (CtG.mk rq rc lq lc kb).lq ((qAa Cn.nil ts)).G.length (CtG.mk rq rc lq lc kb).lc, .map (some (CtG.mk rq rc lq lc kb).nb)] 87, sl (CtG.mk rq rc lq lc kb).rq (CtG.mk rq rc lq lc kb).rc 115 5 ((qAa Cn.nil ts)).G.length (rusC ((qAa Cn.nil ts)).G), sl (CtG.mk rq rc lq lc kb).lq (CtG.mk rq rc lq lc kb).lc 3 1 ((qAa Cn.nil ts)).G.length (idC (lnsL ((qAa Cn.nil ts)).G)), qAb (CtG.mk rq rc lq lc kb).nb (nmF ((qAa Cn.nil ts)).N), fsP a n0 (n0 ++ qAc) x0 none Pwr.on, cells l [uPt a, .string ⟨⟨n0⟩⟩, .int .i64 (ys.length : Nat), .int .i64 ((frs (pays 0 ts)).length : Nat), .bool false] 137, qAb b57 (fun _ => none), mapF b59 .i64 (fun _ => none), R] := by
  intro b57 b59
  refine (hW _ _ _ _).2 ?_
  refine qEq [3, 6, 14] (by kernel_rfl) (by simp) (fun i hi => ?_)
  simp only [List.mem_cons, List.not_mem_nil, or_false] at hi
  rcases hi with rfl | rfl | rfl
  ·refine ⟨_, _, _, _, _, rfl, rfl, ?_⟩
   refine uC (qCk (most := most) hE hmr) rfl ?_
   rintro _ _ ⟨s55, rfl, rfl⟩
   simp only [uV, uW]
   refine uE ?_
   refine qAt (l := #[true, true, true, true, true, true, false, true, true, true, true, true, true, true, false, false, false, false]) (by kernel_rfl) (qAu ?_ ?_ ?_ ((hW _ _ _ _).1 (st357 s55 b57 b59)))
   ·exact ⟨rfl, rfl, rfl, rfl, rfl, rfl, rfl, rfl, rfl, trivial⟩
   ·exact uI
   exact uI
  ·refine ⟨_, _, _, _, _, rfl, rfl, ?_⟩
   refine qAn (fun b58 => ?_)
   refine uE ?_
   refine qAt (l := #[true, true, true, false, true, true, true, true, true, true, true, true, true, true, false, false, false, false]) (by kernel_rfl) (qAu ?_ ?_ ?_ ((hW _ _ _ _).1 (st567 b57 b58 b59)))
   ·exact ⟨rfl, rfl, rfl, rfl, rfl, rfl, rfl, rfl, rfl, trivial⟩
   ·exact uI
   exact uI
  refine ⟨_, _, _, _, _, rfl, rfl, ?_⟩
  refine qBt rfl (fun b66 => ?_)
  refine uE ?_
  refine qAt (l := #[true, true, true, false, true, true, false, true, true, true, true, true, true, true, true, false, false, false]) (by kernel_rfl) (qAu ?_ ?_ ?_ ((hW _ _ _ _).1 (st5714 b57 b59 b66)))
  ·exact ⟨rfl, rfl, rfl, rfl, rfl, rfl, rfl, rfl, trivial⟩
  ·exact uI
  exact uI
 have st67 : ∀ (b58 b59 : Nat), W 6 #[true, true, true, false, true, false, true, true, true, true, true, true, true, true, false, false, false, false] [(12, uPt b46), (52, uPt a), (53, .string ⟨⟨n0⟩⟩), (54, .int .i64 (most : Nat)), (56, uPt l), (64, .int .i64 ((qAa Cn.nil ts).G.length : Nat)), (58, .map (some b58)), (65, .agg #[.map (some b59), .int .i64 ((qAa Cn.nil ts).G.length : Nat)])] [cells b46 [.slice (CtG.mk rq rc lq lc kb).rq ((qAa Cn.nil ts)).G.length (CtG.mk rq rc lq lc kb).rc, .slice (CtG.mk rq rc lq lc kb).lq ((qAa Cn.nil ts)).G.length (CtG.mk rq rc lq lc kb).lc, .map (some (CtG.mk rq rc lq lc kb).nb)] 87, sl (CtG.mk rq rc lq lc kb).rq (CtG.mk rq rc lq lc kb).rc 115 5 ((qAa Cn.nil ts)).G.length (rusC ((qAa Cn.nil ts)).G), sl (CtG.mk rq rc lq lc kb).lq (CtG.mk rq rc lq lc kb).lc 3 1 ((qAa Cn.nil ts)).G.length (idC (lnsL ((qAa Cn.nil ts)).G)), qAb (CtG.mk rq rc lq lc kb).nb (nmF ((qAa Cn.nil ts)).N), fsP a n0 (n0 ++ qAc) x0 none Pwr.on, cells l [uPt a, .string ⟨⟨n0⟩⟩, .int .i64 (ys.length : Nat), .int .i64 ((frs (pays 0 ts)).length : Nat), .bool false] 137, qAb b58 (fun _ => none), mapF b59 .i64 (fun _ => none), R] := by
  intro b58 b59
  refine (hW _ _ _ _).2 ?_
  refine qEq [3, 5, 14] (by kernel_rfl) (by simp) (fun i hi => ?_)
  simp only [List.mem_cons, List.not_mem_nil, or_false] at hi
  rcases hi with rfl | rfl | rfl
  ·refine ⟨_, _, _, _, _, rfl, rfl, ?_⟩
   refine uC (qCk (most := most) hE hmr) rfl ?_
   rintro _ _ ⟨s55, rfl, rfl⟩
   simp only [uV, uW]
   refine uE ?_
   refine qAt (l := #[true, true, true, true, true, false, true, true, true, true, true, true, true, true, false, false, false, false]) (by kernel_rfl) (qAu ?_ ?_ ?_ ((hW _ _ _ _).1 (st367 s55 b58 b59)))
   ·exact ⟨rfl, rfl, rfl, rfl, rfl, rfl, rfl, rfl, rfl, trivial⟩
   ·exact uI
   exact uI
  ·refine ⟨_, _, _, _, _, rfl, rfl, ?_⟩
   refine qAn (fun b57 => ?_)
   refine uE ?_
   refine qAt (l := #[true, true, true, false, true, true, true, true, true, true, true, true, true, true, false, false, false, false]) (by kernel_rfl) (qAu ?_ ?_ ?_ ((hW _ _ _ _).1 (st567 b57 b58 b59)))
   ·exact ⟨rfl, rfl, rfl, rfl, rfl, rfl, rfl, rfl, rfl, trivial⟩
   ·exact uI
   exact uI
  refine ⟨_, _, _, _, _, rfl, rfl, ?_⟩
  refine qBt rfl (fun b66 => ?_)
  refine uE ?_
  refine qAt (l := #[true, true, true, false, true, false, true, true, true, true, true, true, true, true, true, false, false, false]) (by kernel_rfl) (qAu ?_ ?_ ?_ ((hW _ _ _ _).1 (st6714 b58 b59 b66)))
  ·exact ⟨rfl, rfl, rfl, rfl, rfl, rfl, rfl, rfl, trivial⟩
  ·exact uI
  exact uI
 have st714 : ∀ (b59 b66 : Nat), W 6 #[true, true, true, false, true, false, false, true, true, true, true, true, true, true, true, false, false, false] [(12, uPt b46), (52, uPt a), (53, .string ⟨⟨n0⟩⟩), (54, .int .i64 (most : Nat)), (56, uPt l), (64, .int .i64 ((qAa Cn.nil ts).G.length : Nat)), (66, uPt b66)] [cells b46 [.slice (CtG.mk rq rc lq lc kb).rq ((qAa Cn.nil ts)).G.length (CtG.mk rq rc lq lc kb).rc, .slice (CtG.mk rq rc lq lc kb).lq ((qAa Cn.nil ts)).G.length (CtG.mk rq rc lq lc kb).lc, .map (some (CtG.mk rq rc lq lc kb).nb)] 87, sl (CtG.mk rq rc lq lc kb).rq (CtG.mk rq rc lq lc kb).rc 115 5 ((qAa Cn.nil ts)).G.length (rusC ((qAa Cn.nil ts)).G), sl (CtG.mk rq rc lq lc kb).lq (CtG.mk rq rc lq lc kb).lc 3 1 ((qAa Cn.nil ts)).G.length (idC (lnsL ((qAa Cn.nil ts)).G)), qAb (CtG.mk rq rc lq lc kb).nb (nmF ((qAa Cn.nil ts)).N), fsP a n0 (n0 ++ qAc) x0 none Pwr.on, cells l [uPt a, .string ⟨⟨n0⟩⟩, .int .i64 (ys.length : Nat), .int .i64 ((frs (pays 0 ts)).length : Nat), .bool false] 137, mapF b59 .i64 (fun _ => none), cells b66 [.map (some b59), .int .i64 ((qAa Cn.nil ts).G.length : Nat)] 95, R] := by
  intro b59 b66
  refine (hW _ _ _ _).2 ?_
  refine qEq [3, 5, 6] (by kernel_rfl) (by simp) (fun i hi => ?_)
  simp only [List.mem_cons, List.not_mem_nil, or_false] at hi
  rcases hi with rfl | rfl | rfl
  ·refine ⟨_, _, _, _, _, rfl, rfl, ?_⟩
   refine uC (qCk (most := most) hE hmr) rfl ?_
   rintro _ _ ⟨s55, rfl, rfl⟩
   simp only [uV, uW]
   refine uE ?_
   refine qAt (l := #[true, true, true, true, true, false, false, true, true, true, true, true, true, true, true, false, false, false]) (by kernel_rfl) (qAu ?_ ?_ ?_ ((hW _ _ _ _).1 (st3714 s55 b59 b66)))
   ·exact ⟨rfl, rfl, rfl, rfl, rfl, rfl, rfl, rfl, trivial⟩
   ·exact uI
   exact uI
  ·refine ⟨_, _, _, _, _, rfl, rfl, ?_⟩
   refine qAn (fun b57 => ?_)
   refine uE ?_
   refine qAt (l := #[true, true, true, false, true, true, false, true, true, true, true, true, true, true, true, false, false, false]) (by kernel_rfl) (qAu ?_ ?_ ?_ ((hW _ _ _ _).1 (st5714 b57 b59 b66)))
   ·exact ⟨rfl, rfl, rfl, rfl, rfl, rfl, rfl, rfl, trivial⟩
   ·exact uI
   exact uI
  refine ⟨_, _, _, _, _, rfl, rfl, ?_⟩
  refine qAn (fun b58 => ?_)
  refine uE ?_
  refine qAt (l := #[true, true, true, false, true, false, true, true, true, true, true, true, true, true, true, false, false, false]) (by kernel_rfl) (qAu ?_ ?_ ?_ ((hW _ _ _ _).1 (st6714 b58 b59 b66)))
  ·exact ⟨rfl, rfl, rfl, rfl, rfl, rfl, rfl, rfl, trivial⟩
  ·exact uI
  exact uI
 have st3 : ∀ (s55 : Nat), W 8 #[true, true, true, true, true, false, false, false, true, true, true, true, true, false, false, false, false, false] [(12, uPt b46), (52, uPt a), (53, .string ⟨⟨n0⟩⟩), (54, .int .i64 (most : Nat)), (56, uPt l), (64, .int .i64 ((qAa Cn.nil ts).G.length : Nat)), (55, uPt s55)] [cells b46 [.slice (CtG.mk rq rc lq lc kb).rq ((qAa Cn.nil ts)).G.length (CtG.mk rq rc lq lc kb).rc, .slice (CtG.mk rq rc lq lc kb).lq ((qAa Cn.nil ts)).G.length (CtG.mk rq rc lq lc kb).lc, .map (some (CtG.mk rq rc lq lc kb).nb)] 87, sl (CtG.mk rq rc lq lc kb).rq (CtG.mk rq rc lq lc kb).rc 115 5 ((qAa Cn.nil ts)).G.length (rusC ((qAa Cn.nil ts)).G), sl (CtG.mk rq rc lq lc kb).lq (CtG.mk rq rc lq lc kb).lc 3 1 ((qAa Cn.nil ts)).G.length (idC (lnsL ((qAa Cn.nil ts)).G)), qAb (CtG.mk rq rc lq lc kb).nb (nmF ((qAa Cn.nil ts)).N), fsP a n0 (n0 ++ qAc) x0 none Pwr.on, cells l [uPt a, .string ⟨⟨n0⟩⟩, .int .i64 (ys.length : Nat), .int .i64 ((frs (pays 0 ts)).length : Nat), .bool false] 137, zS s55 most [], R] := by
  intro s55
  refine (hW _ _ _ _).2 ?_
  refine qEq [5, 6, 7] (by kernel_rfl) (by simp) (fun i hi => ?_)
  simp only [List.mem_cons, List.not_mem_nil, or_false] at hi
  rcases hi with rfl | rfl | rfl
  ·refine ⟨_, _, _, _, _, rfl, rfl, ?_⟩
   refine qAn (fun b57 => ?_)
   refine uE ?_
   refine qAt (l := #[true, true, true, true, true, true, false, false, true, true, true, true, true, false, false, false, false, false]) (by kernel_rfl) (qAu ?_ ?_ ?_ ((hW _ _ _ _).1 (st35 s55 b57)))
   ·exact ⟨rfl, rfl, rfl, rfl, rfl, rfl, rfl, rfl, trivial⟩
   ·exact uI
   exact uI
  ·refine ⟨_, _, _, _, _, rfl, rfl, ?_⟩
   refine qAn (fun b58 => ?_)
   refine uE ?_
   refine qAt (l := #[true, true, true, true, true, false, true, false, true, true, true, true, true, false, false, false, false, false]) (by kernel_rfl) (qAu ?_ ?_ ?_ ((hW _ _ _ _).1 (st36 s55 b58)))
   ·exact ⟨rfl, rfl, rfl, rfl, rfl, rfl, rfl, rfl, trivial⟩
   ·exact uI
   exact uI
  refine ⟨_, _, _, _, _, rfl, rfl, ?_⟩
  refine qCs .i64 (fun b59 => ?_)
  refine uE ?_
  refine uT 13 rfl (qBc (hE.t rfl) rfl rfl) ?_
  refine qAt (l := #[true, true, true, true, true, false, false, true, true, true, true, true, true, true, false, false, false, false]) (by kernel_rfl) (qAu ?_ ?_ ?_ ((hW _ _ _ _).1 (st37 s55 b59)))
  ·exact ⟨rfl, rfl, rfl, rfl, rfl, rfl, rfl, rfl, trivial⟩
  ·exact uI
  exact uI
 have st5 : ∀ (b57 : Nat), W 8 #[true, true, true, false, true, true, false, false, true, true, true, true, true, false, false, false, false, false] [(12, uPt b46), (52, uPt a), (53, .string ⟨⟨n0⟩⟩), (54, .int .i64 (most : Nat)), (56, uPt l), (64, .int .i64 ((qAa Cn.nil ts).G.length : Nat)), (57, .map (some b57))] [cells b46 [.slice (CtG.mk rq rc lq lc kb).rq ((qAa Cn.nil ts)).G.length (CtG.mk rq rc lq lc kb).rc, .slice (CtG.mk rq rc lq lc kb).lq ((qAa Cn.nil ts)).G.length (CtG.mk rq rc lq lc kb).lc, .map (some (CtG.mk rq rc lq lc kb).nb)] 87, sl (CtG.mk rq rc lq lc kb).rq (CtG.mk rq rc lq lc kb).rc 115 5 ((qAa Cn.nil ts)).G.length (rusC ((qAa Cn.nil ts)).G), sl (CtG.mk rq rc lq lc kb).lq (CtG.mk rq rc lq lc kb).lc 3 1 ((qAa Cn.nil ts)).G.length (idC (lnsL ((qAa Cn.nil ts)).G)), qAb (CtG.mk rq rc lq lc kb).nb (nmF ((qAa Cn.nil ts)).N), fsP a n0 (n0 ++ qAc) x0 none Pwr.on, cells l [uPt a, .string ⟨⟨n0⟩⟩, .int .i64 (ys.length : Nat), .int .i64 ((frs (pays 0 ts)).length : Nat), .bool false] 137, qAb b57 (fun _ => none), R] := by
  intro b57
  refine (hW _ _ _ _).2 ?_
  refine qEq [3, 6, 7] (by kernel_rfl) (by simp) (fun i hi => ?_)
  simp only [List.mem_cons, List.not_mem_nil, or_false] at hi
  rcases hi with rfl | rfl | rfl
  ·refine ⟨_, _, _, _, _, rfl, rfl, ?_⟩
   refine uC (qCk (most := most) hE hmr) rfl ?_
   rintro _ _ ⟨s55, rfl, rfl⟩
   simp only [uV, uW]
   refine uE ?_
   refine qAt (l := #[true, true, true, true, true, true, false, false, true, true, true, true, true, false, false, false, false, false]) (by kernel_rfl) (qAu ?_ ?_ ?_ ((hW _ _ _ _).1 (st35 s55 b57)))
   ·exact ⟨rfl, rfl, rfl, rfl, rfl, rfl, rfl, rfl, trivial⟩
   ·exact uI
   exact uI
  ·refine ⟨_, _, _, _, _, rfl, rfl, ?_⟩
   refine qAn (fun b58 => ?_)
   refine uE ?_
   refine qAt (l := #[true, true, true, false, true, true, true, false, true, true, true, true, true, false, false, false, false, false]) (by kernel_rfl) (qAu ?_ ?_ ?_ ((hW _ _ _ _).1 (st56 b57 b58)))
   ·exact ⟨rfl, rfl, rfl, rfl, rfl, rfl, rfl, rfl, trivial⟩
   ·exact uI
   exact uI
  refine ⟨_, _, _, _, _, rfl, rfl, ?_⟩
  refine qCs .i64 (fun b59 => ?_)
  refine uE ?_
  refine uT 13 rfl (qBc (hE.t rfl) rfl rfl) ?_
  refine qAt (l := #[true, true, true, false, true, true, false, true, true, true, true, true, true, true, false, false, false, false]) (by kernel_rfl) (qAu ?_ ?_ ?_ ((hW _ _ _ _).1 (st57 b57 b59)))
  ·exact ⟨rfl, rfl, rfl, rfl, rfl, rfl, rfl, rfl, trivial⟩
  ·exact uI
  exact uI
 have st6 : ∀ (b58 : Nat), W 8 #[true, true, true, false, true, false, true, false, true, true, true, true, true, false, false, false, false, false] [(12, uPt b46), (52, uPt a), (53, .string ⟨⟨n0⟩⟩), (54, .int .i64 (most : Nat)), (56, uPt l), (64, .int .i64 ((qAa Cn.nil ts).G.length : Nat)), (58, .map (some b58))] [cells b46 [.slice (CtG.mk rq rc lq lc kb).rq ((qAa Cn.nil ts)).G.length (CtG.mk rq rc lq lc kb).rc, .slice (CtG.mk rq rc lq lc kb).lq ((qAa Cn.nil ts)).G.length (CtG.mk rq rc lq lc kb).lc, .map (some (CtG.mk rq rc lq lc kb).nb)] 87, sl (CtG.mk rq rc lq lc kb).rq (CtG.mk rq rc lq lc kb).rc 115 5 ((qAa Cn.nil ts)).G.length (rusC ((qAa Cn.nil ts)).G), sl (CtG.mk rq rc lq lc kb).lq (CtG.mk rq rc lq lc kb).lc 3 1 ((qAa Cn.nil ts)).G.length (idC (lnsL ((qAa Cn.nil ts)).G)), qAb (CtG.mk rq rc lq lc kb).nb (nmF ((qAa Cn.nil ts)).N), fsP a n0 (n0 ++ qAc) x0 none Pwr.on, cells l [uPt a, .string ⟨⟨n0⟩⟩, .int .i64 (ys.length : Nat), .int .i64 ((frs (pays 0 ts)).length : Nat), .bool false] 137, qAb b58 (fun _ => none), R] := by
  intro b58
  refine (hW _ _ _ _).2 ?_
  refine qEq [3, 5, 7] (by kernel_rfl) (by simp) (fun i hi => ?_)
  simp only [List.mem_cons, List.not_mem_nil, or_false] at hi
  rcases hi with rfl | rfl | rfl
  ·refine ⟨_, _, _, _, _, rfl, rfl, ?_⟩
   refine uC (qCk (most := most) hE hmr) rfl ?_
   rintro _ _ ⟨s55, rfl, rfl⟩
   simp only [uV, uW]
   refine uE ?_
   refine qAt (l := #[true, true, true, true, true, false, true, false, true, true, true, true, true, false, false, false, false, false]) (by kernel_rfl) (qAu ?_ ?_ ?_ ((hW _ _ _ _).1 (st36 s55 b58)))
   ·exact ⟨rfl, rfl, rfl, rfl, rfl, rfl, rfl, rfl, trivial⟩
   ·exact uI
   exact uI
  ·refine ⟨_, _, _, _, _, rfl, rfl, ?_⟩
   refine qAn (fun b57 => ?_)
   refine uE ?_
   refine qAt (l := #[true, true, true, false, true, true, true, false, true, true, true, true, true, false, false, false, false, false]) (by kernel_rfl) (qAu ?_ ?_ ?_ ((hW _ _ _ _).1 (st56 b57 b58)))
   ·exact ⟨rfl, rfl, rfl, rfl, rfl, rfl, rfl, rfl, trivial⟩
   ·exact uI
   exact uI
  refine ⟨_, _, _, _, _, rfl, rfl, ?_⟩
  refine qCs .i64 (fun b59 => ?_)
  refine uE ?_
  refine uT 13 rfl (qBc (hE.t rfl) rfl rfl) ?_
  refine qAt (l := #[true, true, true, false, true, false, true, true, true, true, true, true, true, true, false, false, false, false]) (by kernel_rfl) (qAu ?_ ?_ ?_ ((hW _ _ _ _).1 (st67 b58 b59)))
  ·exact ⟨rfl, rfl, rfl, rfl, rfl, rfl, rfl, rfl, trivial⟩
  ·exact uI
  exact uI
 have st7 : ∀ (b59 : Nat), W 7 #[true, true, true, false, true, false, false, true, true, true, true, true, true, true, false, false, false, false] [(12, uPt b46), (52, uPt a), (53, .string ⟨⟨n0⟩⟩), (54, .int .i64 (most : Nat)), (56, uPt l), (64, .int .i64 ((qAa Cn.nil ts).G.length : Nat)), (65, .agg #[.map (some b59), .int .i64 ((qAa Cn.nil ts).G.length : Nat)])] [cells b46 [.slice (CtG.mk rq rc lq lc kb).rq ((qAa Cn.nil ts)).G.length (CtG.mk rq rc lq lc kb).rc, .slice (CtG.mk rq rc lq lc kb).lq ((qAa Cn.nil ts)).G.length (CtG.mk rq rc lq lc kb).lc, .map (some (CtG.mk rq rc lq lc kb).nb)] 87, sl (CtG.mk rq rc lq lc kb).rq (CtG.mk rq rc lq lc kb).rc 115 5 ((qAa Cn.nil ts)).G.length (rusC ((qAa Cn.nil ts)).G), sl (CtG.mk rq rc lq lc kb).lq (CtG.mk rq rc lq lc kb).lc 3 1 ((qAa Cn.nil ts)).G.length (idC (lnsL ((qAa Cn.nil ts)).G)), qAb (CtG.mk rq rc lq lc kb).nb (nmF ((qAa Cn.nil ts)).N), fsP a n0 (n0 ++ qAc) x0 none Pwr.on, cells l [uPt a, .string ⟨⟨n0⟩⟩, .int .i64 (ys.length : Nat), .int .i64 ((frs (pays 0 ts)).length : Nat), .bool false] 137, mapF b59 .i64 (fun _ => none), R] := by
  intro b59
  refine (hW _ _ _ _).2 ?_
  refine qEq [3, 5, 6, 14] (by kernel_rfl) (by simp) (fun i hi => ?_)
  simp only [List.mem_cons, List.not_mem_nil, or_false] at hi
  rcases hi with rfl | rfl | rfl | rfl
  ·refine ⟨_, _, _, _, _, rfl, rfl, ?_⟩
   refine uC (qCk (most := most) hE hmr) rfl ?_
   rintro _ _ ⟨s55, rfl, rfl⟩
   simp only [uV, uW]
   refine uE ?_
   refine qAt (l := #[true, true, true, true, true, false, false, true, true, true, true, true, true, true, false, false, false, false]) (by kernel_rfl) (qAu ?_ ?_ ?_ ((hW _ _ _ _).1 (st37 s55 b59)))
   ·exact ⟨rfl, rfl, rfl, rfl, rfl, rfl, rfl, rfl, trivial⟩
   ·exact uI
   exact uI
  ·refine ⟨_, _, _, _, _, rfl, rfl, ?_⟩
   refine qAn (fun b57 => ?_)
   refine uE ?_
   refine qAt (l := #[true, true, true, false, true, true, false, true, true, true, true, true, true, true, false, false, false, false]) (by kernel_rfl) (qAu ?_ ?_ ?_ ((hW _ _ _ _).1 (st57 b57 b59)))
   ·exact ⟨rfl, rfl, rfl, rfl, rfl, rfl, rfl, rfl, trivial⟩
   ·exact uI
   exact uI
  ·refine ⟨_, _, _, _, _, rfl, rfl, ?_⟩
   refine qAn (fun b58 => ?_)
   refine uE ?_
   refine qAt (l := #[true, true, true, false, true, false, true, true, true, true, true, true, true, true, false, false, false, false]) (by kernel_rfl) (qAu ?_ ?_ ?_ ((hW _ _ _ _).1 (st67 b58 b59)))
   ·exact ⟨rfl, rfl, rfl, rfl, rfl, rfl, rfl, rfl, trivial⟩
   ·exact uI
   exact uI
  refine ⟨_, _, _, _, _, rfl, rfl, ?_⟩
  refine qBt rfl (fun b66 => ?_)
  refine uE ?_
  refine qAt (l := #[true, true, true, false, true, false, false, true, true, true, true, true, true, true, true, false, false, false]) (by kernel_rfl) (qAu ?_ ?_ ?_ ((hW _ _ _ _).1 (st714 b59 b66)))
  ·exact ⟨rfl, rfl, rfl, rfl, rfl, rfl, rfl, trivial⟩
  ·exact uI
  exact uI
 have st0 : W 9 #[true, true, true, false, true, false, false, false, true, true, true, true, true, false, false, false, false, false] [(12, uPt b46), (52, uPt a), (53, .string ⟨⟨n0⟩⟩), (54, .int .i64 (most : Nat)), (56, uPt l), (64, .int .i64 ((qAa Cn.nil ts).G.length : Nat))] [cells b46 [.slice (CtG.mk rq rc lq lc kb).rq ((qAa Cn.nil ts)).G.length (CtG.mk rq rc lq lc kb).rc, .slice (CtG.mk rq rc lq lc kb).lq ((qAa Cn.nil ts)).G.length (CtG.mk rq rc lq lc kb).lc, .map (some (CtG.mk rq rc lq lc kb).nb)] 87, sl (CtG.mk rq rc lq lc kb).rq (CtG.mk rq rc lq lc kb).rc 115 5 ((qAa Cn.nil ts)).G.length (rusC ((qAa Cn.nil ts)).G), sl (CtG.mk rq rc lq lc kb).lq (CtG.mk rq rc lq lc kb).lc 3 1 ((qAa Cn.nil ts)).G.length (idC (lnsL ((qAa Cn.nil ts)).G)), qAb (CtG.mk rq rc lq lc kb).nb (nmF ((qAa Cn.nil ts)).N), fsP a n0 (n0 ++ qAc) x0 none Pwr.on, cells l [uPt a, .string ⟨⟨n0⟩⟩, .int .i64 (ys.length : Nat), .int .i64 ((frs (pays 0 ts)).length : Nat), .bool false] 137, R] := by
  refine (hW _ _ _ _).2 ?_
  refine qEq [3, 5, 6, 7] (by kernel_rfl) (by simp) (fun i hi => ?_)
  simp only [List.mem_cons, List.not_mem_nil, or_false] at hi
  rcases hi with rfl | rfl | rfl | rfl
  ·refine ⟨_, _, _, _, _, rfl, rfl, ?_⟩
   refine uC (qCk (most := most) hE hmr) rfl ?_
   rintro _ _ ⟨s55, rfl, rfl⟩
   simp only [uV, uW]
   refine uE ?_
   refine qAt (l := #[true, true, true, true, true, false, false, false, true, true, true, true, true, false, false, false, false, false]) (by kernel_rfl) (qAu ?_ ?_ ?_ ((hW _ _ _ _).1 (st3 s55)))
   ·exact ⟨rfl, rfl, rfl, rfl, rfl, rfl, rfl, trivial⟩
   ·exact uI
   exact uI
  ·refine ⟨_, _, _, _, _, rfl, rfl, ?_⟩
   refine qAn (fun b57 => ?_)
   refine uE ?_
   refine qAt (l := #[true, true, true, false, true, true, false, false, true, true, true, true, true, false, false, false, false, false]) (by kernel_rfl) (qAu ?_ ?_ ?_ ((hW _ _ _ _).1 (st5 b57)))
   ·exact ⟨rfl, rfl, rfl, rfl, rfl, rfl, rfl, trivial⟩
   ·exact uI
   exact uI
  ·refine ⟨_, _, _, _, _, rfl, rfl, ?_⟩
   refine qAn (fun b58 => ?_)
   refine uE ?_
   refine qAt (l := #[true, true, true, false, true, false, true, false, true, true, true, true, true, false, false, false, false, false]) (by kernel_rfl) (qAu ?_ ?_ ?_ ((hW _ _ _ _).1 (st6 b58)))
   ·exact ⟨rfl, rfl, rfl, rfl, rfl, rfl, rfl, trivial⟩
   ·exact uI
   exact uI
  refine ⟨_, _, _, _, _, rfl, rfl, ?_⟩
  refine qCs .i64 (fun b59 => ?_)
  refine uE ?_
  refine uT 13 rfl (qBc (hE.t rfl) rfl rfl) ?_
  refine qAt (l := #[true, true, true, false, true, false, false, true, true, true, true, true, true, true, false, false, false, false]) (by kernel_rfl) (qAu ?_ ?_ ?_ ((hW _ _ _ _).1 (st7 b59)))
  ·exact ⟨rfl, rfl, rfl, rfl, rfl, rfl, rfl, trivial⟩
  ·exact uI
  exact uI
 refine (hW _ _ _ _).2 (qAt (l := #[true, true, true, false, true, false, false, false, true, true, true, true, true, false, false, false, false, false]) (by kernel_rfl) (qAu ?_ ?_ ?_ ((hW _ _ _ _).1 st0)))
 ·exact ⟨rfl, rfl, rfl, rfl, rfl, rfl, trivial⟩
 ·exact uI
 exact uI
theorem qZf (hE : Seat E) {a : Nat} {n0 : List UInt8} {x0 : Option Fl} {ts : List Tx49} (h1 : 1 ≤ n0.length) (h2 : n0.length ≤ 28) (hx : hasF x0 (pays 0 ts)) (hps : ∀ p ∈ pays 0 ts, 1 ≤ p.length ∧ p.length ≤ 1048576) (hfl : (frs (pays 0 ts)).length ≤ 1000000000)
  (hft : Fit [] ts) (hw : Wf (qAa Cn.nil ts).G) (hmr : most ≤ qBu) (hN : ∀ x k, (qAa Cn.nil ts).N x = some k → k ≤ (qAa Cn.nil ts).G.length) :
  Ct E 10 [uPt a, .string ⟨⟨n0⟩⟩, .int .i64 (most : Nat)] [fsP a n0 (n0 ++ qAc) x0 none Pwr.on]
   (fun v Q => ((qAa Cn.nil ts).G.length ≤ most ∧ ∃ d s Es, v = .tuple #[uPt d, .nilIface] ∧ rls Es = (qAa Cn.nil ts).G ∧ Q = [fsP a n0 (n0 ++ qAc) x0 none Pwr.on, zS s most Es, dsP d a n0 s (qAa Cn.nil ts).N (fun _ => false) (idV (qAa Cn.nil ts).G.length) (frs (pays 0 ts)).length]) ∨ (most < (qAa Cn.nil ts).G.length ∧ v = .tuple #[.pointer none, .iface 31 (.int .i64 3)] ∧ Q = [fsP a n0 (n0 ++ qAc) x0 none Pwr.on])) := by
 obtain ⟨hn, hn1, hne⟩ := qGc h1 h2
 exact qRs hE h1 h2 (qDu hE hn1 hne) (qId hE hn hps hx hfl) hfl hft hw hmr hN
theorem ct_dOpen (hE : Seat E) {a : Nat} {n0 : List UInt8} {x0 : Option Fl} {ts : List Tx49} (h1 : 1 ≤ n0.length) (h2 : n0.length ≤ 28) (hx : hasF x0 (pays 0 ts)) (hps : ∀ p ∈ pays 0 ts, 1 ≤ p.length ∧ p.length ≤ 1048576) (hfl : (frs (pays 0 ts)).length ≤ 1000000000)
  (hft : Fit [] ts) (hw : Wf (qAa Cn.nil ts).G) (hm : (qAa Cn.nil ts).G.length ≤ most) (hmr : most ≤ qBu) (hN : ∀ x k, (qAa Cn.nil ts).N x = some k → k ≤ (qAa Cn.nil ts).G.length) :
  Ct E 10 [uPt a, .string ⟨⟨n0⟩⟩, .int .i64 (most : Nat)] [fsP a n0 (n0 ++ qAc) x0 none Pwr.on]
   (fun v Q => ∃ d s Es, v = .tuple #[uPt d, .nilIface] ∧ rls Es = (qAa Cn.nil ts).G ∧ Q = [fsP a n0 (n0 ++ qAc) x0 none Pwr.on, zS s most Es, dsP d a n0 s (qAa Cn.nil ts).N (fun _ => false) (idV (qAa Cn.nil ts).G.length) (frs (pays 0 ts)).length]) :=
 (qZf hE h1 h2 hx hps hfl hft hw hmr hN).mono fun v Q h => by
  rcases h with ⟨_, h⟩ | ⟨h, _⟩
  ·exact h
  omega
end Go.Proofs.YtddfnkijolfhbaaGreat
