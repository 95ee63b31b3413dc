import Derived.Test.YtkkjjablmmmmkaaGreatDoorQ64
set_option linter.all false
namespace Sl
open Go Go.RowKit
variable {E : Env} {n : Nat} {L : Fr} {S S' : List HP} {ty : TypeId} {pos : String} {af : Array Edge} {d : Option Nat} {gd : Option (Nat × Bool)}
theorem qNg {x : Operand} {src dst e : TypeId} {a : Option Addr} {bs : List UInt8} {c s by_ sz sz1 sz2 : Nat} {zs zs1 zs2 : List Value} {q : HP} (hx : ev L x = some (.slice a bs.length c)) (hs : E.tab src = some ⟨.slice e s by_, sz, zs⟩) (he : E.tab e = some ⟨.int .u8, sz1, zs1⟩) (hd : E.tab dst = some ⟨.string, sz2, zs2⟩)
  (hq : Rdb E.w0 a (bs.map fun b => Value.int .u8 (b.toNat : Nat)) q) (hm : Take q S S') : Yl E n L S ⟨d, .convert src dst x, ty, pos, af, gd⟩ (.string ⟨⟨bs⟩⟩) := fun A w g st => by
 obtain ⟨i', z, _, _, _, _, hk'⟩ := qAy hd
 simp only [TK.holds] at hk'
 have hu : E.P.underlying dst = some .string := by
  split at hk'
  ·assumption
  cases hk'
 obtain ⟨hsu, _⟩ := qBe hs
 have hr : (convert src dst (.slice a bs.length c)).run E.P w = .ok (.string ⟨⟨bs⟩⟩) w := by
  cases bs with
  | nil =>
   cases a with
   | none =>
    rw [run_convert_bytes_string w src dst e none _ c hsu (qFg he) hu]
    rfl
   | some a => exact run_convert_bytes_back w src dst e a c [] hsu (qFg he) hu (fun j hj => by simp at hj)
  | cons b bs =>
   obtain ⟨g', o, rfl, hq'⟩ := hq (by simp)
   refine run_convert_bytes_back w src dst e ⟨g', o, none⟩ c (b :: bs) hsu (qFg he) hu (fun j hj => ?_)
   rw [addr_add]
   exact qMr hq' (st.take hm) (i := j) (by rw [List.getElem?_map, List.getElem?_eq_getElem hj]; rfl)
 simp [execOp, g.ev hx, hr]
end Sl
namespace Go.Proofs.YtkkjjablmmmmkaaGreatDoor
open Go Go.RowKit Sl Eg
set_option maxRecDepth 10000
variable {E : Env}
theorem qXn (hE : Seat E) {a b : Option Addr} {c d : Nat} {xs bs : List UInt8} {q r : HP} (hq : Rdb E.w0 a (byC xs) q) (hr : Rdb E.w0 b (byC bs) r) : Ct E 23 [.slice a xs.length c, .slice b bs.length d] [q, r] (fun v Q => v = .bool (decide (xs = bs)) ∧ Q = [q, r]) := by
 refine zQ (hE.fn Tryz.func23) rfl rfl rfl (fun R => ?_)
 simp only [qAa, uV, uW]
 refine qK (qI (uA rfl (qL (qJ (qK (qI (uM rfl (uB (qNg (q := q) rfl (hE.t rfl) (hE.t rfl) (hE.t rfl) hq uK) ?_))))))))
 refine uM rfl (uB (qNg (q := r) rfl (hE.t rfl) (hE.t rfl) (hE.t rfl) hr uK) ?_)
 refine uB (y_eq_str rfl rfl) ?_
 refine uA rfl (qL (qJ (kD ?_)))
 exact uZ rfl (.tmp rfl .nil) ⟨rfl, rfl⟩
theorem qRc (hE : Seat E) {bs : List UInt8} : Ct E 18 [.string ⟨⟨bs⟩⟩] [] (fun v Q => v = .bool (decide (ValidN bs)) ∧ Q = []) := by
 have hsz := zDz bs
 refine zQ (hE.fn Tryz.func18) rfl rfl rfl (fun R => ?_)
 simp only [qAa, uV, uW]
 refine qK (qI (uA rfl (qL (qJ (qK (qK (qI (uM rfl (uB (qGf rfl (hE.t rfl)) ?_)))))))))
 refine uB (y_lt rfl rfl) ?_
 refine uM rfl ?_
 refine qAf 9 rfl (fun h1 => ?_) (fun h1 => ?_)
 ·refine zV rfl rfl rfl rfl (zV rfl rfl rfl rfl (zV rfl rfl rfl rfl ?_))
  refine uB (qX rfl rfl) ?_
  refine qL (qJ (zH rfl (qK (qI (uA rfl (qL (qJ (kD (qW ?_)))))))))
  exact uZ rfl (.tmp rfl .nil) ⟨congrArg Value.bool (decide_eq_false fun hv => by have := hv.1; omega).symm, rfl⟩
 refine kU rfl rfl (uM rfl (kU rfl rfl (uB (qGf rfl (hE.t rfl)) ?_)))
 refine kU rfl rfl (uB (y_gt rfl rfl) ?_)
 refine uB (qY rfl rfl) ?_
 refine qL (qJ ?_)
 refine zG rfl (fun h2 => ?_) (fun h2 => ?_)
 ·refine qK (qI ?_)
  refine uA rfl (qL (qJ (kD (qW ?_))))
  exact uZ rfl (.tmp rfl .nil) ⟨congrArg Value.bool (decide_eq_false fun hv => by have := hv.2.1; omega).symm, rfl⟩
 refine zD (qJ (qK (qK (qI (uA rfl (qL (qJ (zM ?_))))))))
 refine qAc (fun k : Nat => [(0, .string ⟨⟨bs⟩⟩), (3, .int .i64 (k : Nat))]) (fun k => [R]) (fun k => bs.length - k) (fun k => k ≤ bs.length ∧ ∀ j, j < k → okC j (bs.getD j 0).toNat) 0 ⟨Nat.zero_le _, fun j h => by omega⟩ ⟨rfl, rfl, trivial⟩ uI ?_
 rintro k ⟨hk, hall⟩
 refine qK (qK (qI (uM rfl (uM rfl (uB (qGf rfl (hE.t rfl)) ?_)))))
 refine uB (y_lt rfl rfl) ?_
 refine qL (qJ ?_)
 refine zG rfl (fun hc => ?_) (fun hc => ?_)
 ·have hkl : k < bs.length := by omega
  obtain ⟨x, hx⟩ : ∃ x, bs[k]? = some x := ⟨_, List.getElem?_eq_getElem hkl⟩
  have hx' : bs.getD k 0 = x := by rw [List.getD_eq_getElem?_getD, hx]; rfl
  have hxx : (⟨⟨bs⟩⟩ : ByteArray)[(k : Int).toNat]? = some x := zCl hx _ (by omega)
  have hgrow : okC k x.toNat → k + 1 ≤ bs.length ∧ ∀ j, j < k + 1 → okC j (bs.getD j 0).toNat := fun hok => ⟨by omega, fun j hj => by
   rcases Nat.lt_or_ge j k with h | h
   ·exact hall j h
   obtain rfl : j = k := by omega
   rw [hx']; exact hok⟩
  have hstop : ¬ okC k x.toNat → ¬ ValidN bs := fun hno hv => hno (by have := hv.2.2 k hkl; rwa [hx'] at this)
  refine zD (qJ (qK (zM (qK (qI (uM rfl (uM rfl (uB (qHx rfl rfl (hE.t rfl) (by omega) (by assumption)) ?_))))))))
  refine uA rfl (qL (qJ (qK (qI (uM rfl (uB (y_ge rfl rfl) ?_))))))
  refine uM rfl ?_
  refine qAf 25 rfl (fun a1 => ?_) (fun a1 => ?_)
  ·refine kU rfl rfl ?_
   refine uM rfl (kU rfl rfl (uB (y_le rfl rfl) ?_))
   refine uB (qX rfl rfl) ?_
   refine uA rfl (qL (qJ (qK (qI (uM rfl (uB (qBn rfl) ?_))))))
   refine uM rfl ?_
   refine qRq 31 rfl (fun a2 => ?_) (fun a2 => ?_)
   ·have a3 : ¬ ((x.toNat : Nat) : Int) ≤ 122 := by simpa using a2
    refine kU rfl rfl (uM rfl (kU rfl rfl (uB (y_eq rfl rfl) ?_)))
    refine kU rfl rfl (uM rfl ?_)
    refine qAf 34 rfl (fun b1 => ?_) (fun b1 => ?_)
    ·refine zV rfl rfl rfl rfl (zV rfl rfl rfl rfl (zV rfl rfl rfl rfl (qAu rfl rfl rfl (qAu rfl rfl rfl (qAu rfl rfl rfl (qAu rfl rfl rfl (qAu rfl rfl rfl ?_)))))))
     refine qAu rfl rfl rfl (zV rfl rfl rfl rfl (kU rfl rfl ?_))
     refine uB (qX rfl rfl) ?_
     refine uB (qX rfl rfl) ?_
     refine qL (qJ (zH rfl (qK (qI (uA rfl (qL (qJ (kD (zP (qW (qW (zP (qW ?_)))))))))))))
     exact uZ rfl (.tmp rfl .nil) ⟨congrArg Value.bool (decide_eq_false (hstop (by unfold okC; omega))).symm, rfl⟩
    refine kU rfl rfl ?_
    refine uM rfl (kU rfl rfl (uB (y_ne rfl rfl) ?_))
    refine kU rfl rfl (uM rfl ?_)
    refine qAf 37 rfl (fun b2 => ?_) (fun b2 => ?_)
    ·refine kU rfl rfl ?_
     refine uM rfl (kU rfl rfl (uB (y_lt rfl rfl) ?_))
     refine kU rfl rfl (uM rfl ?_)
     refine qAf 40 rfl (fun b3 => ?_) (fun b3 => ?_)
     ·refine zV rfl rfl rfl rfl (zV rfl rfl rfl rfl (kU rfl rfl ?_))
      refine uB (qX rfl rfl) ?_
      refine kU rfl rfl (uB (qX rfl rfl) ?_)
      refine kU rfl rfl (uB (qY rfl rfl) ?_)
      refine uB (qX rfl rfl) ?_
      refine qL (qJ (zH rfl (qK (qI (uA rfl (qL (qJ (kD (zP (qW (qW (zP (qW ?_)))))))))))))
      exact uZ rfl (.tmp rfl .nil) ⟨congrArg Value.bool (decide_eq_false (hstop (by unfold okC; omega))).symm, rfl⟩
     refine kU rfl rfl ?_
     refine uM rfl (kU rfl rfl (uB (y_gt rfl rfl) ?_))
     refine kU rfl rfl (uB (qY rfl rfl) ?_)
     refine kU rfl rfl (uB (qX rfl rfl) ?_)
     refine kU rfl rfl (uB (qY rfl rfl) ?_)
     refine uB (qX rfl rfl) ?_
     refine qL (qJ ?_)
     refine zG rfl (fun b4 => ?_) (fun b4 => ?_)
     ·refine qK (qI ?_)
      refine uA rfl (qL (qJ (kD (zP (qW (qW (zP (qW ?_))))))))
      exact uZ rfl (.tmp rfl .nil) ⟨congrArg Value.bool (decide_eq_false (hstop (by unfold okC; omega))).symm, rfl⟩
     refine zD (zK (qJ (qI ?_)))
     refine uM rfl (uB (uAa rfl rfl) ?_)
     refine uA rfl (qL ?_)
     refine zU (ι := Nat) (j := k + 1) (hgrow (by unfold okC; omega)) (by omega) ⟨rfl, congrArg some (zY (by omega)), trivial⟩ uI
    refine zV rfl rfl rfl rfl (zV rfl rfl rfl rfl (zV rfl rfl rfl rfl (qAu rfl rfl rfl (qAu rfl rfl rfl (zV rfl rfl rfl rfl (kU rfl rfl ?_))))))
    refine uB (qY rfl rfl) ?_
    refine kU rfl rfl (uB (qY rfl rfl) ?_)
    refine uB (qX rfl rfl) ?_
    refine qL (qJ (zF rfl (zD (zK (qJ (qI (uM rfl (uB (uAa rfl rfl) ?_))))))))
    refine uA rfl (qL ?_)
    refine zU (ι := Nat) (j := k + 1) (hgrow (by unfold okC; omega)) (by omega) ⟨rfl, congrArg some (zY (by omega)), trivial⟩ uI
   have a3 : ((x.toNat : Nat) : Int) ≤ 122 := by simpa using a2
   refine zV rfl rfl rfl rfl (zV rfl rfl rfl rfl (zV rfl rfl rfl rfl (qAu rfl rfl rfl (qAu rfl rfl rfl (qAu rfl rfl rfl (qAu rfl rfl rfl (qAu rfl rfl rfl ?_)))))))
   refine qAu rfl rfl rfl (qAu rfl rfl rfl (qAu rfl rfl rfl (qAu rfl rfl rfl (qAu rfl rfl rfl (zV rfl rfl rfl rfl ?_)))))
   refine uB (qY rfl rfl) ?_
   refine qL (qJ (zF rfl (zD (zK (qJ (qI (uM rfl (uB (uAa rfl rfl) ?_))))))))
   refine uA rfl (qL ?_)
   refine zU (ι := Nat) (j := k + 1) (hgrow (by unfold okC; omega)) (by omega) ⟨rfl, congrArg some (zY (by omega)), trivial⟩ uI
  refine zV rfl rfl rfl rfl (zV rfl rfl rfl rfl ?_)
  refine uB (qY rfl rfl) ?_
  refine uA rfl (qL (qJ (qK (qI (uM rfl (uB (qBn rfl) ?_))))))
  refine uM rfl (kU rfl rfl (uM rfl (kU rfl rfl (uB (y_eq rfl rfl) ?_))))
  refine kU rfl rfl (uM rfl ?_)
  refine qAf 34 rfl (fun b1 => ?_) (fun b1 => ?_)
  ·refine zV rfl rfl rfl rfl (zV rfl rfl rfl rfl (zV rfl rfl rfl rfl (qAu rfl rfl rfl (qAu rfl rfl rfl (qAu rfl rfl rfl (qAu rfl rfl rfl (qAu rfl rfl rfl ?_)))))))
   refine qAu rfl rfl rfl (zV rfl rfl rfl rfl (kU rfl rfl ?_))
   refine uB (qX rfl rfl) ?_
   refine uB (qX rfl rfl) ?_
   refine qL (qJ (zH rfl (qK (qI (uA rfl (qL (qJ (kD (zP (qW (qW (zP (qW ?_)))))))))))))
   exact uZ rfl (.tmp rfl .nil) ⟨congrArg Value.bool (decide_eq_false (hstop (by unfold okC; omega))).symm, rfl⟩
  refine kU rfl rfl ?_
  refine uM rfl (kU rfl rfl (uB (y_ne rfl rfl) ?_))
  refine kU rfl rfl (uM rfl ?_)
  refine qAf 37 rfl (fun b2 => ?_) (fun b2 => ?_)
  ·refine kU rfl rfl ?_
   refine uM rfl (kU rfl rfl (uB (y_lt rfl rfl) ?_))
   refine kU rfl rfl (uM rfl ?_)
   refine qAf 40 rfl (fun b3 => ?_) (fun b3 => ?_)
   ·refine zV rfl rfl rfl rfl (zV rfl rfl rfl rfl (kU rfl rfl ?_))
    refine uB (qX rfl rfl) ?_
    refine kU rfl rfl (uB (qX rfl rfl) ?_)
    refine kU rfl rfl (uB (qY rfl rfl) ?_)
    refine uB (qX rfl rfl) ?_
    refine qL (qJ (zH rfl (qK (qI (uA rfl (qL (qJ (kD (zP (qW (qW (zP (qW ?_)))))))))))))
    exact uZ rfl (.tmp rfl .nil) ⟨congrArg Value.bool (decide_eq_false (hstop (by unfold okC; omega))).symm, rfl⟩
   refine kU rfl rfl ?_
   refine uM rfl (kU rfl rfl (uB (y_gt rfl rfl) ?_))
   refine kU rfl rfl (uB (qY rfl rfl) ?_)
   refine kU rfl rfl (uB (qX rfl rfl) ?_)
   refine kU rfl rfl (uB (qY rfl rfl) ?_)
   refine uB (qX rfl rfl) ?_
   refine qL (qJ ?_)
   refine zG rfl (fun b4 => ?_) (fun b4 => ?_)
   ·refine qK (qI ?_)
    refine uA rfl (qL (qJ (kD (zP (qW (qW (zP (qW ?_))))))))
    exact uZ rfl (.tmp rfl .nil) ⟨congrArg Value.bool (decide_eq_false (hstop (by unfold okC; omega))).symm, rfl⟩
   refine zD (zK (qJ (qI ?_)))
   refine uM rfl (uB (uAa rfl rfl) ?_)
   refine uA rfl (qL ?_)
   refine zU (ι := Nat) (j := k + 1) (hgrow (by unfold okC; omega)) (by omega) ⟨rfl, congrArg some (zY (by omega)), trivial⟩ uI
  refine zV rfl rfl rfl rfl (zV rfl rfl rfl rfl (zV rfl rfl rfl rfl (qAu rfl rfl rfl (qAu rfl rfl rfl (zV rfl rfl rfl rfl (kU rfl rfl ?_))))))
  refine uB (qY rfl rfl) ?_
  refine kU rfl rfl (uB (qY rfl rfl) ?_)
  refine uB (qX rfl rfl) ?_
  refine qL (qJ (zF rfl (zD (zK (qJ (qI (uM rfl (uB (uAa rfl rfl) ?_))))))))
  refine uA rfl (qL ?_)
  refine zU (ι := Nat) (j := k + 1) (hgrow (by unfold okC; omega)) (by omega) ⟨rfl, congrArg some (zY (by omega)), trivial⟩ uI
 refine kM (qP (qP (zJ (qJ (qK (qI ?_))))))
 refine uA rfl (qL (qJ (kD ?_)))
 exact uZ rfl (.tmp rfl .nil) ⟨congrArg Value.bool (decide_eq_true ⟨by omega, by omega, fun i hi => hall i (by omega)⟩).symm, rfl⟩
end Go.Proofs.YtkkjjablmmmmkaaGreatDoor
namespace Sl
open Go Go.RowKit
theorem qXk {w0 : World} {g : Nat} {vs us : List Value} {t : TypeId} (h : ∀ (i : Nat) (v : Value), vs[i]? = some v → us[i]? = some v) : ∀ k, cells g us t k → RdAt w0 g 0 vs k := fun k hk i v hv => .inr ⟨⟨us⟩, t, (0, 0), hk, by rw [Nat.zero_add]; simpa using h i v hv⟩
end Sl
namespace Go.Proofs.YtkkjjablmmmmkaaGreatDoor
open Go Go.RowKit Sl Eg
set_option maxRecDepth 10000
variable {E : Env} {Es : List Ent} {pp tb s most m bm : Nat} {f : Int → Option Value}
theorem qWb (hE : Seat E) {most : Nat} (hm : most ≤ qAw) : Ct E 12 [.int .i64 (most : Nat)] [] (fun v Q => ∃ m bm pp s tb, v = uPt m ∧ Q = [cells m [uPt pp, .map (some bm)] 103, mapF bm .i64 (fun _ => none), cells pp [uPt s, uPt tb] 106, tabP tb s (rls []), zT s most []]) := by
 refine zQ (hE.fn Tryz.func12) rfl rfl rfl (fun R => ?_)
 simp only [qAa, uV, uW]
 refine qK (qI (uA rfl (qL (qJ (qK (qI (uM rfl (uX (qTd hE hm) rfl ?_))))))))
 rintro _ _ ⟨s, rfl, rfl⟩
 simp only [uV, uW]
 refine uX (zCw hE) rfl ?_
 rintro _ _ ⟨pp, tb, rfl, rfl⟩
 simp only [uV, uW]
 refine uX (zCr hE) rfl ?_
 rintro _ _ ⟨m, bm, rfl, rfl⟩
 simp only [uV, uW]
 refine uA rfl (qL (qJ (kD ?_)))
 exact uZ rfl (.tmp rfl .nil) ⟨m, bm, pp, s, tb, rfl, rfl⟩
theorem xx_bytes {L : List Rl} (hw : Wf L) {ys : List Nat} {x : Nat} (hx : x ≤ L.length) (ht : txt L x = [120, 120]) (hyl : ys.length = 1) (hs : SigL L [x] ys) : encB L (kK L ys []) (nmY [([97], (x : Int))] ys) = [2, 1, 120, 3, 1, 0, 1, 1, 97, 2] := by
 obtain ⟨y, rfl⟩ := List.length_eq_one_iff.1 hyl
 have h := hs 0 x y rfl rfl
 obtain ⟨n, m, rfl, g1, g2⟩ := twice hw (by rw [h.2.1]; exact ht) h.2.2.1.2
 have ho := hw.ok n _ g1
 simp only [Rl.ok] at ho
 have v0 : kK L [m + 1] [] = [m + 1] := by
  rw [qBl, qBg hw g2 (by simp)]
  rfl
 have v1 : kK L [n + 1] [] = [m + 1, n + 1] := by
  rw [qBl, qBg hw g1 (by simp)]
  show kK L [m + 1] [] ++ [n + 1] = _
  rw [v0]; rfl
 have hne : ¬ m + 1 = n + 1 := by omega
 have hne' : ¬ m = n := by omega
 rw [v1, encB]
 have e1 : encR L [m + 1, n + 1] [m + 1, n + 1].length = [1, 120] ++ [3, 1, 0] := by
  show encR L [m + 1, n + 1] (0 + 1 + 1) = _
  rw [qIz (i := 0 + 1) (n := n) rfl g1, qIz (i := 0) (n := m) rfl g2]
  have : numb [m + 1, n + 1] (m + 1) = 1 := by simp [numb]
  simp only [qAz, this, rulB, encR, List.nil_append]
  rw [qCj (by omega), qCj (by omega)]
  rfl
 have e2 : numb [m + 1, n + 1] (n + 1) = 2 := by simp [numb, hne']
 rw [e1]
 have e3 : nmY [([97], (x : Int))] [n + 1] = [([97], n + 1)] := rfl
 rw [e3]
 simp only [encN, List.flatMap_cons, List.flatMap_nil, e2, List.length_cons, List.length_nil]
 rw [qCj (by omega), qCj (by omega)]
 rfl
theorem sgo_one {n : Nat} {x : Nat} (hx : x ≤ n) : SgO n [([97], (x : Int))] := by
 refine ⟨fun p hp => ?_, fun i p q h _ _ => by simp at h, fun p hp => ?_⟩
 ·obtain rfl := List.mem_singleton.1 hp
  show ValidN [97]
  decide
 obtain rfl := List.mem_singleton.1 hp
 exact ⟨by simp, by simp; omega⟩
theorem SgE.not {n : Nat} {l : List (List UInt8 × Int)} {e : Int} (h : SgE n l e) (ho : SgO n l) : False := by
 rcases h with ⟨_, h⟩ | ⟨_, _, h⟩ | ⟨_, _, _, h⟩
 ·exact h ho.1
 ·exact h ho.2.1
 exact h ho.2.2
theorem ct_awake (hE : Seat E) (hB : Base E.w0) : Ct E 13 [] [] (fun v Q => v = .bool true ∧ Q = []) := by
 have hmr : 1048576 ≤ qAw := Nat.le_refl _
 refine zQ (hE.fn Tryz.func13) rfl rfl rfl (fun R => ?_)
 simp only [qAa, uV, uW]
 refine qK (qI (uA rfl (qL (qJ (qK (qI (uX (qWb (most := 1048576) hE hmr) rfl ?_)))))))
 rintro _ _ ⟨m, bm, pp, s, tb, rfl, rfl⟩
 simp only [uV, uW]
 refine uA rfl (qL (qJ (qK (qK (qI (uM rfl (uB (qBr rfl (hE.t rfl)) ?_)))))))
 refine uM rfl (kU rfl rfl (uM rfl (kU rfl rfl (uX (qDp hE) rfl ?_))))
 rintro _ _ ⟨rfl, rfl⟩
 simp only [uV, uW]
 refine kU rfl rfl (uB (qBr rfl (hE.t rfl)) ?_)
 refine uB (qY rfl rfl) ?_
 refine qL (qJ (zF rfl (zD (qJ (qK (qI (uM rfl (uX (qDp hE) rfl ?_))))))))
 rintro _ _ ⟨rfl, rfl⟩
 simp only [uV, uW]
 refine uU ?_
 refine qV (hE.t rfl) (hE.t rfl) rfl rfl rfl (fun b17 => ?_)
 refine uU ?_
 refine ld_mark rfl (hE.t rfl) (hE.t rfl) uK ?_
 refine uX (ct_Of (Es := []) (s := s) (tb := tb) (pp := pp) (most := 1048576) (g := b17) (c := 2) (bs := [120, 120]) hE hB (by decide) (by decide)) rfl ?_
 rintro _ _ ⟨M, id, rfl, hM, htx, hgd, -, rfl⟩
 simp only [uV, uW]
 rw [List.nil_append] at htx hgd
 have hM4 : M.length ≤ 4 := hM
 have hid : id ≤ M.length := by have := hgd.1; rwa [zS] at this
 have hln : ∀ p ∈ [(([97] : List UInt8), (id : Int))], 0 ≤ p.2 → p.2 ≤ M.length → Eg.len (rls M) p.2.toNat ≤ 256 := fun p hp _ _ => by
  obtain rfl := List.mem_singleton.1 hp
  show (txt (rls M) (id : Int).toNat).length ≤ 256
  rw [Int.toNat_natCast, htx]
  decide
 have hrm : M.length + 512 * [(([97] : List UInt8), (id : Int))].length ≤ 1048576 := by simp only [List.length_singleton]; omega
 refine uM rfl (uB (qU rfl rfl) (uB (qU rfl rfl) (uA rfl (uA rfl (qL (qJ (qK (qI (uM rfl (uM rfl ?_))))))))))
 refine uB (qAe (hE.t rfl) rfl rfl) ?_
 refine uU ?_
 refine qV (hE.t rfl) (hE.t rfl) rfl rfl rfl (fun b26 => ?_)
 refine uX (zCf (Es := M) (s := s) (tb := tb) (pp := pp) (most := 1048576) (m := m) (bm := bm) (f := fun _ => none) (l := [([97], (id : Int))]) (a := some ⟨b26, 0, none⟩) (ca := 1) (q := cells b26 [.string ⟨⟨[97]⟩⟩, .int .i64 (id : Nat)] 39) hE hB (fun _ => ⟨b26, 0, rfl, qXk (fun _ _ h => h)⟩) (Nat.le_of_ble_eq_true rfl) hln hrm (Kn.nil _)) rfl ?_
 rintro _ _ (⟨e, he, rfl, rfl⟩ | ⟨M2, f', ys, g, c, B, ho, rfl, hB, hM2, hkn, hyl, hsl, rfl⟩)
 ·exact (he.not (sgo_one hid)).elim
 simp only [uV, uW]
 refine qOh (p := zT s 1048576 (M ++ M2)) uK (fun _ h => qAj h) (fun hsay => ?_)
 have hBv : B = [2, 1, 120, 3, 1, 0, 1, 1, 97, 2] := by
  rw [hB]
  have hsl' : SigL (rls (M ++ M2)) [id] ys := hsl
  exact xx_bytes hsay.1 (by rw [zS, List.length_append]; omega) (by rw [kI, qDj _ (by rw [zS]; omega)]; exact htx) hyl hsl'
 refine uM rfl (uB (qU rfl rfl) (uB (qU rfl rfl) (uA rfl (uA rfl (qL (qJ (qK (qI (uM rfl (uB (qVx rfl (hE.t rfl)) ?_))))))))))
 refine uM rfl (kU rfl rfl (uM rfl (kU rfl rfl (uB (qVx rfl (hE.t rfl)) ?_))))
 refine uB (qX rfl rfl) ?_
 refine uM rfl (kU rfl rfl (uM rfl (kU rfl rfl (uU ?_))))
 refine qV (hE.t rfl) (hE.t rfl) rfl rfl rfl (fun b38 => ?_)
 refine kU rfl rfl ?_
 refine uX (qXn (xs := B) (bs := [2, 1, 120, 3, 1, 0, 1, 1, 97, 2]) (q := sl (some ⟨g, 0, none⟩) c 5 1 B.length (byC B)) (r := cells b38 [.int .u8 2, .int .u8 1, .int .u8 120, .int .u8 3, .int .u8 1, .int .u8 0, .int .u8 1, .int .u8 1, .int .u8 97, .int .u8 2] 5) hE (fun _ => ⟨g, 0, rfl, qUa (fun _ _ h => h)⟩) (fun _ => ⟨b38, 0, rfl, qXk (fun _ _ h => h)⟩)) rfl ?_
 rintro _ _ ⟨rfl, rfl⟩
 simp only [uV, uW]
 refine uB (qX rfl rfl) ?_
 refine uA rfl (qL (qJ (kD ?_)))
 exact uZ rfl (.tmp rfl .nil) ⟨congrArg Value.bool (decide_eq_true hBv), rfl⟩
end Go.Proofs.YtkkjjablmmmmkaaGreatDoor
