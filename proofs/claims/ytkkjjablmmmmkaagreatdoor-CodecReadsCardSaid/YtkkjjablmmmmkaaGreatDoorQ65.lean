/- Package evergreenlaw50: names and bytes: evergreenref46.Valid, evergreenbase.Bytes. -/
import Derived.Test.YtkkjjablmmmmkaaGreatDoorQ02
import Derived.Test.YtkkjjablmmmmkaaGreatDoorQ13
import Derived.Test.YtkkjjablmmmmkaaGreatDoorQ64
set_option linter.unusedVariables false
set_option linter.unusedSimpArgs false
namespace Sl
open Go Go.RowKit
variable {E : Env} {n : Nat} {L : Fr} {S S' : List HP} {ty : TypeId} {pos : String} {af : Array Edge} {d : Option Nat} {gd : Option (Nat × Bool)}
theorem qNo {x : Operand} {src dst e : TypeId} {a : Option Addr} {bs : List UInt8} {c s by_ sz sz1 sz2 : Nat} {zs zs1 zs2 : List Value} {q : HP} (hx : ev L x = some (.slice a bs.length c)) (hs : E.tab src = some ⟨.slice e s by_, sz, zs⟩) (he : E.tab e = some ⟨.int .u8, sz1, zs1⟩) (hd : E.tab dst = some ⟨.string, sz2, zs2⟩)
  (hq : Rdb E.w0 a (bs.map fun b => Value.int .u8 (b.toNat : Nat)) q) (hm : Take q S S') : Yl E n L S ⟨d, .convert src dst x, ty, pos, af, gd⟩ (.string ⟨⟨bs⟩⟩) := fun A w g st => by
 obtain ⟨i', z, _, _, _, _, hk'⟩ := qAz hd
 simp only [TK.holds] at hk'
 have hu : E.P.underlying dst = some .string := by
  split at hk'
  ·assumption
  ·cases hk'
 obtain ⟨hsu, _⟩ := qBc hs
 have hr : (convert src dst (.slice a bs.length c)).run E.P w = .ok (.string ⟨⟨bs⟩⟩) w := by
  cases bs with
  | nil =>
   cases a with
   | none =>
    rw [run_convert_bytes_string w src dst e none _ c hsu (qFx he) hu]
    rfl
   | some a => exact run_convert_bytes_back w src dst e a c [] hsu (qFx he) hu (fun j hj => by simp at hj)
  | cons b bs =>
   obtain ⟨g', o, rfl, hq'⟩ := hq (by simp)
   refine run_convert_bytes_back w src dst e ⟨g', o, none⟩ c (b :: bs) hsu (qFx he) hu (fun j hj => ?_)
   rw [addr_add]
   exact qOg hq' (st.take hm) (i := j) (by rw [List.getElem?_map, List.getElem?_eq_getElem hj]; rfl)
 simp [execOp, g.ev hx, hr]
end Sl
namespace Go.Proofs.YtkkjjablmmmmkaaGreatDoor
open Go Go.RowKit Sl Eg
set_option maxRecDepth 10000
variable {E : Env}
theorem ct_Bytes (hE : Seat E) {a b : Option Addr} {c d : Nat} {xs bs : List UInt8} {q r : HP} (hq : Rdb E.w0 a (byC xs) q) (hr : Rdb E.w0 b (byC bs) r) : Ct E 23 [.slice a xs.length c, .slice b bs.length d] [q, r] (fun v Q => v = .bool (decide (xs = bs)) ∧ Q = [q, r]) := by
 refine zN (hE.fn Tryz.func23) rfl rfl rfl (fun R => ?_)
 simp only [qAe, List.cons_append, List.nil_append]
 refine qK (qI (uA rfl (qL (qJ (qK (qI (uM rfl ?_)))))))
 refine qA (qNo (q := q) rfl (hE.t rfl) (hE.t rfl) (hE.t rfl) hq (by ((repeat constructor); done))) rfl ?_
 refine uM rfl (qA (qNo (q := r) rfl (hE.t rfl) (hE.t rfl) (hE.t rfl) hr (by ((repeat constructor); done))) rfl ?_)
 refine qA (y_eq_str rfl rfl) rfl ?_
 refine uA rfl (qL (qJ (zY ?_)))
 apply zZ
 ·rfl
 ·(apply Rs.tmp rfl; exact Rs.nil)
 ·exact ⟨rfl, rfl⟩
 ·(apply ent; (repeat constructor); done)
theorem qRe (hE : Seat E) {bs : List UInt8} : Ct E 18 [.string ⟨⟨bs⟩⟩] [] (fun v Q => v = .bool (decide (ValidN bs)) ∧ Q = []) := by
 have hsz := zAn bs
 refine zN (hE.fn Tryz.func18) rfl rfl rfl (fun R => ?_)
 simp only [qAe, List.cons_append, List.nil_append]
 refine qK (qI (uA rfl (qL (qJ (qK (qK (qI (uM rfl (qA (qGl rfl (hE.t rfl)) rfl ?_)))))))))
 refine qA (y_lt rfl rfl) rfl ?_
 refine uM rfl ?_
 refine qAj 9 rfl (fun h1 => ?_) (fun h1 => ?_)
 ·refine zS rfl rfl rfl rfl (zS rfl rfl rfl rfl (zS rfl rfl rfl rfl ?_))
  refine qA (qV rfl rfl) rfl ?_
  refine qL (qJ (zE rfl (qK (qI (uA rfl (qL (qJ (zY (qU ?_)))))))))
  apply zZ
  ·rfl
  ·(apply Rs.tmp rfl; exact Rs.nil)
  ·exact ⟨congrArg Value.bool (decide_eq_false fun hv => by have := hv.1; omega).symm, rfl⟩
  ·(apply ent; (repeat constructor); done)
 refine kO rfl rfl (uM rfl (kO rfl rfl (qA (qGl rfl (hE.t rfl)) rfl ?_)))
 refine kO rfl rfl (qA (y_gt rfl rfl) rfl ?_)
 refine qA (qW rfl rfl) rfl ?_
 refine qL (qJ ?_)
 refine zD rfl (fun h2 => ?_) (fun h2 => ?_)
 ·refine qK (qI ?_)
  refine uA rfl (qL (qJ (zY (qU ?_))))
  apply zZ
  ·rfl
  ·(apply Rs.tmp rfl; exact Rs.nil)
  ·exact ⟨congrArg Value.bool (decide_eq_false fun hv => by have := hv.2.1; omega).symm, rfl⟩
  ·(apply ent; (repeat constructor); done)
 refine zB (qJ (qK (qK (qI (uA rfl (qL (qJ (zJ ?_))))))))
 refine qAl (fun k : Nat => [(0, .string ⟨⟨bs⟩⟩), (3, .int .i64 (k : Nat))]) (fun k => [R]) (fun k => bs.length - k) (fun k => k ≤ bs.length ∧ ∀ j, j < k → okC j (bs.getD j 0).toNat) 0 ⟨Nat.zero_le _, fun j h => by omega⟩ ⟨rfl, rfl, trivial⟩ (by (apply ent; (repeat constructor); done)) ?_
 rintro k ⟨hk, hall⟩
 refine qK (qK (qI (uM rfl (uM rfl (qA (qGl rfl (hE.t rfl)) rfl ?_)))))
 refine qA (y_lt rfl rfl) rfl ?_
 refine qL (qJ ?_)
 refine zD rfl (fun hc => ?_) (fun hc => ?_)
 ·have hkl : k < bs.length := by omega
  obtain ⟨x, hx⟩ : ∃ x, bs[k]? = some x := ⟨_, List.getElem?_eq_getElem hkl⟩
  have hx' : bs.getD k 0 = x := by rw [List.getD_eq_getElem?_getD, hx]; rfl
  have hxx : (⟨⟨bs⟩⟩ : ByteArray)[(k : Int).toNat]? = some x := zBj hx _ (by omega)
  have hgrow : okC k x.toNat → k + 1 ≤ bs.length ∧ ∀ j, j < k + 1 → okC j (bs.getD j 0).toNat := fun hok => ⟨by omega, fun j hj => by
   rcases Nat.lt_or_ge j k with h | h
   ·exact hall j h
   ·obtain rfl : j = k := by omega
    rw [hx']; exact hok⟩
  have hstop : ¬ okC k x.toNat → ¬ ValidN bs := fun hno hv => hno (by have := hv.2.2 k hkl; rwa [hx'] at this)
  refine zB (qJ (qK (zJ (qK (qI (uM rfl (uM rfl (qA (qPc rfl rfl (hE.t rfl) (by omega) (by assumption)) rfl ?_))))))))
  refine uA rfl (qL (qJ (qK (qI (uM rfl (qA (y_ge rfl rfl) rfl ?_))))))
  refine uM rfl ?_
  refine qAj 25 rfl (fun a1 => ?_) (fun a1 => ?_)
  ·refine kO rfl rfl ?_
   refine uM rfl (kO rfl rfl (qA (y_le rfl rfl) rfl ?_))
   refine qA (qV rfl rfl) rfl ?_
   refine uA rfl (qL (qJ (qK (qI (uM rfl (qA (qEp rfl) rfl ?_))))))
   refine uM rfl ?_
   refine l_splitb 31 rfl (fun a2 => ?_) (fun a2 => ?_)
   ·have a3 : ¬ ((x.toNat : Nat) : Int) ≤ 122 := by simpa using a2
    refine kO rfl rfl (uM rfl (kO rfl rfl (qA (y_eq rfl rfl) rfl ?_)))
    refine kO rfl rfl (uM rfl ?_)
    refine qAj 34 rfl (fun b1 => ?_) (fun b1 => ?_)
    ·refine zS rfl rfl rfl rfl (zS rfl rfl rfl rfl (zS rfl rfl rfl rfl (qAv rfl rfl rfl (qAv rfl rfl rfl (qAv rfl rfl rfl (qAv rfl rfl rfl (qAv rfl rfl rfl ?_)))))))
     refine qAv rfl rfl rfl (zS rfl rfl rfl rfl (kO rfl rfl ?_))
     refine qA (qV rfl rfl) rfl ?_
     refine qA (qV rfl rfl) rfl ?_
     refine qL (qJ (zE rfl (qK (qI (uA rfl (qL (qJ (zY (zM (qU (qU (zM (qU ?_)))))))))))))
     apply zZ
     ·rfl
     ·(apply Rs.tmp rfl; exact Rs.nil)
     ·exact ⟨congrArg Value.bool (decide_eq_false (hstop (by unfold okC; omega))).symm, rfl⟩
     ·(apply ent; (repeat constructor); done)
    ·refine kO rfl rfl ?_
     refine uM rfl (kO rfl rfl (qA (y_ne rfl rfl) rfl ?_))
     refine kO rfl rfl (uM rfl ?_)
     refine qAj 37 rfl (fun b2 => ?_) (fun b2 => ?_)
     ·refine kO rfl rfl ?_
      refine uM rfl (kO rfl rfl (qA (y_lt rfl rfl) rfl ?_))
      refine kO rfl rfl (uM rfl ?_)
      refine qAj 40 rfl (fun b3 => ?_) (fun b3 => ?_)
      ·refine zS rfl rfl rfl rfl (zS rfl rfl rfl rfl (kO rfl rfl ?_))
       refine qA (qV rfl rfl) rfl ?_
       refine kO rfl rfl (qA (qV rfl rfl) rfl ?_)
       refine kO rfl rfl (qA (qW rfl rfl) rfl ?_)
       refine qA (qV rfl rfl) rfl ?_
       refine qL (qJ (zE rfl (qK (qI (uA rfl (qL (qJ (zY (zM (qU (qU (zM (qU ?_)))))))))))))
       apply zZ
       ·rfl
       ·(apply Rs.tmp rfl; exact Rs.nil)
       ·exact ⟨congrArg Value.bool (decide_eq_false (hstop (by unfold okC; omega))).symm, rfl⟩
       ·(apply ent; (repeat constructor); done)
      ·refine kO rfl rfl ?_
       refine uM rfl (kO rfl rfl (qA (y_gt rfl rfl) rfl ?_))
       refine kO rfl rfl (qA (qW rfl rfl) rfl ?_)
       refine kO rfl rfl (qA (qV rfl rfl) rfl ?_)
       refine kO rfl rfl (qA (qW rfl rfl) rfl ?_)
       refine qA (qV rfl rfl) rfl ?_
       refine qL (qJ ?_)
       refine zD rfl (fun b4 => ?_) (fun b4 => ?_)
       ·refine qK (qI ?_)
        refine uA rfl (qL (qJ (zY (zM (qU (qU (zM (qU ?_))))))))
        apply zZ
        ·rfl
        ·(apply Rs.tmp rfl; exact Rs.nil)
        ·exact ⟨congrArg Value.bool (decide_eq_false (hstop (by unfold okC; omega))).symm, rfl⟩
        ·(apply ent; (repeat constructor); done)
       ·refine zB (zH (qJ (qI ?_)))
        refine uM rfl (qA (qAd rfl rfl (by omega) (by omega)) rfl ?_)
        refine uA rfl (qL ?_)
        refine zR (ι := Nat) (j := k + 1) (hgrow (by unfold okC; omega)) (by omega) ⟨rfl, congrArg some (zV (by omega)), trivial⟩ (by (apply ent; (repeat constructor); done))
     ·refine zS rfl rfl rfl rfl (zS rfl rfl rfl rfl (zS rfl rfl rfl rfl (qAv rfl rfl rfl (qAv rfl rfl rfl (zS rfl rfl rfl rfl (kO rfl rfl ?_))))))
      refine qA (qW rfl rfl) rfl ?_
      refine kO rfl rfl (qA (qW rfl rfl) rfl ?_)
      refine qA (qV rfl rfl) rfl ?_
      refine qL (qJ (zC rfl (zB (zH (qJ (qI (uM rfl (qA (qAd rfl rfl (by omega) (by omega)) rfl ?_))))))))
      refine uA rfl (qL ?_)
      refine zR (ι := Nat) (j := k + 1) (hgrow (by unfold okC; omega)) (by omega) ⟨rfl, congrArg some (zV (by omega)), trivial⟩ (by (apply ent; (repeat constructor); done))
   ·have a3 : ((x.toNat : Nat) : Int) ≤ 122 := by simpa using a2
    refine zS rfl rfl rfl rfl (zS rfl rfl rfl rfl (zS rfl rfl rfl rfl (qAv rfl rfl rfl (qAv rfl rfl rfl (qAv rfl rfl rfl (qAv rfl rfl rfl (qAv rfl rfl rfl ?_)))))))
    refine qAv rfl rfl rfl (qAv rfl rfl rfl (qAv rfl rfl rfl (qAv rfl rfl rfl (qAv rfl rfl rfl (zS rfl rfl rfl rfl ?_)))))
    refine qA (qW rfl rfl) rfl ?_
    refine qL (qJ (zC rfl (zB (zH (qJ (qI (uM rfl (qA (qAd rfl rfl (by omega) (by omega)) rfl ?_))))))))
    refine uA rfl (qL ?_)
    refine zR (ι := Nat) (j := k + 1) (hgrow (by unfold okC; omega)) (by omega) ⟨rfl, congrArg some (zV (by omega)), trivial⟩ (by (apply ent; (repeat constructor); done))
  ·refine zS rfl rfl rfl rfl (zS rfl rfl rfl rfl ?_)
   refine qA (qW rfl rfl) rfl ?_
   refine uA rfl (qL (qJ (qK (qI (uM rfl (qA (qEp rfl) rfl ?_))))))
   refine uM rfl (kO rfl rfl (uM rfl (kO rfl rfl (qA (y_eq rfl rfl) rfl ?_))))
   refine kO rfl rfl (uM rfl ?_)
   refine qAj 34 rfl (fun b1 => ?_) (fun b1 => ?_)
   ·refine zS rfl rfl rfl rfl (zS rfl rfl rfl rfl (zS rfl rfl rfl rfl (qAv rfl rfl rfl (qAv rfl rfl rfl (qAv rfl rfl rfl (qAv rfl rfl rfl (qAv rfl rfl rfl ?_)))))))
    refine qAv rfl rfl rfl (zS rfl rfl rfl rfl (kO rfl rfl ?_))
    refine qA (qV rfl rfl) rfl ?_
    refine qA (qV rfl rfl) rfl ?_
    refine qL (qJ (zE rfl (qK (qI (uA rfl (qL (qJ (zY (zM (qU (qU (zM (qU ?_)))))))))))))
    apply zZ
    ·rfl
    ·(apply Rs.tmp rfl; exact Rs.nil)
    ·exact ⟨congrArg Value.bool (decide_eq_false (hstop (by unfold okC; omega))).symm, rfl⟩
    ·(apply ent; (repeat constructor); done)
   ·refine kO rfl rfl ?_
    refine uM rfl (kO rfl rfl (qA (y_ne rfl rfl) rfl ?_))
    refine kO rfl rfl (uM rfl ?_)
    refine qAj 37 rfl (fun b2 => ?_) (fun b2 => ?_)
    ·refine kO rfl rfl ?_
     refine uM rfl (kO rfl rfl (qA (y_lt rfl rfl) rfl ?_))
     refine kO rfl rfl (uM rfl ?_)
     refine qAj 40 rfl (fun b3 => ?_) (fun b3 => ?_)
     ·refine zS rfl rfl rfl rfl (zS rfl rfl rfl rfl (kO rfl rfl ?_))
      refine qA (qV rfl rfl) rfl ?_
      refine kO rfl rfl (qA (qV rfl rfl) rfl ?_)
      refine kO rfl rfl (qA (qW rfl rfl) rfl ?_)
      refine qA (qV rfl rfl) rfl ?_
      refine qL (qJ (zE rfl (qK (qI (uA rfl (qL (qJ (zY (zM (qU (qU (zM (qU ?_)))))))))))))
      apply zZ
      ·rfl
      ·(apply Rs.tmp rfl; exact Rs.nil)
      ·exact ⟨congrArg Value.bool (decide_eq_false (hstop (by unfold okC; omega))).symm, rfl⟩
      ·(apply ent; (repeat constructor); done)
     ·refine kO rfl rfl ?_
      refine uM rfl (kO rfl rfl (qA (y_gt rfl rfl) rfl ?_))
      refine kO rfl rfl (qA (qW rfl rfl) rfl ?_)
      refine kO rfl rfl (qA (qV rfl rfl) rfl ?_)
      refine kO rfl rfl (qA (qW rfl rfl) rfl ?_)
      refine qA (qV rfl rfl) rfl ?_
      refine qL (qJ ?_)
      refine zD rfl (fun b4 => ?_) (fun b4 => ?_)
      ·refine qK (qI ?_)
       refine uA rfl (qL (qJ (zY (zM (qU (qU (zM (qU ?_))))))))
       apply zZ
       ·rfl
       ·(apply Rs.tmp rfl; exact Rs.nil)
       ·exact ⟨congrArg Value.bool (decide_eq_false (hstop (by unfold okC; omega))).symm, rfl⟩
       ·(apply ent; (repeat constructor); done)
      ·refine zB (zH (qJ (qI ?_)))
       refine uM rfl (qA (qAd rfl rfl (by omega) (by omega)) rfl ?_)
       refine uA rfl (qL ?_)
       refine zR (ι := Nat) (j := k + 1) (hgrow (by unfold okC; omega)) (by omega) ⟨rfl, congrArg some (zV (by omega)), trivial⟩ (by (apply ent; (repeat constructor); done))
    ·refine zS rfl rfl rfl rfl (zS rfl rfl rfl rfl (zS rfl rfl rfl rfl (qAv rfl rfl rfl (qAv rfl rfl rfl (zS rfl rfl rfl rfl (kO rfl rfl ?_))))))
     refine qA (qW rfl rfl) rfl ?_
     refine kO rfl rfl (qA (qW rfl rfl) rfl ?_)
     refine qA (qV rfl rfl) rfl ?_
     refine qL (qJ (zC rfl (zB (zH (qJ (qI (uM rfl (qA (qAd rfl rfl (by omega) (by omega)) rfl ?_))))))))
     refine uA rfl (qL ?_)
     refine zR (ι := Nat) (j := k + 1) (hgrow (by unfold okC; omega)) (by omega) ⟨rfl, congrArg some (zV (by omega)), trivial⟩ (by (apply ent; (repeat constructor); done))
 ·refine kH (qP (qP (zG (qJ (qK (qI ?_))))))
  refine uA rfl (qL (qJ (zY ?_)))
  apply zZ
  ·rfl
  ·(apply Rs.tmp rfl; exact Rs.nil)
  ·exact ⟨congrArg Value.bool (decide_eq_true ⟨by omega, by omega, fun i hi => hall i (by omega)⟩).symm, rfl⟩
  ·(apply ent; (repeat constructor); done)
end Go.Proofs.YtkkjjablmmmmkaaGreatDoor
namespace Sl
open Go Go.RowKit
theorem qXu {w0 : World} {g : Nat} {vs us : List Value} {t : TypeId} (h : ∀ (i : Nat) (v : Value), vs[i]? = some v → us[i]? = some v) : ∀ k, cells g us t k → RdAt w0 g 0 vs k := fun k hk i v hv => .inr ⟨⟨us⟩, t, (0, 0), hk, by rw [Nat.zero_add]; simpa using h i v hv⟩
end Sl
namespace Go.Proofs.YtkkjjablmmmmkaaGreatDoor
section
open Go Go.RowKit Sl Eg
set_option maxRecDepth 10000
variable {E : Env} {Es : List Ent} {pp tb s most m bm : Nat} {f : Int → Option Value}
theorem zBg (hE : Seat E) {most : Nat} (hm : most ≤ qAx) : Ct E 12 [.int .i64 (most : Nat)] [] (fun v Q => ∃ m bm pp s tb, v = .pointer (some ⟨m, 0, none⟩) ∧ Q = [cells m [.pointer (some ⟨pp, 0, none⟩), .map (some bm)] 103, mapF bm .i64 (fun _ => none), cells pp [.pointer (some ⟨s, 0, none⟩), .pointer (some ⟨tb, 0, none⟩)] 106, tabP tb s (rls []), zQ s most []]) := by
 refine zN (hE.fn Tryz.func12) rfl rfl rfl (fun R => ?_)
 simp only [qAe, List.cons_append, List.nil_append]
 refine qK (qI (uA rfl (qL (qJ (qK (qI (uM rfl (uU (uC (qTh hE hm) rfl ?_)))))))))
 rintro _ _ ⟨s, rfl, rfl⟩
 simp only [List.cons_append, List.nil_append]
 refine uU (uC (zBh hE) rfl ?_)
 rintro _ _ ⟨pp, tb, rfl, rfl⟩
 simp only [List.cons_append, List.nil_append]
 refine uU (uC (zCw hE) rfl ?_)
 rintro _ _ ⟨m, bm, rfl, rfl⟩
 simp only [List.cons_append, List.nil_append]
 refine uA rfl (qL (qJ (zY ?_)))
 apply zZ
 ·rfl
 ·(apply Rs.tmp rfl; exact Rs.nil)
 ·exact ⟨m, bm, pp, s, tb, rfl, rfl⟩
 ·(apply ent; (repeat constructor); done)
theorem xx_bytes {L : List Rl} (hw : Wf L) {ys : List Nat} {x : Nat} (hx : x ≤ L.length) (ht : txt L x = [120, 120]) (hyl : ys.length = 1) (hs : SigL L [x] ys) : encB L (kF L ys []) (nmY [([97], (x : Int))] ys) = [2, 1, 120, 3, 1, 0, 1, 1, 97, 2] := by
 obtain ⟨y, rfl⟩ := List.length_eq_one_iff.1 hyl
 have h := hs 0 x y rfl rfl
 obtain ⟨n, m, rfl, g1, g2⟩ := twice hw (by rw [h.2.1]; exact ht) h.2.2.1.2
 have ho := hw.ok n _ g1
 simp only [Rl.ok] at ho
 have v0 : kF L [m + 1] [] = [m + 1] := by
  rw [qBp, qBl hw g2 (by simp)]
  rfl
 have v1 : kF L [n + 1] [] = [m + 1, n + 1] := by
  rw [qBp, qBl hw g1 (by simp)]
  show kF L [m + 1] [] ++ [n + 1] = _
  rw [v0]; rfl
 have hne : ¬ m + 1 = n + 1 := by omega
 have hne' : ¬ m = n := by omega
 rw [v1, encB]
 have e1 : encR L [m + 1, n + 1] [m + 1, n + 1].length = [1, 120] ++ [3, 1, 0] := by
  show encR L [m + 1, n + 1] (0 + 1 + 1) = _
  rw [qJb (i := 0 + 1) (n := n) rfl g1, qJb (i := 0) (n := m) rfl g2]
  have : numb [m + 1, n + 1] (m + 1) = 1 := by simp [numb]
  simp only [qBg, this, rulB, encR, List.nil_append]
  rw [qBo (by omega), qBo (by omega)]
  rfl
 have e2 : numb [m + 1, n + 1] (n + 1) = 2 := by simp [numb, hne']
 rw [e1]
 have e3 : nmY [([97], (x : Int))] [n + 1] = [([97], n + 1)] := rfl
 rw [e3]
 simp only [encN, List.flatMap_cons, List.flatMap_nil, e2, List.length_cons, List.length_nil]
 rw [qBo (by omega), qBo (by omega)]
 rfl
theorem sgo_one {n : Nat} {x : Nat} (hx : x ≤ n) : SgO n [([97], (x : Int))] := by
 refine ⟨fun p hp => ?_, fun i p q h _ _ => by simp at h, fun p hp => ?_⟩
 ·obtain rfl := List.mem_singleton.1 hp
  show ValidN [97]
  decide
 ·obtain rfl := List.mem_singleton.1 hp
  exact ⟨by simp, by simp; omega⟩
theorem SgE.not {n : Nat} {l : List (List UInt8 × Int)} {e : Int} (h : SgE n l e) (ho : SgO n l) : False := by
 rcases h with ⟨_, h⟩ | ⟨_, _, h⟩ | ⟨_, _, _, h⟩
 ·exact h ho.1
 ·exact h ho.2.1
 ·exact h ho.2.2
theorem ct_awake (hE : Seat E) (hB : Base E.w0) : Ct E 13 [] [] (fun v Q => v = .bool true ∧ Q = []) := by
 have hmr : 1048576 ≤ qAx := Nat.le_refl _
 refine zN (hE.fn Tryz.func13) rfl rfl rfl (fun R => ?_)
 simp only [qAe, List.cons_append, List.nil_append]
 refine qK (qI (uA rfl (qL (qJ (qK (qI (uU (uC (zBg (most := 1048576) hE hmr) rfl ?_))))))))
 rintro _ _ ⟨m, bm, pp, s, tb, rfl, rfl⟩
 simp only [List.cons_append, List.nil_append]
 refine uA rfl (qL (qJ (qK (qK (qI (uM rfl (qA (qCc rfl (hE.t rfl)) rfl ?_)))))))
 refine uM rfl (kO rfl rfl (uM rfl (kO rfl rfl (uU (uC (qCy hE) rfl ?_)))))
 rintro _ _ ⟨rfl, rfl⟩
 simp only [List.cons_append, List.nil_append]
 refine kO rfl rfl (qA (qCc rfl (hE.t rfl)) rfl ?_)
 refine qA (qW rfl rfl) rfl ?_
 refine qL (qJ (zC rfl (zB (qJ (qK (qI (uM rfl (uU (uC (qCy hE) rfl ?_)))))))))
 rintro _ _ ⟨rfl, rfl⟩
 simp only [List.cons_append, List.nil_append]
 refine uU ?_
 refine qT (hE.t rfl) (hE.t rfl) rfl rfl rfl (fun b17 => ?_)
 refine uU ?_
 refine ld_mark rfl (hE.t rfl) (hE.t rfl) (by ((repeat constructor); done)) ?_
 refine uU (uC (ct_Of (Es := []) (s := s) (tb := tb) (pp := pp) (most := 1048576) (g := b17) (c := 2) (bs := [120, 120]) hE hB (by decide) (by decide)) rfl ?_)
 rintro _ _ ⟨M, id, rfl, hM, htx, hgd, -, rfl⟩
 simp only [List.cons_append, List.nil_append]
 rw [List.nil_append] at htx hgd
 have hM4 : M.length ≤ 4 := hM
 have hid : id ≤ M.length := by have := hgd.1; rwa [zP] at this
 have hln : ∀ p ∈ [(([97] : List UInt8), (id : Int))], 0 ≤ p.2 → p.2 ≤ M.length → Eg.len (rls M) p.2.toNat ≤ 256 := fun p hp _ _ => by
  obtain rfl := List.mem_singleton.1 hp
  show (txt (rls M) (id : Int).toNat).length ≤ 256
  rw [Int.toNat_natCast, htx]
  decide
 have hrm : M.length + 512 * [(([97] : List UInt8), (id : Int))].length ≤ 1048576 := by simp only [List.length_singleton]; omega
 refine uM rfl (qA (qS rfl rfl) rfl (qA (qS rfl rfl) rfl (uA rfl (uA rfl (qL (qJ (qK (qI (uM rfl (uM rfl ?_))))))))))
 refine qA (qAb (hE.t rfl) rfl rfl) rfl ?_
 refine uU ?_
 refine qT (hE.t rfl) (hE.t rfl) rfl rfl rfl (fun b26 => ?_)
 refine uU (uC (zBp (Es := M) (s := s) (tb := tb) (pp := pp) (most := 1048576) (m := m) (bm := bm) (f := fun _ => none) (l := [([97], (id : Int))]) (a := some ⟨b26, 0, none⟩) (ca := 1) (q := cells b26 [.string ⟨⟨[97]⟩⟩, .int .i64 (id : Nat)] 39) hE hB (fun _ => ⟨b26, 0, rfl, qXu (fun _ _ h => h)⟩) (Nat.le_of_ble_eq_true rfl) hln hrm (Kn.nil _)) rfl ?_)
 rintro _ _ (⟨e, he, rfl, rfl⟩ | ⟨M2, f', ys, g, c, B, ho, rfl, hB, hM2, hkn, hyl, hsl, rfl⟩)
 ·exact (he.not (sgo_one hid)).elim
 simp only [List.cons_append, List.nil_append]
 refine qOl (p := zQ s 1048576 (M ++ M2)) (by ((repeat constructor); done)) (fun _ h => qAn h) (fun hsay => ?_)
 have hBv : B = [2, 1, 120, 3, 1, 0, 1, 1, 97, 2] := by
  rw [hB]
  have hsl' : SigL (rls (M ++ M2)) [id] ys := hsl
  exact xx_bytes hsay.1 (by rw [zP, List.length_append]; omega) (by rw [kD, qCp _ (by rw [zP]; omega)]; exact htx) hyl hsl'
 refine uM rfl (qA (qS rfl rfl) rfl (qA (qS rfl rfl) rfl (uA rfl (uA rfl (qL (qJ (qK (qI (uM rfl ?_)))))))))
 refine qA (qVj rfl (hE.t rfl)) rfl ?_
 refine uM rfl (kO rfl rfl (uM rfl (kO rfl rfl (qA (qVj rfl (hE.t rfl)) rfl ?_))))
 refine qA (qV rfl rfl) rfl ?_
 refine uM rfl (kO rfl rfl (uM rfl (kO rfl rfl (uU ?_))))
 refine qT (hE.t rfl) (hE.t rfl) rfl rfl rfl (fun b38 => ?_)
 refine kO rfl rfl ?_
 refine uU (uC (ct_Bytes (xs := B) (bs := [2, 1, 120, 3, 1, 0, 1, 1, 97, 2]) (q := sl (some ⟨g, 0, none⟩) c 5 1 B.length (byC B)) (r := cells b38 [.int .u8 2, .int .u8 1, .int .u8 120, .int .u8 3, .int .u8 1, .int .u8 0, .int .u8 1, .int .u8 1, .int .u8 97, .int .u8 2] 5) hE (fun _ => ⟨g, 0, rfl, qSm (fun _ _ h => h)⟩) (fun _ => ⟨b38, 0, rfl, qXu (fun _ _ h => h)⟩)) rfl ?_)
 rintro _ _ ⟨rfl, rfl⟩
 simp only [List.cons_append, List.nil_append]
 refine qA (qV rfl rfl) rfl ?_
 refine uA rfl (qL (qJ (zY ?_)))
 apply zZ
 ·rfl
 ·(apply Rs.tmp rfl; exact Rs.nil)
 ·exact ⟨congrArg Value.bool (decide_eq_true hBv), rfl⟩
 ·(apply ent; (repeat constructor); done)
end
section
open Go Go.RowKit Sl Eg
set_option maxRecDepth 10000
variable {E : Env} {Es : List Ent}
def WOk (a b : List UInt8) (r w : Int) : Prop := (w = 13 ∧ ¬ (ValidN a ∧ ValidN b)) ∨ (w = 4 ∧ (ValidN a ∧ ValidN b) ∧ ¬ Op.bytesLess a b = true) ∨ (w = 1 ∧ (ValidN a ∧ ValidN b) ∧ Op.bytesLess a b = true ∧ r ≠ 0) ∨ (w = 0 ∧ (ValidN a ∧ ValidN b) ∧ Op.bytesLess a b = true ∧ r = 0)
theorem zAp {a b : List UInt8} {r : Int} : Names [(a, r), (b, 0)] ↔ ValidN a ∧ ValidN b :=
 ⟨fun h => ⟨h (a, r) (by simp), h (b, 0) (by simp)⟩, fun h p hp => by
  simp only [List.mem_cons, List.not_mem_nil, or_false] at hp
  rcases hp with rfl | rfl
  ·exact h.1
  ·exact h.2⟩
theorem ord_two {a b : List UInt8} {r : Int} : Ordered [(a, r), (b, 0)] 2 ↔ Op.bytesLess a b = true :=
 ⟨fun h => h 0 (a, r) (b, 0) (by omega) rfl rfl, fun h i p q hi hp hq => by
  obtain rfl : i = 0 := by omega
  cases hp
  cases hq
  exact h⟩
theorem WOk.ok {a b : List UInt8} {r w : Int} (h : WOk a b r w) (ho : SgO 0 [(a, r), (b, 0)]) : w = 0 ∧ r = 0 := by
 unfold SgO at ho
 rw [zAp, show ([(a, r), (b, 0)] : List (List UInt8 × Int)).length = 2 from rfl, ord_two] at ho
 have hr : r = 0 := by have := ho.2.2 (a, r) (by simp); simp at this; omega
 rcases h with ⟨rfl, g1⟩ | ⟨rfl, g1, g2⟩ | ⟨rfl, g1, g2, g3⟩ | ⟨rfl, g1, g2, g3⟩
 ·exact absurd ho.1 g1
 ·exact absurd ho.2.1 g2
 ·exact absurd hr g3
 ·exact ⟨rfl, hr⟩
end
end Go.Proofs.YtkkjjablmmmmkaaGreatDoor
