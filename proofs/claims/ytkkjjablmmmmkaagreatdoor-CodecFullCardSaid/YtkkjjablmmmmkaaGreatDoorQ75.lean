import Derived.Test.YtkkjjablmmmmkaaGreatDoorQ74
set_option linter.all false
namespace Sl
open Go Go.RowKit
variable {E : Env} {n : Nat} {L : Fr} {H H' : List HP} {K : Value → List HP → Prop} {op : Oper} {ty : TypeId} {pos : String} {af : Array Edge} {d : Option Nat} {gd : Option (Nat × Bool)}
theorem qBb {x : Operand} {t e : TypeId} {c by_ sz sz' : Nat} {z : Int} {zs : List Value} {v0 : Value} {kk : TK} (ht : E.tab t = some ⟨.slice e 1 by_, sz, zs⟩) (he : E.tab e = some ⟨kk, sz', [v0]⟩)
  (hx : ev L x = some (.int .i64 z)) (hz : z = (c : Nat)) (hb : by_ * c ≤ 281474976710656) (hc : c ≤ maxLen)
  (hk : ∀ b, K (.slice (some ⟨b, 0, none⟩) c c) (sl (some ⟨b, 0, none⟩) c e 1 c (List.replicate c v0) :: H)) : Ld E n L H ⟨d, .makeSlice t x x, ty, pos, af, gd⟩ K := qMp ht he (hx.trans (by rw [hz])) hb hc hk
theorem qFf (hH : ∀ k, qAb H k → qAb H' k) (h : Ld E n L H' op K) : Ld E n L H op K := fun Q next a w G hn => h Q next a w ⟨G.f, G.hp.imp hH⟩ hn
end Sl
namespace Go.Proofs.YtkkjjablmmmmkaaGreatDoor
open Go Go.RowKit Sl Eg
set_option maxRecDepth 10000
section
variable {E : Env} {G : List Rl}
def tkS (A : List Nat) (k : Nat) : List Nat := A.take k ++ List.replicate (A.length - k) 0
theorem tkS_zero (A : List Nat) : List.replicate A.length (Value.int .i64 0) = idC (tkS A 0) := by
 simp [tkS, idC]
theorem tkS_all (A : List Nat) : tkS A A.length = A := by simp [tkS]
theorem tkS_set {A : List Nat} {k x : Nat} (h : A[k]? = some x) (o : Nat) (ho : o = k) {v : Int} (hv : v = (x : Nat)) : zZ (idC (tkS A k)) o (zR (.int .i64 v)) = idC (tkS A (k + 1)) := by
 subst ho hv
 have hk := (List.getElem?_eq_some_iff.1 h).1
 simp only [zZ, zR]
 unfold idC tkS
 have e1 : A.length - o = (A.length - (o + 1)) + 1 := by omega
 have e2 : (A.take o).length = o := by rw [List.length_take]; omega
 rw [e1, List.replicate_succ, List.map_append, List.map_cons, List.take_add_one, h, List.set_append_right _ _ (by rw [List.length_map, e2]; exact Nat.le_refl _), List.length_map, e2, Nat.sub_self]
 simp
theorem zBf {l : List (List UInt8 × Int)} {i : Nat} {p : List UInt8 × Int} (h : l[i]? = some p) (o : Nat) (ho : o = i * 2) : (nlC l)[o]? = some (.string ⟨⟨p.1⟩⟩) ∧ (nlC l)[o + 1]? = some (.int .i64 p.2) := by subst ho; exact qUk h
theorem nmI_at {A : List (List UInt8 × Nat)} {i : Nat} {p : List UInt8 × Nat} (h : A[i]? = some p) (o : Nat) (ho : o = i * 2) : (nlC (nmI A))[o]? = some (.string ⟨⟨p.1⟩⟩) ∧ (nlC (nmI A))[o + 1]? = some (.int .i64 (p.2 : Nat)) :=
 zBf (l := nmI A) (p := (p.1, (p.2 : Int))) (by unfold nmI; rw [List.getElem?_map, h]; rfl) o ho
theorem zAa (A : List (List UInt8 × Nat)) : (nmI A).length = A.length := List.length_map _
theorem lvC_set {G : List Rl} {k : Nat} (hk : k + 1 < G.length + 1) (o : Nat) (ho : o = k + 1) : zZ (lvC G k) o (zR (.int .i64 (lvl G (k + 1)))) = lvC G (k + 1) := qUg hk o ho rfl rfl
theorem kzC_set {G : List Rl} {k : Nat} (hk : k + 1 < G.length + 1) (o : Nat) (ho : o = k + 1) : zZ (kzC G k) o (zR (.int .u64 (key G (k + 1) : Nat))) = kzC G (k + 1) := qUg hk o ho rfl rfl
structure PpG where
 b : Nat
 p : Option Addr
 c : Nat
 b2 : Nat
 b3 : Nat
theorem qUu (hE : Seat E) (hB : Base E.w0) (hw : Wf G) (hGl : G.length ≤ 100000) {A : List (List UInt8 × Nat)} (hAl : A.length ≤ 1000) (hA : ∀ p ∈ A, p.2 ≤ G.length ∧ len G p.2 ≤ 256) (hlk : ∀ j, 1 ≤ j → j ≤ G.length → 0 ≤ lvl G j ∧ lvl G j ≤ 1048576) (hs : ∀ j, 1 ≤ j → j ≤ G.length → Sig G j) (hvis : kK G (A.map (·.2)) [] = (List.range G.length).map (· + 1)) {pg pl : Option Addr} {cg cl : Nat} :
  Ct E 40 [.slice pg G.length cg, .slice pl A.length cl] [sl pg cg 82 5 G.length (rusC G), sl pl cl 39 2 A.length (nlC (nmI A))] (fun v Q => v = .bool true ∧ Q = [sl pg cg 82 5 G.length (rusC G), sl pl cl 39 2 A.length (nlC (nmI A))]) := by
 have hmr : qAw = 1048576 := rfl
 refine qBt (p := sl pl cl 39 2 A.length (nlC (nmI A))) uK (fun _ h => fun hpos => qAi h hpos) (fun hpl => ?_)
 refine zQ (hE.fn Tryz.func40) rfl rfl rfl (fun R => ?_)
 simp only [qAa, uV, uW]
 refine qK (qI (uA rfl (qL (qJ (qK (qI (uM rfl (uB (uBl rfl) ?_))))))))
 refine uX (qTd (most := G.length) hE (by omega)) rfl ?_
 rintro _ _ ⟨s, rfl, rfl⟩
 simp only [uV, uW]
 refine uA rfl (qL (qJ (qK (qK (qI (uM rfl (uM rfl (uX (zCe hE hw hGl) rfl ?_))))))))
 rintro _ _ ⟨Es, rfl, hEs, rfl⟩
 simp only [uV, uW]
 subst hEs
 have hEl : (rls Es).length = Es.length := zS Es
 refine uM rfl (uB (qU rfl rfl) (uB (qU rfl rfl) (uA rfl (uA rfl (qL (qJ (qK (qI (uM rfl (uB (qAg rfl (hE.t rfl)) ?_))))))))))
 refine uM rfl (kU rfl rfl (uM rfl (kU rfl rfl (uX (qYz hE) rfl ?_))))
 rintro _ _ ⟨rfl, rfl⟩
 simp only [uV, uW]
 refine kU rfl rfl (uM rfl (kU rfl rfl (uB (uBl rfl) ?_)))
 refine kU rfl rfl (uB (y_ne rfl rfl) ?_)
 refine uB (qY rfl rfl) ?_
 refine qL (qJ ?_)
 refine zG rfl (fun h1 => ?_) (fun h1 => ?_)
 ·exfalso; omega
 refine zD (qJ (qK (qI (uM rfl (uB (uBl rfl) ?_)))))
 refine uU ?_
 refine qBb (c := A.length) (hE.t rfl) (hE.t rfl) rfl (by omega) (by omega) (by (unfold maxLen; omega)) (fun b40 => ?_)
 refine uA rfl (qL (qJ (qK (qK (qI (uM rfl (uB (uBl rfl) ?_)))))))
 refine uM rfl (qL (qJ (zM ?_)))
 have ez : List.replicate A.length (Value.int .i64 0) = idC (tkS (A.map (·.2)) 0) := by
  have := tkS_zero (A.map (·.2))
  rwa [List.length_map] at this
 rw [ez]
 refine qAc (fun k : Nat => [(0, .slice pg (rls Es).length cg), (5, uPt s), (8, .slice (some ⟨b40, 0, none⟩) A.length A.length), (41, .slice pl A.length cl), (42, .int .i64 (A.length : Nat)), (43, .int .i64 (k : Nat))]) (fun k => [zT s (rls Es).length Es, sl pg cg 82 5 (rls Es).length (rusC (rls Es)), sl pl cl 39 2 A.length (nlC (nmI A)), sl (some ⟨b40, 0, none⟩) A.length 37 1 A.length (idC (tkS (A.map (·.2)) k)), R]) (fun k => A.length - k) (fun k => k ≤ A.length) 0 (Nat.zero_le _) ⟨rfl, rfl, rfl, rfl, rfl, rfl, trivial⟩ uI ?_
 rintro k hk
 refine qK (qI (uB (y_lt rfl rfl) ?_))
 refine qL (qJ (qK ?_))
 refine zG rfl (fun h2 => ?_) (fun h2 => ?_)
 ·have hkl : k < A.length := by omega
  obtain ⟨p, hp⟩ : ∃ x, A[k]? = some x := ⟨_, List.getElem?_eq_getElem hkl⟩
  obtain ⟨f0, f1⟩ := nmI_at hp (0 + ((k : Nat) : Int).toNat * 2) (by omega)
  have hpk : (A.map (·.2))[k]? = some p.2 := by rw [List.getElem?_map, hp]; rfl
  obtain ⟨gl, rfl⟩ := hpl (by omega)
  refine zD (qJ (qK (zM (qK (qI (uM rfl (uB (uAi rfl rfl) ?_)))))))
  refine uB (uG) ?_
  refine uU (kH (hE.t rfl) (fun b10 => ?_))
  refine uA rfl (uU (uS ?_))
  refine qL (qJ (qI (uM rfl (uM rfl (uB (uBf rfl) ?_)))))
  refine uL ?_
  refine uB (uAj rfl rfl) ?_
  refine uU (uJ ?_)
  refine qL (zK (qJ (qI (uB (uAa rfl rfl) ?_))))
  refine uM rfl (qL ?_)
  rw [tkS_set (k := k) hpk (((k : Nat) : Int).toNat) (by omega) rfl]
  refine zU (ι := Nat) (j := k + 1) (by omega) (by omega) ⟨rfl, rfl, rfl, rfl, rfl, congrArg some (zY (by omega)), trivial⟩ uI
 obtain rfl : k = A.length := by omega
 have ez2 : tkS (A.map (·.2)) A.length = A.map (·.2) := by
  have := tkS_all (A.map (·.2))
  rwa [List.length_map] at this
 rw [ez2]
 refine kM (qP (qP (zJ (qJ (qK (qI (uM rfl (uM rfl (uU ?_)))))))))
 apply zA (qPp (s := s) (most := (rls Es).length) (Es := Es) (xs := A.map (·.2)) hE (by simp) (fun x hx => by
  obtain ⟨q, hq, rfl⟩ := List.mem_map.1 hx
  have := hA q hq
  exact ⟨by omega, this.2⟩) hAl) rfl (hE.f (by kernel_rfl))
 ·exact uK
 rintro _ _ ⟨p1, c1, rfl, rfl⟩
 rw [hvis]
 have hvl : ((List.range (rls Es).length).map (· + 1)).length = (rls Es).length := by simp
 rw [hvl]
 simp only [uV, uW]
 refine uA rfl (qL (qJ (qK (qK (qI (uM rfl (uB (uBl rfl) ?_)))))))
 refine uM rfl (uB (uBl rfl) ?_)
 refine uB (y_ne rfl rfl) ?_
 refine qL (qJ ?_)
 refine zG rfl (fun h3 => ?_) (fun h3 => ?_)
 ·exfalso; omega
 refine qCy (p := sl p1 c1 37 1 (rls Es).length (idC ((List.range (rls Es).length).map (· + 1)))) uK (fun _ h => fun hpos => qAi h hpos) ?_
 intro hp1
 refine zD (qJ (qK (qK (qI (uM rfl (uB (uBl rfl) ?_))))))
 refine uM rfl (qL (qJ (zM ?_)))
 refine qAc (fun k : Nat => [(0, .slice pg (rls Es).length cg), (5, uPt s), (62, .slice p1 (rls Es).length c1), (63, .int .i64 ((rls Es).length : Nat)), (64, .int .i64 (k : Nat))]) (fun k => [zT s (rls Es).length Es, sl pg cg 82 5 (rls Es).length (rusC (rls Es)), sl pl cl 39 2 A.length (nlC (nmI A)), sl p1 c1 37 1 (rls Es).length (idC ((List.range (rls Es).length).map (· + 1))), R]) (fun k => (rls Es).length - k) (fun k => k ≤ (rls Es).length) 0 (Nat.zero_le _) ⟨rfl, rfl, rfl, rfl, rfl, trivial⟩ uI ?_
 clear h2 hk h3 h1
 rintro k hk
 refine qK (qI (uB (y_lt rfl rfl) ?_))
 refine qL (qJ (qK ?_))
 refine zG rfl (fun h2 => ?_) (fun h2 => ?_)
 ·have hkl : k < (rls Es).length := by omega
  obtain ⟨g1, rfl⟩ := hp1 (by omega)
  have hat : ((List.range (rls Es).length).map (· + 1))[k]? = some (k + 1) := by rw [List.getElem?_map, List.getElem?_range hkl]; rfl
  have f0 := qAl hat (((k : Nat) : Int).toNat) (by omega)
  refine zD (qJ (qK (zM (qK (qI (uM rfl (uB (uAj rfl rfl) ?_)))))))
  refine uL ?_
  refine uA rfl (uA rfl (qL (qJ (qK (qI (uM rfl (uM rfl (uB (uAa rfl rfl) ?_))))))))
  refine uB (y_ne rfl rfl) ?_
  refine qL (qJ ?_)
  refine zG rfl (fun h3 => ?_) (fun h3 => ?_)
  ·exfalso; omega
  refine zD (zK (qJ (qI (uB (uAa rfl rfl) ?_))))
  refine uM rfl (qL ?_)
  refine zU (ι := Nat) (j := k + 1) (by omega) (by omega) ⟨rfl, rfl, rfl, rfl, congrArg some (zY (by omega)), trivial⟩ uI
 refine qCy (p := sl pg cg 82 5 (rls Es).length (rusC (rls Es))) uK (fun _ h => (qIi h).2.2) ?_
 intro hGRl
 refine kM (qP (qP (zJ (qJ ?_))))
 refine qEs (fun x : PpG => [(0, .slice pg (rls Es).length cg), (5, uPt s), (14, .pointer (some ⟨x.b, 0, none⟩))]) (fun x => [zT s (rls Es).length Es, sl pg cg 82 5 (rls Es).length (rusC (rls Es)), sl pl cl 39 2 A.length (nlC (nmI A)), cells x.b [.slice x.p ((rls Es).length + 1) x.c, .slice (some ⟨x.b2, 0, none⟩) ((rls Es).length + 1) ((rls Es).length + 1), .slice (some ⟨x.b3, 0, none⟩) ((rls Es).length + 1) ((rls Es).length + 1)] 150, sl x.p x.c 82 5 ((rls Es).length + 1) (ruC (rls Es)), sl (some ⟨x.b2, 0, none⟩) ((rls Es).length + 1) 3 1 ((rls Es).length + 1) (lvC (rls Es) 0), sl (some ⟨x.b3, 0, none⟩) ((rls Es).length + 1) 80 1 ((rls Es).length + 1) (kzC (rls Es) 0), R]) (fun _ => True) ?_ ?_
 ·have el : List.replicate ((rls Es).length + 1) (Value.int .i64 0) = lvC (rls Es) 0 := qPl (f := fun j => .int .i64 (lvl (rls Es) j)) rfl _
  have ek : List.replicate ((rls Es).length + 1) (Value.int .u64 0) = kzC (rls Es) 0 := qPl (f := fun j => .int .u64 (key (rls Es) j : Nat)) rfl _
  refine uN 14 ([]) ?_
  refine uT 0 rfl (qAe (hE.t rfl) rfl rfl) ?_
  refine uT 2 rfl (qB rfl) ?_
  refine uT 4 rfl (qB rfl) ?_
  refine uT 5 rfl (uBl rfl) ?_
  refine uT 6 rfl (uAa rfl rfl) ?_
  refine uT 8 rfl (qB rfl) ?_
  refine uT 9 rfl (uBl rfl) ?_
  refine uT 10 rfl (uAa rfl rfl) ?_
  apply qXe 1 7 11 rfl rfl rfl (by kernel_rfl) rfl rfl rfl
  ·refine qV (hE.t rfl) (hE.t rfl) rfl rfl rfl (fun b75 => ?_)
   refine uE ?_
   apply qXe 3 7 11 rfl rfl rfl (by kernel_rfl) rfl rfl rfl
   ·refine qFf (kF (p := cells b75 [.int .i64 0, .int .u8 0, .int .i64 0, .int .i64 0, .int .i64 0] 82) (p' := sl (some ⟨b75, 0, none⟩) 1 82 5 1 [.int .i64 0, .int .u8 0, .int .i64 0, .int .i64 0, .int .i64 0]) uK (qAd rfl (by unfold maxLen; omega))) ?_
    apply qAv (hE.t rfl) (hE.t rfl) rfl rfl rfl
    ·exact uK
    ·exact uK
    ·exact qEc _
    ·omega
    ·unfold maxLen; omega
    intro pK cK mK xK hmK hxK
    obtain rfl : mK = (rls Es).length + 1 := by omega
    obtain rfl : xK = ruC (rls Es) := by rw [hxK]; rfl
    refine uE ?_
    apply qLb 7 11 rfl rfl (by kernel_rfl) rfl rfl
    ·refine qBb (c := (rls Es).length + 1) (hE.t rfl) (hE.t rfl) rfl (by omega) (by omega) (by (unfold maxLen; omega)) (fun b81 => ?_)
     refine uE ?_
     apply qAm 11 rfl (by kernel_rfl) rfl
     refine qBb (c := (rls Es).length + 1) (hE.t rfl) (hE.t rfl) rfl (by omega) (by omega) (by (unfold maxLen; omega)) (fun b85 => ?_)
     refine uE ?_
     apply kN 12 rfl (by kernel_rfl)
     ·exact qAe (hE.t rfl) rfl rfl
     ·rfl
     apply qAm 13 rfl (by kernel_rfl) rfl
     refine qAs rfl (fun b87 => ?_)
     refine uE ?_
     apply kN 14 rfl (by kernel_rfl)
     ·exact qC rfl
     ·rfl
     refine qMd (by kernel_rfl) ?_
     rw [el, ek]
     refine qAr (ι := PpG) ⟨b87, pK, cK, b81, b85⟩ trivial ⟨rfl, rfl, rfl, trivial⟩ ?_
     exact uI
    refine qBb (c := (rls Es).length + 1) (hE.t rfl) (hE.t rfl) rfl (by omega) (by omega) (by (unfold maxLen; omega)) (fun b85 => ?_)
    refine uE ?_
    apply qAm 7 rfl (by kernel_rfl) rfl
    refine qBb (c := (rls Es).length + 1) (hE.t rfl) (hE.t rfl) rfl (by omega) (by omega) (by (unfold maxLen; omega)) (fun b81 => ?_)
    refine uE ?_
    apply kN 12 rfl (by kernel_rfl)
    ·exact qAe (hE.t rfl) rfl rfl
    ·rfl
    apply qAm 13 rfl (by kernel_rfl) rfl
    refine qAs rfl (fun b87 => ?_)
    refine uE ?_
    apply kN 14 rfl (by kernel_rfl)
    ·exact qC rfl
    ·rfl
    refine qMd (by kernel_rfl) ?_
    rw [el, ek]
    refine qAr (ι := PpG) ⟨b87, pK, cK, b81, b85⟩ trivial ⟨rfl, rfl, rfl, trivial⟩ ?_
    exact uI
   ·refine qBb (c := (rls Es).length + 1) (hE.t rfl) (hE.t rfl) rfl (by omega) (by omega) (by (unfold maxLen; omega)) (fun b81 => ?_)
    refine uE ?_
    apply qLb 3 11 rfl rfl (by kernel_rfl) rfl rfl
    ·refine qFf (kF (p := cells b75 [.int .i64 0, .int .u8 0, .int .i64 0, .int .i64 0, .int .i64 0] 82) (p' := sl (some ⟨b75, 0, none⟩) 1 82 5 1 [.int .i64 0, .int .u8 0, .int .i64 0, .int .i64 0, .int .i64 0]) uK (qAd rfl (by unfold maxLen; omega))) ?_
     apply qAv (hE.t rfl) (hE.t rfl) rfl rfl rfl
     ·exact uK
     ·exact uK
     ·exact qEc _
     ·omega
     ·unfold maxLen; omega
     intro pK cK mK xK hmK hxK
     obtain rfl : mK = (rls Es).length + 1 := by omega
     obtain rfl : xK = ruC (rls Es) := by rw [hxK]; rfl
     refine uE ?_
     apply qAm 11 rfl (by kernel_rfl) rfl
     refine qBb (c := (rls Es).length + 1) (hE.t rfl) (hE.t rfl) rfl (by omega) (by omega) (by (unfold maxLen; omega)) (fun b85 => ?_)
     refine uE ?_
     apply kN 12 rfl (by kernel_rfl)
     ·exact qAe (hE.t rfl) rfl rfl
     ·rfl
     apply qAm 13 rfl (by kernel_rfl) rfl
     refine qAs rfl (fun b87 => ?_)
     refine uE ?_
     apply kN 14 rfl (by kernel_rfl)
     ·exact qC rfl
     ·rfl
     refine qMd (by kernel_rfl) ?_
     rw [el, ek]
     refine qAr (ι := PpG) ⟨b87, pK, cK, b81, b85⟩ trivial ⟨rfl, rfl, rfl, trivial⟩ ?_
     exact uI
    refine qBb (c := (rls Es).length + 1) (hE.t rfl) (hE.t rfl) rfl (by omega) (by omega) (by (unfold maxLen; omega)) (fun b85 => ?_)
    refine uE ?_
    apply qAm 3 rfl (by kernel_rfl) rfl
    refine qFf (kF (p := cells b75 [.int .i64 0, .int .u8 0, .int .i64 0, .int .i64 0, .int .i64 0] 82) (p' := sl (some ⟨b75, 0, none⟩) 1 82 5 1 [.int .i64 0, .int .u8 0, .int .i64 0, .int .i64 0, .int .i64 0]) uK (qAd rfl (by unfold maxLen; omega))) ?_
    apply qAv (hE.t rfl) (hE.t rfl) rfl rfl rfl
    ·exact uK
    ·exact uK
    ·exact qEc _
    ·omega
    ·unfold maxLen; omega
    intro pK cK mK xK hmK hxK
    obtain rfl : mK = (rls Es).length + 1 := by omega
    obtain rfl : xK = ruC (rls Es) := by rw [hxK]; rfl
    refine uE ?_
    apply kN 12 rfl (by kernel_rfl)
    ·exact qAe (hE.t rfl) rfl rfl
    ·rfl
    apply qAm 13 rfl (by kernel_rfl) rfl
    refine qAs rfl (fun b87 => ?_)
    refine uE ?_
    apply kN 14 rfl (by kernel_rfl)
    ·exact qC rfl
    ·rfl
    refine qMd (by kernel_rfl) ?_
    rw [el, ek]
    refine qAr (ι := PpG) ⟨b87, pK, cK, b81, b85⟩ trivial ⟨rfl, rfl, rfl, trivial⟩ ?_
    exact uI
   refine qBb (c := (rls Es).length + 1) (hE.t rfl) (hE.t rfl) rfl (by omega) (by omega) (by (unfold maxLen; omega)) (fun b85 => ?_)
   refine uE ?_
   apply qLb 3 7 rfl rfl (by kernel_rfl) rfl rfl
   ·refine qFf (kF (p := cells b75 [.int .i64 0, .int .u8 0, .int .i64 0, .int .i64 0, .int .i64 0] 82) (p' := sl (some ⟨b75, 0, none⟩) 1 82 5 1 [.int .i64 0, .int .u8 0, .int .i64 0, .int .i64 0, .int .i64 0]) uK (qAd rfl (by unfold maxLen; omega))) ?_
    apply qAv (hE.t rfl) (hE.t rfl) rfl rfl rfl
    ·exact uK
    ·exact uK
    ·exact qEc _
    ·omega
    ·unfold maxLen; omega
    intro pK cK mK xK hmK hxK
    obtain rfl : mK = (rls Es).length + 1 := by omega
    obtain rfl : xK = ruC (rls Es) := by rw [hxK]; rfl
    refine uE ?_
    apply qAm 7 rfl (by kernel_rfl) rfl
    refine qBb (c := (rls Es).length + 1) (hE.t rfl) (hE.t rfl) rfl (by omega) (by omega) (by (unfold maxLen; omega)) (fun b81 => ?_)
    refine uE ?_
    apply kN 12 rfl (by kernel_rfl)
    ·exact qAe (hE.t rfl) rfl rfl
    ·rfl
    apply qAm 13 rfl (by kernel_rfl) rfl
    refine qAs rfl (fun b87 => ?_)
    refine uE ?_
    apply kN 14 rfl (by kernel_rfl)
    ·exact qC rfl
    ·rfl
    refine qMd (by kernel_rfl) ?_
    rw [el, ek]
    refine qAr (ι := PpG) ⟨b87, pK, cK, b81, b85⟩ trivial ⟨rfl, rfl, rfl, trivial⟩ ?_
    exact uI
   refine qBb (c := (rls Es).length + 1) (hE.t rfl) (hE.t rfl) rfl (by omega) (by omega) (by (unfold maxLen; omega)) (fun b81 => ?_)
   refine uE ?_
   apply qAm 3 rfl (by kernel_rfl) rfl
   refine qFf (kF (p := cells b75 [.int .i64 0, .int .u8 0, .int .i64 0, .int .i64 0, .int .i64 0] 82) (p' := sl (some ⟨b75, 0, none⟩) 1 82 5 1 [.int .i64 0, .int .u8 0, .int .i64 0, .int .i64 0, .int .i64 0]) uK (qAd rfl (by unfold maxLen; omega))) ?_
   apply qAv (hE.t rfl) (hE.t rfl) rfl rfl rfl
   ·exact uK
   ·exact uK
   ·exact qEc _
   ·omega
   ·unfold maxLen; omega
   intro pK cK mK xK hmK hxK
   obtain rfl : mK = (rls Es).length + 1 := by omega
   obtain rfl : xK = ruC (rls Es) := by rw [hxK]; rfl
   refine uE ?_
   apply kN 12 rfl (by kernel_rfl)
   ·exact qAe (hE.t rfl) rfl rfl
   ·rfl
   apply qAm 13 rfl (by kernel_rfl) rfl
   refine qAs rfl (fun b87 => ?_)
   refine uE ?_
   apply kN 14 rfl (by kernel_rfl)
   ·exact qC rfl
   ·rfl
   refine qMd (by kernel_rfl) ?_
   rw [el, ek]
   refine qAr (ι := PpG) ⟨b87, pK, cK, b81, b85⟩ trivial ⟨rfl, rfl, rfl, trivial⟩ ?_
   exact uI
  ·refine qBb (c := (rls Es).length + 1) (hE.t rfl) (hE.t rfl) rfl (by omega) (by omega) (by (unfold maxLen; omega)) (fun b81 => ?_)
   refine uE ?_
   apply qLb 1 11 rfl rfl (by kernel_rfl) rfl rfl
   ·refine qV (hE.t rfl) (hE.t rfl) rfl rfl rfl (fun b75 => ?_)
    refine uE ?_
    apply qLb 3 11 rfl rfl (by kernel_rfl) rfl rfl
    ·refine qFf (kF (p := cells b75 [.int .i64 0, .int .u8 0, .int .i64 0, .int .i64 0, .int .i64 0] 82) (p' := sl (some ⟨b75, 0, none⟩) 1 82 5 1 [.int .i64 0, .int .u8 0, .int .i64 0, .int .i64 0, .int .i64 0]) uK (qAd rfl (by unfold maxLen; omega))) ?_
     apply qAv (hE.t rfl) (hE.t rfl) rfl rfl rfl
     ·exact uK
     ·exact uK
     ·exact qEc _
     ·omega
     ·unfold maxLen; omega
     intro pK cK mK xK hmK hxK
     obtain rfl : mK = (rls Es).length + 1 := by omega
     obtain rfl : xK = ruC (rls Es) := by rw [hxK]; rfl
     refine uE ?_
     apply qAm 11 rfl (by kernel_rfl) rfl
     refine qBb (c := (rls Es).length + 1) (hE.t rfl) (hE.t rfl) rfl (by omega) (by omega) (by (unfold maxLen; omega)) (fun b85 => ?_)
     refine uE ?_
     apply kN 12 rfl (by kernel_rfl)
     ·exact qAe (hE.t rfl) rfl rfl
     ·rfl
     apply qAm 13 rfl (by kernel_rfl) rfl
     refine qAs rfl (fun b87 => ?_)
     refine uE ?_
     apply kN 14 rfl (by kernel_rfl)
     ·exact qC rfl
     ·rfl
     refine qMd (by kernel_rfl) ?_
     rw [el, ek]
     refine qAr (ι := PpG) ⟨b87, pK, cK, b81, b85⟩ trivial ⟨rfl, rfl, rfl, trivial⟩ ?_
     exact uI
    refine qBb (c := (rls Es).length + 1) (hE.t rfl) (hE.t rfl) rfl (by omega) (by omega) (by (unfold maxLen; omega)) (fun b85 => ?_)
    refine uE ?_
    apply qAm 3 rfl (by kernel_rfl) rfl
    refine qFf (kF (p := cells b75 [.int .i64 0, .int .u8 0, .int .i64 0, .int .i64 0, .int .i64 0] 82) (p' := sl (some ⟨b75, 0, none⟩) 1 82 5 1 [.int .i64 0, .int .u8 0, .int .i64 0, .int .i64 0, .int .i64 0]) uK (qAd rfl (by unfold maxLen; omega))) ?_
    apply qAv (hE.t rfl) (hE.t rfl) rfl rfl rfl
    ·exact uK
    ·exact uK
    ·exact qEc _
    ·omega
    ·unfold maxLen; omega
    intro pK cK mK xK hmK hxK
    obtain rfl : mK = (rls Es).length + 1 := by omega
    obtain rfl : xK = ruC (rls Es) := by rw [hxK]; rfl
    refine uE ?_
    apply kN 12 rfl (by kernel_rfl)
    ·exact qAe (hE.t rfl) rfl rfl
    ·rfl
    apply qAm 13 rfl (by kernel_rfl) rfl
    refine qAs rfl (fun b87 => ?_)
    refine uE ?_
    apply kN 14 rfl (by kernel_rfl)
    ·exact qC rfl
    ·rfl
    refine qMd (by kernel_rfl) ?_
    rw [el, ek]
    refine qAr (ι := PpG) ⟨b87, pK, cK, b81, b85⟩ trivial ⟨rfl, rfl, rfl, trivial⟩ ?_
    exact uI
   refine qBb (c := (rls Es).length + 1) (hE.t rfl) (hE.t rfl) rfl (by omega) (by omega) (by (unfold maxLen; omega)) (fun b85 => ?_)
   refine uE ?_
   apply qAm 1 rfl (by kernel_rfl) rfl
   refine qV (hE.t rfl) (hE.t rfl) rfl rfl rfl (fun b75 => ?_)
   refine uE ?_
   apply qAm 3 rfl (by kernel_rfl) rfl
   refine qFf (kF (p := cells b75 [.int .i64 0, .int .u8 0, .int .i64 0, .int .i64 0, .int .i64 0] 82) (p' := sl (some ⟨b75, 0, none⟩) 1 82 5 1 [.int .i64 0, .int .u8 0, .int .i64 0, .int .i64 0, .int .i64 0]) uK (qAd rfl (by unfold maxLen; omega))) ?_
   apply qAv (hE.t rfl) (hE.t rfl) rfl rfl rfl
   ·exact uK
   ·exact uK
   ·exact qEc _
   ·omega
   ·unfold maxLen; omega
   intro pK cK mK xK hmK hxK
   obtain rfl : mK = (rls Es).length + 1 := by omega
   obtain rfl : xK = ruC (rls Es) := by rw [hxK]; rfl
   refine uE ?_
   apply kN 12 rfl (by kernel_rfl)
   ·exact qAe (hE.t rfl) rfl rfl
   ·rfl
   apply qAm 13 rfl (by kernel_rfl) rfl
   refine qAs rfl (fun b87 => ?_)
   refine uE ?_
   apply kN 14 rfl (by kernel_rfl)
   ·exact qC rfl
   ·rfl
   refine qMd (by kernel_rfl) ?_
   rw [el, ek]
   refine qAr (ι := PpG) ⟨b87, pK, cK, b81, b85⟩ trivial ⟨rfl, rfl, rfl, trivial⟩ ?_
   exact uI
  refine qBb (c := (rls Es).length + 1) (hE.t rfl) (hE.t rfl) rfl (by omega) (by omega) (by (unfold maxLen; omega)) (fun b85 => ?_)
  refine uE ?_
  apply qLb 1 7 rfl rfl (by kernel_rfl) rfl rfl
  ·refine qV (hE.t rfl) (hE.t rfl) rfl rfl rfl (fun b75 => ?_)
   refine uE ?_
   apply qLb 3 7 rfl rfl (by kernel_rfl) rfl rfl
   ·refine qFf (kF (p := cells b75 [.int .i64 0, .int .u8 0, .int .i64 0, .int .i64 0, .int .i64 0] 82) (p' := sl (some ⟨b75, 0, none⟩) 1 82 5 1 [.int .i64 0, .int .u8 0, .int .i64 0, .int .i64 0, .int .i64 0]) uK (qAd rfl (by unfold maxLen; omega))) ?_
    apply qAv (hE.t rfl) (hE.t rfl) rfl rfl rfl
    ·exact uK
    ·exact uK
    ·exact qEc _
    ·omega
    ·unfold maxLen; omega
    intro pK cK mK xK hmK hxK
    obtain rfl : mK = (rls Es).length + 1 := by omega
    obtain rfl : xK = ruC (rls Es) := by rw [hxK]; rfl
    refine uE ?_
    apply qAm 7 rfl (by kernel_rfl) rfl
    refine qBb (c := (rls Es).length + 1) (hE.t rfl) (hE.t rfl) rfl (by omega) (by omega) (by (unfold maxLen; omega)) (fun b81 => ?_)
    refine uE ?_
    apply kN 12 rfl (by kernel_rfl)
    ·exact qAe (hE.t rfl) rfl rfl
    ·rfl
    apply qAm 13 rfl (by kernel_rfl) rfl
    refine qAs rfl (fun b87 => ?_)
    refine uE ?_
    apply kN 14 rfl (by kernel_rfl)
    ·exact qC rfl
    ·rfl
    refine qMd (by kernel_rfl) ?_
    rw [el, ek]
    refine qAr (ι := PpG) ⟨b87, pK, cK, b81, b85⟩ trivial ⟨rfl, rfl, rfl, trivial⟩ ?_
    exact uI
   refine qBb (c := (rls Es).length + 1) (hE.t rfl) (hE.t rfl) rfl (by omega) (by omega) (by (unfold maxLen; omega)) (fun b81 => ?_)
   refine uE ?_
   apply qAm 3 rfl (by kernel_rfl) rfl
   refine qFf (kF (p := cells b75 [.int .i64 0, .int .u8 0, .int .i64 0, .int .i64 0, .int .i64 0] 82) (p' := sl (some ⟨b75, 0, none⟩) 1 82 5 1 [.int .i64 0, .int .u8 0, .int .i64 0, .int .i64 0, .int .i64 0]) uK (qAd rfl (by unfold maxLen; omega))) ?_
   apply qAv (hE.t rfl) (hE.t rfl) rfl rfl rfl
   ·exact uK
   ·exact uK
   ·exact qEc _
   ·omega
   ·unfold maxLen; omega
   intro pK cK mK xK hmK hxK
   obtain rfl : mK = (rls Es).length + 1 := by omega
   obtain rfl : xK = ruC (rls Es) := by rw [hxK]; rfl
   refine uE ?_
   apply kN 12 rfl (by kernel_rfl)
   ·exact qAe (hE.t rfl) rfl rfl
   ·rfl
   apply qAm 13 rfl (by kernel_rfl) rfl
   refine qAs rfl (fun b87 => ?_)
   refine uE ?_
   apply kN 14 rfl (by kernel_rfl)
   ·exact qC rfl
   ·rfl
   refine qMd (by kernel_rfl) ?_
   rw [el, ek]
   refine qAr (ι := PpG) ⟨b87, pK, cK, b81, b85⟩ trivial ⟨rfl, rfl, rfl, trivial⟩ ?_
   exact uI
  refine qBb (c := (rls Es).length + 1) (hE.t rfl) (hE.t rfl) rfl (by omega) (by omega) (by (unfold maxLen; omega)) (fun b81 => ?_)
  refine uE ?_
  apply qAm 1 rfl (by kernel_rfl) rfl
  refine qV (hE.t rfl) (hE.t rfl) rfl rfl rfl (fun b75 => ?_)
  refine uE ?_
  apply qAm 3 rfl (by kernel_rfl) rfl
  refine qFf (kF (p := cells b75 [.int .i64 0, .int .u8 0, .int .i64 0, .int .i64 0, .int .i64 0] 82) (p' := sl (some ⟨b75, 0, none⟩) 1 82 5 1 [.int .i64 0, .int .u8 0, .int .i64 0, .int .i64 0, .int .i64 0]) uK (qAd rfl (by unfold maxLen; omega))) ?_
  apply qAv (hE.t rfl) (hE.t rfl) rfl rfl rfl
  ·exact uK
  ·exact uK
  ·exact qEc _
  ·omega
  ·unfold maxLen; omega
  intro pK cK mK xK hmK hxK
  obtain rfl : mK = (rls Es).length + 1 := by omega
  obtain rfl : xK = ruC (rls Es) := by rw [hxK]; rfl
  refine uE ?_
  apply kN 12 rfl (by kernel_rfl)
  ·exact qAe (hE.t rfl) rfl rfl
  ·rfl
  apply qAm 13 rfl (by kernel_rfl) rfl
  refine qAs rfl (fun b87 => ?_)
  refine uE ?_
  apply kN 14 rfl (by kernel_rfl)
  ·exact qC rfl
  ·rfl
  refine qMd (by kernel_rfl) ?_
  rw [el, ek]
  refine qAr (ι := PpG) ⟨b87, pK, cK, b81, b85⟩ trivial ⟨rfl, rfl, rfl, trivial⟩ ?_
  exact uI
 rintro ⟨pb, p2, c2, b2, b3⟩ _
 simp only
 refine qCy (p := sl p2 c2 82 5 ((rls Es).length + 1) (ruC (rls Es))) uK (fun _ h => qAi h (by omega)) ?_
 rintro ⟨g1, rfl⟩
 refine qK (qI (uM rfl (uX (qPj hE) rfl ?_)))
 rintro _ _ ⟨tb, rfl, rfl⟩
 simp only [uV, uW]
 refine qMa (kF (p := tabP tb s []) (p' := tabP tb s (rls Es)) uK (fun _ h => qJi (rls Es) h)) ?_
 refine uA rfl (qL (qJ (qK (qK (qI (uA rfl (qL (qJ (zM ?_)))))))))
 refine qAc (fun k : Nat => [(0, .slice pg (rls Es).length cg), (14, uPt pb), (15, uPt tb), (16, .int .i64 ((k + 1 : Nat) : Int))]) (fun k => [zT s (rls Es).length Es, tabP tb s (rls Es), sl pg cg 82 5 (rls Es).length (rusC (rls Es)), sl pl cl 39 2 A.length (nlC (nmI A)), cells pb [.slice (some ⟨g1, 0, none⟩) ((rls Es).length + 1) c2, .slice (some ⟨b2, 0, none⟩) ((rls Es).length + 1) ((rls Es).length + 1), .slice (some ⟨b3, 0, none⟩) ((rls Es).length + 1) ((rls Es).length + 1)] 150, sl (some ⟨g1, 0, none⟩) c2 82 5 ((rls Es).length + 1) (ruC (rls Es)), sl (some ⟨b2, 0, none⟩) ((rls Es).length + 1) 3 1 ((rls Es).length + 1) (lvC (rls Es) k), sl (some ⟨b3, 0, none⟩) ((rls Es).length + 1) 80 1 ((rls Es).length + 1) (kzC (rls Es) k), R]) (fun k => (rls Es).length - k) (fun k => k ≤ (rls Es).length) 0 (Nat.zero_le _) ⟨rfl, rfl, rfl, rfl, trivial⟩ uI ?_
 clear h2 hk k
 rintro k hk
 refine qK (qK (qI (uM rfl (uM rfl (uB (uBl rfl) ?_)))))
 refine uB (y_le rfl rfl) ?_
 refine qL (qJ ?_)
 refine zG rfl (fun h2 => ?_) (fun h2 => ?_)
 ·have hkl : k < (rls Es).length := by omega
  have hlv := hlk (k + 1) (by omega) (by omega)
  obtain ⟨r, hr⟩ : ∃ x, (rls Es)[k]? = some x := ⟨_, List.getElem?_eq_getElem hkl⟩
  obtain ⟨f0, f1, f2, f3, f4⟩ := qIl hr (0 + ((k + 1 : Nat) : Int).toNat * 5) (by omega)
  refine zD (qJ (qK (zM (qK (qI (uM rfl (uM rfl ?_)))))))
  refine uX (ct_level (s := s) (most := (rls Es).length) (Es := Es) (i := k) hE hB (by omega) hlv.1) rfl ?_
  rintro _ _ ⟨rfl, rfl⟩
  simp only [uV, uW]
  refine uM rfl (uB (qU rfl rfl) (uB (qU rfl rfl) (uA rfl (uA rfl (qL (qJ (qK (qK (qI (uM rfl ?_))))))))))
  refine uB (qAg rfl (hE.t rfl)) ?_
  refine uM rfl (kU rfl rfl (uM rfl (kU rfl rfl (uB (y_gt rfl rfl) ?_))))
  refine uB (qY rfl rfl) ?_
  refine qL (qJ ?_)
  refine zG rfl (fun h3 => ?_) (fun h3 => ?_)
  ·exfalso; omega
  refine zD (qJ (qK (qI (uM rfl (uM rfl (uX (zEj (s := s) (most := (rls Es).length) (Es := Es) (i := k) hE hB (by omega)) rfl ?_))))))
  rintro _ _ ⟨rfl, rfl⟩
  simp only [uV, uW]
  refine uM rfl (uB (qU rfl rfl) (uB (qU rfl rfl) (uA rfl (uA rfl (qL (qJ (qK (qK (qI (uM rfl ?_))))))))))
  refine uB (qAg rfl (hE.t rfl)) ?_
  refine qL (qJ (zF rfl (zD (qJ (qK (qI (uM rfl (uB (zB rfl) ?_))))))))
  refine uB (uBf rfl) ?_
  refine uL ?_
  refine uM rfl (uM rfl (uB (uAj rfl rfl) ?_))
  refine uU (uJ ?_)
  refine qL (qJ ?_)
  rw [lvC_set (k := k) (by omega) (((k + 1 : Nat) : Int).toNat) (by omega)]
  refine qK (qI (uM rfl (uB (zB rfl) ?_)))
  refine uB (uBf rfl) ?_
  refine uL ?_
  refine uM rfl (uM rfl (uB (uAj rfl rfl) ?_))
  refine uU (uJ ?_)
  refine qL (qJ ?_)
  rw [kzC_set (k := k) (by omega) (((k + 1 : Nat) : Int).toNat) (by omega)]
  refine qK (qI (uM rfl (uM rfl (uB (zB rfl) ?_))))
  refine uB (uBf rfl) ?_
  refine uL ?_
  refine uM rfl (uB (uAi rfl rfl) ?_)
  refine uB (uG) ?_
  refine uX (zBh (k := k) hE hB hw hGl hkl (fun j h1 h2 => hlk j h1 (by omega)) hr (hs (k + 1) (by omega) (by omega))) rfl ?_
  rintro _ _ ⟨rfl, rfl⟩
  simp only [uV, uW]
  refine uB (qBn rfl) ?_
  refine qL (qJ (zF rfl (zD (zK (qJ (qI (uM rfl (uB (uAa rfl rfl) ?_))))))))
  refine uA rfl (qL ?_)
  refine zU (ι := Nat) (j := k + 1) (by omega) (by omega) ⟨rfl, rfl, rfl, congrArg some (zY (by omega)), trivial⟩ uI
 refine kM (qP (qP (zJ (qJ (qK (qI (uA rfl (qL (qJ (kD ?_))))))))))
 exact uZ rfl (.tmp rfl .nil) ⟨rfl, rfl⟩
end
section
theorem Iso.ext {L1 L2 : List Rl} (M : List Rl) {x y : Nat} (h : Iso L1 L2 x y) : Iso L1 (L2 ++ M) x y := by
 have g : ∀ {m : Nat} {r : Rl}, L2[m]? = some r → (L2 ++ M)[m]? = some r := fun {m r} h => by
  rw [List.getElem?_append_left (List.getElem?_eq_some_iff.1 h).1]; exact h
 induction h with
 | letter h1 h2 => exact .letter h1 (g h2)
 | pair h1 h2 _ _ i1 i2 => exact .pair h1 (g h2) i1 i2
 | power h1 h2 _ i => exact .power h1 (g h2) i
theorem Iso.le {L1 L2 : List Rl} {x y : Nat} (h : Iso L1 L2 x y) : x ≤ L1.length ∧ y ≤ L2.length := by
 cases h with
 | letter h1 h2 => exact ⟨(List.getElem?_eq_some_iff.1 h1).1, (List.getElem?_eq_some_iff.1 h2).1⟩
 | pair h1 h2 => exact ⟨(List.getElem?_eq_some_iff.1 h1).1, (List.getElem?_eq_some_iff.1 h2).1⟩
 | power h1 h2 => exact ⟨(List.getElem?_eq_some_iff.1 h1).1, (List.getElem?_eq_some_iff.1 h2).1⟩
theorem Iso.len {L1 L2 : List Rl} (w1 : Wf L1) (w2 : Wf L2) {x y : Nat} (h : Iso L1 L2 x y) : Eg.len L1 x = Eg.len L2 y := by
 induction h with
 | letter h1 h2 => rw [qIh h1, qIh h2]
 | pair h1 h2 _ _ i1 i2 => rw [qGn h1 (w1.ok _ _ h1), qGn h2 (w2.ok _ _ h2), i1, i2]
 | power h1 h2 _ i => rw [qDl h1 (w1.ok _ _ h1), qDl h2 (w2.ok _ _ h2), i]
theorem dec_step {G L : List Rl} (hw : Wf G) (hL : Wf L) {k : Nat} {r : Rl} (hr : G[k]? = some r) {T : List Nat} (hT : ∀ j, 1 ≤ j → j ≤ k → ∃ z, T[j]? = some z ∧ Iso G L j z) : ∃ r', MkOk L T r r' ∧ ∀ N id, 1 ≤ id → (L ++ N)[id - 1]? = some r' → Iso G (L ++ N) (k + 1) id := by
 have hok := hw.ok k r hr
 have hkl := qCn hok
 have hsh := hw.short (k + 1)
 have hid : ∀ (N : List Rl) (id : Nat) (q : Rl), 1 ≤ id → (L ++ N)[id - 1]? = some q → ∃ m, id = m + 1 ∧ (L ++ N)[m]? = some q := fun N id q h1 h2 => ⟨id - 1, by omega, h2⟩
 cases r with
 | letter b =>
  refine ⟨_, .letter b, fun N id h1 h2 => ?_⟩
  obtain ⟨m, rfl, h3⟩ := hid N id _ h1 h2
  exact .letter hr h3
 | pair a b =>
  have ha := hkl a (by simp [kids])
  have hb := hkl b (by simp [kids])
  obtain ⟨x, hx, ix⟩ := hT a ha.1 (by omega)
  obtain ⟨y, hy, iy⟩ := hT b hb.1 (by omega)
  have hl := qGn hr hok
  rw [ix.len hw hL, iy.len hw hL] at hl
  refine ⟨_, .pair hx hy ix.pos.2 ix.le.2 iy.pos.2 iy.le.2 (by omega), fun N id h1 h2 => ?_⟩
  obtain ⟨m, rfl, h3⟩ := hid N id _ h1 h2
  exact .pair hr h3 (ix.ext N) (iy.ext N)
 | power a t =>
  have ha := hkl a (by simp [kids])
  obtain ⟨x, hx, ix⟩ := hT a ha.1 (by omega)
  have hl := qDl hr hok
  have hp := hw.pos a ha.1 ix.le.1
  have h2 : t * 1 ≤ t * len G a := Nat.mul_le_mul_left _ hp
  have hmx : kJ = 1152921504606846976 := rfl
  simp only [Rl.ok] at hok
  have hl2 : len G (k + 1) = t * len L x := by rw [hl, ix.len hw hL]
  refine ⟨_, .power hx ix.pos.2 ix.le.2 hok.2.2 (by omega) (by rw [Nat.mul_comm]; omega), fun N id h1 h2 => ?_⟩
  obtain ⟨m, rfl, h3⟩ := hid N id _ h1 h2
  exact .power hr h3 (ix.ext N)
def pad (Z : List Nat) (n : Nat) : List Nat := Z ++ List.replicate (n - Z.length) 0
theorem zAh {Z : List Nat} {n : Nat} (h : Z.length ≤ n) : (pad Z n).length = n := by simp [pad]; omega
theorem pad_zero (n : Nat) : List.replicate (n + 1) (Value.int .i64 0) = idC (pad [0] (n + 1)) := by
 simp [pad, idC, List.replicate_succ]
theorem zCv {Z : List Nat} {n j z : Nat} (h : Z[j]? = some z) : (pad Z n)[j]? = some z := by
 unfold pad
 rw [List.getElem?_append_left (List.getElem?_eq_some_iff.1 h).1]
 exact h
theorem pad_set {Z : List Nat} {n x : Nat} (h : Z.length < n) (o : Nat) (ho : o = Z.length) {v : Int} (hv : v = (x : Nat)) : zZ (idC (pad Z n)) o (zR (.int .i64 v)) = idC (pad (Z ++ [x]) n) := by
 subst ho hv
 simp only [zZ, zR]
 unfold idC pad
 have e1 : n - Z.length = (n - (Z ++ [x]).length) + 1 := by simp; omega
 rw [e1, List.replicate_succ, List.map_append, List.map_cons, List.set_append_right _ _ (by simp), List.length_map, Nat.sub_self]
 simp
def nmK (Z : List Nat) (A : List (List UInt8 × Nat)) (k : Nat) : List (List UInt8 × Nat) := (A.take k).map (fun p => (p.1, Z.getD p.2 0)) ++ A.drop k
theorem nmK_zero (Z : List Nat) (A : List (List UInt8 × Nat)) : nmK Z A 0 = A := by simp [nmK]
theorem nmK_all (Z : List Nat) (A : List (List UInt8 × Nat)) : nmK Z A A.length = A.map (fun p => (p.1, Z.getD p.2 0)) := by simp [nmK]
theorem nmK_at {Z : List Nat} {A : List (List UInt8 × Nat)} {k : Nat} {p : List UInt8 × Nat} (h : A[k]? = some p) : (nmK Z A k)[k]? = some p := by
 have hk := (List.getElem?_eq_some_iff.1 h).1
 unfold nmK
 rw [List.getElem?_append_right (by simp; omega), List.getElem?_drop]
 simp only [List.length_map, List.length_take]
 rw [show k + (k - min k A.length) = k by omega]
 exact h
theorem qLo (a b : List (List UInt8 × Nat)) : nmI (a ++ b) = nmI a ++ nmI b := List.map_append
theorem nmK_set {Z : List Nat} {A : List (List UInt8 × Nat)} {k : Nat} {p : List UInt8 × Nat} (h : A[k]? = some p) {z : Nat} (hz : Z[p.2]? = some z) (o : Nat) (ho : o = k * 2 + 1) : zZ (nlC (nmI (nmK Z A k))) o (zR (.int .i64 (z : Nat))) = nlC (nmI (nmK Z A (k + 1))) := by
 subst ho
 have hk := (List.getElem?_eq_some_iff.1 h).1
 have e1 : A.drop k = p :: A.drop (k + 1) := by
  rw [List.drop_eq_getElem_cons hk]
  congr 1
  exact (List.getElem?_eq_some_iff.1 h).2
 have e2 : A.take (k + 1) = A.take k ++ [p] := by rw [List.take_add_one, h]; rfl
 have e3 : Z.getD p.2 0 = z := by rw [List.getD_eq_getElem?_getD, hz]; rfl
 unfold nmK
 rw [e1, e2, List.map_append, List.map_cons, List.map_nil, e3, qLo, qLo, qLo, qGa, qGa, qGa]
 have el : (nlC (nmI ((A.take k).map (fun p => (p.1, Z.getD p.2 0))))).length = k * 2 := by
  rw [qKs, zAa, List.length_map, List.length_take]; omega
 simp only [zZ, zR]
 rw [List.set_append_right _ _ (by omega), el, show k * 2 + 1 - k * 2 = 1 by omega, List.append_assoc]
 rfl
end
section
variable {E : Env} {Es : List Ent} {pp tb s most m bm : Nat}
structure DcG where
 k : Nat
 M : List Ent
 Z : List Nat
def DcI (G L : List Rl) (k : Nat) (Z : List Nat) : Prop := Z.length = k + 1 ∧ Z[0]? = some 0 ∧ ∀ j, 1 ≤ j → j ≤ k → ∃ z, Z[j]? = some z ∧ Iso G L j z
theorem DcI.next {G L : List Rl} {k : Nat} {Z : List Nat} (h : DcI G L k Z) (N : List Rl) {id : Nat} (hi : Iso G (L ++ N) (k + 1) id) : DcI G (L ++ N) (k + 1) (Z ++ [id]) := by
 obtain ⟨h1, h2, h3⟩ := h
 refine ⟨by simp [h1], by rw [List.getElem?_append_left (by omega)]; exact h2, fun j hj1 hj2 => ?_⟩
 rcases Nat.lt_or_ge k j with h | h
 ·obtain rfl : j = k + 1 := by omega
  exact ⟨id, by rw [List.getElem?_append_right (by omega), h1, Nat.sub_self]; rfl, hi⟩
 obtain ⟨z, hz, iz⟩ := h3 j hj1 h
 exact ⟨z, by rw [List.getElem?_append_left (by omega)]; exact hz, iz.ext N⟩
theorem DcI.get {G L : List Rl} {k : Nat} {Z : List Nat} (h : DcI G L k Z) {j : Nat} (hj : j ≤ k) : ∃ z, Z[j]? = some z ∧ ((j = 0 ∧ z = 0) ∨ Iso G L j z) := by
 obtain ⟨h1, h2, h3⟩ := h
 rcases Nat.eq_zero_or_pos j with rfl | h0
 ·exact ⟨0, h2, .inl ⟨rfl, rfl⟩⟩
 obtain ⟨z, hz, iz⟩ := h3 j h0 hj
 exact ⟨z, hz, .inr iz⟩
theorem zBe (hE : Seat E) (hB : Base E.w0) {G : List Rl} (hw : Wf G) {A : List (List UInt8 × Nat)} (hG : GOk 0 G) (hGl : G.length ≤ 100000) (ht : ∀ r ∈ G, r.times ≤ 1152921504606846976) (hA1 : ∀ p ∈ A, ValidN p.1 ∧ p.2 ≤ G.length) (hA2 : ∀ (i : Nat) (p q : List UInt8 × Nat), A[i]? = some p → A[i + 1]? = some q → Op.bytesLess p.1 q.1 = true) (hAl : A.length ≤ 1000)
  (hA : ∀ p ∈ A, p.2 ≤ G.length ∧ len G p.2 ≤ 256) (hlk : ∀ j, 1 ≤ j → j ≤ G.length → 0 ≤ lvl G j ∧ lvl G j ≤ 1048576) (hs : ∀ j, 1 ≤ j → j ≤ G.length → Sig G j) (hvis : kK G (A.map (·.2)) [] = (List.range G.length).map (· + 1))
  {Bs : List UInt8} (hBs : Bs = encA G A) {a : Option Addr} {c : Nat} {q : HP} (hq : Rdb E.w0 a (byC Bs) q) (hc : Bs.length ≤ c) (hcl : Bs.length ≤ 1099511627776) (hroom : Es.length + G.length ≤ most) :
  Ct E 15 [uPt m, .slice a Bs.length c] [cells pp [uPt s, uPt tb] 106, tabP tb s (rls Es), zT s most Es, cells m [uPt pp, .map (some bm)] 103, q]
   (fun v Q => ∃ M Z pl cl, v = .tuple #[.slice pl A.length cl, .nilIface] ∧ M.length ≤ G.length ∧ DcI G (rls (Es ++ M)) G.length Z ∧ Q = [cells pp [uPt s, uPt tb] 106, tabP tb s (rls (Es ++ M)), zT s most (Es ++ M), cells m [uPt pp, .map (some bm)] 103, q, sl pl cl 39 2 A.length (nlC (nmI (nmK Z A A.length)))]) := by
 have hml : G.length + 1 ≤ maxLen := by unfold maxLen; omega
 refine zQ (hE.fn Tryz.func15) rfl rfl rfl (fun R => ?_)
 simp only [qAa, uV, uW]
 refine qK (qI (uA rfl (uA rfl (qL (qJ (qK (qI (uM rfl (uX (qDp (m := m) (pp := pp) (bm := bm) hE) rfl ?_)))))))))
 rintro _ _ ⟨rfl, rfl⟩
 simp only [uV, uW]
 refine uX (qGp hE) rfl ?_
 rintro _ _ ⟨rfl, rfl⟩
 simp only [uV, uW]
 refine uA rfl (qL (qJ (qK (qK (qI (uM rfl (uB (qBr rfl (hE.t rfl)) ?_)))))))
 refine qL (qJ (zF rfl (zD (qJ (qK (qI (uM rfl ?_)))))))
 refine uX (zCg (a := a) (c := c) (q := q) hE hG hGl ht hA1 hA2 hAl hBs hq hc hcl) rfl ?_
 rintro _ _ ⟨pg, cg, pl, cl, rfl, rfl⟩
 simp only [uV, uW]
 refine uM rfl (uB (qU rfl rfl) (uB (qU rfl rfl) (uB (qU rfl rfl) (uA rfl (uA rfl (uA rfl (qL (qJ (qK (qK (qI ?_)))))))))))
 refine uM rfl (uB (qBn rfl) ?_)
 refine uM rfl (kU rfl rfl (uM rfl (kU rfl rfl (uM rfl (kU rfl rfl ?_)))))
 refine uX (qUu (pg := pg) (cg := cg) (pl := pl) (cl := cl) hE hB hw hGl hAl hA hlk hs hvis) rfl ?_
 rintro _ _ ⟨rfl, rfl⟩
 simp only [uV, uW]
 refine kU rfl rfl (uB (qBn rfl) ?_)
 refine uB (qY rfl rfl) ?_
 refine qL (qJ (zF rfl (zD (qJ (qK (qI (uM rfl (uB (uBl rfl) ?_))))))))
 refine uB (uAa rfl rfl) ?_
 refine uU ?_
 refine qBb (c := G.length + 1) (hE.t rfl) (hE.t rfl) rfl (by omega) (by omega) (by (unfold maxLen; omega)) (fun b40 => ?_)
 refine uA rfl (qL (qJ (qK (qK (qI (uM rfl (uB (uBl rfl) ?_)))))))
 refine uM rfl (qL (qJ (zM ?_)))
 rw [pad_zero]
 refine qCy (p := sl pg cg 82 5 G.length (rusC G)) uK (fun _ h => fun hpos => qAi h hpos) ?_
 intro hpg
 refine qCy (p := sl pl cl 39 2 A.length (nlC (nmI A))) uK (fun _ h => fun hpos => qAi h hpos) ?_
 intro hpl
 have hL0 : rls Es = rls (Es ++ []) := by rw [List.append_nil]
 have hS0 : Es = Es ++ [] := by rw [List.append_nil]
 refine qAc (fun x : DcG => [(6, uPt s), (8, .slice pl A.length cl), (10, .slice (some ⟨b40, 0, none⟩) (G.length + 1) (G.length + 1)), (41, .slice pg G.length cg), (42, .int .i64 (G.length : Nat)), (43, .int .i64 (x.k : Nat))]) (fun x => [cells pp [uPt s, uPt tb] 106, tabP tb s (rls (Es ++ x.M)), zT s most (Es ++ x.M), cells m [uPt pp, .map (some bm)] 103, q, sl pg cg 82 5 G.length (rusC G), sl pl cl 39 2 A.length (nlC (nmI A)), sl (some ⟨b40, 0, none⟩) (G.length + 1) 37 1 (G.length + 1) (idC (pad x.Z (G.length + 1))), R]) (fun x => G.length - x.k) (fun x => x.k ≤ G.length ∧ x.M.length ≤ x.k ∧ DcI G (rls (Es ++ x.M)) x.k x.Z) ⟨0, [], [0]⟩ ⟨Nat.zero_le _, Nat.le_refl _, rfl, rfl, fun j h1 h2 => by simp only at h2; omega⟩ ⟨rfl, rfl, rfl, rfl, rfl, rfl, trivial⟩ (by simp only [List.append_nil]; (apply ent; (repeat constructor); done)) ?_
 rintro ⟨k, M, Z⟩ ⟨hk, hM, hD⟩
 simp only at hk hM hD ⊢
 refine qCy (p := zT s most (Es ++ M)) uK (fun _ h => qAj h) ?_
 intro hsay
 refine qK (qI (uB (y_lt rfl rfl) ?_))
 refine qL (qJ (qK ?_))
 refine zG rfl (fun h1 => ?_) (fun h1 => ?_)
 ·have hkl : k < G.length := by omega
  obtain ⟨g, rfl⟩ := hpg (by omega)
  obtain ⟨r, hr⟩ : ∃ x, G[k]? = some x := ⟨_, List.getElem?_eq_getElem hkl⟩
  obtain ⟨f0, f1, f2, f3, f4⟩ := qFy hr (0 + ((k : Nat) : Int).toNat * 5) (by omega)
  have htl : (pad Z (G.length + 1)).length = G.length + 1 := zAh (by have := hD.1; omega)
  obtain ⟨r', hmk, hnx⟩ := dec_step (T := pad Z (G.length + 1)) hw hsay.1 hr (fun j h1 h2 => by
   obtain ⟨z, hz, iz⟩ := hD.2.2 j h1 h2
   exact ⟨z, zCv hz, iz⟩)
  have hrm : (Es ++ M).length < most := by rw [List.length_append]; omega
  refine zD (qJ (qK (zM (qK (qI (uM rfl (uB (uAi rfl rfl) ?_)))))))
  refine uB (uG) ?_
  refine uU (kH (hE.t rfl) (fun b12 => ?_))
  refine uA rfl (uU (uS ?_))
  refine qL (qJ (qK (qI (uM rfl (uB (uG) ?_)))))
  refine uM rfl ?_
  refine l_eq 51 (.slice (some ⟨b40, 0, none⟩) (pad Z (G.length + 1)).length (G.length + 1)) rfl (by rw [htl]) ?_
  refine qMa (kF (p := sl (some ⟨b40, 0, none⟩) (G.length + 1) 37 1 (G.length + 1) (idC (pad Z (G.length + 1)))) (p' := sl (some ⟨b40, 0, none⟩) (G.length + 1) 37 1 (pad Z (G.length + 1)).length (idC (pad Z (G.length + 1)))) uK (fun _ h => by rw [htl]; exact h)) ?_
  refine uX (zBu (s := s) (most := most) (Es := Es ++ M) (r := r) (r' := r') (T := pad Z (G.length + 1)) (gt := b40) (ct := G.length + 1) hE (by omega) hmk hrm) rfl ?_
  rintro _ _ ⟨N, i, rfl, hN, hi1, hid, rfl⟩
  rw [htl]
  simp only [uV, uW]
  have ea : Es ++ M ++ N = Es ++ (M ++ N) := List.append_assoc _ _ _
  rw [ea]
  rw [ea] at hid
  have er : rls (Es ++ (M ++ N)) = rls (Es ++ M) ++ rls N := by rw [← ea, kI]
  refine qMa (kF (p := tabP tb s (rls (Es ++ M))) (p' := tabP tb s (rls (Es ++ (M ++ N)))) uK (fun _ h => by rw [er]; exact qJi _ h)) ?_
  have hD' := hD.next (rls N) (id := i) (hnx (rls N) i hi1 (by rw [← er]; exact hid))
  rw [← er] at hD'
  have hzl := hD.1
  refine uM rfl (uB (qU rfl rfl) (uB (qU rfl rfl) (uA rfl (uA rfl (qL (qJ (qK (qK (qI (uM rfl ?_))))))))))
  refine uB (qAg rfl (hE.t rfl)) ?_
  refine qL (qJ (zF rfl (zD (qJ (qI (uM rfl (uM rfl (uB (uAa rfl rfl) ?_))))))))
  refine uM rfl (uB (uAj rfl rfl) ?_)
  refine uU (uJ ?_)
  refine qL (zK (qJ ?_))
  rw [pad_set (Z := Z) (n := G.length + 1) (x := i) (by omega) ((((k : Nat) : Int) + 1).toNat) (by omega) rfl]
  refine qI (uB (uAa rfl rfl) ?_)
  refine uM rfl (qL ?_)
  refine zU (ι := DcG) (j := ⟨k + 1, M ++ N, Z ++ [i]⟩) ⟨by simp only; omega, by simp only [List.length_append]; omega, hD'⟩ (by simp only; omega) ⟨rfl, rfl, rfl, rfl, rfl, congrArg some (zY (by simp only; omega)), trivial⟩ uI
 obtain rfl : k = G.length := by omega
 rw [← nmK_zero Z A]
 refine kM (qP (qP (zJ (qJ (qK (qK (qI (uM rfl (uB (uBl rfl) ?_)))))))))
 refine uM rfl (qL (qJ (zM ?_)))
 refine qAc (fun k : Nat => [(8, .slice pl A.length cl), (10, .slice (some ⟨b40, 0, none⟩) (G.length + 1) (G.length + 1)), (65, .int .i64 (A.length : Nat)), (66, .int .i64 (k : Nat))]) (fun k => [cells pp [uPt s, uPt tb] 106, tabP tb s (rls (Es ++ M)), zT s most (Es ++ M), cells m [uPt pp, .map (some bm)] 103, q, sl pl cl 39 2 A.length (nlC (nmI (nmK Z A k))), sl (some ⟨b40, 0, none⟩) (G.length + 1) 37 1 (G.length + 1) (idC (pad Z (G.length + 1))), R]) (fun k => A.length - k) (fun k => k ≤ A.length) 0 (Nat.zero_le _) ⟨rfl, rfl, rfl, rfl, trivial⟩ uI ?_
 rintro k hk
 refine qK (qI (uB (y_lt rfl rfl) ?_))
 refine qL (qJ (qK ?_))
 refine zG rfl (fun h2 => ?_) (fun h2 => ?_)
 ·have hkl : k < A.length := by omega
  obtain ⟨gl, rfl⟩ := hpl (by omega)
  obtain ⟨p, hp⟩ : ∃ x, A[k]? = some x := ⟨_, List.getElem?_eq_getElem hkl⟩
  have hpG := (hA p (List.mem_of_getElem? hp)).1
  obtain ⟨z, hz, _⟩ := hD.get hpG
  obtain ⟨f0, f1⟩ := nmI_at (nmK_at (Z := Z) hp) (0 + ((k : Nat) : Int).toNat * 2) (by omega)
  have f2 := qAl (zCv (n := G.length + 1) hz) (((p.2 : Nat) : Int).toNat) (by omega)
  refine zD (qJ (qK (zM (qK (qI (uM rfl (uA rfl (qL (qJ (qI (uM rfl (uM rfl (uM rfl (uM rfl (uM rfl ?_)))))))))))))))
  refine uB (uAi rfl rfl) ?_
  refine uB (uBf rfl) ?_
  refine uL ?_
  refine uB (uAj rfl rfl) ?_
  refine uL ?_
  refine uB (uAi rfl rfl) ?_
  refine uB (uBf rfl) ?_
  refine uU (uJ ?_)
  refine qL (zK (qJ ?_))
  rw [nmK_set hp hz _ (by omega)]
  refine qI (uB (uAa rfl rfl) ?_)
  refine uM rfl (qL ?_)
  refine zU (ι := Nat) (j := k + 1) (by omega) (by omega) ⟨rfl, rfl, rfl, congrArg some (zY (by omega)), trivial⟩ uI
 obtain rfl : k = A.length := by omega
 refine kM (qP (qP (zJ (qJ (qK (qI (uM rfl (uA rfl (uA rfl (qL (qJ (kD ?_))))))))))))
 exact uZ rfl (.tmp rfl (.tmp rfl .nil)) ⟨M, Z, pl, cl, rfl, hM, hD, rfl⟩
end
section
theorem Iso.trans {L1 L2 L3 : List Rl} {x y : Nat} (h : Iso L1 L2 x y) : ∀ {z : Nat}, Wf L2 → Iso L2 L3 y z → Iso L1 L3 x z := by
 induction h with
 | @letter n m c h1 h2 =>
  intro z hw h'
  cases h' with
  | letter g1 g2 => rw [h2] at g1; cases g1; exact .letter h1 g2
  | pair g1 => rw [h2] at g1; cases g1
  | power g1 => rw [h2] at g1; cases g1
 | pair h1 h2 _ _ i1 i2 =>
  intro z hw h'
  cases h' with
  | letter g1 g2 => rw [h2] at g1; cases g1
  | pair g1 g2 j1 j2 => rw [h2] at g1; cases g1; exact .pair h1 g2 (i1 hw j1) (i2 hw j2)
  | power g1 => rw [h2] at g1; cases g1
 | power h1 h2 _ i1 =>
  intro z hw h'
  cases h' with
  | letter g1 g2 => rw [h2] at g1; cases g1
  | pair g1 => rw [h2] at g1; cases g1
  | power g1 g2 j1 => rw [h2] at g1; cases g1; exact .power h1 g2 (i1 hw j1)
theorem Rea.sigs {L : List Rl} (hw : Wf L) {k x : Nat} (h : Rea L k x) : Sig L k → Sig L x ∧ lvl L x ≤ lvl L k := by
 induction h with
 | self h => exact fun hs => ⟨hs, Int.le_refl _⟩
 | @kid n k x r hr hk hx ih =>
  intro hs
  obtain ⟨d1, d2⟩ := (hs.down2 hw hr).1 k hk
  obtain ⟨i1, i2⟩ := ih d1
  exact ⟨i1, by omega⟩
variable {L : List Rl} {l : List Im} {ys : List Nat}
theorem RsL.here (h : RsL L l ys) {y : Nat} (hy : y ∈ ys) : y = 0 ∨ y ∈ kK L ys [] := by
 rcases Nat.eq_zero_or_pos y with e | e
 ·exact .inl e
 exact .inr (((qFb h.wf ys []).2 (qKt L)).2 y hy e (h.bound y hy))
theorem RsL.sig (h : RsL L l ys) (hs : ∀ x ∈ l, x.bs.length ≤ 60) {y : Nat} (hy : y ∈ ys) (h0 : 1 ≤ y) : Sig L y ∧ lvl L y ≤ 25544 := by
 obtain ⟨i, hi⟩ := List.getElem?_of_mem hy
 have hil := (List.getElem?_eq_some_iff.1 hi).1
 have := h.yl
 obtain ⟨x, hx⟩ : ∃ x, l[i]? = some x := ⟨_, List.getElem?_eq_getElem (by omega)⟩
 have hmx : kJ = 1152921504606846976 := rfl
 have hb := hs x (List.mem_of_getElem? hx)
 rcases (h.sg i x y hx hi).2 with ⟨_, e⟩ | ⟨lv, hr⟩
 ·omega
 obtain ⟨s1, s2⟩ := hr.sig h.wf
 exact ⟨s1, s1.lv_le h.wf s2 (by omega)⟩
theorem RsL.rule (h : RsL L l ys) (hs : ∀ x ∈ l, x.bs.length ≤ 60) {j : Nat} (h1 : 1 ≤ j) (h2 : j ≤ (gram L (kK L ys [])).length) : Sig (gram L (kK L ys [])) j ∧ 0 ≤ lvl (gram L (kK L ys [])) j ∧ lvl (gram L (kK L ys [])) j ≤ 1048576 := by
 obtain ⟨i, rfl⟩ : ∃ i, j = i + 1 := ⟨j - 1, by omega⟩
 obtain ⟨r, hr⟩ : ∃ r, (gram L (kK L ys []))[i]? = some r := ⟨_, List.getElem?_eq_getElem (by omega)⟩
 obtain ⟨n, q, v1, q1, rfl, m1⟩ := h.lis.one hr
 have hin := List.mem_of_getElem? v1
 rcases (qFb h.wf ys []).1 _ hin with e | ⟨y, hy, hre⟩
 ·simp at e
 have hp : 1 ≤ y := by cases hre <;> omega
 obtain ⟨s1, s2⟩ := h.sig hs hy hp
 obtain ⟨s3, s4⟩ := hre.sigs h.wf s1
 have s5 := h.lis.sig hin s3
 have s6 := h.lis.lv hin
 rw [m1] at s5 s6
 have := s5.lv
 exact ⟨s5, this, by omega⟩
theorem qVp {ns : List Nat} {i : Nat} {p : List UInt8 × Nat} (h : (nmA l ns)[i]? = some p) : ∃ x, l[i]? = some x ∧ ns[i]? = some p.2 ∧ p.1 = x.name := by
 unfold nmA at h
 obtain ⟨h1, h2⟩ := List.getElem?_zip_eq_some.1 h
 rw [List.getElem?_map] at h1
 obtain ⟨x, hx, e⟩ := Option.map_eq_some_iff.1 h1
 exact ⟨x, hx, h2, e.symm⟩
theorem nmA_at {ns : List Nat} {k n : Nat} {x : Im} (hx : l[k]? = some x) (hn : ns[k]? = some n) : (nmA l ns)[k]? = some (x.name, n) := by
 unfold nmA
 rw [List.getElem?_zip_eq_some]
 exact ⟨by rw [List.getElem?_map, hx]; rfl, hn⟩
theorem qQd {ns : List Nat} (h : ns.length = l.length) : (nmA l ns).length = l.length := by simp [nmA, h]
theorem nmA_snd {ns : List Nat} (h : ns.length = l.length) : (nmA l ns).map (·.2) = ns := by
 unfold nmA
 exact List.map_snd_zip (by simp [h])
theorem RsL.names (h : RsL L l ys) (ht : ∀ (i : Nat) (x : Im) (y : Nat), l[i]? = some x → ys[i]? = some y → txt L y = x.bs) (hg : GoodI l) : ∀ p ∈ nmA l (ys.map (numb (kK L ys []))), (ValidN p.1 ∧ p.2 ≤ (gram L (kK L ys [])).length) ∧ len (gram L (kK L ys [])) p.2 ≤ 256 := fun p hp => by
 obtain ⟨i, hi⟩ := List.getElem?_of_mem hp
 obtain ⟨x, hx, hn, e⟩ := qVp hi
 obtain ⟨y, hy, e2⟩ := qLm hn
 have hgx := hg.1 x (List.mem_of_getElem? hx)
 refine ⟨⟨by rw [e]; exact hgx.1, by rw [e2, qDe]; exact qEq _ _⟩, ?_⟩
 rw [e2]
 rcases h.here (List.mem_of_getElem? hy) with h0 | h0
 ·have : numb (kK L ys []) y = 0 := qBm.2 (by rw [h0]; exact h.lis.zero)
  rw [this]
  exact Nat.zero_le _
 rw [← (h.lis.iso y h0).len h.wf h.lis.gwf]
 have : len L y = x.bs.length := by rw [len, ht i x y hx hy]
 have := hgx.2
 omega
theorem nmA_ord {ns : List Nat} (hg : GoodI l) (i : Nat) (p q : List UInt8 × Nat) (h1 : (nmA l ns)[i]? = some p) (h2 : (nmA l ns)[i + 1]? = some q) : Op.bytesLess p.1 q.1 = true := by
 obtain ⟨x, hx, _, e⟩ := qVp h1
 obtain ⟨y, hy, _, e2⟩ := qVp h2
 rw [e, e2]
 exact hg.2.1 i x y (List.getElem?_eq_some_iff.1 hy).1 hx hy
end
end Go.Proofs.YtkkjjablmmmmkaaGreatDoor
namespace Sl
open Go Go.RowKit
variable {E : Env} {n : Nat} {L : Fr} {H H' : List HP}
theorem qYm {f : FuncId} {args : List Value} {Pre : List HP} {Φ : Value → List HP → Prop} (hc : Ct E f args Pre Φ) {w : World} (s : Sat E.w0 w H) (hs : Sub Pre H H') : ∃ v Qs w', Φ v Qs ∧ Sat E.w0 w' (Qs ++ H') := by
 obtain ⟨e, w', fr, ⟨v, Qs, _, h, s'⟩, _⟩ := hc (qAb H') w ((s.sub hs).imp fun _ => qDr) []
 exact ⟨v, Qs, w', h, s'.imp fun _ => qIb⟩
theorem l_know {all : Array Oper} {s : Nat} {l : List Oper} {Q : Exit → Act → World → Prop} {φ : Prop} (h : ∀ w, Sat E.w0 w H → φ) (hw : φ → WPL E all Q s l n L H) : WPL E all Q s l n L H := fun a w g => hw (h w g.hp) a w g
end Sl
namespace Go.Proofs.YtkkjjablmmmmkaaGreatDoor
open Go Go.RowKit Sl Eg
set_option maxRecDepth 10000
variable {E : Env} {Es : List Ent} {pp tb s most : Nat}
theorem qXz : ∀ (G : List Rl) (k : Nat), (∀ r ∈ G, r.times ≤ 1152921504606846976) → k + G.length ≤ 1099511627776 → (encG k G).length ≤ 21 * G.length
 | [], _, _, _ => Nat.le_refl _
 | r :: G, k, h, hk => by
  rw [List.length_cons] at hk
  have h1 := (qJg (k + 1) (by omega) r (h r (by simp))).2
  have h2 := qXz G (k + 1) (fun x hx => h x (by simp [hx])) (by omega)
  simp only [encG, List.length_append, List.length_cons]
  omega
theorem qXl : ∀ (A : List (List UInt8 × Nat)), (∀ p ∈ A, p.1.length ≤ 1000 ∧ p.2 ≤ 1099511627776) → (encM A).length ≤ 1020 * A.length
 | [], _ => Nat.le_refl _
 | p :: A, h => by
  obtain ⟨h1, h2⟩ := h p (by simp)
  have h3 := qAk (n := p.1.length) (by omega)
  have h4 := qAk (n := p.2) (by omega)
  have h5 := qXl A (fun x hx => h x (by simp [hx]))
  have e : encM (p :: A) = qAx p.1 ++ (vput p.2 ++ encM A) := qTu p A
  rw [e]
  simp only [qAx, List.length_append, List.length_cons]
  omega
theorem ghost (hE : Seat E) (hB : Base E.w0) {l : List Im} (hok : ∀ x ∈ l, Rdb E.w0 x.a (byC x.bs) old) (hlen : ∀ x ∈ l, x.bs.length ≤ 60) {R : HP} {w : World} (hs : Sat E.w0 w [cells pp [uPt s, uPt tb] 106, tabP tb s (rls Es), zT s most Es, old, R]) : ∀ t, t ≤ l.length → Es.length + 120 * t ≤ most → ∃ (w' : World) (M : List Ent) (ys : List Nat), Sat E.w0 w' [cells pp [uPt s, uPt tb] 106, tabP tb s (rls (Es ++ M)), zT s most (Es ++ M), old, R] ∧ M.length ≤ 120 * t ∧ ys.length = t ∧ ∀ (i : Nat) (x : Im) (y : Nat), l[i]? = some x → ys[i]? = some y → y ≤ (rls (Es ++ M)).length ∧ Sg (rls (Es ++ M)) x.bs y ∧ txt (rls (Es ++ M)) y = x.bs
 | 0, _, _ => ⟨w, [], [], by rw [List.append_nil]; exact hs, Nat.le_refl _, rfl, fun i x y h1 h2 => by simp at h2⟩
 | t + 1, ht, hm => by
  obtain ⟨w1, M, ys, s1, hM, hy, hall⟩ := ghost hE hB hok hlen hs t (by omega) (by omega)
  obtain ⟨x, hx⟩ : ∃ x, l[t]? = some x := ⟨_, List.getElem?_eq_getElem (by omega)⟩
  have hxm := List.mem_of_getElem? hx
  have hbl := hlen x hxm
  have hEM : (Es ++ M).length = Es.length + M.length := List.length_append
  have hsub : Sub [cells pp [uPt s, uPt tb] 106, tabP tb s (rls (Es ++ M)), zT s most (Es ++ M), old] [cells pp [uPt s, uPt tb] 106, tabP tb s (rls (Es ++ M)), zT s most (Es ++ M), old, R] [R] := by ((repeat constructor); done)
  obtain ⟨v, Qs, w2, ⟨N, id, rfl, hN, htt, hgd, hch, rfl⟩, s2⟩ := qYm (zDp (Es := Es ++ M) (s := s) (most := most) (tb := tb) (pp := pp) (a := x.a) (c := 0) (q := old) (bs := x.bs) hE hB (fun hne => hok x hxm (qOv hne)) (by omega) (by omega)) s1 hsub
  rw [List.append_assoc] at htt hgd hch s2
  have er : rls (Es ++ (M ++ N)) = rls (Es ++ M) ++ rls N := by rw [← List.append_assoc, kI]
  refine ⟨w2, M ++ N, ys ++ [id], s2.imp fun k h => by simpa using h, by rw [List.length_append]; omega, by simp [hy], fun i x' y' h1 h2 => ?_⟩
  rcases Nat.lt_or_ge i t with h | h
  ·rw [List.getElem?_append_left (by omega)] at h2
   obtain ⟨a1, a2, a3⟩ := hall i x' y' h1 h2
   rw [er]
   exact ⟨by rw [List.length_append]; omega, a2.ext _, by rw [qDj _ a1]; exact a3⟩
  have hi := (List.getElem?_eq_some_iff.1 h2).1
  have hil : i = t := by simp at hi; omega
  subst hil
  rw [hx] at h1
  cases h1
  rw [List.getElem?_append_right (by omega), hy, Nat.sub_self] at h2
  cases h2
  exact ⟨hgd.1, hch, htt⟩
theorem ghostS (hE : Seat E) (hB : Base E.w0) {l : List Im} (hok : ∀ x ∈ l, Rdb E.w0 x.a (byC x.bs) old) (hlen : ∀ x ∈ l, x.bs.length ≤ 60) (hm : Es.length + 120 * l.length ≤ most) {H H' : List HP} {w : World} (hs : Sat E.w0 w H) (hsub : Sub [cells pp [uPt s, uPt tb] 106, tabP tb s (rls Es), zT s most Es, old] H H') :
  ∃ (L : List Rl) (ys : List Nat), RsL L l ys ∧ (∀ (i : Nat) (x : Im) (y : Nat), l[i]? = some x → ys[i]? = some y → txt L y = x.bs) ∧ L.length ≤ Es.length + 120 * l.length := by
 have s1 : Sat E.w0 w [cells pp [uPt s, uPt tb] 106, tabP tb s (rls Es), zT s most Es, old, qAb H'] := (hs.sub hsub).imp fun _ => qDr
 obtain ⟨w', M, ys, s2, hM, hy, hall⟩ := ghost hE hB hok hlen s1 l.length (Nat.le_refl _) hm
 have ht : Take (zT s most (Es ++ M)) [cells pp [uPt s, uPt tb] 106, tabP tb s (rls (Es ++ M)), zT s most (Es ++ M), old, qAb H'] [cells pp [uPt s, uPt tb] 106, tabP tb s (rls (Es ++ M)), old, qAb H'] := by ((repeat constructor); done)
 obtain ⟨_, _, _, _, hp, _⟩ := ht.out s2.hp
 refine ⟨rls (Es ++ M), ys, ⟨(qAj hp).1, hy, fun i x y h1 h2 => ⟨(hall i x y h1 h2).1, (hall i x y h1 h2).2.1⟩⟩, fun i x y h1 h2 => (hall i x y h1 h2).2.2, ?_⟩
 rw [zS, List.length_append]
 omega
end Go.Proofs.YtkkjjablmmmmkaaGreatDoor
