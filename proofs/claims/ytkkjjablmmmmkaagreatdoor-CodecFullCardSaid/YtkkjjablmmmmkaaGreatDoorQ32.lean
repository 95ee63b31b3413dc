import Derived.Test.YtkkjjablmmmmkaaGreatDoorQ05
import Derived.Test.YtkkjjablmmmmkaaGreatDoorQ20
import Derived.Test.YtkkjjablmmmmkaaGreatDoorQ31
import Derived.Lib.Overlaps
set_option linter.all false
namespace Sl
open Go Go.RowKit
variable {E : Env} {n : Nat} {L : Fr} {S : List HP} {ty : TypeId} {pos : String} {af : Array Edge} {d : Option Nat} {gd : Option (Nat × Bool)}
theorem zBk {x y : Operand} {xt yt : TypeId} {i j : Int} (hx : ev L x = some (.int .u64 i)) (hy : ev L y = some (.int .u64 j)) (h0 : 0 ≤ i - j) (h1 : i - j ≤ 18446744073709551615) :
  Yl E n L S ⟨d, .binOp .sub xt x y yt, ty, pos, af, gd⟩ (.int .u64 (i - j)) := fun a w g _ => by
 have e : IntKind.u64.wrap (i - j) = i - j := by rw [IntKind.wrap_u64]; omega
 simp [execOp, eqGuard, binOp, Op.intArith, g.ev hx, g.ev hy, e]
end Sl
namespace Go.Proofs.YtkkjjablmmmmkaaGreatDoor
open Go Go.RowKit Sl Eg
set_option maxRecDepth 10000
variable {E : Env} {Es : List Ent} {pp tb s most : Nat}
end Go.Proofs.YtkkjjablmmmmkaaGreatDoor
namespace Sl
open Go Go.RowKit
variable {E : Env} {n : Nat} {L : Fr} {S H H' : List HP} {ty : TypeId} {pos : String} {af : Array Edge} {d : Option Nat} {gd : Option (Nat × Bool)} {K : Value → List HP → Prop} {Q : Exit → Act → World → Prop}
theorem run_copy {t e : TypeId} {i : TypeInfo} (ht : E.P.underlying t = some (.slice e)) (hi : E.P.info? e = some i) {b c o dl dc k cc N m : Nat} {q : Addr} {xs us : List Value} {w : World} (ty : TypeId)
  (s : Sat E.w0 w (sl (some ⟨b, 0, none⟩) c e i.size N xs :: H)) (hm : m = Nat.min k dl) (hu : us.length = m * i.size) (hq : ∀ j u, us[j]? = some u → w.cell? (q.add j) = some u) (hp : qCx us = true) (hN : o + m * i.size ≤ N * i.size) :
  ∃ w', (Builtin.copy_ #[t, t] ty #[.slice (some ⟨b, o, none⟩) dl dc, .slice (some q) k cc]).run E.P w = .ok (.int .i64 (m : Nat)) w' ∧ Sat E.w0 w' (sl (some ⟨b, 0, none⟩) c e i.size N (zZ xs o us) :: H) := by
 have hxl : xs.length = N * i.size := by obtain ⟨h1, h2, _, _, hh, _⟩ := s.hp; exact hh.1
 obtain ⟨cur, s1, h1, h2, h3, h4⟩ := s.slice
 have hme : N * i.size ≤ cur.size := by rw [h3]; exact Nat.mul_le_mul_right _ h1
 obtain ⟨w', hr, hs⟩ := qHj (E := E) cur o us w s1 hp (by omega)
 have hfc := run_firstCells_some (P := E.P) w i.size m q k cc us hu hq
 refine ⟨w', ?_, hs.imp fun k' hk' => qBk (fun k'' hk'' => ?_) hk'⟩
 ·subst hm
  simp [Builtin.copy_, run_underlying ht, Go.sizeOf, typeInfo, hi, Builtin.lenOf, hfc, hr, goInt]
 refine ⟨by rw [qM, hxl], .inr ⟨b, _, rfl, hk'', h1, h2, by simpa [qM] using h3, ?_⟩⟩
 rw [qFt _ _ _ _ (by omega), h4]
end Sl
