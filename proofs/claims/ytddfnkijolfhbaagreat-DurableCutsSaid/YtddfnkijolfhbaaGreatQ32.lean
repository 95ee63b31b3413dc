import Derived.Test.YtddfnkijolfhbaaGreatQ13
import Derived.Lib.Overlaps
set_option linter.all false
set_option maxHeartbeats 1000000
namespace Sl
open Go Go.RowKit
variable {E : Env} {n : Nat} {L : Fr} {S H H' : List HP} {ty : TypeId} {pos : String} {af : Array Edge} {d : Option Nat} {gd : Option (Nat × Bool)} {K : Value → List HP → Prop} {Q : Exit → Act → World → Prop}
theorem run_copy {t e : TypeId} {i : TypeInfo} (ht : E.P.underlying t = some (.slice e)) (hi : E.P.info? e = some i) {b c o dl dc k cc N m : Nat} {q : Addr} {xs us : List Value} {w : World} (ty : TypeId)
  (s : Sat E.w0 w (sl (some ⟨b, 0, none⟩) c e i.size N xs :: H)) (hm : m = Nat.min k dl) (hu : us.length = m * i.size) (hq : ∀ j u, us[j]? = some u → w.cell? (q.add j) = some u) (hp : qEy us = true) (hN : o + m * i.size ≤ N * i.size) :
  ∃ w', (Builtin.copy_ #[t, t] ty #[.slice (some ⟨b, o, none⟩) dl dc, .slice (some q) k cc]).run E.P w = .ok (.int .i64 (m : Nat)) w' ∧ Sat E.w0 w' (sl (some ⟨b, 0, none⟩) c e i.size N (zY xs o us) :: H) := by
 have hxl : xs.length = N * i.size := by obtain ⟨h1, h2, _, _, hh, _⟩ := s.hp; exact hh.1
 obtain ⟨cur, s1, h1, h2, h3, h4⟩ := s.slice
 have hme : N * i.size ≤ cur.size := by rw [h3]; exact Nat.mul_le_mul_right _ h1
 obtain ⟨w', hr, hs⟩ := qKw (E := E) cur o us w s1 hp (by omega)
 have hfc := run_firstCells_some (P := E.P) w i.size m q k cc us hu hq
 refine ⟨w', ?_, hs.imp fun k' hk' => qAp (fun k'' hk'' => ?_) hk'⟩
 ·subst hm
  simp [Builtin.copy_, run_underlying ht, Go.sizeOf, typeInfo, hi, Builtin.lenOf, hfc, hr, goInt]
 refine ⟨by rw [qN, hxl], .inr ⟨b, _, rfl, hk'', h1, h2, by simpa [qN] using h3, ?_⟩⟩
 rw [qGu _ _ _ _ (by omega), h4]
end Sl
