import Derived.Test.YtddfnkijolfhbaaGreatQ79
import Derived.Test.YtddfnkijolfhbaaGreatQ85
set_option linter.all false
set_option maxHeartbeats 1000000
namespace Sl
open Go Go.RowKit
variable {E : Env} {n : Nat} {L : Fr} {S H H' : List HP} {ty : TypeId} {pos : String} {af : Array Edge} {d : Option Nat} {gd : Option (Nat × Bool)} {K : Value → List HP → Prop} {Q : Exit → Act → World → Prop}
theorem zAr {x : Operand} {src dst e : TypeId} {bs : List UInt8} {s by_ sz sz1 sz2 : Nat} {zs zs1 zs2 : List Value} (hx : ev L x = some (.string ⟨⟨bs⟩⟩)) (hs : E.tab src = some ⟨.string, sz, zs⟩) (ht : E.tab dst = some ⟨.slice e s by_, sz1, zs1⟩) (he : E.tab e = some ⟨.int .u8, sz2, zs2⟩)
  (hk : ∀ g c, bs.length ≤ c → K (.slice (some ⟨g, 0, none⟩) bs.length c) (ro g (bs.map fun b => Value.int .u8 (b.toNat : Nat)) :: H)) : Ld E n L H ⟨d, .convert src dst x, ty, pos, af, gd⟩ K := fun Q next a w G hn => by
 obtain ⟨i', z, _, _, _, _, hk'⟩ := qBg hs
 simp only [TK.holds] at hk'
 have hu : E.P.underlying src = some .string := by
  split at hk'
  ·assumption
  cases hk'
 obtain ⟨hd, _⟩ := qBj ht
 have hr := run_bytes_of_string (P := E.P) w src dst e ⟨⟨bs⟩⟩ hu hd (qFe he)
 have hrun : (execOp a.eval ⟨d, .convert src dst x, ty, pos, af, gd⟩).run E.P w = .ok (.value (.slice (some ⟨w.heap.size, 0, none⟩) bs.length (grownCap w bs.length 0 e))) (w.drew.alloc (.cells (bytesRow ⟨⟨bs⟩⟩ (grownCap w bs.length 0 e)) e ((bytesRow ⟨⟨bs⟩⟩ (grownCap w bs.length 0 e)).size, (bytesRow ⟨⟨bs⟩⟩ (grownCap w bs.length 0 e)).size + 1))) := by
  have hr' : (convert src dst (.string ⟨⟨bs⟩⟩)).run E.P w = .ok (.slice (some ⟨w.heap.size, 0, none⟩) bs.length (grownCap w bs.length 0 e)) (w.drew.alloc (.cells (bytesRow ⟨⟨bs⟩⟩ (grownCap w bs.length 0 e)) e ((bytesRow ⟨⟨bs⟩⟩ (grownCap w bs.length 0 e)).size, (bytesRow ⟨⟨bs⟩⟩ (grownCap w bs.length 0 e)).size + 1))) := hr
  simp only [execOp, G.f.ev hx, Sem.run_bind, Sem.run_map, hr']
  simp [hr']
 unfold Oper.wp
 rw [hrun, Oper.upon_value]
 refine hn _ _ _ (hk _ _ (grownCap_ge _ _ _ _)) ?_
 refine (G.hp.drew.new _).imp fun _ => qAp fun k h => ⟨_, _, _, h, fun i v hv => ?_⟩
 have hi : i < bs.length := by have := (List.getElem?_eq_some_iff.1 hv).1; simpa using this
 unfold bytesRow
 rw [Array.getElem?_append_left (by simpa using hi)]
 simpa using hv
end Sl
namespace Go.Proofs.YtddfnkijolfhbaaGreat
open Go Go.RowKit Sl Eg
set_option maxRecDepth 10000
end Go.Proofs.YtddfnkijolfhbaaGreat
