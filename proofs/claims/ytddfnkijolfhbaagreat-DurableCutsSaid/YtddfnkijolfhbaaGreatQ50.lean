import Derived.Test.YtddfnkijolfhbaaGreatQ39
set_option linter.all false
set_option maxHeartbeats 1000000
namespace Sl
open Go Go.RowKit
variable {E : Env} {n : Nat} {L L' : Fr} {S H H' : List HP} {K : Value → List HP → Prop} {Q : Exit → Act → World → Prop}
theorem qAu {ops : List Oper} {m fuel : Nat} {listed : Array Bool} (hL : wk L L') (hH : ∀ k, qAd H k → qAd H' k) (hS : ∀ k, qAd H' k → qAd S k) (h : WPM E ops m S Q fuel listed n L' H') : WPM E ops m S Q fuel listed n L H := fun _ a w g => h hS a w ⟨g.f.wk hL, g.hp.imp hH⟩
theorem qEq {ops : List Oper} {m : Nat} {fuel : Nat} {listed : Array Bool} (rs : List Nat) (hr : Region.ready .any ops.toArray listed = rs) (hne : rs ≠ [])
  (h : ∀ i, i ∈ rs → ∃ (d : Option Nat) (op : Op) (ty : TypeId) (pos : String) (af : Array Edge), ops[i]? = some ⟨d, op, ty, pos, af, none⟩ ∧ inB n d = true ∧ Ld E n L H ⟨d, op, ty, pos, af, none⟩ (fun v H' => (∀ k, qAd H' k → qAd S k) ∧ WPM E ops m S Q fuel (listed.setIfInBounds i true) n (putL d v L) H')) :
  WPM E ops m S Q (fuel + 1) listed n L H := fun _ a w g =>
 ⟨fun h0 => absurd (hr.symm.trans h0) hne, fun x hx => by
  rw [hr] at hx
  obtain ⟨d, op, ty, pos, af, hi, hd, hl⟩ := h x hx
  unfold wpOp
  simp only [qBb hi, Region.wanted, if_true]
  exact .inl (hl _ _ a w g (fun v H' w' hk hs => ⟨fun _ => hs.imp hk.1, hk.2 hk.1 _ _ ⟨g.f.put d v hd, hs⟩⟩))⟩
end Sl
namespace Go.Proofs.YtddfnkijolfhbaaGreat
section
open Go Eg
def pick (n : Int) (many : Nat) : Nat := (n % (many : Int)).toNat
end
section
open Go Go.RowKit Sl Eg
set_option maxRecDepth 10000
variable {E : Env} {L : List Rl}
def rusC (L : List Rl) : List Value := L.flatMap rlC
end
end Go.Proofs.YtddfnkijolfhbaaGreat
