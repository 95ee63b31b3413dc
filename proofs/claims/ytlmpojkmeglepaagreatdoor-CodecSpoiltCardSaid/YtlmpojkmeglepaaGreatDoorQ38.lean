import Derived.Test.YtlmpojkmeglepaaGreatDoorQ35
set_option linter.all false
set_option maxHeartbeats 1000000
namespace Go.Proofs.YtlmpojkmeglepaaGreatDoor
open Go Go.RowKit Sl Eg
section
def rep {α:Type}(k:Nat)(l:List α):List α:=(List.replicate k l).flatten
end
section
set_option maxRecDepth 10000
variable {E:Env}{Es:List Ent}{pp tb s most:Nat}
theorem qDb {L:List Rl}{x:Nat}(hs:Sig L x):∀l,(expd L l x).length≤(expd L 0 x).length
 |0=>Nat.le_refl _
 |l+1=>by
  have:=(hs.step (l+1) oO).le
  rw[Nat.add_sub_cancel]at this
  have:=qDb hs l
  omega
structure ApG where
 l:Nat
 A:Sd
 B:Sd
 C:Md
end
end Go.Proofs.YtlmpojkmeglepaaGreatDoor
