import Derived.Test.YtlmpojkmeglepaaGreatDoorQ13
import Derived.Test.YtlmpojkmeglepaaGreatDoorQ17
set_option linter.all false
set_option maxHeartbeats 1000000
namespace Go.Proofs.YtlmpojkmeglepaaGreatDoor
open Go Go.RowKit Sl Eg
set_option maxRecDepth 10000
variable {E:Env}{Es:List Ent}{pp tb s most:Nat}
def Old (w0:World)(a:Option Addr)(bs:List UInt8):Prop:=bs≠[]→∃g o,a=some ⟨g,o,none⟩∧∀(i:Nat)(v:Value),(byC bs)[i]?=some v→w0.cell? ⟨g,o+i,none⟩=some v
theorem Old.rd {w0:World}{a:Option Addr}{bs:List UInt8}(h:Old w0 a bs):bs≠[]→∃g o,a=some ⟨g,o,none⟩∧∀k,old k→RdAt w0 g o (byC bs) k:=fun hb=>by
 obtain⟨g,o,h1,h2⟩:=h hb
 exact⟨g,o,h1,rd_old h2⟩
end Go.Proofs.YtlmpojkmeglepaaGreatDoor
