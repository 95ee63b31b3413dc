import Derived.Test.YtkkjjablmmmmkaaGreatDoorQ39
set_option linter.all false
namespace Go.Proofs.YtkkjjablmmmmkaaGreatDoor
section
open Go Eg
def pick (n : Int) (many : Nat) : Nat := (n % (many : Int)).toNat
def addR (L : List Rl) (r : Rl) : List Rl × Nat := if idOf L r = 0 then (L ++ [r], L.length + 1) else (L, idOf L r)
end
section
open Go Go.RowKit Sl Eg
set_option maxRecDepth 10000
variable {E : Env} {L : List Rl}
def rusC (L : List Rl) : List Value := L.flatMap rlC
end
end Go.Proofs.YtkkjjablmmmmkaaGreatDoor
