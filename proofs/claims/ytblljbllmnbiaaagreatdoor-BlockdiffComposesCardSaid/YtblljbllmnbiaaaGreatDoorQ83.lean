import Derived.Test.YtblljbllmnbiaaaGreatDoorQ10
set_option linter.all false
set_option maxHeartbeats 1000000
namespace Go.Proofs.YtblljbllmnbiaaaGreatDoor
open Go Go.RowKit Sl Eg
set_option maxRecDepth 10000
variable {E:Env}
theorem qQf (hE:Seat E){n:Nat}(h:n≤dB):Ct E 80 [.int .i64 (n:Nat)] [] (fun v Q=>v= .bool true∧Q=[]):=by
 apply xU
 intro w
 rw[hE.P]
 exact jC n w h
theorem qNl (hE:Seat E){f n l:Nat}(hl:l≤1000000000)(h:f+n≤l):Ct E 86 [.int .i64 (f:Nat),.int .i64 (n:Nat),.int .i64 (l:Nat)] [] (fun v Q=>v= .nilIface∧Q=[]):=by
 have hmx:dB=1152921504606846976:=rfl
 refine bO (hE.fn Tryz.func86) O O O (fun R=>?_)
 simp only[dR,uV,uW]
 refine gg9 ?_
 refine uX (qQf (n:=l) hE oO) O ?_
 rintro _ _⟨rfl,rfl⟩
 simp only[uV,uW]
 refine gg8 ?_
 refine dS 14 O (fun h1=>?_) (fun h1=>?_)
 ·exfalso;omega
 refine gg6 ?_
 refine dS 18 O (fun h2=>?_) (fun h2=>?_)
 ·exfalso;omega
 refine gg8 ?_
 refine dS 23 O (fun h3=>?_) (fun h3=>?_)
 ·exfalso;omega
 refine gg13 ?_
 refine bE O (fun h4=>?_) (fun h4=>?_)
 ·exfalso;omega
 refine gg8 ?_
 exact uZ O (.tmp O .nil) ⟨O,O⟩
end Go.Proofs.YtblljbllmnbiaaaGreatDoor
