import Derived.Test.YtlmpojkmeglepaaGreatDoorQ02
set_option linter.all false
set_option maxHeartbeats 1000000
namespace Eg
def rem (L:List Rl)(K:Nat→Bool):Nat→Nat→Nat
 |0,_=>0
 |n+1,x=>if K x then 0 else if len L x≤256 then 512 else match L[x-1]? with
  |some (.pair l r)=>rem L K n l+rem L K n r+400
  |_=>0
end Eg
