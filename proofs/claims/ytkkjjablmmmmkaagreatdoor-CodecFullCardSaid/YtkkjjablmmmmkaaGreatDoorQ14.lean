import Derived.Test.YtkkjjablmmmmkaaGreatDoorQ08
set_option linter.all false
namespace Eg
def Per (T : List UInt8) (d : Nat) : Prop := lcp T (T.drop d) = T.length - d
instance (T : List UInt8) (d : Nat) : Decidable (Per T d) := inferInstanceAs (Decidable (_ = _))
def seg (T : List UInt8) (a b : Nat) : List UInt8 := (T.take b).drop a
def aft (T : List UInt8) (p d : Nat) : Nat := lcp (T.drop p) (T.drop (p + d))
end Eg
