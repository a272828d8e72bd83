/-
  TEXTS JOINED FOR A CLAIM (SlideMeans): WTab. Conditions: none beyond those that each theorem states.
-/
import Derived.Test.YtjiaaefpepdoeaaDoorZ02SlideMeans
import Derived.Test.YtjiaaefpepdoeaaDoorZ01SlideMeans
namespace Go.Proofs.YtjiaaefpepdoeaaDoorW.PrintLast
open Go.Proofs.YtjiaaefpepdoeaaDoorW.PrintWords (Aside0)
section
variable {md : Region.Mode} {ops : Array Oper} {T : Bool × List (List Nat × List Nat)} {l l' li lj lk : Array Bool} {ds : List Nat} {i j k : Nat}
end
end Go.Proofs.YtjiaaefpepdoeaaDoorW.PrintLast
