/-
  TEXTS JOINED FOR A CLAIM (MarkTerms): WTab. Conditions: none beyond those that each theorem states.
-/
import Derived.Test.YtjiaaefpepdoeaaDoorZ03MarkTerms
import Derived.Test.YtjiaaefpepdoeaaDoorZ02MarkTerms
namespace Go.Proofs.YtjiaaefpepdoeaaDoorW.PrintLast
open Go.Proofs.YtjiaaefpepdoeaaDoorW.PrintWords (Aside0)
section
variable {md : Region.Mode} {ops : Array Oper} {T : Bool × List (List Nat × List Nat)} {l l' li lj lk : Array Bool} {ds : List Nat} {i j k : Nat}
end
end Go.Proofs.YtjiaaefpepdoeaaDoorW.PrintLast
