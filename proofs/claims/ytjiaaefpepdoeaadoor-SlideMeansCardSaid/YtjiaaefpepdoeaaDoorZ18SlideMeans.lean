/-
  TEXTS JOINED FOR A CLAIM (SlideMeans): WInvWords. Conditions: none beyond those that each theorem states.
-/
import Derived.Test.YtjiaaefpepdoeaaDoorZ17SlideMeans
import Derived.Test.YtjiaaefpepdoeaaDoorZ13SlideMeans
namespace Go.Proofs.YtjiaaefpepdoeaaDoorW.PrintWords
open Go.RowKit
end Go.Proofs.YtjiaaefpepdoeaaDoorW.PrintWords
namespace Go.Proofs.YtjiaaefpepdoeaaDoorW.PrintLast
section
variable {ops : Array Oper} {a : Act} {o og : Oper} {g : Nat} {t : Tmp} {u : Bool}
end
end Go.Proofs.YtjiaaefpepdoeaaDoorW.PrintLast
