/-
  TEXTS JOINED FOR A CLAIM (MarkTerms): WInvWords. Conditions: none beyond those that each theorem states.
-/
import Derived.Test.YtjiaaefpepdoeaaDoorZ18MarkTerms
import Derived.Test.YtjiaaefpepdoeaaDoorZ14MarkTerms
namespace Go.Proofs.YtjiaaefpepdoeaaDoorW.PrintWords
open Go.RowKit
end Go.Proofs.YtjiaaefpepdoeaaDoorW.PrintWords
namespace Go.Proofs.YtjiaaefpepdoeaaDoorW.PrintLast
section
variable {ops : Array Oper} {a : Act} {o og : Oper} {g : Nat} {t : Tmp} {u : Bool}
end
end Go.Proofs.YtjiaaefpepdoeaaDoorW.PrintLast
