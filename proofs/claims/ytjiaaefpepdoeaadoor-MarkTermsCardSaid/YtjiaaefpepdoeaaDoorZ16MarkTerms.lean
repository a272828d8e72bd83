/-
  TEXTS JOINED FOR A CLAIM (MarkTerms): WEqStruct. Conditions: none beyond those that each theorem states.
-/
import Derived.Test.YtjiaaefpepdoeaaDoorZ02MarkTerms
import Derived.Laws.StructEq
namespace Go.Proofs.YtjiaaefpepdoeaaDoorW.PrintWords
open Go.RowKit
section
variable {P : Program} {d : Nat} {xs ys : Array Value} {f : Field} {fs : List Field} {a b : Value} {r s : Bool} {w : World}
end
end Go.Proofs.YtjiaaefpepdoeaaDoorW.PrintWords
