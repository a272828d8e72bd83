/-
  TEXTS JOINED FOR A CLAIM (SlideMeans): WFour. Conditions: none beyond those that each theorem states.
-/
import Derived.Test.YtjiaaefpepdoeaaDoorZ03SlideMeans
namespace Go.Proofs.YtjiaaefpepdoeaaDoorW.PrintLast
section
variable {P : Program} {ops : Array Oper} {Q : Exit → Act → World → Prop} {md : Region.Mode} {S : World → Prop} {ds : List Nat} {T : Bool × List (List Nat × List Nat)}
end
end Go.Proofs.YtjiaaefpepdoeaaDoorW.PrintLast
