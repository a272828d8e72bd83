/-
  TEXTS JOINED FOR A CLAIM (MarkTerms): WFour. Conditions: none beyond those that each theorem states.
-/
import Derived.Test.YtjiaaefpepdoeaaDoorZ04MarkTerms
namespace Go.Proofs.YtjiaaefpepdoeaaDoorW.PrintLast
section
variable {P : Program} {ops : Array Oper} {Q : Exit → Act → World → Prop} {md : Region.Mode} {S : World → Prop} {ds : List Nat} {T : Bool × List (List Nat × List Nat)}
end
end Go.Proofs.YtjiaaefpepdoeaaDoorW.PrintLast
