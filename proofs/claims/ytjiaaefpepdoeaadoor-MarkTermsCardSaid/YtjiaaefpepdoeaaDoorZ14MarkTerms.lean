/-
  TEXTS JOINED FOR A CLAIM (MarkTerms): WFootNe. Conditions: none beyond those that each theorem states.
-/
import Derived.Test.YtjiaaefpepdoeaaDoorZ13MarkTerms
namespace Go.Proofs.YtjiaaefpepdoeaaDoorW.PrintWords
open Go.RowKit
namespace Kd
section
variable {α : Type} {d : Kd α} {W : World} {g n : Nat} {S ok : Nat → Prop} {A : Option Addr} {ad : Addr} {xs : List α}
end
end Kd
end Go.Proofs.YtjiaaefpepdoeaaDoorW.PrintWords
