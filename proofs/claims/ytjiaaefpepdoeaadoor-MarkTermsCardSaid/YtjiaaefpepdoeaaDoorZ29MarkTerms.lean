/-
  TEXTS JOINED FOR A CLAIM (MarkTerms): Prt. Conditions: none beyond those that each theorem states.
-/
import Derived.Test.YtjiaaefpepdoeaaDoorZ23MarkTerms
import Derived.Test.YtjiaaefpepdoeaaDoorZ24MarkTerms
import Derived.Test.YtjiaaefpepdoeaaDoorZ25MarkTerms
import Derived.Test.YtjiaaefpepdoeaaDoorZ26MarkTerms
import Derived.Test.YtjiaaefpepdoeaaDoorZ27MarkTerms
import Derived.Test.YtjiaaefpepdoeaaDoorZ28MarkTerms

