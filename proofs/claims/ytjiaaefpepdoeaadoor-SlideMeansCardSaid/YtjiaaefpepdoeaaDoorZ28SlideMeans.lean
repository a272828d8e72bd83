/-
  TEXTS JOINED FOR A CLAIM (SlideMeans): Prt. Conditions: none beyond those that each theorem states.
-/
import Derived.Test.YtjiaaefpepdoeaaDoorZ22SlideMeans
import Derived.Test.YtjiaaefpepdoeaaDoorZ23SlideMeans
import Derived.Test.YtjiaaefpepdoeaaDoorZ24SlideMeans
import Derived.Test.YtjiaaefpepdoeaaDoorZ25SlideMeans
import Derived.Test.YtjiaaefpepdoeaaDoorZ26SlideMeans
import Derived.Test.YtjiaaefpepdoeaaDoorZ27SlideMeans

