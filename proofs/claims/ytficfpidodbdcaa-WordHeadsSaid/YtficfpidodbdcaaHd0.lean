/-
  LAW: WordHeads, words shared by its cases: the law's walk. Conditions: those of each theorem.
-/
import Derived.Test.YtficfpidodbdcaaWordH2
import Derived.Test.YtficfpidodbdcaaCls
import Derived.Lib.Hide
import Derived.Deep.RegionHeld3
namespace Go.Proofs.Ytficfpidodbdcaa.Wd
open Go.RowKit Go.Proofs.Ytficfpidodbdcaa.PWordHeads Go.Proofs.YtficfpidodbdcaaW.PrintWords Go.Proofs.YtficfpidodbdcaaW.PrintLast
open Go.Proofs.Ytficfpidodbdcaa.Md
set_option linter.unusedVariables false
theorem hd_below_alloc {B : Nat} {w W : World} (h : Below B w W) (o : Obj) (hB : B ≤ W.heap.size) : Below B w (W.alloc o) := h.alloc hB o
theorem hd_keep {w W W' : World} (h : Below w.heap.size w W) (hb : Below W.heap.size W W') : Below w.heap.size w W' := below_then h h.size hb
def HdEnds (w : World) (e : Ending) (w' : World) : Prop := e = .returned (.bool true) ∧ Below w.heap.size w w'
end Go.Proofs.Ytficfpidodbdcaa.Wd
