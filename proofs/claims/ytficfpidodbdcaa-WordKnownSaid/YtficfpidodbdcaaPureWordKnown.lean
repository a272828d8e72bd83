/- PLAIN LAW of WordKnown: the printed function of the closed law answers true. Conditions: none. -/
import Derived.Test.YtficfpidodbdcaaPWordKnownx1
namespace Go.Proofs.Ytficfpidodbdcaa.Pure
open Go.RowKit Go.Proofs.Ytficfpidodbdcaa.PWordKnown Go.Proofs.YtficfpidodbdcaaW.PrintWords Go.Proofs.YtficfpidodbdcaaW.PrintLast

theorem WordKnown : tenementlaw1_WordKnown.Pure := ⟨3, by decide +kernel⟩

end Go.Proofs.Ytficfpidodbdcaa.Pure
