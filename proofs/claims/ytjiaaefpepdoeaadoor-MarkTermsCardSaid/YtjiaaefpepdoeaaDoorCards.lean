/-
  DERIVED. GIVEN WITH THE SEED: THE CARDS: each row of YtjiaaefpepdoeaaDoorRows.lean that lists a variable, with what it lists TIED to the program's text (the seventh form; the later family's looks); each row that meets fmt, with fmt's text TOLD by the authors' own Lean function (tested against real Go, not proved from fmt's source: count such statements apart). THE CARD IS WHAT COUNTS. Prove the row's statement (the work); the ties are given (YtjiaaefpepdoeaaDoorTie.lean); close each card by the builder's one call (the guide's Derived/Test/ToyasCard.lean, 'card_holds'). Laid BY PROGRAM, IN A SANDBOX (cutbox-door.mjs). By AI agents, Wed Nov 11 2026. No macro, syntax, notation, axiom, sorry.
-/
import Derived.Test.YtjiaaefpepdoeaaDoorRows
import GoSem.ClaimSeven
namespace Go.Proofs.YtjiaaefpepdoeaaDoor
namespace Rows

/-- THE TIED CARD OF 'tenementlaw12.MarkTerms'. -/
def markTermsCard : Claim7 := { stood := { row := markTermsRow, standIns := [], harness := (true, "cf60415a4f504a5a12f9536100e0c887734a2276fb40bfcdd5ac7af27a6c738f"), looks := false }, kinds := [], alts := [], laidByText := true, laidKinds := [.data, .pinned], laidTests := true, laidLooks := .later }
def MarkTermsCardSaid : Prop := Claim7.holds Tryd.pinned (.plain (OpenSpec.ofChange markTermsSpec)) markTermsCard

/-- THE TIED CARD OF 'tenementlaw14.SlideMeans'. -/
def slideMeansCard : Claim7 := { stood := { row := slideMeansRow, standIns := [], harness := (true, "cf60415a4f504a5a12f9536100e0c887734a2276fb40bfcdd5ac7af27a6c738f"), looks := false }, kinds := [], alts := [], laidByText := true, laidKinds := [.data, .pinned], laidTests := true, laidLooks := .later }
def SlideMeansCardSaid : Prop := Claim7.holds Tryd.pinned (.plain (OpenSpec.ofChange slideMeansSpec)) slideMeansCard

/-- THE SECOND FORM's CARD OF 'tenementlaw12.MarkTerms'. -/
def markTermsUptoCard : Claim7 := { stood := { row := markTermsUptoRow, standIns := [], harness := (true, "cf60415a4f504a5a12f9536100e0c887734a2276fb40bfcdd5ac7af27a6c738f"), looks := false }, kinds := [], alts := [], laidByText := true, laidKinds := [.data, .pinned], laidTests := true, laidLooks := .later }
def MarkTermsUptoCardSaid : Prop := Claim7.holds Tryd.pinned (.plain (OpenSpec.upto markTermsSpec)) markTermsUptoCard

/-- THE SECOND FORM's CARD OF 'tenementlaw14.SlideMeans'. -/
def slideMeansUptoCard : Claim7 := { stood := { row := slideMeansUptoRow, standIns := [], harness := (true, "cf60415a4f504a5a12f9536100e0c887734a2276fb40bfcdd5ac7af27a6c738f"), looks := false }, kinds := [], alts := [], laidByText := true, laidKinds := [.data, .pinned], laidTests := true, laidLooks := .later }
def SlideMeansUptoCardSaid : Prop := Claim7.holds Tryd.pinned (.plain (OpenSpec.upto slideMeansSpec)) slideMeansUptoCard
end Rows
end Go.Proofs.YtjiaaefpepdoeaaDoor
