/-
  DERIVED. GIVEN WITH THE SEED: THE CARDS: each row of YtficfpidodbdcaaDoorRows.lean that lists a variable, with what it lists TIED to the program's text (the seventh form; the later family's looks); each row that meets fmt, with fmt's text TOLD by the authors' own Lean function (tested against real Go, not proved from fmt's source: count such statements apart). THE CARD IS WHAT COUNTS. Prove the row's statement (the work); the ties are given (YtficfpidodbdcaaDoorTie.lean); close each card by the builder's one call (the guide's Derived/Test/ToyasCard.lean, 'card_holds'). Laid BY PROGRAM, IN A SANDBOX (cutbox-door.mjs). By AI agents, Wed Nov 11 2026. No macro, syntax, notation, axiom, sorry.
-/
import Derived.Test.YtficfpidodbdcaaDoorRows
import GoSem.ClaimSeven
namespace Go.Proofs.YtficfpidodbdcaaDoor
namespace Rows

/-- THE TIED CARD OF 'tenementlaw4.AtomsKnown'. -/
def atomsKnownCard : Claim7 := { stood := { row := atomsKnownRow, standIns := [], harness := (true, "e8c1bb0c9926fe43621d6dd8c7910d1502a228aec6871035c24f15d08df1227e"), looks := false }, kinds := [], alts := [], laidByText := true, laidKinds := [.data, .pinned], laidTests := true, laidLooks := .later }
def AtomsKnownCardSaid : Prop := Claim7.holds Tryd.pinned (.plain (OpenSpec.ofChange atomsKnownSpec)) atomsKnownCard

/-- THE TIED CARD OF 'tenementlaw4.AtomsPlays'. -/
def atomsPlaysCard : Claim7 := { stood := { row := atomsPlaysRow, standIns := [], harness := (true, "e8c1bb0c9926fe43621d6dd8c7910d1502a228aec6871035c24f15d08df1227e"), looks := false }, kinds := [], alts := [], laidByText := true, laidKinds := [.data, .pinned], laidTests := true, laidLooks := .later }
def AtomsPlaysCardSaid : Prop := Claim7.holds Tryd.pinned (.plain (OpenSpec.ofChange atomsPlaysSpec)) atomsPlaysCard

/-- THE TIED CARD OF 'tenementlaw4.AtomsOnce'. -/
def atomsOnceCard : Claim7 := { stood := { row := atomsOnceRow, standIns := [], harness := (true, "e8c1bb0c9926fe43621d6dd8c7910d1502a228aec6871035c24f15d08df1227e"), looks := false }, kinds := [], alts := [], laidByText := true, laidKinds := [.data, .pinned], laidTests := true, laidLooks := .later }
def AtomsOnceCardSaid : Prop := Claim7.holds Tryd.pinned (.plain (OpenSpec.ofChange atomsOnceSpec)) atomsOnceCard

/-- THE SECOND FORM's CARD OF 'tenementlaw4.AtomsKnown'. -/
def atomsKnownUptoCard : Claim7 := { stood := { row := atomsKnownUptoRow, standIns := [], harness := (true, "e8c1bb0c9926fe43621d6dd8c7910d1502a228aec6871035c24f15d08df1227e"), looks := false }, kinds := [], alts := [], laidByText := true, laidKinds := [.data, .pinned], laidTests := true, laidLooks := .later }
def AtomsKnownUptoCardSaid : Prop := Claim7.holds Tryd.pinned (.plain (OpenSpec.upto atomsKnownSpec)) atomsKnownUptoCard

/-- THE SECOND FORM's CARD OF 'tenementlaw4.AtomsPlays'. -/
def atomsPlaysUptoCard : Claim7 := { stood := { row := atomsPlaysUptoRow, standIns := [], harness := (true, "e8c1bb0c9926fe43621d6dd8c7910d1502a228aec6871035c24f15d08df1227e"), looks := false }, kinds := [], alts := [], laidByText := true, laidKinds := [.data, .pinned], laidTests := true, laidLooks := .later }
def AtomsPlaysUptoCardSaid : Prop := Claim7.holds Tryd.pinned (.plain (OpenSpec.upto atomsPlaysSpec)) atomsPlaysUptoCard

/-- THE SECOND FORM's CARD OF 'tenementlaw4.AtomsOnce'. -/
def atomsOnceUptoCard : Claim7 := { stood := { row := atomsOnceUptoRow, standIns := [], harness := (true, "e8c1bb0c9926fe43621d6dd8c7910d1502a228aec6871035c24f15d08df1227e"), looks := false }, kinds := [], alts := [], laidByText := true, laidKinds := [.data, .pinned], laidTests := true, laidLooks := .later }
def AtomsOnceUptoCardSaid : Prop := Claim7.holds Tryd.pinned (.plain (OpenSpec.upto atomsOnceSpec)) atomsOnceUptoCard
end Rows
end Go.Proofs.YtficfpidodbdcaaDoor
