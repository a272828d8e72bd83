/-
  No cell of these rows narrows 'for every input' (looked for: loops, veiled, ifaces, maps, wideKeys, modest, calm, conditions, laid).
  DERIVED. THE GIVEN ROWS OF THIS SEAT. 13 by the template 'for every input the law returns true; each argument reads behind the call as it read before'; 0 by the template 'total and deterministic' (their statements: YtjiaaefpepdoeaaTotals.lean).
  GIVEN WITH THE SEED: the statements are not yours to turn. If you find one false, say at which input.
  Laid BY PROGRAM, IN A SANDBOX (cutbox-rows.mjs): the forced cells as the released guide's own fill.sh prints them over the translation 127fe719b4d7687d… (all of the seat's roots in one cut). By AI agents, Wed Nov 11 2026. No macro, syntax, notation, axiom, sorry.
-/
import Derived.Test.YtjiaaefpepdoeaaChecked
import GoSem.Claim
import GoSem.ClaimJoined
import GoSem.ClaimMapViews
import Derived.JoinedTies
import Derived.KernelRfl
namespace Go.Proofs.Ytjiaaefpepdoeaa
/- THE CELL 'sum', in the pinned program and in every row, IS THE sha256 OF THE DUMP (.gsa) THAT YtjiaaefpepdoeaaProg.lean LOADS. Nothing in Lean hashes anything: it is a label: what it is worth is what the hold of that sum in a sandbox is worth. -/
noncomputable def Try.pinned : Pinned := { name := "ytjiaaefpepdoeaa", sum := "127fe719b4d7687d6e59b36073353c6f808efe8b4a431ff4d23f9d50c60a416b", checked := Try.checked }
namespace Rows
def none {H : Type} : Left H := { results := [], args := [] }

/-- 'tenementlaw8.ArenaPlays': WHATEVER THE INPUT: true; the input reads as it did. -/
def arenaPlaysSpec : ChangeSpec := { name := "arenaPlays", fn := fun _ => fun
  | [d1, d2] => { results := [.lit (.bool true)], args := [d1, d2] }
  | _ => none }
def arenaPlaysRow : OpenClaim := { program := "ytjiaaefpepdoeaa", sum := "127fe719b4d7687d6e59b36073353c6f808efe8b4a431ff4d23f9d50c60a416b", func := "tenement/tenementlaw8.ArenaPlays", spec := "arenaPlays", apart := false }
def ArenaPlaysSaid : Prop := arenaPlaysRow.holds Try.pinned (OpenSpec.ofChange arenaPlaysSpec)

/-- ITS FALSE NEIGHBOUR: 'it returns false'. Refute it at one input. -/
def arenaPlaysWrong : ChangeSpec := { name := "arenaPlays", fn := fun _ => fun
  | [d1, d2] => { results := [.lit (.bool false)], args := [d1, d2] }
  | _ => none }
def ArenaPlaysWrongFalsely : Prop := arenaPlaysRow.holds Try.pinned (OpenSpec.ofChange arenaPlaysWrong)

/-- 'tenementlaw8.ArenaKeeps': WHATEVER THE INPUT: true; the input reads as it did. -/
def arenaKeepsSpec : ChangeSpec := { name := "arenaKeeps", fn := fun _ => fun
  | [d1, d2] => { results := [.lit (.bool true)], args := [d1, d2] }
  | _ => none }
def arenaKeepsRow : OpenClaim := { program := "ytjiaaefpepdoeaa", sum := "127fe719b4d7687d6e59b36073353c6f808efe8b4a431ff4d23f9d50c60a416b", func := "tenement/tenementlaw8.ArenaKeeps", spec := "arenaKeeps", apart := false }
def ArenaKeepsSaid : Prop := arenaKeepsRow.holds Try.pinned (OpenSpec.ofChange arenaKeepsSpec)

/-- ITS FALSE NEIGHBOUR: 'it returns false'. Refute it at one input. -/
def arenaKeepsWrong : ChangeSpec := { name := "arenaKeeps", fn := fun _ => fun
  | [d1, d2] => { results := [.lit (.bool false)], args := [d1, d2] }
  | _ => none }
def ArenaKeepsWrongFalsely : Prop := arenaKeepsRow.holds Try.pinned (OpenSpec.ofChange arenaKeepsWrong)

/-- 'tenementlaw8.ArenaKnown': WHATEVER THE INPUT: true; the input reads as it did. -/
def arenaKnownSpec : ChangeSpec := { name := "arenaKnown", fn := fun _ => fun
  | [] => { results := [.lit (.bool true)], args := [] }
  | _ => none }
def arenaKnownRow : OpenClaim := { program := "ytjiaaefpepdoeaa", sum := "127fe719b4d7687d6e59b36073353c6f808efe8b4a431ff4d23f9d50c60a416b", func := "tenement/tenementlaw8.ArenaKnown", spec := "arenaKnown", apart := false }
def ArenaKnownSaid : Prop := arenaKnownRow.holds Try.pinned (OpenSpec.ofChange arenaKnownSpec)

/-- ITS FALSE NEIGHBOUR: 'it returns false'. Refute it at one input. -/
def arenaKnownWrong : ChangeSpec := { name := "arenaKnown", fn := fun _ => fun
  | [] => { results := [.lit (.bool false)], args := [] }
  | _ => none }
def ArenaKnownWrongFalsely : Prop := arenaKnownRow.holds Try.pinned (OpenSpec.ofChange arenaKnownWrong)

/-- 'tenementlaw8.ArenaRows': WHATEVER THE INPUT: true; the input reads as it did. -/
def arenaRowsSpec : ChangeSpec := { name := "arenaRows", fn := fun _ => fun
  | [d] => { results := [.lit (.bool true)], args := [d] }
  | _ => none }
def arenaRowsRow : OpenClaim := { program := "ytjiaaefpepdoeaa", sum := "127fe719b4d7687d6e59b36073353c6f808efe8b4a431ff4d23f9d50c60a416b", func := "tenement/tenementlaw8.ArenaRows", spec := "arenaRows", apart := false }
def ArenaRowsSaid : Prop := arenaRowsRow.holds Try.pinned (OpenSpec.ofChange arenaRowsSpec)

/-- ITS FALSE NEIGHBOUR: 'it returns false'. Refute it at one input. -/
def arenaRowsWrong : ChangeSpec := { name := "arenaRows", fn := fun _ => fun
  | [d] => { results := [.lit (.bool false)], args := [d] }
  | _ => none }
def ArenaRowsWrongFalsely : Prop := arenaRowsRow.holds Try.pinned (OpenSpec.ofChange arenaRowsWrong)

/-- 'tenementlaw13.ThreadBack': WHATEVER THE INPUT: true; the input reads as it did. -/
def threadBackSpec : ChangeSpec := { name := "threadBack", fn := fun _ => fun
  | [d1, d2, d3] => { results := [.lit (.bool true)], args := [d1, d2, d3] }
  | _ => none }
def threadBackRow : OpenClaim := { program := "ytjiaaefpepdoeaa", sum := "127fe719b4d7687d6e59b36073353c6f808efe8b4a431ff4d23f9d50c60a416b", func := "tenement/tenementlaw13.ThreadBack", spec := "threadBack", apart := false }
def ThreadBackSaid : Prop := threadBackRow.holds Try.pinned (OpenSpec.ofChange threadBackSpec)

/-- ITS FALSE NEIGHBOUR: 'it returns false'. Refute it at one input. -/
def threadBackWrong : ChangeSpec := { name := "threadBack", fn := fun _ => fun
  | [d1, d2, d3] => { results := [.lit (.bool false)], args := [d1, d2, d3] }
  | _ => none }
def ThreadBackWrongFalsely : Prop := threadBackRow.holds Try.pinned (OpenSpec.ofChange threadBackWrong)

/-- 'tenementlaw13.ThreadAll': WHATEVER THE INPUT: true; the input reads as it did. -/
def threadAllSpec : ChangeSpec := { name := "threadAll", fn := fun _ => fun
  | [d1, d2, d3] => { results := [.lit (.bool true)], args := [d1, d2, d3] }
  | _ => none }
def threadAllRow : OpenClaim := { program := "ytjiaaefpepdoeaa", sum := "127fe719b4d7687d6e59b36073353c6f808efe8b4a431ff4d23f9d50c60a416b", func := "tenement/tenementlaw13.ThreadAll", spec := "threadAll", apart := false }
def ThreadAllSaid : Prop := threadAllRow.holds Try.pinned (OpenSpec.ofChange threadAllSpec)

/-- ITS FALSE NEIGHBOUR: 'it returns false'. Refute it at one input. -/
def threadAllWrong : ChangeSpec := { name := "threadAll", fn := fun _ => fun
  | [d1, d2, d3] => { results := [.lit (.bool false)], args := [d1, d2, d3] }
  | _ => none }
def ThreadAllWrongFalsely : Prop := threadAllRow.holds Try.pinned (OpenSpec.ofChange threadAllWrong)

/-- 'tenementlaw13.ThreadKnown': WHATEVER THE INPUT: true; the input reads as it did. -/
def threadKnownSpec : ChangeSpec := { name := "threadKnown", fn := fun _ => fun
  | [] => { results := [.lit (.bool true)], args := [] }
  | _ => none }
def threadKnownRow : OpenClaim := { program := "ytjiaaefpepdoeaa", sum := "127fe719b4d7687d6e59b36073353c6f808efe8b4a431ff4d23f9d50c60a416b", func := "tenement/tenementlaw13.ThreadKnown", spec := "threadKnown", apart := false }
def ThreadKnownSaid : Prop := threadKnownRow.holds Try.pinned (OpenSpec.ofChange threadKnownSpec)

/-- ITS FALSE NEIGHBOUR: 'it returns false'. Refute it at one input. -/
def threadKnownWrong : ChangeSpec := { name := "threadKnown", fn := fun _ => fun
  | [] => { results := [.lit (.bool false)], args := [] }
  | _ => none }
def ThreadKnownWrongFalsely : Prop := threadKnownRow.holds Try.pinned (OpenSpec.ofChange threadKnownWrong)

/-- 'tenementlaw12.MarkMore': WHATEVER THE INPUT: true; the input reads as it did. -/
def markMoreSpec : ChangeSpec := { name := "markMore", fn := fun _ => fun
  | [d1, d2, d3] => { results := [.lit (.bool true)], args := [d1, d2, d3] }
  | _ => none }
def markMoreRow : OpenClaim := { program := "ytjiaaefpepdoeaa", sum := "127fe719b4d7687d6e59b36073353c6f808efe8b4a431ff4d23f9d50c60a416b", func := "tenement/tenementlaw12.MarkMore", spec := "markMore", apart := false }
def MarkMoreSaid : Prop := markMoreRow.holds Try.pinned (OpenSpec.ofChange markMoreSpec)

/-- ITS FALSE NEIGHBOUR: 'it returns false'. Refute it at one input. -/
def markMoreWrong : ChangeSpec := { name := "markMore", fn := fun _ => fun
  | [d1, d2, d3] => { results := [.lit (.bool false)], args := [d1, d2, d3] }
  | _ => none }
def MarkMoreWrongFalsely : Prop := markMoreRow.holds Try.pinned (OpenSpec.ofChange markMoreWrong)

/-- 'tenementlaw13.ThreadPlays': WHATEVER THE INPUT: true; the input reads as it did. -/
def threadPlaysSpec : ChangeSpec := { name := "threadPlays", fn := fun _ => fun
  | [d1, d2, d3] => { results := [.lit (.bool true)], args := [d1, d2, d3] }
  | _ => none }
def threadPlaysRow : OpenClaim := { program := "ytjiaaefpepdoeaa", sum := "127fe719b4d7687d6e59b36073353c6f808efe8b4a431ff4d23f9d50c60a416b", func := "tenement/tenementlaw13.ThreadPlays", spec := "threadPlays", apart := false }
def ThreadPlaysSaid : Prop := threadPlaysRow.holds Try.pinned (OpenSpec.ofChange threadPlaysSpec)

/-- ITS FALSE NEIGHBOUR: 'it returns false'. Refute it at one input. -/
def threadPlaysWrong : ChangeSpec := { name := "threadPlays", fn := fun _ => fun
  | [d1, d2, d3] => { results := [.lit (.bool false)], args := [d1, d2, d3] }
  | _ => none }
def ThreadPlaysWrongFalsely : Prop := threadPlaysRow.holds Try.pinned (OpenSpec.ofChange threadPlaysWrong)

/-- 'tenementlaw12.MarkKnown': WHATEVER THE INPUT: true; the input reads as it did. -/
def markKnownSpec : ChangeSpec := { name := "markKnown", fn := fun _ => fun
  | [] => { results := [.lit (.bool true)], args := [] }
  | _ => none }
def markKnownRow : OpenClaim := { program := "ytjiaaefpepdoeaa", sum := "127fe719b4d7687d6e59b36073353c6f808efe8b4a431ff4d23f9d50c60a416b", func := "tenement/tenementlaw12.MarkKnown", spec := "markKnown", apart := false }
def MarkKnownSaid : Prop := markKnownRow.holds Try.pinned (OpenSpec.ofChange markKnownSpec)

/-- ITS FALSE NEIGHBOUR: 'it returns false'. Refute it at one input. -/
def markKnownWrong : ChangeSpec := { name := "markKnown", fn := fun _ => fun
  | [] => { results := [.lit (.bool false)], args := [] }
  | _ => none }
def MarkKnownWrongFalsely : Prop := markKnownRow.holds Try.pinned (OpenSpec.ofChange markKnownWrong)

/-- 'tenementlaw14.SlideRoots': WHATEVER THE INPUT: true; the input reads as it did. -/
def slideRootsSpec : ChangeSpec := { name := "slideRoots", fn := fun _ => fun
  | [d1, d2, d3] => { results := [.lit (.bool true)], args := [d1, d2, d3] }
  | _ => none }
def slideRootsRow : OpenClaim := { program := "ytjiaaefpepdoeaa", sum := "127fe719b4d7687d6e59b36073353c6f808efe8b4a431ff4d23f9d50c60a416b", func := "tenement/tenementlaw14.SlideRoots", spec := "slideRoots", apart := false }
def SlideRootsSaid : Prop := slideRootsRow.holds Try.pinned (OpenSpec.ofChange slideRootsSpec)

/-- ITS FALSE NEIGHBOUR: 'it returns false'. Refute it at one input. -/
def slideRootsWrong : ChangeSpec := { name := "slideRoots", fn := fun _ => fun
  | [d1, d2, d3] => { results := [.lit (.bool false)], args := [d1, d2, d3] }
  | _ => none }
def SlideRootsWrongFalsely : Prop := slideRootsRow.holds Try.pinned (OpenSpec.ofChange slideRootsWrong)

/-- 'tenementlaw14.SlideTwice': WHATEVER THE INPUT: true; the input reads as it did. -/
def slideTwiceSpec : ChangeSpec := { name := "slideTwice", fn := fun _ => fun
  | [d1, d2, d3] => { results := [.lit (.bool true)], args := [d1, d2, d3] }
  | _ => none }
def slideTwiceRow : OpenClaim := { program := "ytjiaaefpepdoeaa", sum := "127fe719b4d7687d6e59b36073353c6f808efe8b4a431ff4d23f9d50c60a416b", func := "tenement/tenementlaw14.SlideTwice", spec := "slideTwice", apart := false }
def SlideTwiceSaid : Prop := slideTwiceRow.holds Try.pinned (OpenSpec.ofChange slideTwiceSpec)

/-- ITS FALSE NEIGHBOUR: 'it returns false'. Refute it at one input. -/
def slideTwiceWrong : ChangeSpec := { name := "slideTwice", fn := fun _ => fun
  | [d1, d2, d3] => { results := [.lit (.bool false)], args := [d1, d2, d3] }
  | _ => none }
def SlideTwiceWrongFalsely : Prop := slideTwiceRow.holds Try.pinned (OpenSpec.ofChange slideTwiceWrong)

/-- 'tenementlaw14.SlideKnown': WHATEVER THE INPUT: true; the input reads as it did. -/
def slideKnownSpec : ChangeSpec := { name := "slideKnown", fn := fun _ => fun
  | [] => { results := [.lit (.bool true)], args := [] }
  | _ => none }
def slideKnownRow : OpenClaim := { program := "ytjiaaefpepdoeaa", sum := "127fe719b4d7687d6e59b36073353c6f808efe8b4a431ff4d23f9d50c60a416b", func := "tenement/tenementlaw14.SlideKnown", spec := "slideKnown", apart := false }
def SlideKnownSaid : Prop := slideKnownRow.holds Try.pinned (OpenSpec.ofChange slideKnownSpec)

/-- ITS FALSE NEIGHBOUR: 'it returns false'. Refute it at one input. -/
def slideKnownWrong : ChangeSpec := { name := "slideKnown", fn := fun _ => fun
  | [] => { results := [.lit (.bool false)], args := [] }
  | _ => none }
def SlideKnownWrongFalsely : Prop := slideKnownRow.holds Try.pinned (OpenSpec.ofChange slideKnownWrong)

/- THE SECOND FORM. 'bulk': how many values and letters a reading holds, each counted each time it is reached (what is shared counts as often as it is met; a slice's spare places count too). A statement '..UptoSaid' is the law's where the arguments, and the package variables that the reading takes, are together of bulk at most 1048576: NARROWER than '..Said'. Prove '..Said' where nothing that the law and all that it calls make is longer than what came in: it says more and counts as full. Else prove '..UptoSaid'. A law counts once. -/
mutual
def uptoBulk {H : Type} : DataW H → Nat
  | .lit (.string bytes) => bytes.length + 1
  | .lit _ => 1
  | .nil => 1
  | .ptr d => uptoBulk d + 1
  | .slice elems spare => uptoBulkAll elems + uptoBulkAll spare + 1
  | .agg parts => uptoBulkAll parts + 1
  | .iface _ d => uptoBulk d + 1
  | .map entries => uptoBulkEntries entries + 1
  | .held _ => 1
def uptoBulkAll {H : Type} : List (DataW H) → Nat
  | [] => 0
  | d :: r => uptoBulk d + uptoBulkAll r
def uptoBulkEntries {H : Type} : List (Lit × DataW H) → Nat
  | [] => 0
  | x :: r => uptoBulkEntry x + uptoBulkEntries r
def uptoBulkEntry {H : Type} : Lit × DataW H → Nat
  | (.string bytes, d) => bytes.length + uptoBulk d + 1
  | (_, d) => uptoBulk d + 1
 end
def uptoSmall : (H : Type) → List (DataW H) → Bool := fun _ ds => decide (uptoBulkAll ds ≤ 1048576)
def OpenSpec.upto (s : _root_.Go.ChangeSpec) : _root_.Go.OpenSpec := { _root_.Go.OpenSpec.ofChange s with cond := some uptoSmall }

/-- 'tenementlaw8.ArenaPlays', WHERE WHAT IT READS IS OF BULK AT MOST 1048576: true; the input reads as it did. -/
def arenaPlaysUptoRow : OpenClaim := { program := "ytjiaaefpepdoeaa", sum := "127fe719b4d7687d6e59b36073353c6f808efe8b4a431ff4d23f9d50c60a416b", func := "tenement/tenementlaw8.ArenaPlays", spec := "arenaPlays", apart := false, narrowed := true }
def ArenaPlaysUptoSaid : Prop := arenaPlaysUptoRow.holds Try.pinned (OpenSpec.upto arenaPlaysSpec)

/-- 'tenementlaw8.ArenaKeeps', WHERE WHAT IT READS IS OF BULK AT MOST 1048576: true; the input reads as it did. -/
def arenaKeepsUptoRow : OpenClaim := { program := "ytjiaaefpepdoeaa", sum := "127fe719b4d7687d6e59b36073353c6f808efe8b4a431ff4d23f9d50c60a416b", func := "tenement/tenementlaw8.ArenaKeeps", spec := "arenaKeeps", apart := false, narrowed := true }
def ArenaKeepsUptoSaid : Prop := arenaKeepsUptoRow.holds Try.pinned (OpenSpec.upto arenaKeepsSpec)

/-- 'tenementlaw8.ArenaKnown', WHERE WHAT IT READS IS OF BULK AT MOST 1048576: true; the input reads as it did. -/
def arenaKnownUptoRow : OpenClaim := { program := "ytjiaaefpepdoeaa", sum := "127fe719b4d7687d6e59b36073353c6f808efe8b4a431ff4d23f9d50c60a416b", func := "tenement/tenementlaw8.ArenaKnown", spec := "arenaKnown", apart := false, narrowed := true }
def ArenaKnownUptoSaid : Prop := arenaKnownUptoRow.holds Try.pinned (OpenSpec.upto arenaKnownSpec)

/-- 'tenementlaw8.ArenaRows', WHERE WHAT IT READS IS OF BULK AT MOST 1048576: true; the input reads as it did. -/
def arenaRowsUptoRow : OpenClaim := { program := "ytjiaaefpepdoeaa", sum := "127fe719b4d7687d6e59b36073353c6f808efe8b4a431ff4d23f9d50c60a416b", func := "tenement/tenementlaw8.ArenaRows", spec := "arenaRows", apart := false, narrowed := true }
def ArenaRowsUptoSaid : Prop := arenaRowsUptoRow.holds Try.pinned (OpenSpec.upto arenaRowsSpec)

/-- 'tenementlaw13.ThreadBack', WHERE WHAT IT READS IS OF BULK AT MOST 1048576: true; the input reads as it did. -/
def threadBackUptoRow : OpenClaim := { program := "ytjiaaefpepdoeaa", sum := "127fe719b4d7687d6e59b36073353c6f808efe8b4a431ff4d23f9d50c60a416b", func := "tenement/tenementlaw13.ThreadBack", spec := "threadBack", apart := false, narrowed := true }
def ThreadBackUptoSaid : Prop := threadBackUptoRow.holds Try.pinned (OpenSpec.upto threadBackSpec)

/-- 'tenementlaw13.ThreadAll', WHERE WHAT IT READS IS OF BULK AT MOST 1048576: true; the input reads as it did. -/
def threadAllUptoRow : OpenClaim := { program := "ytjiaaefpepdoeaa", sum := "127fe719b4d7687d6e59b36073353c6f808efe8b4a431ff4d23f9d50c60a416b", func := "tenement/tenementlaw13.ThreadAll", spec := "threadAll", apart := false, narrowed := true }
def ThreadAllUptoSaid : Prop := threadAllUptoRow.holds Try.pinned (OpenSpec.upto threadAllSpec)

/-- 'tenementlaw13.ThreadKnown', WHERE WHAT IT READS IS OF BULK AT MOST 1048576: true; the input reads as it did. -/
def threadKnownUptoRow : OpenClaim := { program := "ytjiaaefpepdoeaa", sum := "127fe719b4d7687d6e59b36073353c6f808efe8b4a431ff4d23f9d50c60a416b", func := "tenement/tenementlaw13.ThreadKnown", spec := "threadKnown", apart := false, narrowed := true }
def ThreadKnownUptoSaid : Prop := threadKnownUptoRow.holds Try.pinned (OpenSpec.upto threadKnownSpec)

/-- 'tenementlaw12.MarkMore', WHERE WHAT IT READS IS OF BULK AT MOST 1048576: true; the input reads as it did. -/
def markMoreUptoRow : OpenClaim := { program := "ytjiaaefpepdoeaa", sum := "127fe719b4d7687d6e59b36073353c6f808efe8b4a431ff4d23f9d50c60a416b", func := "tenement/tenementlaw12.MarkMore", spec := "markMore", apart := false, narrowed := true }
def MarkMoreUptoSaid : Prop := markMoreUptoRow.holds Try.pinned (OpenSpec.upto markMoreSpec)

/-- 'tenementlaw13.ThreadPlays', WHERE WHAT IT READS IS OF BULK AT MOST 1048576: true; the input reads as it did. -/
def threadPlaysUptoRow : OpenClaim := { program := "ytjiaaefpepdoeaa", sum := "127fe719b4d7687d6e59b36073353c6f808efe8b4a431ff4d23f9d50c60a416b", func := "tenement/tenementlaw13.ThreadPlays", spec := "threadPlays", apart := false, narrowed := true }
def ThreadPlaysUptoSaid : Prop := threadPlaysUptoRow.holds Try.pinned (OpenSpec.upto threadPlaysSpec)

/-- 'tenementlaw12.MarkKnown', WHERE WHAT IT READS IS OF BULK AT MOST 1048576: true; the input reads as it did. -/
def markKnownUptoRow : OpenClaim := { program := "ytjiaaefpepdoeaa", sum := "127fe719b4d7687d6e59b36073353c6f808efe8b4a431ff4d23f9d50c60a416b", func := "tenement/tenementlaw12.MarkKnown", spec := "markKnown", apart := false, narrowed := true }
def MarkKnownUptoSaid : Prop := markKnownUptoRow.holds Try.pinned (OpenSpec.upto markKnownSpec)

/-- 'tenementlaw14.SlideRoots', WHERE WHAT IT READS IS OF BULK AT MOST 1048576: true; the input reads as it did. -/
def slideRootsUptoRow : OpenClaim := { program := "ytjiaaefpepdoeaa", sum := "127fe719b4d7687d6e59b36073353c6f808efe8b4a431ff4d23f9d50c60a416b", func := "tenement/tenementlaw14.SlideRoots", spec := "slideRoots", apart := false, narrowed := true }
def SlideRootsUptoSaid : Prop := slideRootsUptoRow.holds Try.pinned (OpenSpec.upto slideRootsSpec)

/-- 'tenementlaw14.SlideTwice', WHERE WHAT IT READS IS OF BULK AT MOST 1048576: true; the input reads as it did. -/
def slideTwiceUptoRow : OpenClaim := { program := "ytjiaaefpepdoeaa", sum := "127fe719b4d7687d6e59b36073353c6f808efe8b4a431ff4d23f9d50c60a416b", func := "tenement/tenementlaw14.SlideTwice", spec := "slideTwice", apart := false, narrowed := true }
def SlideTwiceUptoSaid : Prop := slideTwiceUptoRow.holds Try.pinned (OpenSpec.upto slideTwiceSpec)

/-- 'tenementlaw14.SlideKnown', WHERE WHAT IT READS IS OF BULK AT MOST 1048576: true; the input reads as it did. -/
def slideKnownUptoRow : OpenClaim := { program := "ytjiaaefpepdoeaa", sum := "127fe719b4d7687d6e59b36073353c6f808efe8b4a431ff4d23f9d50c60a416b", func := "tenement/tenementlaw14.SlideKnown", spec := "slideKnown", apart := false, narrowed := true }
def SlideKnownUptoSaid : Prop := slideKnownUptoRow.holds Try.pinned (OpenSpec.upto slideKnownSpec)

end Rows
end Go.Proofs.Ytjiaaefpepdoeaa
