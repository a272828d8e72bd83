/-
  A REGION THAT DRAWS ITS ORDER, WALKED ONCE IN THE ORDER OF THE TEXT, over a class of worlds of one's own: whatever the operations read is the same in every world of the class, and a callee may make memory as long as the class is kept. Conditions: those of the kit's law on quiet regions.
-/
import Derived.Deep.QuietTactic
import Derived.BigQuiet
namespace Go.Proofs.YtficfpidodbdcaaDoor
/-- A world of the class S. -/
structure Cw (S : World → Prop) where
  val : World
  prop : S val
theorem wp_region_cls {P : Program} {S : World → Prop} {id : Nat} {Q : Exit → Act → World → Prop} {a : Act} {w : World} {l : List Oper} (hm : P.follows .mixedOrders = true) (hB : Region.lexB .any l.toArray = true) (hS : S { w with drawn := w.drawn + 1 })
    (h : Nonempty (Cw S) → wpQuiet P l.toArray (fun w' => ∃ x : Cw S, w' = x.val) (fun a' => ∀ w', (∃ x : Cw S, w' = x.val) → Q .normal a' w') l a) : (Code.region id l.toArray true).wp P Q a w :=
  wp_region_quiet (C := fun w' => ∃ x : Cw S, w' = x.val) hm hB ⟨⟨_, hS⟩, rfl⟩ (by simpa using h ⟨⟨_, hS⟩⟩)
/-- A callee's contract, met in a world of the class. -/
theorem Cw.call {P : Program} {S : World → Prop} {f : FuncId} {args : Array Value} {v : Value} {w : World} {R : World → Prop} (h : Calls P f args w fun e w' => e = .returned v ∧ R w') (k : ∀ w', R w' → S w') :
    Calls P f args w fun e w' => e = .returned v ∧ ∃ x : Cw S, w' = x.val := h.mono fun _ w' ⟨he, hr⟩ => ⟨he, ⟨w', k w' hr⟩, rfl⟩
end Go.Proofs.YtficfpidodbdcaaDoor
