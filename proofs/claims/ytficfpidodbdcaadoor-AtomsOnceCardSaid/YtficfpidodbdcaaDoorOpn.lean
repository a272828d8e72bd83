/-
  ARGUMENTS OPENED: a slice of numbers that came in reads as a list. Conditions: none.
-/
import Derived.Test.YtficfpidodbdcaaDoorRd
import Derived.Test.YtficfpidodbdcaaDoorChecked
import Derived.WalkKit
import Derived.ProofKit
import Derived.OpenShut
import Derived.ChangeSlices
import Derived.ChangeOld
namespace Go.Proofs.YtficfpidodbdcaaDoor.Opn
open Go.ChangeShapes Go.WideShapes Go.ChangeAt Go.RowKit
set_option linter.unusedVariables false
theorem spot_none {w : World} {a : Addr} {v : Value} (h : w.cell? a = some v) : a.spot = none := by
  unfold World.cell? at h
  split at h
  · split at h
    · cases h
    · rename_i h1; simpa using h1
  · cases h
section
variable {H : Type} {enc : TypeId × Value → H} {P : Program} {w : World} {base : Nat} {held : Bool}
theorem open_row {t e : TypeId} {k : IntKind} {fuel len cap : Nat} {A : Option Addr} {x : DataW H × List MemPlace} (ht : P.underlying t = some (.slice e)) (he : P.underlying e = some (.int k)) (hc : P.cellsOf e = 1)
    (h : DataW.trod enc P w base (fun _ => true) held fuel t [.slice A len cap] = some x) :
    ∃ zs : List Int, zs.length = len ∧ (∀ n ∈ zs, (Lit.int k n).wf = true) ∧ Rd w (.slice A len cap) (zs.map (Value.int k)) := by
  rcases open_ints ht he hc h with ⟨hcs, _⟩ | ⟨a, l, c, zs, hcs, _, hl, hm, hz, _, hcell, hwz⟩
  · simp at hcs
    obtain ⟨rfl, rfl, rfl⟩ := hcs
    exact ⟨[], rfl, (fun n hn => by cases hn), .inl ⟨rfl, none, 0, rfl, fun _ => rfl⟩⟩
  · simp at hcs
    obtain ⟨rfl, rfl, rfl⟩ := hcs
    simp only [if_true] at hz
    have hlz : (zs.take len).length = len := by simp; omega
    refine ⟨zs.take len, hlz, fun n hn => hwz n (List.mem_of_mem_take hn), ?_⟩
    by_cases h0 : len = 0
    · subst h0
      exact .inl ⟨by simp, some a, cap, rfl, fun h => by cases h⟩
    · obtain ⟨b, off, sp⟩ := a
      have h1 := hcell 0 (by omega)
      have h2 := spot_none h1
      simp [Addr.add] at h2
      subst h2
      have ad : ∀ n, (Addr.mk b off none).add n = ⟨b, off + n, none⟩ := fun n => by
        unfold Addr.add; split
        · subst_vars; rfl
        · rfl
      have hb := World.block_lt_of_cell? w _ h1
      rw [ad] at hb
      refine .inr ⟨b, off, cap, by rw [List.length_map, hlz], by rw [List.length_map, hlz]; omega, by rw [List.length_map, hlz]; exact hl, hm, hb, fun i hi => ?_⟩
      have hi' : i < len := by rw [List.length_map, hlz] at hi; exact hi
      have h3 := hcell i (by omega)
      rw [ad] at h3
      rw [h3]
      simp [List.getD, List.getElem?_eq_getElem (show i < zs.length by omega), List.getElem?_take, hi']
end
end Go.Proofs.YtficfpidodbdcaaDoor.Opn
