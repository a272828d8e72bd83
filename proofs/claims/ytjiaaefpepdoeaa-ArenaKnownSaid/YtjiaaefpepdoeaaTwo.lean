/-
  TWO ARENAS SIDE BY SIDE: what one's call leaves of the other. Conditions: their rows lie apart; their types are two.
-/
import Derived.Test.YtjiaaefpepdoeaaAw8
namespace Go.Proofs.Ytjiaaefpepdoeaa
open Go.RowKit Md
set_option linter.unusedVariables false

/-- What a call on an arena has done: new words, a new size; nothing but its own blocks is touched. -/
def Chg (T : TypeId) (w w' : World) (p : Nat) (v v' : Value) (ws' : List Int) (size' : Int) : Prop :=
  Ar T w' p v' ws' size' ∧ Fr w w' (fun i => i = p ∨ InBlk v i) ∧ ∀ k, InBlk v' k → InBlk v k ∨ w.heap.size ≤ k
def Apt (v u : Value) : Prop := ∀ k, InBlk v k → ¬ InBlk u k
section
variable {T T' : TypeId} {w w1 : World} {p q : Nat} {v v' u : Value} {ws ws' ws2 : List Int} {s s' s2 : Int} {S : Nat → Prop}
theorem Ar.row_ne (ha : Ar T w p v ws s) (hm : Ar T' w q u ws2 s2) : ∀ k, InBlk u k → k ≠ p := by
  intro k hk e
  obtain ⟨cur, hc⟩ := hm.own.elem k hk
  rw [e, ha.blk] at hc
  simp at hc
  exact ha.ty hc.2
theorem Ar.ptr_ne (ha : Ar T w p v ws s) (hm : Ar T' w q u ws2 s2) (ht : T ≠ T') : q ≠ p := by
  intro e
  have h1 := ha.blk
  rw [← e, hm.blk] at h1
  simp at h1
  exact ht h1.2.symm
theorem Apt.symm (h : Apt v u) : Apt u v := fun k h1 h2 => h k h2 h1
theorem Chg.other (h : Chg T w w1 p v v' ws' s') (ha : Ar T w p v ws s) (hm : Ar T' w q u ws2 s2) (ht : T ≠ T') (hd : Apt v u) : Ar T' w1 q u ws2 s2 ∧ Apt v' u := by
  have hne : InBlk v q → False := fun e => by
    obtain ⟨cur, hc⟩ := ha.own.elem q e
    rw [hm.blk] at hc
    simp at hc
    exact hm.ty hc.2
  refine ⟨hm.keep h.2.1 (fun e => e.elim (ha.ptr_ne hm ht) hne) (fun i hi e => e.elim (fun e => ha.row_ne hm i hi e) (fun e => hd i e hi)), fun k h1 h2 => ?_⟩
  · rcases h.2.2 k h1 with h3 | h3
    · exact hd k h3 h2
    · have := hm.own.lt k h2; omega
theorem Chg.of_set (h : Ar T w1 p v ws' s) (hf : Fr w w1 (InBlk v)) : Chg T w w1 p v v ws' s := ⟨h, hf.mono fun _ h _ => .inr h, fun k h => .inl h⟩
theorem Chg.of_cut (h : Ar T w1 p v' ws' s') (hf : Fr w w1 (fun i => i = p)) (hn : ∀ k, InBlk v' k → InBlk v k) : Chg T w w1 p v v' ws' s' := ⟨h, hf.mono fun _ h _ => .inl h, fun k h => .inl (hn k h)⟩
theorem Chg.same (h : Ar T w p v ws s) : Chg T w w p v v ws s := ⟨h, Fr.refl _ _, fun k h => .inl h⟩
theorem Ar.drew (h : Ar T w p v ws s) : Ar T w.drew p v ws s := ⟨h.blk, h.own, h.le, h.mx, h.ok, h.ty⟩
theorem Ar.drewN (h : Ar T w p v ws s) (n : Nat) : Ar T (w.drewN n) p v ws s := h.keep ((Fr.refl w (fun _ => False)).drewN n) (fun h => h) (fun _ _ h => h)
theorem Ar.alloc (h : Ar T w p v ws s) (o : Obj) : Ar T (w.alloc o) p v ws s := h.keep ((Fr.refl w (fun _ => False)).alloc o) (fun h => h) (fun _ _ h => h)
theorem Ar.fr (h : Ar T w p v ws s) (hf : Fr w w1 (fun _ => False)) : Ar T w1 p v ws s := h.keep hf (fun h => h) (fun _ _ h => h)
end
end Go.Proofs.Ytjiaaefpepdoeaa
