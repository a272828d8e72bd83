/-
  MEMORY: what a call leaves alone (all blocks but those of S, and what is new), an arena in memory, a row of words of the call's own. Conditions: none; definitions and small laws.
-/
import Derived.Test.YtficfpidodbdcaaDoorRows
import Derived.Test.YtficfpidodbdcaaDoorMdl
import Derived.WalkKit
import Derived.Lib.Hide
import Derived.WalkSpells
import Derived.Deep.Draws
namespace Go.Proofs.YtficfpidodbdcaaDoor
open Go.RowKit
set_option linter.unusedVariables false

/-- All blocks but those of S are as they were; what is new is new. -/
structure Fr (w w' : World) (S : Nat → Prop) : Prop where
  os : w'.os = w.os
  tape : w'.tape = w.tape
  output : w'.output = w.output
  size : w.heap.size ≤ w'.heap.size
  block : ∀ i, i < w.heap.size → ¬ S i → w'.heap[i]? = w.heap[i]?
section
variable {w w1 w2 : World} {S S1 S2 : Nat → Prop}
theorem Fr.refl (w : World) (S : Nat → Prop) : Fr w w S := ⟨rfl, rfl, rfl, Nat.le_refl _, fun _ _ _ => rfl⟩
theorem Fr.mono (h : Fr w w1 S) (k : ∀ i, S i → i < w.heap.size → S1 i) : Fr w w1 S1 := ⟨h.os, h.tape, h.output, h.size, fun i hi hn => h.block i hi fun hs => hn (k i hs hi)⟩
theorem Fr.trans (h : Fr w w1 S) (k : Fr w1 w2 S) : Fr w w2 S :=
  ⟨k.os.trans h.os, k.tape.trans h.tape, k.output.trans h.output, Nat.le_trans h.size k.size, fun i hi hn => (k.block i (Nat.lt_of_lt_of_le hi h.size) hn).trans (h.block i hi hn)⟩
theorem Fr.then_ (h : Fr w w1 S) (k : Fr w1 w2 S1) (hs : ∀ i, S1 i → i < w.heap.size → S i) : Fr w w2 S :=
  ⟨k.os.trans h.os, k.tape.trans h.tape, k.output.trans h.output, Nat.le_trans h.size k.size, fun i hi hn => (k.block i (Nat.lt_of_lt_of_le hi h.size) fun h1 => hn (hs i h1 hi)).trans (h.block i hi hn)⟩
theorem Fr.alloc (h : Fr w w1 S) (o : Obj) : Fr w (w1.alloc o) S :=
  ⟨h.os, h.tape, h.output, by simp; exact Nat.le_succ_of_le h.size, fun i hi hn => (heap_alloc_old w1 o (Nat.lt_of_lt_of_le hi h.size)).trans (h.block i hi hn)⟩
theorem Fr.drew (h : Fr w w1 S) : Fr w w1.drew S := ⟨h.os, h.tape, h.output, h.size, h.block⟩
theorem Fr.drewN (h : Fr w w1 S) (n : Nat) : Fr w (w1.drewN n) S := ⟨h.os, h.tape, h.output, h.size, h.block⟩
theorem Fr.setCell (h : Fr w w1 S) {a : Addr} (ha : a.block < w.heap.size → S a.block) (u : Value) : Fr w (w1.setCell a u) S :=
  ⟨h.os, h.tape, h.output, by simpa [World.setCell] using h.size, fun i hi hn => (Below.heap_setCell w1 a u i (fun e => hn (by subst e; exact ha hi))).trans (h.block i hi hn)⟩
theorem Fr.grown (h : Fr w w1 S) {row : Option Nat} (hg : w1.grownBy w2 row) (hr : ∀ k, row = some k → k < w.heap.size → S k) : Fr w w2 S :=
  ⟨hg.os.trans h.os, hg.tape.trans h.tape, hg.output.trans h.output, Nat.le_trans h.size hg.size, fun i hi hn => (hg.block i (Nat.lt_of_lt_of_le hi h.size) fun e => hn (hr i e.symm hi)).trans (h.block i hi hn)⟩
theorem Fr.of_below (h : Below w.heap.size w w1) (S : Nat → Prop) : Fr w w1 S := ⟨h.os, h.tape, h.output, h.size, fun i hi _ => h.block i hi⟩
theorem Fr.below (h : Fr w w1 fun _ => False) : Below w.heap.size w w1 := ⟨h.os, h.tape, h.output, h.size, fun i hi => h.block i hi fun h => h⟩
theorem Fr.to_below (h : Fr w w1 S) {B : Nat} (hB : ∀ i, S i → B ≤ i) (hw : B ≤ w.heap.size) : Below B w w1 :=
  ⟨h.os, h.tape, h.output, h.size, fun i hi => h.block i (Nat.lt_of_lt_of_le hi hw) fun hs => by have := hB i hs; omega⟩
theorem Fr.cell (h : Fr w w1 S) {a : Addr} {u : Value} (hc : w.cell? a = some u) (hn : ¬ S a.block) : w1.cell? a = some u :=
  (World.cell?_of_block (h.block a.block (World.block_lt_of_cell? w a hc) hn)).trans hc
theorem Fr.blk (h : Fr w w1 S) {g : Nat} {o : Obj} (hc : w.heap[g]? = some o) (hn : ¬ S g) : w1.heap[g]? = some o :=
  (h.block g (Array.getElem?_eq_some_iff.1 hc).1 hn).trans hc
end

/-! ### rows of words -/
def uw (ws : List Int) : List Value := ws.map (Value.int .u64)
theorem uw_length (ws : List Int) : (uw ws).length = ws.length := by simp [uw]
/-- A slice value that owns the words ws (type number e of the element). -/
def Own (w : World) (e : TypeId) (v : Value) (xs : List Value) : Prop := w.ownsRow 0 e 1 v xs.length xs
/-- the block of a slice value that owns something -/
def InBlk (v : Value) (i : Nat) : Prop := v.ownBlock = some i
section
variable {w w1 : World} {e : TypeId} {v : Value} {xs : List Value} {S : Nat → Prop}
theorem Own.nil (w : World) (e : TypeId) : Own w e (.slice none 0 0) [] := World.ownsRow_nil w 0 e 1
theorem Own.keep (h : Own w e v xs) (hf : Fr w w1 S) (hn : ∀ i, InBlk v i → ¬ S i) : Own w1 e v xs := by
  refine ⟨h.1, ?_⟩
  rcases h.2 with h0 | ⟨g, cap, cur, rfl, hb, hg, rest⟩
  · exact .inl h0
  · exact .inr ⟨g, cap, cur, rfl, hb, hf.blk hg (hn g (by simp [InBlk, Value.ownBlock])), rest⟩
theorem Own.form (h : Own w e v xs) : (v = .slice none 0 0 ∧ xs = []) ∨ ∃ g cap, v = .slice (some ⟨g, 0, none⟩) xs.length cap ∧ xs.length ≤ cap ∧ cap ≤ maxLen ∧ g < w.heap.size ∧ (∀ i, i < xs.length → w.cell? ⟨g, i, none⟩ = xs[i]?) ∧ ∀ i, w.frozen? ⟨g, i, none⟩ = false := by
  rcases h.2 with ⟨rfl, h0⟩ | ⟨g, cap, cur, rfl, hb, hg, hl, hm, hs, ht⟩
  · exact .inl ⟨rfl, List.eq_nil_of_length_eq_zero h0⟩
  · refine .inr ⟨g, cap, rfl, hl, hm, (Array.getElem?_eq_some_iff.1 hg).1, fun i hi => ?_, fun i => by simp [World.frozen?, hg]⟩
    rw [cell_of_row w g i cur e (0, 0) hg]
    rw [Nat.mul_one] at ht
    have h2 : xs[i]? = (cur.toList.take xs.length)[i]? := by rw [ht]
    rw [h2, List.getElem?_take, if_pos hi]
    simp
theorem Own.lt (h : Own w e v xs) : ∀ i, InBlk v i → i < w.heap.size := fun i hi => (World.ownsRow.lt h i hi).2
theorem Own.elem (h : Own w e v xs) : ∀ i, InBlk v i → ∃ cur, w.heap[i]? = some (.cells cur e (0, 0)) := by
  intro i hi
  rcases h.2 with ⟨rfl, _⟩ | ⟨g, cap, cur, rfl, hb, hg, _⟩
  · simp [InBlk, Value.ownBlock] at hi
  · simp [InBlk, Value.ownBlock] at hi; subst hi; exact ⟨cur, hg⟩
end
end Go.Proofs.YtficfpidodbdcaaDoor
