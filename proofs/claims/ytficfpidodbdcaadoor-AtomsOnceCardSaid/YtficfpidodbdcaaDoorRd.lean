/-
  READING ROWS: a slice value that reads as a list of values (one cell an element), wherever it lies; LAW OF NO FUNCTION: 'append(s, x...)' onto a row of the program's own. Conditions: fewer than 2^30 elements of at most 64 bytes.
-/
import Derived.Test.YtficfpidodbdcaaDoorFr
import Derived.Deep.AppendSrc
namespace Go.Proofs.YtficfpidodbdcaaDoor
open Go.RowKit
set_option linter.unusedVariables false

/-- The slice value v reads as xs. -/
def Rd (w : World) (v : Value) (xs : List Value) : Prop :=
  (xs = [] ∧ ∃ A cap, v = .slice A 0 cap ∧ (A = none → cap = 0)) ∨
  ∃ b off cap, v = .slice (some ⟨b, off, none⟩) xs.length cap ∧ 0 < xs.length ∧ xs.length ≤ cap ∧ cap ≤ maxLen ∧ b < w.heap.size ∧ ∀ i, i < xs.length → w.cell? ⟨b, off + i, none⟩ = xs[i]?
section
variable {w w1 : World} {e : TypeId} {v : Value} {xs ys : List Value} {S : Nat → Prop}
theorem Rd.keep (h : Rd w v xs) (hf : Fr w w1 S) (hn : ∀ i, InBlk v i → ¬ S i) : Rd w1 v xs := by
  rcases h with h | ⟨b, off, cap, rfl, h0, hl, hm, hb, hc⟩
  · exact .inl h
  · refine .inr ⟨b, off, cap, rfl, h0, hl, hm, Nat.lt_of_lt_of_le hb hf.size, fun i hi => ?_⟩
    have := hc i hi
    rw [List.getElem?_eq_getElem hi] at this ⊢
    exact hf.cell this (hn b (by simp [InBlk, Value.ownBlock]))
theorem Own.rd (h : Own w e v xs) : Rd w v xs := by
  rcases h.form with ⟨rfl, rfl⟩ | ⟨g, cap, rfl, hl, hm, hg, hc, hf⟩
  · exact .inl ⟨rfl, none, 0, rfl, fun _ => rfl⟩
  · by_cases h0 : xs.length = 0
    · have hx : xs = [] := List.eq_nil_of_length_eq_zero h0
      exact .inl ⟨hx, some ⟨g, 0, none⟩, cap, by rw [h0], fun e => by cases e⟩
    · exact .inr ⟨g, 0, cap, rfl, by omega, hl, hm, hg, fun i hi => by rw [Nat.zero_add]; exact hc i hi⟩
theorem Rd.len (h : Rd w v xs) : ∃ A cap, v = .slice A xs.length cap := by
  rcases h with ⟨rfl, A, cap, rfl, _⟩ | ⟨b, off, cap, rfl, _⟩
  · exact ⟨A, cap, rfl⟩
  · exact ⟨_, _, rfl⟩
theorem Rd.lt (h : Rd w v xs) (h0 : 0 < xs.length) : ∀ i, InBlk v i → i < w.heap.size := by
  rcases h with ⟨rfl, _⟩ | ⟨b, off, cap, rfl, _, _, _, hb, _⟩
  · simp at h0
  · intro i hi; simp [InBlk, Value.ownBlock] at hi; omega
end
theorem oneCell_all {k : IntKind} (zs : List Int) : ∀ u ∈ zs.map (Value.int k), u.oneCell' = true := ints_oneCell k zs
theorem run_append_rd {P : Program} (w : World) (t ty e : TypeId) (i : TypeInfo) (z : Value) (ht : P.underlying t = some (.slice e)) (hi : P.info? e = some i) (hz : i.zero = some z)
    (hsz : i.size = 1) (hby : i.bytes ≤ 64) (hz1 : z.cells.size = 1) (s v : Value) (ys xs : List Value) (hs : Own w e s ys) (hv : Rd w v xs) (h1 : ∀ u ∈ xs, u.oneCell' = true) (hb : ys.length + xs.length ≤ 1073741824) :
    ∃ v' w', (Builtin.append_ #[t, t] ty #[s, v]).run P w = .ok v' w' ∧ Own w' e v' (ys ++ xs) ∧ w.grownBy w' s.ownBlock ∧ (∀ k, InBlk v' k → InBlk s k ∨ w.heap.size ≤ k) := by
  have hlen : (ys ++ xs).length = (ys ++ xs).length * 1 := by omega
  have hl2 : (ys ++ xs).length = ys.length + xs.length := by simp
  rcases hv with ⟨rfl, A, cap, rfl, hA⟩ | ⟨b, off, cap, rfl, h0, hl, hm, hbb, hc⟩
  · refine ⟨s, w, ?_, by simpa using hs, World.grownBy.refl _ _, fun k hk => .inl hk⟩
    rcases hs.2 with ⟨rfl, _⟩ | ⟨g, cp, cur, rfl, _, hg, hlc, _⟩
    · cases A with
      | none => simp [Builtin.append_, run_underlying ht, sizeOf, typeInfo, hi, Builtin.lenOf, Builtin.firstCells]
      | some a => simp [Builtin.append_, run_underlying ht, sizeOf, typeInfo, hi, Builtin.lenOf, Builtin.firstCells, loadCells, loadCellsFrom]
    · cases A with
      | none => simp [Builtin.append_, run_underlying ht, sizeOf, typeInfo, hi, Builtin.lenOf, Builtin.firstCells, hlc, storeCells]
      | some a => simp [Builtin.append_, run_underlying ht, sizeOf, typeInfo, hi, Builtin.lenOf, Builtin.firstCells, hlc, storeCells, loadCells, loadCellsFrom]
  have hnews : ∀ j u, xs[j]? = some u → w.cell? ((⟨b, off, none⟩ : Addr).add j) = some u := fun j u hj => by
    have hjl : j < xs.length := (List.getElem?_eq_some_iff.1 hj).1
    rw [Addr.add_lit, hc j hjl, hj]
  have hxl : xs.length = xs.length * i.size := by rw [hsz]; omega
  have hfit : (ys.length + xs.length) * i.bytes ≤ 140737488355328 := by
    have : (ys.length + xs.length) * i.bytes ≤ (ys.length + xs.length) * 64 := Nat.mul_le_mul_left _ hby
    omega
  have grown : ∀ (old : Nat) (row : Option Nat), old < ys.length + xs.length →
      Own (w.drew.alloc (.cells (ys.toArray ++ xs.toArray ++ Builtin.zeroCells z.cells (grownCap w (ys.length + xs.length) old e - (ys.length + xs.length))) e)) e
        (.slice (some ⟨w.heap.size, 0, none⟩) (ys.length + xs.length) (grownCap w (ys.length + xs.length) old e)) (ys ++ xs) ∧
      w.grownBy (w.drew.alloc (.cells (ys.toArray ++ xs.toArray ++ Builtin.zeroCells z.cells (grownCap w (ys.length + xs.length) old e - (ys.length + xs.length))) e)) row := by
    intro old row ho
    have hge := grownCap_ge w (ys.length + xs.length) old e
    have hcm : grownCap w (ys.length + xs.length) old e ≤ maxLen := grownCap_le_maxLen w (ys.length + xs.length) old e (by simp only [maxLen]; omega)
    refine ⟨⟨hlen, .inr ⟨w.heap.size, _, _, by rw [hl2], Nat.zero_le _, heap_alloc_new w.drew _, by rw [hl2]; exact hge, hcm, ?_, ?_⟩⟩, ⟨rfl, rfl, rfl, by simp, fun k hk _ => heap_alloc_old w.drew _ hk⟩⟩
    · simp only [Array.size_append, List.size_toArray, size_zeroCells, hz1]
      omega
    · rw [Nat.mul_one]
      simp only [Array.toList_append]
      exact List.take_left
  rcases hs.2 with ⟨rfl, hy0⟩ | ⟨g, cp, cur, rfl, _, hg, hlc, hcm, hcs, htk⟩
  · have hy : ys = [] := List.eq_nil_of_length_eq_zero hy0
    subst hy
    have hr := run_append_nil (P := P) w t ty e i z ht hi hz ⟨b, off, none⟩ xs.length cap xs hxl hnews h0 (by omega) (by simp only [List.length_nil, Nat.zero_add] at hfit; omega)
    have hgr := grown 0 (Value.ownBlock (.slice none 0 0)) (by simp; omega)
    simp only [List.length_nil, Nat.zero_add, List.nil_append, Array.empty_append] at hgr ⊢
    exact ⟨_, _, hr, hgr.1, hgr.2, fun k hk => .inr (by simp [InBlk, Value.ownBlock] at hk; omega)⟩
  · have hcs' : cur.size = cp := by rw [hcs]; omega
    by_cases hroom : ys.length + xs.length ≤ cp
    · have hr := run_append_room (P := P) w t ty e i ht hi g ys.length cp cur hg ⟨b, off, none⟩ xs.length cap xs hxl hnews h1 hroom (by rw [hsz]; omega)
      refine ⟨_, _, hr, ⟨hlen, .inr ⟨g, cp, _, by rw [hl2], Nat.zero_le _, setRow_heap w g cur _ e _ hg, by rw [hl2]; exact hroom, hcm, ?_, ?_⟩⟩,
        ⟨rfl, rfl, rfl, by simp, fun k _ hk => setRow_other w g k _ (fun e => hk (by simp [Value.ownBlock, e]))⟩, fun k hk => .inl (by simpa [InBlk, Value.ownBlock] using hk)⟩
      · simp [hsz]; omega
      · rw [Nat.mul_one] at htk
        rw [Nat.mul_one, hl2, hsz, Nat.mul_one, htk, ← hl2]
        exact List.take_left
    · have holds : ∀ j u, ys[j]? = some u → w.cell? ((⟨g, 0, none⟩ : Addr).add j) = some u := World.ownsRow.cells hs (g := g) rfl
      have hr := run_append_grow (P := P) w t ty e i z ht hi hz ⟨g, 0, none⟩ ys.length cp ys (by rw [hsz]; omega) holds ⟨b, off, none⟩ xs.length cap xs hxl hnews (by omega) (by omega) (growslice_fits (by omega) hfit)
      have hgr := grown cp (Value.ownBlock (.slice (some ⟨g, 0, none⟩) ys.length cp)) (by omega)
      exact ⟨_, _, hr, hgr.1, hgr.2, fun k hk => .inr (by simp [InBlk, Value.ownBlock] at hk; omega)⟩
end Go.Proofs.YtficfpidodbdcaaDoor
