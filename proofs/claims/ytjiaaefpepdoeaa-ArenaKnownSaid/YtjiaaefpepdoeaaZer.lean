/-
  LAW OF NO FUNCTION: 'append(s, make([]T, n)...)' onto a row of the program's own (one cell an element): what is owned behind it. Conditions: fewer than 2^30 elements of 8 bytes.
-/
import Derived.Test.YtjiaaefpepdoeaaFr
import Derived.Lib.AppendZerosOnto
namespace Go.Proofs.Ytjiaaefpepdoeaa
open Go.RowKit
set_option linter.unusedVariables false

theorem zeroCells_one (z : Value) (n : Nat) : (Builtin.zeroCells #[z] n).toList = List.replicate n z := by
  simp only [Builtin.zeroCells]
  apply List.ext_getElem
  · simp
  · intro i h1 h2
    simp [Nat.mod_one]
theorem run_append_zeros {P : Program} (w : World) (t tn ty e : TypeId) (i : TypeInfo) (z : Value) (kn kq : IntKind) (ht : P.underlying t = some (.slice e)) (htn : P.underlying tn = some (.int kn)) (hi : P.info? e = some i) (hz : i.zero = some z)
    (hsz : i.size = 1) (hby : i.bytes ≤ 8) (hz1 : z.cells = #[z]) (hone : z.oneCell' = true) (v : Value) (xs : List Value) (hown : Own w e v xs) (n : Nat) (hb : xs.length + n ≤ 1073741824) :
    ∃ v' w', (Builtin.append_ #[t, tn] ty #[v, .int kq n]).run P w = .ok v' w' ∧ Own w' e v' (xs ++ List.replicate n z) ∧ w.grownBy w' v.ownBlock ∧ ∀ k, InBlk v' k → InBlk v k ∨ w.heap.size ≤ k := by
  have hlen : (xs ++ List.replicate n z).length = (xs ++ List.replicate n z).length * 1 := by omega
  have hl2 : (xs ++ List.replicate n z).length = xs.length + n := by simp
  have hw : IntKind.i64.wrap (n : Int) = n := by rw [IntKind.wrap_i64]; omega
  have hneg : ¬ ((n : Int) < 0) := by omega
  have h48i : ¬ (281474976710656 < (n : Int) * (i.bytes : Int)) := by
    rw [← Int.natCast_mul]
    have : n * i.bytes ≤ n * 8 := Nat.mul_le_mul_left n hby
    omega
  by_cases hn : n = 0
  · subst hn
    refine ⟨v, w, ?_, by simpa using hown, World.grownBy.refl _ _, fun k hk => .inl hk⟩
    rcases hown.2 with ⟨rfl, _⟩ | ⟨g, cap, cur, rfl, _, hg, hl, _⟩
    · simp [Builtin.append_, run_underlying ht, run_underlying htn, sizeOf, typeInfo, hi, asInt, asIntOf, IntKind.wrap_i64]
    · have hst := run_storeCells_at P g (xs.length * i.size) e [] 0 cur w hg (by simp [hsz]; omega) (by simp)
      simp [Builtin.append_, run_underlying ht, run_underlying htn, sizeOf, typeInfo, hi, asInt, asIntOf, IntKind.wrap_i64, hl, Addr.add_lit, storeCells]
  have hpos : 0 < n := by omega
  have hns : ¬ (n * i.size = 0) := by rw [hsz]; omega
  have hk48 : n * i.bytes ≤ 281474976710656 := by
    have : n * i.bytes ≤ n * 8 := Nat.mul_le_mul_left n hby
    omega
  have grown : ∀ (old : Nat) (row : Option Nat), old < xs.length + n →
      Own (w.drew.alloc (.cells (xs.toArray ++ Builtin.zeroCells z.cells n ++ Builtin.zeroCells z.cells (grownCap w (xs.length + n) old e - (xs.length + n))) e)) e
        (.slice (some ⟨w.heap.size, 0, none⟩) (xs.length + n) (grownCap w (xs.length + n) old e)) (xs ++ List.replicate n z) ∧
      w.grownBy (w.drew.alloc (.cells (xs.toArray ++ Builtin.zeroCells z.cells n ++ Builtin.zeroCells z.cells (grownCap w (xs.length + n) old e - (xs.length + n))) e)) row := by
    intro old row ho
    have hge := grownCap_ge w (xs.length + n) old e
    have hcm : grownCap w (xs.length + n) old e ≤ maxLen := grownCap_le_maxLen w (xs.length + n) old e (by simp only [maxLen]; omega)
    refine ⟨⟨hlen, .inr ⟨w.heap.size, _, _, by rw [hl2], Nat.zero_le _, heap_alloc_new w.drew _, by rw [hl2]; exact hge, hcm, ?_, ?_⟩⟩, ⟨rfl, rfl, rfl, by simp, fun k hk _ => heap_alloc_old w.drew _ hk⟩⟩
    · simp only [Array.size_append, List.size_toArray, size_zeroCells, hz1]
      simp
      omega
    · rw [hz1, Nat.mul_one]
      simp only [Array.toList_append, zeroCells_one]
      exact List.take_left
  rcases hown.2 with ⟨rfl, h0⟩ | ⟨g, cap, cur, rfl, hb0, hg, hnc, hcm, hcs, htake⟩
  · have hx : xs = [] := List.eq_nil_of_length_eq_zero h0
    subst hx
    have hr := Lib.run_append_nil_zeros (P := P) w t tn ty e i z kq kn ht htn hi hz n hpos (by omega) (by omega) hk48
    have hgr := grown 0 (Value.ownBlock (.slice none 0 0)) (by simp; omega)
    simp only [List.length_nil, Nat.zero_add, List.nil_append, Array.empty_append] at hgr ⊢
    exact ⟨_, _, hr, hgr.1, hgr.2, fun k hk => .inr (by simp [InBlk, Value.ownBlock] at hk; omega)⟩
  · by_cases hroom : xs.length + n ≤ cap
    · have hst := run_storeCells_at P g (xs.length * i.size) e (List.replicate n z) 0 cur w hg (by simp [hsz]; omega) (by simp [hone])
      simp only [hsz, Nat.mul_one, Nat.add_zero, List.length_replicate] at hst htake hcs
      have hlt : (cur.toList.take xs.length).length = xs.length := by simp; omega
      have hown2 : Own (w.setRow g (cur.toList.take xs.length ++ List.replicate n z ++ cur.toList.drop (xs.length + n)).toArray) e (.slice (some ⟨g, 0, none⟩) (xs.length + n) cap) (xs ++ List.replicate n z) := by
        refine ⟨hlen, .inr ⟨g, cap, _, by rw [hl2], Nat.zero_le _, setRow_heap w g cur _ e _ hg, by rw [hl2]; exact hroom, hcm, ?_, ?_⟩⟩
        · simp; omega
        · rw [Nat.mul_one, hl2, htake]
          have h3 : (xs ++ List.replicate n z).length = xs.length + n := hl2
          rw [← h3]
          exact List.take_left
      refine ⟨.slice (some ⟨g, 0, none⟩) (xs.length + n) cap, w.setRow g (cur.toList.take xs.length ++ List.replicate n z ++ cur.toList.drop (xs.length + n)).toArray, ?_, hown2,
        ⟨rfl, rfl, rfl, by simp, fun k _ hk => setRow_other w g k _ (fun e => hk (by simp [Value.ownBlock, e]))⟩, fun k hk => .inl (by simpa [InBlk, Value.ownBlock] using hk)⟩
      have hz2 : (Builtin.zeroCells #[z] n).toList = List.replicate n z := zeroCells_one z n
      simp [Builtin.append_, run_underlying ht, run_underlying htn, sizeOf, typeInfo, zeroValue, hi, hz, hsz, asInt, asIntOf, hw, hn, hneg, h48i, hroom, Addr.add_lit, hz1, hz2, hst]
    · have holds : ∀ j u, xs[j]? = some u → w.cell? ((⟨g, 0, none⟩ : Addr).add j) = some u := World.ownsRow.cells hown (g := g) rfl
      have hf := run_firstCells_some (P := P) w.drew i.size xs.length ⟨g, 0, none⟩ xs.length cap xs (by rw [hsz]; omega) (fun j u hj => holds j u hj)
      have hr := Lib.run_append_grow_zeros (P := P) w t tn ty e i z kq kn ht htn hi hz (some ⟨g, 0, none⟩) xs.length cap xs hf n hpos (by omega) (by omega) (by omega) hk48 (growslice_fits (by omega) (by
        have : (xs.length + n) * i.bytes ≤ (xs.length + n) * 8 := Nat.mul_le_mul_left _ hby
        omega))
      have hgr := grown cap (Value.ownBlock (.slice (some ⟨g, 0, none⟩) xs.length cap)) (by omega)
      exact ⟨_, _, hr, hgr.1, hgr.2, fun k hk => .inr (by simp [InBlk, Value.ownBlock] at hk; omega)⟩
end Go.Proofs.Ytjiaaefpepdoeaa
