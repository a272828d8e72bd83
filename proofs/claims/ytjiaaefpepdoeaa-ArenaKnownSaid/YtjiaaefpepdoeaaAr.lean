/-
  CONTRACTS of the arena's small methods: what each answers, what it leaves in memory. Conditions: the arena is one (Ar); numbers are of Go's int.
-/
import Derived.Test.YtjiaaefpepdoeaaFr
import Derived.Test.YtjiaaefpepdoeaaCls
import Derived.Outline
namespace Go.Proofs.Ytjiaaefpepdoeaa
open Go.RowKit Md
set_option linter.unusedVariables false

/-- An arena: a pointer to block p; its words ws in a row of the program's own (v), its size. -/
structure Ar (T : TypeId) (w : World) (p : Nat) (v : Value) (ws : List Int) (size : Int) : Prop where
  blk : w.heap[p]? = some (.cells #[v, .int .i64 size] T (0, 0))
  own : Own w 29 v (uw ws)
  le : (ws.length : Int) ≤ size
  mx : size ≤ 1048576
  ok : okWs ws
  ty : T ≠ 29
section
variable {T : TypeId} {w w1 : World} {p : Nat} {v : Value} {ws : List Int} {size : Int} {S : Nat → Prop}
theorem Ar.lt (h : Ar T w p v ws size) : p < w.heap.size := (Array.getElem?_eq_some_iff.1 h.blk).1
theorem Ar.c0 (h : Ar T w p v ws size) : w.cell? ⟨p, 0, none⟩ = some v := by simp [World.cell?, h.blk]
theorem Ar.c1 (h : Ar T w p v ws size) : w.cell? ⟨p, 1, none⟩ = some (.int .i64 size) := by simp [World.cell?, h.blk]
theorem Ar.fz (h : Ar T w p v ws size) (i : Nat) : w.frozen? ⟨p, i, none⟩ = false := by simp [World.frozen?, h.blk]
theorem Ar.ne (h : Ar T w p v ws size) : ∀ i, InBlk v i → i ≠ p := by
  intro i hi e
  obtain ⟨cur, hc⟩ := h.own.elem i hi
  rw [e, h.blk] at hc
  simp at hc
  exact h.ty hc.2
theorem Ar.keep (h : Ar T w p v ws size) (hf : Fr w w1 S) (hp : ¬ S p) (hn : ∀ i, InBlk v i → ¬ S i) : Ar T w1 p v ws size :=
  ⟨hf.blk h.blk hp, h.own.keep hf hn, h.le, h.mx, h.ok, h.ty⟩
theorem Ar.form (h : Ar T w p v ws size) : (v = .slice none 0 0 ∧ ws = []) ∨ ∃ g cap, v = .slice (some ⟨g, 0, none⟩) ws.length cap ∧ ws.length ≤ cap ∧ cap ≤ maxLen ∧ g < w.heap.size ∧ g ≠ p ∧ (∀ i, i < ws.length → w.cell? ⟨g, i, none⟩ = some (.int .u64 (ws.getD i 0))) ∧ ∀ i, w.frozen? ⟨g, i, none⟩ = false := by
  rcases h.own.form with ⟨hv, hx⟩ | ⟨g, cap, hv, hl, hm, hg, hc, hf⟩
  · refine .inl ⟨hv, ?_⟩
    have : (uw ws).length = 0 := by rw [hx]; rfl
    rw [uw_length] at this
    exact List.eq_nil_of_length_eq_zero this
  · rw [uw_length] at hv hl hc
    refine .inr ⟨g, cap, hv, hl, hm, hg, h.ne g (by rw [hv]; simp [InBlk, Value.ownBlock]), fun i hi => ?_, hf⟩
    rw [hc i hi]
    simp [uw, List.getD, hi]
/-- the row's value is a slice of as many elements -/
theorem Ar.val (h : Ar T w p v ws size) : ∃ A cap, v = .slice A ws.length cap := by
  rcases h.form with ⟨rfl, rfl⟩ | ⟨g, cap, rfl, _⟩
  · exact ⟨none, 0, rfl⟩
  · exact ⟨_, _, rfl⟩
end

/-! ### in -/
theorem in_c (p : Nat) (v : Value) (ws : List Int) (size i : Int) (w : World) (b : Bool) (h : Ar 101 w p v ws size) (hb : decide (0 ≤ i ∧ i < ws.length) = b) :
    Calls Try.prog 60 #[.pointer (some ⟨p, 0, none⟩), .int .i64 i] w fun e w' => e = .returned (.bool b) ∧ w = w' := by
  obtain ⟨A, cap, rfl⟩ := h.val
  have c0 := h.c0
  by_cases h0 : i < 0
  · have e : b = false := by rw [← hb]; simp; omega
    subst e
    clear hb h
    go_enter Try.func60, Try.ntmps60
    go_wp2
    go_ret
    exact ⟨rfl, rfl⟩
  by_cases h1 : i < ws.length
  · have e : b = true := by rw [← hb]; simp; omega
    subst e
    clear hb h
    have h0' : 0 ≤ i := by omega
    have d1 : decide (i < (ws.length : Int)) = true := by simpa using h1
    go_enter Try.func60, Try.ntmps60
    go_wp2
    go_ret
    exact ⟨by first | rfl | simp [h1], rfl⟩
  · have e : b = false := by rw [← hb]; simp; omega
    subst e
    clear hb h
    have h0' : 0 ≤ i := by omega
    have d1 : decide (i < (ws.length : Int)) = false := by simpa using h1
    go_enter Try.func60, Try.ntmps60
    go_wp2
    go_ret
    exact ⟨by first | rfl | simp [h1], rfl⟩

/-! ### Get -/
theorem rdAt_some {xs : List Int} {i r : Int} (h : rdAt xs i = some r) : ∃ k : Nat, i = k ∧ k < xs.length ∧ xs.getD k 0 = r := by
  unfold rdAt at h
  split at h
  · rename_i hc
    obtain ⟨k, rfl⟩ := Int.eq_ofNat_of_zero_le hc.1
    exact ⟨k, rfl, by omega, by simpa using h⟩
  · cases h
theorem rdAt_none {xs : List Int} {i : Int} (h : rdAt xs i = none) : ¬ (0 ≤ i ∧ i < xs.length) := by
  unfold rdAt at h
  split at h
  · cases h
  · assumption
theorem rdAt_of {xs : List Int} {k : Nat} (h : k < xs.length) : rdAt xs k = some (xs.getD k 0) := by
  unfold rdAt; rw [if_pos ⟨by omega, by omega⟩]; simp
theorem get_c (p : Nat) (v : Value) (ws : List Int) (size i r : Int) (w : World) (h : Ar 101 w p v ws size) (hr : rdAt ws i = some r) :
    Calls Try.prog 23 #[.pointer (some ⟨p, 0, none⟩), .int .i64 i] w fun e w' => e = .returned (.tuple #[.int .u64 r, .bool true]) ∧ w = w' := by
  obtain ⟨k, rfl, hk, hkr⟩ := rdAt_some hr
  rcases h.form with ⟨_, rfl⟩ | ⟨g, cap, rfl, hl, hm, hg, hgp, hc, hf⟩
  · simp at hk
  have c0 := h.c0
  have ck := hc k hk
  rw [hkr] at ck
  have H := Lib.hid h
  clear h hc hf hkr hr hgp hg hm
  go_enter Try.func23, Try.ntmps23
  go_wp2_with (first | (go_at_call 60; (with_reducible refine (in_c p _ ws size k _ true H.out (by simp; omega)).mono ?_); rintro e w' ⟨rfl, rfl⟩))
  go_ret2
  exact ⟨rfl, rfl⟩
theorem get_no (p : Nat) (v : Value) (ws : List Int) (size i : Int) (w : World) (h : Ar 101 w p v ws size) (hr : rdAt ws i = none) :
    Calls Try.prog 23 #[.pointer (some ⟨p, 0, none⟩), .int .i64 i] w fun e w' => e = .returned (.tuple #[.int .u64 0, .bool false]) ∧ w = w' := by
  have hn := rdAt_none hr
  have H := Lib.hid h
  have HN := Lib.hid hn
  clear h hr hn
  go_enter Try.func23, Try.ntmps23
  go_wp2_with (first | (go_at_call 60; (with_reducible refine (in_c p _ ws size i _ false H.out (by simpa using HN.out)).mono ?_); rintro e w' ⟨rfl, rfl⟩))
  go_ret2
  exact ⟨rfl, rfl⟩
/-! ### Used, Size -/
theorem used_c (p : Nat) (v : Value) (ws : List Int) (size : Int) (w : World) (h : Ar 101 w p v ws size) :
    Calls Try.prog 27 #[.pointer (some ⟨p, 0, none⟩)] w fun e w' => e = .returned (.int .i64 ws.length) ∧ w = w' := by
  obtain ⟨A, cap, rfl⟩ := h.val
  have c0 := h.c0
  clear h
  go_enter Try.func27, Try.ntmps27
  go_wp2
  go_ret
  exact ⟨rfl, rfl⟩
theorem size_c (p : Nat) (v : Value) (ws : List Int) (size : Int) (w : World) (h : Ar 101 w p v ws size) :
    Calls Try.prog 28 #[.pointer (some ⟨p, 0, none⟩)] w fun e w' => e = .returned (.int .i64 size) ∧ w = w' := by
  have c1 := h.c1
  clear h
  go_enter Try.func28, Try.ntmps28
  go_wp2
  go_ret
  exact ⟨rfl, rfl⟩
/-! ### Set -/
theorem okWs_set {ws : List Int} {k : Nat} {x : Int} (h : okWs ws) (hx : okW x) : okWs (ws.set k x) := by
  intro y hy
  rcases List.mem_or_eq_of_mem_set hy with h1 | h1
  · exact h y h1
  · rw [h1]; exact hx
/-- one word of a row is changed -/
theorem Ar.set {T : TypeId} {w : World} {p g cap : Nat} {ws : List Int} {size x : Int} {k : Nat} (h : Ar T w p (.slice (some ⟨g, 0, none⟩) ws.length cap) ws size) (hk : k < ws.length) (hx : okW x) :
    Ar T (w.setCell ⟨g, k, none⟩ (.int .u64 x)) p (.slice (some ⟨g, 0, none⟩) ws.length cap) (ws.set k x) size ∧ Fr w (w.setCell ⟨g, k, none⟩ (.int .u64 x)) (fun i => i = g) := by
  have hgp : g ≠ p := h.ne g (by simp [InBlk, Value.ownBlock])
  have hfr : Fr w (w.setCell ⟨g, k, none⟩ (.int .u64 x)) (fun i => i = g) := Fr.setCell (S := fun i => i = g) (a := ⟨g, k, none⟩) (Fr.refl w _) (fun _ => rfl) _
  refine ⟨⟨hfr.blk h.blk (fun e => hgp e.symm), ?_, by simpa using h.le, h.mx, okWs_set h.ok hx, h.ty⟩, hfr⟩
  have ho := h.own
  rcases ho.2 with ⟨hv, _⟩ | ⟨g', cap', cur, hv, hb, hg, hl, hm, hs, ht⟩
  · cases hv
  · injection hv with h1 h2 h3
    injection h1 with h1
    injection h1 with h1
    subst h1
    subst h3
    refine ⟨by simp [uw], .inr ⟨g, cap, cur.setIfInBounds k (.int .u64 x), by simp [uw], Nat.zero_le _, ?_, by simpa [uw] using hl, hm, by simpa using hs, ?_⟩⟩
    · simp [World.setCell, Array.getElem?_modify, hg]
    · have e1 : (uw (ws.set k x)).length = (uw ws).length := by simp [uw]
      rw [e1]
      rw [Array.toList_setIfInBounds, List.take_set, ht]
      simp [uw, List.map_set]
theorem set_c (p : Nat) (v : Value) (ws : List Int) (size i x : Int) (w : World) (h : Ar 101 w p v ws size) (hx : okW x) (hi : 0 ≤ i ∧ i < ws.length) :
    Calls Try.prog 21 #[.pointer (some ⟨p, 0, none⟩), .int .i64 i, .int .u64 x] w fun e w' => e = .returned (.bool true) ∧ Ar 101 w' p v (wrAt ws i x) size ∧ Fr w w' (InBlk v) := by
  obtain ⟨k, rfl⟩ := Int.eq_ofNat_of_zero_le hi.1
  have hk : k < ws.length := by omega
  have e0 : wrAt ws k x = ws.set k x := by unfold wrAt; rw [if_pos hi]; simp
  rw [e0]
  rcases h.form with ⟨_, rfl⟩ | ⟨g, cap, rfl, hl, hm, hg, hgp, hc, hf⟩
  · simp at hk
  have hs := h.set hk hx
  have c0 := h.c0
  have fk := hf k
  have ck := hc k hk
  have H := Lib.hid h
  have HS := Lib.hid hs
  clear h hc hf hgp hg hm hs hi e0 hx
  go_enter Try.func21, Try.ntmps21
  go_wp2_with (first | (go_at_call 60; (with_reducible refine (in_c p _ ws size k _ true H.out (by simp; omega)).mono ?_); rintro e w' ⟨rfl, rfl⟩))
  go_ret
  exact ⟨rfl, HS.out.1, HS.out.2.mono fun i hi _ => by simp [InBlk, Value.ownBlock, hi]⟩
theorem set_no (p : Nat) (v : Value) (ws : List Int) (size i x : Int) (w : World) (h : Ar 101 w p v ws size) (hi : ¬ (0 ≤ i ∧ i < ws.length)) :
    Calls Try.prog 21 #[.pointer (some ⟨p, 0, none⟩), .int .i64 i, .int .u64 x] w fun e w' => e = .returned (.bool false) ∧ w = w' := by
  have H := Lib.hid h
  have HN := Lib.hid hi
  clear h hi
  go_enter Try.func21, Try.ntmps21
  go_wp2_with (first | (go_at_call 60; (with_reducible refine (in_c p _ ws size i _ false H.out (by simpa using HN.out)).mono ?_); rintro e w' ⟨rfl, rfl⟩))
  go_ret
  exact ⟨rfl, rfl⟩
/-! ### New -/
def newSize (n : Int) : Int := if n < 0 ∨ n > 1048576 then 0 else n
theorem new_c (n : Int) (w : World) : Calls Try.prog 17 #[.int .i64 n] w fun e w' => e = .returned (.pointer (some ⟨w.heap.size, 0, none⟩)) ∧ Ar 101 w' w.heap.size (.slice none 0 0) [] (newSize n) ∧ Fr w w' (fun _ => False) := by
  have key : ∀ m : Int, 0 ≤ m → m ≤ 1048576 → Ar 101 (w.alloc (.cells #[.slice none 0 0, .int .i64 m] 101)) w.heap.size (.slice none 0 0) [] m ∧ Fr w (w.alloc (.cells #[.slice none 0 0, .int .i64 m] 101)) (fun _ => False) := fun m h0 h1 =>
    ⟨⟨heap_alloc_new w _, Own.nil _ _, by simpa using h0, h1, (fun _ h => by cases h), by decide⟩, (Fr.refl w _).alloc _⟩
  by_cases h0 : n < 0
  · have K := Lib.hid (key 0 (by omega) (by omega))
    have e : newSize n = 0 := by unfold newSize; rw [if_pos (.inl h0)]
    rw [e]; clear e key
    go_enter Try.func17, Try.ntmps17
    go_wp2
    go_ret
    exact ⟨rfl, K.out⟩
  by_cases h1 : n > 1048576
  · have K := Lib.hid (key 0 (by omega) (by omega))
    have e : newSize n = 0 := by unfold newSize; rw [if_pos (.inr h1)]
    rw [e]; clear e key
    go_enter Try.func17, Try.ntmps17
    go_wp2
    go_ret
    exact ⟨rfl, K.out⟩
  · have K := Lib.hid (key n (by omega) (by omega))
    have e : newSize n = n := by unfold newSize; rw [if_neg (by omega)]
    rw [e]; clear e key
    have d1 : decide (1048576 < n) = false := by simp; omega
    go_enter Try.func17, Try.ntmps17
    go_wp2
    go_ret
    exact ⟨rfl, K.out⟩
end Go.Proofs.Ytjiaaefpepdoeaa
