/-
  TEXTS JOINED FOR A CLAIM (ThreadPlays): Bits Fr Cls Ar Zer Ar2 Mem Rd Cpy Fill Aw8 Two Uni. What each proves, and under which conditions, stands at its head. Conditions: none beyond those.
-/
import Derived.Laws.BitsLemmas
import Derived.Laws.Bits64
import Derived.RowKit
import Derived.Test.YtjiaaefpepdoeaaZ0ThreadPlays
import Derived.Test.YtjiaaefpepdoeaaRows
import Derived.WalkKit
import Derived.Lib.Hide
import Derived.WalkSpells
import Derived.Deep.Draws
import Derived.Deep.QuietTactic
import Derived.BigQuiet
import Derived.Outline
import Derived.Lib.AppendZerosOnto
import Derived.Deep.AppendSrc
import Derived.LoopTactic
/-
  PLAIN LAW: the bit operations and wraps that words and headers need, as sums, quotients and remainders. Conditions: the ranges named in each.
-/
namespace Go.Proofs.Ytjiaaefpepdoeaa.Md
open Go Go.RowKit
set_option linter.unusedVariables false

theorem wraps_u64 (n : Int) (h₀ : 0 ≤ n) (h₁ : n < 2 ^ 64) : IntKind.u64.wrap n = n := by rw [IntKind.wrap_u64]; omega
theorem wraps_i64 (n : Int) (h₀ : 0 ≤ n) (h₁ : n < 2 ^ 63) : IntKind.i64.wrap n = n := by rw [IntKind.wrap_i64]; omega
theorem u64_and15 {x : Int} (h : okW x) : bits .and .u64 x 15 = x % 16 := bits_mask .u64 64 (by decide) wraps_u64 4 (by decide) x h.1 (by have := h.2; omega)
theorem i64_and {x : Int} (i : Nat) (hi : i ≤ 63) (h0 : 0 ≤ x) (h1 : x < 2 ^ 63) : bits .and .i64 x (2 ^ i - 1) = x % 2 ^ i := bits_mask .i64 63 (by decide) wraps_i64 i hi x h0 h1
theorem i64_and1 {x : Int} (h0 : 0 ≤ x) (h1 : x < 2 ^ 63) : bits .and .i64 x 1 = x % 2 := i64_and 1 (by decide) h0 h1
theorem i64_and3 {x : Int} (h0 : 0 ≤ x) (h1 : x < 2 ^ 63) : bits .and .i64 x 3 = x % 4 := i64_and 2 (by decide) h0 h1
theorem i64_and1048575 {x : Int} (h0 : 0 ≤ x) (h1 : x < 2 ^ 63) : bits .and .i64 x 1048575 = x % 1048576 := i64_and 20 (by decide) h0 h1
/-- the one bit of worth 2^i -/
theorem i64_bit {x : Int} (h0 : 0 ≤ x) (h1 : x < 2 ^ 63) : bits .and .i64 x 4 = (x / 4 % 2) * 4 := by
  obtain ⟨a, rfl⟩ := Int.eq_ofNat_of_zero_le h0
  have ha : a < 2 ^ 63 := by exact_mod_cast h1
  have e := (bits_nat .i64 63 (by decide) wraps_i64 a 4 ha (by decide)).1
  have e2 : a &&& 4 = (a / 4 % 2) * 4 := by
    have h7 : a &&& 7 = a % 8 := Nat.and_two_pow_sub_one_eq_mod a 3
    have h4 : a &&& 4 = (a % 8) &&& 4 := by rw [← h7, Nat.and_assoc]; rfl
    have h8 : a / 4 % 2 = (a % 8) / 4 % 2 := by omega
    rw [h4, h8]
    have hlt : a % 8 < 8 := Nat.mod_lt _ (by decide)
    generalize a % 8 = m at hlt
    match m, hlt with
    | 0, _ => rfl
    | 1, _ => rfl
    | 2, _ => rfl
    | 3, _ => rfl
    | 4, _ => rfl
    | 5, _ => rfl
    | 6, _ => rfl
    | 7, _ => rfl
    | n + 8, h => omega
  have e3 : ((4 : Nat) : Int) = 4 := rfl
  rw [e3] at e
  rw [e, e2]
  omega
theorem i64_or {x y : Int} (i : Nat) (hx₀ : 0 ≤ x) (hx : x % 2 ^ i = 0) (hx₁ : x < 2 ^ 63) (hy₀ : 0 ≤ y) (hy : y < 2 ^ i) (hi : i ≤ 63) : bits .or .i64 x y = x + y :=
  bits_join .i64 63 (by decide) wraps_i64 i x y hx₀ hx hx₁ hy₀ hy (Int.lt_of_lt_of_le hy (by exact_mod_cast Nat.pow_le_pow_right (by decide : 0 < 2) hi))
theorem bits_or_comm (k : IntKind) (x y : Int) : bits .or k x y = bits .or k y x := by
  simp only [bits, BitVec.or_comm]
/-- a word: its value's sixteenfold and its tag -/
theorem of_bits {t n : Int} (h0 : 0 ≤ t) (h7 : t ≤ 7) (hf : fitsW n = true) :
    bits .or .u64 (IntKind.u64.wrap (IntKind.u64.wrap n * 16)) (IntKind.u64.wrap t) = ofW t n := by
  have e0 : ofW t n = n % 1152921504606846976 * 16 + t := by unfold ofW; exact if_pos ⟨h0, h7, hf⟩
  have e1 : IntKind.u64.wrap (IntKind.u64.wrap n * 16) = n % 1152921504606846976 * 16 := by
    rw [IntKind.wrap_u64, IntKind.wrap_u64]; omega
  have e2 : IntKind.u64.wrap t = t := wraps_u64 t h0 (by omega)
  rw [e0, e1, e2]
  exact bits_join .u64 64 (by decide) wraps_u64 4 _ t (by omega) (by omega) (by omega) h0 (by omega) (by omega)
theorem tag_bits {w : Int} (h : okW w) : wrap64 (bits .and .u64 w 15) = tagW w := by
  rw [u64_and15 h]; unfold wrap64 tagW; omega
theorem val_bits {w : Int} (h : okW w) : wrap64 w / 16 = valW w := by
  unfold wrap64 valW; unfold okW at h; split <;> omega
theorem fitsW_bits (n : Int) : (if n ≥ (-576460752303423488) then some (decide (n ≤ 576460752303423487)) else some false) = some (fitsW n) := by
  unfold fitsW
  by_cases h : n ≥ -576460752303423488
  · rw [if_pos h]; simp [show -576460752303423488 ≤ n from h]
  · rw [if_neg h]; simp [show ¬ (-576460752303423488 ≤ n) from h]
end Go.Proofs.Ytjiaaefpepdoeaa.Md

/-
  MEMORY: what a call leaves alone (all blocks but those of S, and what is new), an arena in memory, a row of words of the call's own. Conditions: none; definitions and small laws.
-/
namespace Go.Proofs.Ytjiaaefpepdoeaa
open Go.RowKit
set_option linter.unusedVariables false

/-- All blocks but those of S are as they were; what is new is new. -/
structure Fr (w w' : World) (S : Nat → Prop) : Prop where
  os : w'.os = w.os
  tape : w'.tape = w.tape
  output : w'.output = w.output
  size : w.heap.size ≤ w'.heap.size
  block : ∀ i, i < w.heap.size → ¬ S i → w'.heap[i]? = w.heap[i]?
section
variable {w w1 w2 : World} {S S1 S2 : Nat → Prop}
theorem Fr.refl (w : World) (S : Nat → Prop) : Fr w w S := ⟨rfl, rfl, rfl, Nat.le_refl _, fun _ _ _ => rfl⟩
theorem Fr.mono (h : Fr w w1 S) (k : ∀ i, S i → i < w.heap.size → S1 i) : Fr w w1 S1 := ⟨h.os, h.tape, h.output, h.size, fun i hi hn => h.block i hi fun hs => hn (k i hs hi)⟩
theorem Fr.trans (h : Fr w w1 S) (k : Fr w1 w2 S) : Fr w w2 S :=
  ⟨k.os.trans h.os, k.tape.trans h.tape, k.output.trans h.output, Nat.le_trans h.size k.size, fun i hi hn => (k.block i (Nat.lt_of_lt_of_le hi h.size) hn).trans (h.block i hi hn)⟩
theorem Fr.then_ (h : Fr w w1 S) (k : Fr w1 w2 S1) (hs : ∀ i, S1 i → i < w.heap.size → S i) : Fr w w2 S :=
  ⟨k.os.trans h.os, k.tape.trans h.tape, k.output.trans h.output, Nat.le_trans h.size k.size, fun i hi hn => (k.block i (Nat.lt_of_lt_of_le hi h.size) fun h1 => hn (hs i h1 hi)).trans (h.block i hi hn)⟩
theorem Fr.alloc (h : Fr w w1 S) (o : Obj) : Fr w (w1.alloc o) S :=
  ⟨h.os, h.tape, h.output, by simp; exact Nat.le_succ_of_le h.size, fun i hi hn => (heap_alloc_old w1 o (Nat.lt_of_lt_of_le hi h.size)).trans (h.block i hi hn)⟩
theorem Fr.drew (h : Fr w w1 S) : Fr w w1.drew S := ⟨h.os, h.tape, h.output, h.size, h.block⟩
theorem Fr.drewN (h : Fr w w1 S) (n : Nat) : Fr w (w1.drewN n) S := ⟨h.os, h.tape, h.output, h.size, h.block⟩
theorem Fr.setCell (h : Fr w w1 S) {a : Addr} (ha : a.block < w.heap.size → S a.block) (u : Value) : Fr w (w1.setCell a u) S :=
  ⟨h.os, h.tape, h.output, by simpa [World.setCell] using h.size, fun i hi hn => (Below.heap_setCell w1 a u i (fun e => hn (by subst e; exact ha hi))).trans (h.block i hi hn)⟩
theorem Fr.grown (h : Fr w w1 S) {row : Option Nat} (hg : w1.grownBy w2 row) (hr : ∀ k, row = some k → k < w.heap.size → S k) : Fr w w2 S :=
  ⟨hg.os.trans h.os, hg.tape.trans h.tape, hg.output.trans h.output, Nat.le_trans h.size hg.size, fun i hi hn => (hg.block i (Nat.lt_of_lt_of_le hi h.size) fun e => hn (hr i e.symm hi)).trans (h.block i hi hn)⟩
theorem Fr.of_below (h : Below w.heap.size w w1) (S : Nat → Prop) : Fr w w1 S := ⟨h.os, h.tape, h.output, h.size, fun i hi _ => h.block i hi⟩
theorem Fr.below (h : Fr w w1 fun _ => False) : Below w.heap.size w w1 := ⟨h.os, h.tape, h.output, h.size, fun i hi => h.block i hi fun h => h⟩
theorem Fr.to_below (h : Fr w w1 S) {B : Nat} (hB : ∀ i, S i → B ≤ i) (hw : B ≤ w.heap.size) : Below B w w1 :=
  ⟨h.os, h.tape, h.output, h.size, fun i hi => h.block i (Nat.lt_of_lt_of_le hi hw) fun hs => by have := hB i hs; omega⟩
theorem Fr.cell (h : Fr w w1 S) {a : Addr} {u : Value} (hc : w.cell? a = some u) (hn : ¬ S a.block) : w1.cell? a = some u :=
  (World.cell?_of_block (h.block a.block (World.block_lt_of_cell? w a hc) hn)).trans hc
theorem Fr.blk (h : Fr w w1 S) {g : Nat} {o : Obj} (hc : w.heap[g]? = some o) (hn : ¬ S g) : w1.heap[g]? = some o :=
  (h.block g (Array.getElem?_eq_some_iff.1 hc).1 hn).trans hc
end

/-! ### rows of words -/
def uw (ws : List Int) : List Value := ws.map (Value.int .u64)
theorem uw_length (ws : List Int) : (uw ws).length = ws.length := by simp [uw]
/-- A slice value that owns the words ws (type number e of the element). -/
def Own (w : World) (e : TypeId) (v : Value) (xs : List Value) : Prop := w.ownsRow 0 e 1 v xs.length xs
/-- the block of a slice value that owns something -/
def InBlk (v : Value) (i : Nat) : Prop := v.ownBlock = some i
section
variable {w w1 : World} {e : TypeId} {v : Value} {xs : List Value} {S : Nat → Prop}
theorem Own.nil (w : World) (e : TypeId) : Own w e (.slice none 0 0) [] := World.ownsRow_nil w 0 e 1
theorem Own.keep (h : Own w e v xs) (hf : Fr w w1 S) (hn : ∀ i, InBlk v i → ¬ S i) : Own w1 e v xs := by
  refine ⟨h.1, ?_⟩
  rcases h.2 with h0 | ⟨g, cap, cur, rfl, hb, hg, rest⟩
  · exact .inl h0
  · exact .inr ⟨g, cap, cur, rfl, hb, hf.blk hg (hn g (by simp [InBlk, Value.ownBlock])), rest⟩
theorem Own.form (h : Own w e v xs) : (v = .slice none 0 0 ∧ xs = []) ∨ ∃ g cap, v = .slice (some ⟨g, 0, none⟩) xs.length cap ∧ xs.length ≤ cap ∧ cap ≤ maxLen ∧ g < w.heap.size ∧ (∀ i, i < xs.length → w.cell? ⟨g, i, none⟩ = xs[i]?) ∧ ∀ i, w.frozen? ⟨g, i, none⟩ = false := by
  rcases h.2 with ⟨rfl, h0⟩ | ⟨g, cap, cur, rfl, hb, hg, hl, hm, hs, ht⟩
  · exact .inl ⟨rfl, List.eq_nil_of_length_eq_zero h0⟩
  · refine .inr ⟨g, cap, rfl, hl, hm, (Array.getElem?_eq_some_iff.1 hg).1, fun i hi => ?_, fun i => by simp [World.frozen?, hg]⟩
    rw [cell_of_row w g i cur e (0, 0) hg]
    rw [Nat.mul_one] at ht
    have h2 : xs[i]? = (cur.toList.take xs.length)[i]? := by rw [ht]
    rw [h2, List.getElem?_take, if_pos hi]
    simp
theorem Own.lt (h : Own w e v xs) : ∀ i, InBlk v i → i < w.heap.size := fun i hi => (World.ownsRow.lt h i hi).2
theorem Own.elem (h : Own w e v xs) : ∀ i, InBlk v i → ∃ cur, w.heap[i]? = some (.cells cur e (0, 0)) := by
  intro i hi
  rcases h.2 with ⟨rfl, _⟩ | ⟨g, cap, cur, rfl, hb, hg, _⟩
  · simp [InBlk, Value.ownBlock] at hi
  · simp [InBlk, Value.ownBlock] at hi; subst hi; exact ⟨cur, hg⟩
end
end Go.Proofs.Ytjiaaefpepdoeaa

/-
  A REGION THAT DRAWS ITS ORDER, WALKED ONCE IN THE ORDER OF THE TEXT, over a class of worlds of one's own: whatever the operations read is the same in every world of the class, and a callee may make memory as long as the class is kept. Conditions: those of the kit's law on quiet regions.
-/
namespace Go.Proofs.Ytjiaaefpepdoeaa
/-- A world of the class S. -/
structure Cw (S : World → Prop) where
  val : World
  prop : S val
theorem wp_region_cls {P : Program} {S : World → Prop} {id : Nat} {Q : Exit → Act → World → Prop} {a : Act} {w : World} {l : List Oper} (hm : P.follows .mixedOrders = true) (hB : Region.lexB .any l.toArray = true) (hS : S { w with drawn := w.drawn + 1 })
    (h : Nonempty (Cw S) → wpQuiet P l.toArray (fun w' => ∃ x : Cw S, w' = x.val) (fun a' => ∀ w', (∃ x : Cw S, w' = x.val) → Q .normal a' w') l a) : (Code.region id l.toArray true).wp P Q a w :=
  wp_region_quiet (C := fun w' => ∃ x : Cw S, w' = x.val) hm hB ⟨⟨_, hS⟩, rfl⟩ (by simpa using h ⟨⟨_, hS⟩⟩)
/-- A callee's contract, met in a world of the class. -/
theorem Cw.call {P : Program} {S : World → Prop} {f : FuncId} {args : Array Value} {v : Value} {w : World} {R : World → Prop} (h : Calls P f args w fun e w' => e = .returned v ∧ R w') (k : ∀ w', R w' → S w') :
    Calls P f args w fun e w' => e = .returned v ∧ ∃ x : Cw S, w' = x.val := h.mono fun _ w' ⟨he, hr⟩ => ⟨he, ⟨w', k w' hr⟩, rfl⟩
end Go.Proofs.Ytjiaaefpepdoeaa

/-
  CONTRACTS of the arena's small methods: what each answers, what it leaves in memory. Conditions: the arena is one (Ar); numbers are of Go's int.
-/
namespace Go.Proofs.Ytjiaaefpepdoeaa
open Go.RowKit Md
set_option linter.unusedVariables false

/-- An arena: a pointer to block p; its words ws in a row of the program's own (v), its size. -/
structure Ar (T : TypeId) (w : World) (p : Nat) (v : Value) (ws : List Int) (size : Int) : Prop where
  blk : w.heap[p]? = some (.cells #[v, .int .i64 size] T (0, 0))
  own : Own w 29 v (uw ws)
  le : (ws.length : Int) ≤ size
  mx : size ≤ 1048576
  ok : okWs ws
  ty : T ≠ 29
section
variable {T : TypeId} {w w1 : World} {p : Nat} {v : Value} {ws : List Int} {size : Int} {S : Nat → Prop}
theorem Ar.lt (h : Ar T w p v ws size) : p < w.heap.size := (Array.getElem?_eq_some_iff.1 h.blk).1
theorem Ar.c0 (h : Ar T w p v ws size) : w.cell? ⟨p, 0, none⟩ = some v := by simp [World.cell?, h.blk]
theorem Ar.c1 (h : Ar T w p v ws size) : w.cell? ⟨p, 1, none⟩ = some (.int .i64 size) := by simp [World.cell?, h.blk]
theorem Ar.fz (h : Ar T w p v ws size) (i : Nat) : w.frozen? ⟨p, i, none⟩ = false := by simp [World.frozen?, h.blk]
theorem Ar.ne (h : Ar T w p v ws size) : ∀ i, InBlk v i → i ≠ p := by
  intro i hi e
  obtain ⟨cur, hc⟩ := h.own.elem i hi
  rw [e, h.blk] at hc
  simp at hc
  exact h.ty hc.2
theorem Ar.keep (h : Ar T w p v ws size) (hf : Fr w w1 S) (hp : ¬ S p) (hn : ∀ i, InBlk v i → ¬ S i) : Ar T w1 p v ws size :=
  ⟨hf.blk h.blk hp, h.own.keep hf hn, h.le, h.mx, h.ok, h.ty⟩
theorem Ar.form (h : Ar T w p v ws size) : (v = .slice none 0 0 ∧ ws = []) ∨ ∃ g cap, v = .slice (some ⟨g, 0, none⟩) ws.length cap ∧ ws.length ≤ cap ∧ cap ≤ maxLen ∧ g < w.heap.size ∧ g ≠ p ∧ (∀ i, i < ws.length → w.cell? ⟨g, i, none⟩ = some (.int .u64 (ws.getD i 0))) ∧ ∀ i, w.frozen? ⟨g, i, none⟩ = false := by
  rcases h.own.form with ⟨hv, hx⟩ | ⟨g, cap, hv, hl, hm, hg, hc, hf⟩
  · refine .inl ⟨hv, ?_⟩
    have : (uw ws).length = 0 := by rw [hx]; rfl
    rw [uw_length] at this
    exact List.eq_nil_of_length_eq_zero this
  · rw [uw_length] at hv hl hc
    refine .inr ⟨g, cap, hv, hl, hm, hg, h.ne g (by rw [hv]; simp [InBlk, Value.ownBlock]), fun i hi => ?_, hf⟩
    rw [hc i hi]
    simp [uw, List.getD, hi]
/-- the row's value is a slice of as many elements -/
theorem Ar.val (h : Ar T w p v ws size) : ∃ A cap, v = .slice A ws.length cap := by
  rcases h.form with ⟨rfl, rfl⟩ | ⟨g, cap, rfl, _⟩
  · exact ⟨none, 0, rfl⟩
  · exact ⟨_, _, rfl⟩
end

/-! ### in -/
theorem in_c (p : Nat) (v : Value) (ws : List Int) (size i : Int) (w : World) (b : Bool) (h : Ar 101 w p v ws size) (hb : decide (0 ≤ i ∧ i < ws.length) = b) :
    Calls Try.prog 60 #[.pointer (some ⟨p, 0, none⟩), .int .i64 i] w fun e w' => e = .returned (.bool b) ∧ w = w' := by
  obtain ⟨A, cap, rfl⟩ := h.val
  have c0 := h.c0
  by_cases h0 : i < 0
  · have e : b = false := by rw [← hb]; simp; omega
    subst e
    clear hb h
    go_enter Try.func60, Try.ntmps60
    go_wp2
    go_ret
    exact ⟨rfl, rfl⟩
  by_cases h1 : i < ws.length
  · have e : b = true := by rw [← hb]; simp; omega
    subst e
    clear hb h
    have h0' : 0 ≤ i := by omega
    have d1 : decide (i < (ws.length : Int)) = true := by simpa using h1
    go_enter Try.func60, Try.ntmps60
    go_wp2
    go_ret
    exact ⟨by first | rfl | simp [h1], rfl⟩
  · have e : b = false := by rw [← hb]; simp; omega
    subst e
    clear hb h
    have h0' : 0 ≤ i := by omega
    have d1 : decide (i < (ws.length : Int)) = false := by simpa using h1
    go_enter Try.func60, Try.ntmps60
    go_wp2
    go_ret
    exact ⟨by first | rfl | simp [h1], rfl⟩

/-! ### Get -/
theorem rdAt_some {xs : List Int} {i r : Int} (h : rdAt xs i = some r) : ∃ k : Nat, i = k ∧ k < xs.length ∧ xs.getD k 0 = r := by
  unfold rdAt at h
  split at h
  · rename_i hc
    obtain ⟨k, rfl⟩ := Int.eq_ofNat_of_zero_le hc.1
    exact ⟨k, rfl, by omega, by simpa using h⟩
  · cases h
theorem rdAt_none {xs : List Int} {i : Int} (h : rdAt xs i = none) : ¬ (0 ≤ i ∧ i < xs.length) := by
  unfold rdAt at h
  split at h
  · cases h
  · assumption
theorem rdAt_of {xs : List Int} {k : Nat} (h : k < xs.length) : rdAt xs k = some (xs.getD k 0) := by
  unfold rdAt; rw [if_pos ⟨by omega, by omega⟩]; simp
theorem get_c (p : Nat) (v : Value) (ws : List Int) (size i r : Int) (w : World) (h : Ar 101 w p v ws size) (hr : rdAt ws i = some r) :
    Calls Try.prog 23 #[.pointer (some ⟨p, 0, none⟩), .int .i64 i] w fun e w' => e = .returned (.tuple #[.int .u64 r, .bool true]) ∧ w = w' := by
  obtain ⟨k, rfl, hk, hkr⟩ := rdAt_some hr
  rcases h.form with ⟨_, rfl⟩ | ⟨g, cap, rfl, hl, hm, hg, hgp, hc, hf⟩
  · simp at hk
  have c0 := h.c0
  have ck := hc k hk
  rw [hkr] at ck
  have H := Lib.hid h
  clear h hc hf hkr hr hgp hg hm
  go_enter Try.func23, Try.ntmps23
  go_wp2_with (first | (go_at_call 60; (with_reducible refine (in_c p _ ws size k _ true H.out (by simp; omega)).mono ?_); rintro e w' ⟨rfl, rfl⟩))
  go_ret2
  exact ⟨rfl, rfl⟩
theorem get_no (p : Nat) (v : Value) (ws : List Int) (size i : Int) (w : World) (h : Ar 101 w p v ws size) (hr : rdAt ws i = none) :
    Calls Try.prog 23 #[.pointer (some ⟨p, 0, none⟩), .int .i64 i] w fun e w' => e = .returned (.tuple #[.int .u64 0, .bool false]) ∧ w = w' := by
  have hn := rdAt_none hr
  have H := Lib.hid h
  have HN := Lib.hid hn
  clear h hr hn
  go_enter Try.func23, Try.ntmps23
  go_wp2_with (first | (go_at_call 60; (with_reducible refine (in_c p _ ws size i _ false H.out (by simpa using HN.out)).mono ?_); rintro e w' ⟨rfl, rfl⟩))
  go_ret2
  exact ⟨rfl, rfl⟩
/-! ### Used, Size -/
theorem used_c (p : Nat) (v : Value) (ws : List Int) (size : Int) (w : World) (h : Ar 101 w p v ws size) :
    Calls Try.prog 27 #[.pointer (some ⟨p, 0, none⟩)] w fun e w' => e = .returned (.int .i64 ws.length) ∧ w = w' := by
  obtain ⟨A, cap, rfl⟩ := h.val
  have c0 := h.c0
  clear h
  go_enter Try.func27, Try.ntmps27
  go_wp2
  go_ret
  exact ⟨rfl, rfl⟩
theorem size_c (p : Nat) (v : Value) (ws : List Int) (size : Int) (w : World) (h : Ar 101 w p v ws size) :
    Calls Try.prog 28 #[.pointer (some ⟨p, 0, none⟩)] w fun e w' => e = .returned (.int .i64 size) ∧ w = w' := by
  have c1 := h.c1
  clear h
  go_enter Try.func28, Try.ntmps28
  go_wp2
  go_ret
  exact ⟨rfl, rfl⟩
/-! ### Set -/
theorem okWs_set {ws : List Int} {k : Nat} {x : Int} (h : okWs ws) (hx : okW x) : okWs (ws.set k x) := by
  intro y hy
  rcases List.mem_or_eq_of_mem_set hy with h1 | h1
  · exact h y h1
  · rw [h1]; exact hx
/-- one word of a row is changed -/
theorem Ar.set {T : TypeId} {w : World} {p g cap : Nat} {ws : List Int} {size x : Int} {k : Nat} (h : Ar T w p (.slice (some ⟨g, 0, none⟩) ws.length cap) ws size) (hk : k < ws.length) (hx : okW x) :
    Ar T (w.setCell ⟨g, k, none⟩ (.int .u64 x)) p (.slice (some ⟨g, 0, none⟩) ws.length cap) (ws.set k x) size ∧ Fr w (w.setCell ⟨g, k, none⟩ (.int .u64 x)) (fun i => i = g) := by
  have hgp : g ≠ p := h.ne g (by simp [InBlk, Value.ownBlock])
  have hfr : Fr w (w.setCell ⟨g, k, none⟩ (.int .u64 x)) (fun i => i = g) := Fr.setCell (S := fun i => i = g) (a := ⟨g, k, none⟩) (Fr.refl w _) (fun _ => rfl) _
  refine ⟨⟨hfr.blk h.blk (fun e => hgp e.symm), ?_, by simpa using h.le, h.mx, okWs_set h.ok hx, h.ty⟩, hfr⟩
  have ho := h.own
  rcases ho.2 with ⟨hv, _⟩ | ⟨g', cap', cur, hv, hb, hg, hl, hm, hs, ht⟩
  · cases hv
  · injection hv with h1 h2 h3
    injection h1 with h1
    injection h1 with h1
    subst h1
    subst h3
    refine ⟨by simp [uw], .inr ⟨g, cap, cur.setIfInBounds k (.int .u64 x), by simp [uw], Nat.zero_le _, ?_, by simpa [uw] using hl, hm, by simpa using hs, ?_⟩⟩
    · simp [World.setCell, Array.getElem?_modify, hg]
    · have e1 : (uw (ws.set k x)).length = (uw ws).length := by simp [uw]
      rw [e1]
      rw [Array.toList_setIfInBounds, List.take_set, ht]
      simp [uw, List.map_set]
theorem set_c (p : Nat) (v : Value) (ws : List Int) (size i x : Int) (w : World) (h : Ar 101 w p v ws size) (hx : okW x) (hi : 0 ≤ i ∧ i < ws.length) :
    Calls Try.prog 21 #[.pointer (some ⟨p, 0, none⟩), .int .i64 i, .int .u64 x] w fun e w' => e = .returned (.bool true) ∧ Ar 101 w' p v (wrAt ws i x) size ∧ Fr w w' (InBlk v) := by
  obtain ⟨k, rfl⟩ := Int.eq_ofNat_of_zero_le hi.1
  have hk : k < ws.length := by omega
  have e0 : wrAt ws k x = ws.set k x := by unfold wrAt; rw [if_pos hi]; simp
  rw [e0]
  rcases h.form with ⟨_, rfl⟩ | ⟨g, cap, rfl, hl, hm, hg, hgp, hc, hf⟩
  · simp at hk
  have hs := h.set hk hx
  have c0 := h.c0
  have fk := hf k
  have ck := hc k hk
  have H := Lib.hid h
  have HS := Lib.hid hs
  clear h hc hf hgp hg hm hs hi e0 hx
  go_enter Try.func21, Try.ntmps21
  go_wp2_with (first | (go_at_call 60; (with_reducible refine (in_c p _ ws size k _ true H.out (by simp; omega)).mono ?_); rintro e w' ⟨rfl, rfl⟩))
  go_ret
  exact ⟨rfl, HS.out.1, HS.out.2.mono fun i hi _ => by simp [InBlk, Value.ownBlock, hi]⟩
theorem set_no (p : Nat) (v : Value) (ws : List Int) (size i x : Int) (w : World) (h : Ar 101 w p v ws size) (hi : ¬ (0 ≤ i ∧ i < ws.length)) :
    Calls Try.prog 21 #[.pointer (some ⟨p, 0, none⟩), .int .i64 i, .int .u64 x] w fun e w' => e = .returned (.bool false) ∧ w = w' := by
  have H := Lib.hid h
  have HN := Lib.hid hi
  clear h hi
  go_enter Try.func21, Try.ntmps21
  go_wp2_with (first | (go_at_call 60; (with_reducible refine (in_c p _ ws size i _ false H.out (by simpa using HN.out)).mono ?_); rintro e w' ⟨rfl, rfl⟩))
  go_ret
  exact ⟨rfl, rfl⟩
/-! ### New -/
def newSize (n : Int) : Int := if n < 0 ∨ n > 1048576 then 0 else n
theorem new_c (n : Int) (w : World) : Calls Try.prog 17 #[.int .i64 n] w fun e w' => e = .returned (.pointer (some ⟨w.heap.size, 0, none⟩)) ∧ Ar 101 w' w.heap.size (.slice none 0 0) [] (newSize n) ∧ Fr w w' (fun _ => False) := by
  have key : ∀ m : Int, 0 ≤ m → m ≤ 1048576 → Ar 101 (w.alloc (.cells #[.slice none 0 0, .int .i64 m] 101)) w.heap.size (.slice none 0 0) [] m ∧ Fr w (w.alloc (.cells #[.slice none 0 0, .int .i64 m] 101)) (fun _ => False) := fun m h0 h1 =>
    ⟨⟨heap_alloc_new w _, Own.nil _ _, by simpa using h0, h1, (fun _ h => by cases h), by decide⟩, (Fr.refl w _).alloc _⟩
  by_cases h0 : n < 0
  · have K := Lib.hid (key 0 (by omega) (by omega))
    have e : newSize n = 0 := by unfold newSize; rw [if_pos (.inl h0)]
    rw [e]; clear e key
    go_enter Try.func17, Try.ntmps17
    go_wp2
    go_ret
    exact ⟨rfl, K.out⟩
  by_cases h1 : n > 1048576
  · have K := Lib.hid (key 0 (by omega) (by omega))
    have e : newSize n = 0 := by unfold newSize; rw [if_pos (.inr h1)]
    rw [e]; clear e key
    go_enter Try.func17, Try.ntmps17
    go_wp2
    go_ret
    exact ⟨rfl, K.out⟩
  · have K := Lib.hid (key n (by omega) (by omega))
    have e : newSize n = n := by unfold newSize; rw [if_neg (by omega)]
    rw [e]; clear e key
    have d1 : decide (1048576 < n) = false := by simp; omega
    go_enter Try.func17, Try.ntmps17
    go_wp2
    go_ret
    exact ⟨rfl, K.out⟩
end Go.Proofs.Ytjiaaefpepdoeaa

/-
  LAW OF NO FUNCTION: 'append(s, make([]T, n)...)' onto a row of the program's own (one cell an element): what is owned behind it. Conditions: fewer than 2^30 elements of 8 bytes.
-/
namespace Go.Proofs.Ytjiaaefpepdoeaa
open Go.RowKit
set_option linter.unusedVariables false

theorem zeroCells_one (z : Value) (n : Nat) : (Builtin.zeroCells #[z] n).toList = List.replicate n z := by
  simp only [Builtin.zeroCells]
  apply List.ext_getElem
  · simp
  · intro i h1 h2
    simp [Nat.mod_one]
theorem run_append_zeros {P : Program} (w : World) (t tn ty e : TypeId) (i : TypeInfo) (z : Value) (kn kq : IntKind) (ht : P.underlying t = some (.slice e)) (htn : P.underlying tn = some (.int kn)) (hi : P.info? e = some i) (hz : i.zero = some z)
    (hsz : i.size = 1) (hby : i.bytes ≤ 8) (hz1 : z.cells = #[z]) (hone : z.oneCell' = true) (v : Value) (xs : List Value) (hown : Own w e v xs) (n : Nat) (hb : xs.length + n ≤ 1073741824) :
    ∃ v' w', (Builtin.append_ #[t, tn] ty #[v, .int kq n]).run P w = .ok v' w' ∧ Own w' e v' (xs ++ List.replicate n z) ∧ w.grownBy w' v.ownBlock ∧ ∀ k, InBlk v' k → InBlk v k ∨ w.heap.size ≤ k := by
  have hlen : (xs ++ List.replicate n z).length = (xs ++ List.replicate n z).length * 1 := by omega
  have hl2 : (xs ++ List.replicate n z).length = xs.length + n := by simp
  have hw : IntKind.i64.wrap (n : Int) = n := by rw [IntKind.wrap_i64]; omega
  have hneg : ¬ ((n : Int) < 0) := by omega
  have h48i : ¬ (281474976710656 < (n : Int) * (i.bytes : Int)) := by
    rw [← Int.natCast_mul]
    have : n * i.bytes ≤ n * 8 := Nat.mul_le_mul_left n hby
    omega
  by_cases hn : n = 0
  · subst hn
    refine ⟨v, w, ?_, by simpa using hown, World.grownBy.refl _ _, fun k hk => .inl hk⟩
    rcases hown.2 with ⟨rfl, _⟩ | ⟨g, cap, cur, rfl, _, hg, hl, _⟩
    · simp [Builtin.append_, run_underlying ht, run_underlying htn, sizeOf, typeInfo, hi, asInt, asIntOf, IntKind.wrap_i64]
    · have hst := run_storeCells_at P g (xs.length * i.size) e [] 0 cur w hg (by simp [hsz]; omega) (by simp)
      simp [Builtin.append_, run_underlying ht, run_underlying htn, sizeOf, typeInfo, hi, asInt, asIntOf, IntKind.wrap_i64, hl, Addr.add_lit, storeCells]
  have hpos : 0 < n := by omega
  have hns : ¬ (n * i.size = 0) := by rw [hsz]; omega
  have hk48 : n * i.bytes ≤ 281474976710656 := by
    have : n * i.bytes ≤ n * 8 := Nat.mul_le_mul_left n hby
    omega
  have grown : ∀ (old : Nat) (row : Option Nat), old < xs.length + n →
      Own (w.drew.alloc (.cells (xs.toArray ++ Builtin.zeroCells z.cells n ++ Builtin.zeroCells z.cells (grownCap w (xs.length + n) old e - (xs.length + n))) e)) e
        (.slice (some ⟨w.heap.size, 0, none⟩) (xs.length + n) (grownCap w (xs.length + n) old e)) (xs ++ List.replicate n z) ∧
      w.grownBy (w.drew.alloc (.cells (xs.toArray ++ Builtin.zeroCells z.cells n ++ Builtin.zeroCells z.cells (grownCap w (xs.length + n) old e - (xs.length + n))) e)) row := by
    intro old row ho
    have hge := grownCap_ge w (xs.length + n) old e
    have hcm : grownCap w (xs.length + n) old e ≤ maxLen := grownCap_le_maxLen w (xs.length + n) old e (by simp only [maxLen]; omega)
    refine ⟨⟨hlen, .inr ⟨w.heap.size, _, _, by rw [hl2], Nat.zero_le _, heap_alloc_new w.drew _, by rw [hl2]; exact hge, hcm, ?_, ?_⟩⟩, ⟨rfl, rfl, rfl, by simp, fun k hk _ => heap_alloc_old w.drew _ hk⟩⟩
    · simp only [Array.size_append, List.size_toArray, size_zeroCells, hz1]
      simp
      omega
    · rw [hz1, Nat.mul_one]
      simp only [Array.toList_append, zeroCells_one]
      exact List.take_left
  rcases hown.2 with ⟨rfl, h0⟩ | ⟨g, cap, cur, rfl, hb0, hg, hnc, hcm, hcs, htake⟩
  · have hx : xs = [] := List.eq_nil_of_length_eq_zero h0
    subst hx
    have hr := Lib.run_append_nil_zeros (P := P) w t tn ty e i z kq kn ht htn hi hz n hpos (by omega) (by omega) hk48
    have hgr := grown 0 (Value.ownBlock (.slice none 0 0)) (by simp; omega)
    simp only [List.length_nil, Nat.zero_add, List.nil_append, Array.empty_append] at hgr ⊢
    exact ⟨_, _, hr, hgr.1, hgr.2, fun k hk => .inr (by simp [InBlk, Value.ownBlock] at hk; omega)⟩
  · by_cases hroom : xs.length + n ≤ cap
    · have hst := run_storeCells_at P g (xs.length * i.size) e (List.replicate n z) 0 cur w hg (by simp [hsz]; omega) (by simp [hone])
      simp only [hsz, Nat.mul_one, Nat.add_zero, List.length_replicate] at hst htake hcs
      have hlt : (cur.toList.take xs.length).length = xs.length := by simp; omega
      have hown2 : Own (w.setRow g (cur.toList.take xs.length ++ List.replicate n z ++ cur.toList.drop (xs.length + n)).toArray) e (.slice (some ⟨g, 0, none⟩) (xs.length + n) cap) (xs ++ List.replicate n z) := by
        refine ⟨hlen, .inr ⟨g, cap, _, by rw [hl2], Nat.zero_le _, setRow_heap w g cur _ e _ hg, by rw [hl2]; exact hroom, hcm, ?_, ?_⟩⟩
        · simp; omega
        · rw [Nat.mul_one, hl2, htake]
          have h3 : (xs ++ List.replicate n z).length = xs.length + n := hl2
          rw [← h3]
          exact List.take_left
      refine ⟨.slice (some ⟨g, 0, none⟩) (xs.length + n) cap, w.setRow g (cur.toList.take xs.length ++ List.replicate n z ++ cur.toList.drop (xs.length + n)).toArray, ?_, hown2,
        ⟨rfl, rfl, rfl, by simp, fun k _ hk => setRow_other w g k _ (fun e => hk (by simp [Value.ownBlock, e]))⟩, fun k hk => .inl (by simpa [InBlk, Value.ownBlock] using hk)⟩
      have hz2 : (Builtin.zeroCells #[z] n).toList = List.replicate n z := zeroCells_one z n
      simp [Builtin.append_, run_underlying ht, run_underlying htn, sizeOf, typeInfo, zeroValue, hi, hz, hsz, asInt, asIntOf, hw, hn, hneg, h48i, hroom, Addr.add_lit, hz1, hz2, hst]
    · have holds : ∀ j u, xs[j]? = some u → w.cell? ((⟨g, 0, none⟩ : Addr).add j) = some u := World.ownsRow.cells hown (g := g) rfl
      have hf := run_firstCells_some (P := P) w.drew i.size xs.length ⟨g, 0, none⟩ xs.length cap xs (by rw [hsz]; omega) (fun j u hj => holds j u hj)
      have hr := Lib.run_append_grow_zeros (P := P) w t tn ty e i z kq kn ht htn hi hz (some ⟨g, 0, none⟩) xs.length cap xs hf n hpos (by omega) (by omega) (by omega) hk48 (growslice_fits (by omega) (by
        have : (xs.length + n) * i.bytes ≤ (xs.length + n) * 8 := Nat.mul_le_mul_left _ hby
        omega))
      have hgr := grown cap (Value.ownBlock (.slice (some ⟨g, 0, none⟩) xs.length cap)) (by omega)
      exact ⟨_, _, hr, hgr.1, hgr.2, fun k hk => .inr (by simp [InBlk, Value.ownBlock] at hk; omega)⟩
end Go.Proofs.Ytjiaaefpepdoeaa

/-
  CONTRACTS of the arena's Take, Cut, Words and of slices.Clone at words. Conditions: the arena is one (Ar); numbers are of Go's int.
-/
namespace Go.Proofs.Ytjiaaefpepdoeaa
open Go.RowKit Md
set_option linter.unusedVariables false

/-- The world is the old one, some orders having been drawn. -/
def Drawn (w w' : World) : Prop := ∃ n, w' = w.drewN n
theorem wordInfo : (Try.prog.info? 29).map (fun i => (i.zero, i.size, i.bytes)) = some (some (.int .u64 0), 1, 8) := by kernel_rfl
theorem uw_append (a b : List Int) : uw (a ++ b) = uw a ++ uw b := by simp [uw]
theorem uw_replicate (n : Nat) : uw (List.replicate n 0) = List.replicate n (.int .u64 0) := by simp [uw]
theorem okWs_append {a b : List Int} (ha : okWs a) (hb : okWs b) : okWs (a ++ b) := fun x hx => (List.mem_append.1 hx).elim (ha x) (hb x)
theorem okWs_zeros (n : Nat) : okWs (List.replicate n 0) := fun x hx => by
  have := (List.mem_replicate.1 hx).2
  subst this
  unfold okW
  omega
/-- A new row is stored into the arena. -/
theorem Ar.store {T : TypeId} {w w1 : World} {p : Nat} {v v' : Value} {ws ws' : List Int} {size : Int} (h : Ar T w p v ws size) (hg : w.grownBy w1 v.ownBlock) (ho : Own w1 29 v' (uw ws')) (hl : (ws'.length : Int) ≤ size) (hk : okWs ws') (hn : ∀ k, InBlk v' k → InBlk v k ∨ w.heap.size ≤ k) :
    Ar T (w1.setCell ⟨p, 0, none⟩ v') p v' ws' size ∧ Fr w (w1.setCell ⟨p, 0, none⟩ v') (fun i => i = p ∨ InBlk v i) ∧ ∀ k, InBlk v' k → InBlk v k ∨ w.heap.size ≤ k := by
  have hpv : some p ≠ v.ownBlock := fun e => h.ne p e.symm rfl
  have hb1 : w1.heap[p]? = some (.cells #[v, .int .i64 size] T (0, 0)) := (hg.block p h.lt hpv).trans h.blk
  have hp1 : ∀ k, InBlk v' k → k ≠ p := fun k hk e => by
    obtain ⟨cur, hc⟩ := ho.elem k hk
    rw [e, hb1] at hc
    simp at hc
    exact h.ty hc.2
  refine ⟨⟨?_, ?_, hl, h.mx, hk, h.ty⟩, ?_, hn⟩
  · simp [World.setCell, Array.getElem?_modify, hb1]
  · refine ho.keep (S := fun i => i = p) (Fr.setCell (S := fun i => i = p) (a := ⟨p, 0, none⟩) (Fr.refl w1 _) (fun _ => rfl) _) (fun i hi => hp1 i hi)
  · exact Fr.setCell (S := fun i => i = p ∨ InBlk v i) (a := ⟨p, 0, none⟩) (Fr.grown (Fr.refl w _) hg (fun k hk _ => .inr hk)) (fun _ => .inl rfl) _
theorem take_c (p : Nat) (v : Value) (ws : List Int) (size : Int) (n : Nat) (w : World) (h : Ar 101 w p v ws size) (hn : (n : Int) ≤ size - ws.length) :
    Calls Try.prog 19 #[.pointer (some ⟨p, 0, none⟩), .int .i64 n] w fun e w' => e = .returned (.tuple #[.int .i64 ws.length, .bool true]) ∧
      ∃ v', Ar 101 w' p v' (ws ++ List.replicate n 0) size ∧ Fr w w' (fun i => i = p ∨ InBlk v i) ∧ ∀ k, InBlk v' k → InBlk v k ∨ w.heap.size ≤ k := by
  obtain ⟨A, cap, rfl⟩ := h.val
  have c0 := h.c0
  have c1 := h.c1
  have hle := h.le
  have hmx := h.mx
  have d0 : decide ((n : Int) < 0) = false := decide_eq_false (by omega)
  have d1 : decide (size - (ws.length : Int) < (n : Int)) = false := decide_eq_false (by omega)
  have hw1 : wrap64 (size - (ws.length : Int)) = size - ws.length := by unfold wrap64; omega
  have hw2 : IntKind.i64.wrap (size - (ws.length : Int)) = size - ws.length := by rw [IntKind.wrap_i64]; omega
  have H := Lib.hid h
  clear h hle
  have HN := Lib.hid hn
  clear hn
  go_enter Try.func19, Try.ntmps19
  go_wp2
  go_quiet (fail)
  obtain ⟨i0, hi, hz0, hz1, hz2⟩ := info_parts wordInfo
  have hd : Ar 101 (w.drewN nq) p (.slice A ws.length cap) ws size := ⟨H.out.blk, H.out.own, H.out.le, H.out.mx, H.out.ok, H.out.ty⟩
  obtain ⟨v', w1, hr, ho, hg, hnn⟩ := run_append_zeros (P := Try.prog) (w.drewN nq) 39 3 39 29 i0 (.int .u64 0) .i64 .i64 Try.underlying39 Try.underlying3 hi hz0 hz1 (by omega) rfl rfl (.slice A ws.length cap) (uw ws) hd.own n (by have := HN.out; have := hd.mx; rw [uw_length]; omega)
  rw [← uw_replicate, ← uw_append] at ho
  have hst := hd.store hg ho (by have := HN.out; simp; omega) (okWs_append hd.ok (okWs_zeros n)) hnn
  have k0 : w1.cell? ⟨p, 0, none⟩ = some (.slice A ws.length cap) := hg.cell hd.c0 (fun e => hd.ne p e.symm rfl)
  have kf : w1.frozen? ⟨p, 0, none⟩ = false := (World.frozen?_of_block (hg.block p hd.lt (fun e => hd.ne p e.symm rfl))).trans (hd.fz 0)
  have HR := Lib.hid hr
  have HS := Lib.hid hst
  have hform := ho.form
  clear hr hst hg hnn hi hz0 hz1 hz2 ho hd c1 hw1 hw2 d0 d1 hmx
  rcases hform with ⟨rfl, _⟩ | ⟨g, cp, rfl, _⟩
  all_goals
    go_wp2_with (at_builtin; refine Lib.wpList_append_run _ rfl _ _ _ _ rfl _ _ rfl rfl _ w1 HR.out ?_)
    go_ret2
    exact ⟨rfl, _, HS.out.1, ((Fr.refl w _).drewN nq).trans HS.out.2.1, HS.out.2.2⟩
theorem take_no (p : Nat) (v : Value) (ws : List Int) (size n : Int) (w : World) (h : Ar 101 w p v ws size) (hn : n < 0 ∨ size - ws.length < n) :
    Calls Try.prog 19 #[.pointer (some ⟨p, 0, none⟩), .int .i64 n] w fun e w' => e = .returned (.tuple #[.int .i64 0, .bool false]) ∧ Drawn w w' := by
  obtain ⟨A, cap, rfl⟩ := h.val
  have c0 := h.c0
  have c1 := h.c1
  have hle := h.le
  have hmx := h.mx
  by_cases h0 : n < 0
  · have d0 : decide (n < 0) = true := decide_eq_true h0
    clear h hle hn
    go_enter Try.func19, Try.ntmps19
    go_wp2
    go_quiet (fail)
    go_wp2
    go_ret2
    exact ⟨rfl, nq, rfl⟩
  · have d0 : decide (n < 0) = false := decide_eq_false h0
    have d1 : decide (size - (ws.length : Int) < n) = true := decide_eq_true (by omega)
    have hw1 : wrap64 (size - (ws.length : Int)) = size - ws.length := by unfold wrap64; omega
    have hw2 : IntKind.i64.wrap (size - (ws.length : Int)) = size - ws.length := by rw [IntKind.wrap_i64]; omega
    clear h hle hn
    go_enter Try.func19, Try.ntmps19
    go_wp2
    go_quiet (fail)
    go_wp2
    go_ret2
    exact ⟨rfl, nq, rfl⟩
/-! ### Cut -/
theorem take_len {α : Type} (l : List α) (n : Nat) (h : n ≤ l.length) : (l.take n).length = n := by simp; omega
/-- The row cut: fewer words, the same block. -/
theorem Ar.cut {T : TypeId} {w : World} {p : Nat} {v v' : Value} {ws : List Int} {size size' : Int} (h : Ar T w p v ws size) (n : Nat) (hn : n ≤ ws.length) (h0 : (n : Int) ≤ size') (h1 : size' ≤ 1048576)
    (hv : (v = .slice none 0 0 ∧ v' = .slice none 0 0) ∨ ∃ g cap, v = .slice (some ⟨g, 0, none⟩) ws.length cap ∧ v' = .slice (some ⟨g, 0, none⟩) n cap) :
    Ar T ((w.setCell ⟨p, 0, none⟩ v').setCell ⟨p, 1, none⟩ (.int .i64 size')) p v' (ws.take n) size' ∧ Fr w ((w.setCell ⟨p, 0, none⟩ v').setCell ⟨p, 1, none⟩ (.int .i64 size')) (fun i => i = p) ∧ ∀ k, InBlk v' k → InBlk v k := by
  have hf : Fr w ((w.setCell ⟨p, 0, none⟩ v').setCell ⟨p, 1, none⟩ (.int .i64 size')) (fun i => i = p) :=
    Fr.setCell (S := fun i => i = p) (a := ⟨p, 1, none⟩) (Fr.setCell (S := fun i => i = p) (a := ⟨p, 0, none⟩) (Fr.refl w _) (fun _ => rfl) _) (fun _ => rfl) _
  have hin : ∀ k, InBlk v' k → InBlk v k := by
    intro k hk
    rcases hv with ⟨rfl, rfl⟩ | ⟨g, cap, rfl, rfl⟩
    · exact hk
    · simpa [InBlk, Value.ownBlock] using hk
  refine ⟨⟨?_, ?_, by rw [take_len ws n hn]; exact h0, h1, fun x hx => h.ok x (List.mem_of_mem_take hx), h.ty⟩, hf, hin⟩
  · simp [World.setCell, Array.getElem?_modify, h.blk]
  · have ho := h.own
    refine Own.keep (w := w) ?_ hf (fun i hi => h.ne i (hin i hi))
    rcases hv with ⟨rfl, rfl⟩ | ⟨g, cap, rfl, rfl⟩
    · rcases ho.2 with ⟨_, hz⟩ | ⟨g, cap, cur, hv, _⟩
      · have : ws = [] := List.eq_nil_of_length_eq_zero (by simpa [uw] using hz)
        subst this
        simpa [uw] using Own.nil w 29
      · cases hv
    · rcases ho.2 with ⟨hv, _⟩ | ⟨g', cap', cur, hv, hb, hg, hl, hm, hs, ht⟩
      · cases hv
      · injection hv with e1 e2 e3
        injection e1 with e1
        injection e1 with e1
        subst e1
        subst e3
        have hlen : (uw (ws.take n)).length = n := by rw [uw_length, take_len ws n hn]
        refine ⟨by omega, .inr ⟨g, cap, cur, by rw [hlen], Nat.zero_le _, hg, by rw [hlen]; rw [uw_length] at hl; omega, hm, by simpa using hs, ?_⟩⟩
        rw [hlen, Nat.mul_one]
        rw [Nat.mul_one, uw_length] at ht
        have e4 : cur.toList.take n = (cur.toList.take ws.length).take n := by rw [List.take_take, Nat.min_eq_left hn]
        rw [e4, ht]
        simp [uw]
theorem cut_c (p : Nat) (v : Value) (ws : List Int) (size : Int) (n : Nat) (size' : Int) (w : World) (h : Ar 101 w p v ws size) (hn : n ≤ ws.length) (h0 : (n : Int) ≤ size') (h1 : size' ≤ 1048576) :
    Calls Try.prog 25 #[.pointer (some ⟨p, 0, none⟩), .int .i64 n, .int .i64 size'] w fun e w' => e = .returned (.bool true) ∧ ∃ v', Ar 101 w' p v' (ws.take n) size' ∧ Fr w w' (fun i => i = p) ∧ ∀ k, InBlk v' k → InBlk v k := by
  have hmx := h.mx
  have hle := h.le
  have d0 : decide ((n : Int) < 0) = false := decide_eq_false (by omega)
  have d1 : decide ((ws.length : Int) < (n : Int)) = false := decide_eq_false (by omega)
  have d1' : decide (ws.length < n) = false := decide_eq_false (by omega)
  have d2 : decide (size' < (n : Int)) = false := decide_eq_false (by omega)
  have d3 : decide (1048576 < size') = false := decide_eq_false (by omega)
  rcases h.form with ⟨rfl, rfl⟩ | ⟨g, cap, rfl, hl, hm, _⟩
  · have hz : n = 0 := by simpa using hn
    subst hz
    have HC := Lib.hid (h.cut 0 (by simp) h0 h1 (.inl ⟨rfl, rfl⟩))
    have c0 := h.c0
    have c1 := h.c1
    have f0 := h.fz 0
    have f1 := h.fz 1
    clear h hn
    go_enter Try.func25, Try.ntmps25
    go_wp2
    go_ret
    exact ⟨rfl, _, HC.out.1, HC.out.2.1, HC.out.2.2⟩
  · have HC := Lib.hid (h.cut n hn h0 h1 (.inr ⟨g, cap, rfl, rfl⟩))
    have c0 := h.c0
    have c1 := h.c1
    have f0 := h.fz 0
    have f1 := h.fz 1
    have hncap : n ≤ cap := by omega
    have hncap' : (n : Int) ≤ (cap : Int) := by omega
    have hcap : cap ≤ 9223372036854775807 := hm
    clear h hm
    go_enter Try.func25, Try.ntmps25
    go_wp2
    go_ret
    exact ⟨rfl, _, HC.out.1, HC.out.2.1, HC.out.2.2⟩
end Go.Proofs.Ytjiaaefpepdoeaa

/-
  CONTRACTS of the reference's arena (tenementref8.Mem): Take, Cut, Get, Set, New; and of both arenas' Cut where it is refused. Conditions: the arena is one (Ar); numbers are of Go's int.
-/
namespace Go.Proofs.Ytjiaaefpepdoeaa
open Go.RowKit Md
set_option linter.unusedVariables false

theorem cut_no (p : Nat) (v : Value) (ws : List Int) (size n size' : Int) (w : World) (h : Ar 101 w p v ws size) (hn : n < 0 ∨ ws.length < n ∨ size' < n ∨ 1048576 < size') :
    Calls Try.prog 25 #[.pointer (some ⟨p, 0, none⟩), .int .i64 n, .int .i64 size'] w fun e w' => e = .returned (.bool false) ∧ w = w' := by
  obtain ⟨A, cap, rfl⟩ := h.val
  have c0 := h.c0
  by_cases h0 : n < 0
  · have d0 : decide (n < 0) = true := decide_eq_true h0
    clear h hn
    go_enter Try.func25, Try.ntmps25
    go_wp2
    go_ret
    exact ⟨rfl, rfl⟩
  by_cases h1 : (ws.length : Int) < n
  · have d0 : decide (n < 0) = false := decide_eq_false h0
    have d1 : decide ((ws.length : Int) < n) = true := decide_eq_true h1
    clear h hn
    go_enter Try.func25, Try.ntmps25
    go_wp2
    go_ret
    exact ⟨rfl, rfl⟩
  by_cases h2 : size' < n
  · have d0 : decide (n < 0) = false := decide_eq_false h0
    have d1 : decide ((ws.length : Int) < n) = false := decide_eq_false h1
    have d2 : decide (size' < n) = true := decide_eq_true h2
    clear h hn
    go_enter Try.func25, Try.ntmps25
    go_wp2
    go_ret
    exact ⟨rfl, rfl⟩
  · have d0 : decide (n < 0) = false := decide_eq_false h0
    have d1 : decide ((ws.length : Int) < n) = false := decide_eq_false h1
    have d2 : decide (size' < n) = false := decide_eq_false h2
    have d3 : decide (1048576 < size') = true := decide_eq_true (by omega)
    clear h hn
    go_enter Try.func25, Try.ntmps25
    go_wp2
    go_ret
    exact ⟨rfl, rfl⟩
theorem mtake_c (p : Nat) (v : Value) (ws : List Int) (size : Int) (n : Nat) (w : World) (h : Ar 41 w p v ws size) (hn : (n : Int) ≤ size - ws.length) :
    Calls Try.prog 20 #[.pointer (some ⟨p, 0, none⟩), .int .i64 n] w fun e w' => e = .returned (.tuple #[.int .i64 ws.length, .bool true]) ∧
      ∃ v', Ar 41 w' p v' (ws ++ List.replicate n 0) size ∧ Fr w w' (fun i => i = p ∨ InBlk v i) ∧ ∀ k, InBlk v' k → InBlk v k ∨ w.heap.size ≤ k := by
  obtain ⟨A, cap, rfl⟩ := h.val
  have c0 := h.c0
  have c1 := h.c1
  have hle := h.le
  have hmx := h.mx
  have d0 : decide ((n : Int) < 0) = false := decide_eq_false (by omega)
  have d1 : decide (size - (ws.length : Int) < (n : Int)) = false := decide_eq_false (by omega)
  have hw1 : wrap64 (size - (ws.length : Int)) = size - ws.length := by unfold wrap64; omega
  have hw2 : IntKind.i64.wrap (size - (ws.length : Int)) = size - ws.length := by rw [IntKind.wrap_i64]; omega
  have H := Lib.hid h
  clear h hle
  have HN := Lib.hid hn
  clear hn
  go_enter Try.func20, Try.ntmps20
  go_wp2
  go_quiet (fail)
  obtain ⟨i0, hi, hz0, hz1, hz2⟩ := info_parts wordInfo
  have hd : Ar 41 (w.drewN nq) p (.slice A ws.length cap) ws size := ⟨H.out.blk, H.out.own, H.out.le, H.out.mx, H.out.ok, H.out.ty⟩
  obtain ⟨v', w1, hr, ho, hg, hnn⟩ := run_append_zeros (P := Try.prog) (w.drewN nq) 39 3 39 29 i0 (.int .u64 0) .i64 .i64 Try.underlying39 Try.underlying3 hi hz0 hz1 (by omega) rfl rfl (.slice A ws.length cap) (uw ws) hd.own n (by have := HN.out; have := hd.mx; rw [uw_length]; omega)
  rw [← uw_replicate, ← uw_append] at ho
  have hst := hd.store hg ho (by have := HN.out; simp; omega) (okWs_append hd.ok (okWs_zeros n)) hnn
  have k0 : w1.cell? ⟨p, 0, none⟩ = some (.slice A ws.length cap) := hg.cell hd.c0 (fun e => hd.ne p e.symm rfl)
  have kf : w1.frozen? ⟨p, 0, none⟩ = false := (World.frozen?_of_block (hg.block p hd.lt (fun e => hd.ne p e.symm rfl))).trans (hd.fz 0)
  have HR := Lib.hid hr
  have HS := Lib.hid hst
  have hform := ho.form
  clear hr hst hg hnn hi hz0 hz1 hz2 ho hd c1 hw1 hw2 d0 d1 hmx
  rcases hform with ⟨rfl, _⟩ | ⟨g, cp, rfl, _⟩
  all_goals
    go_wp2_with (at_builtin; refine Lib.wpList_append_run _ rfl _ _ _ _ rfl _ _ rfl rfl _ w1 HR.out ?_)
    go_ret2
    exact ⟨rfl, _, HS.out.1, ((Fr.refl w _).drewN nq).trans HS.out.2.1, HS.out.2.2⟩
theorem mtake_no (p : Nat) (v : Value) (ws : List Int) (size n : Int) (w : World) (h : Ar 41 w p v ws size) (hn : n < 0 ∨ size - ws.length < n) :
    Calls Try.prog 20 #[.pointer (some ⟨p, 0, none⟩), .int .i64 n] w fun e w' => e = .returned (.tuple #[.int .i64 0, .bool false]) ∧ Drawn w w' := by
  obtain ⟨A, cap, rfl⟩ := h.val
  have c0 := h.c0
  have c1 := h.c1
  have hle := h.le
  have hmx := h.mx
  by_cases h0 : n < 0
  · have d0 : decide (n < 0) = true := decide_eq_true h0
    clear h hle hn
    go_enter Try.func20, Try.ntmps20
    go_wp2
    go_quiet (fail)
    go_wp2
    go_ret2
    exact ⟨rfl, nq, rfl⟩
  · have d0 : decide (n < 0) = false := decide_eq_false h0
    have d1 : decide (size - (ws.length : Int) < n) = true := decide_eq_true (by omega)
    have hw1 : wrap64 (size - (ws.length : Int)) = size - ws.length := by unfold wrap64; omega
    have hw2 : IntKind.i64.wrap (size - (ws.length : Int)) = size - ws.length := by rw [IntKind.wrap_i64]; omega
    clear h hle hn
    go_enter Try.func20, Try.ntmps20
    go_wp2
    go_quiet (fail)
    go_wp2
    go_ret2
    exact ⟨rfl, nq, rfl⟩
theorem mcut_c (p : Nat) (v : Value) (ws : List Int) (size : Int) (n : Nat) (size' : Int) (w : World) (h : Ar 41 w p v ws size) (hn : n ≤ ws.length) (h0 : (n : Int) ≤ size') (h1 : size' ≤ 1048576) :
    Calls Try.prog 26 #[.pointer (some ⟨p, 0, none⟩), .int .i64 n, .int .i64 size'] w fun e w' => e = .returned (.bool true) ∧ ∃ v', Ar 41 w' p v' (ws.take n) size' ∧ Fr w w' (fun i => i = p) ∧ ∀ k, InBlk v' k → InBlk v k := by
  have hmx := h.mx
  have hle := h.le
  have d0 : decide ((n : Int) < 0) = false := decide_eq_false (by omega)
  have d1 : decide ((ws.length : Int) < (n : Int)) = false := decide_eq_false (by omega)
  have d1' : decide (ws.length < n) = false := decide_eq_false (by omega)
  have d2 : decide (size' < (n : Int)) = false := decide_eq_false (by omega)
  have d3 : decide (1048576 < size') = false := decide_eq_false (by omega)
  rcases h.form with ⟨rfl, rfl⟩ | ⟨g, cap, rfl, hl, hm, _⟩
  · have hz : n = 0 := by simpa using hn
    subst hz
    have HC := Lib.hid (h.cut 0 (by simp) h0 h1 (.inl ⟨rfl, rfl⟩))
    have c0 := h.c0
    have c1 := h.c1
    have f0 := h.fz 0
    have f1 := h.fz 1
    clear h hn
    go_enter Try.func26, Try.ntmps26
    go_wp2
    go_ret
    exact ⟨rfl, _, HC.out.1, HC.out.2.1, HC.out.2.2⟩
  · have HC := Lib.hid (h.cut n hn h0 h1 (.inr ⟨g, cap, rfl, rfl⟩))
    have c0 := h.c0
    have c1 := h.c1
    have f0 := h.fz 0
    have f1 := h.fz 1
    have hncap : n ≤ cap := by omega
    have hncap' : (n : Int) ≤ (cap : Int) := by omega
    have hcap : cap ≤ 9223372036854775807 := hm
    clear h hm
    go_enter Try.func26, Try.ntmps26
    go_wp2
    go_ret
    exact ⟨rfl, _, HC.out.1, HC.out.2.1, HC.out.2.2⟩
theorem mcut_no (p : Nat) (v : Value) (ws : List Int) (size n size' : Int) (w : World) (h : Ar 41 w p v ws size) (hn : n < 0 ∨ ws.length < n ∨ size' < n ∨ 1048576 < size') :
    Calls Try.prog 26 #[.pointer (some ⟨p, 0, none⟩), .int .i64 n, .int .i64 size'] w fun e w' => e = .returned (.bool false) ∧ w = w' := by
  obtain ⟨A, cap, rfl⟩ := h.val
  have c0 := h.c0
  by_cases h0 : n < 0
  · have d0 : decide (n < 0) = true := decide_eq_true h0
    clear h hn
    go_enter Try.func26, Try.ntmps26
    go_wp2
    go_ret
    exact ⟨rfl, rfl⟩
  by_cases h1 : (ws.length : Int) < n
  · have d0 : decide (n < 0) = false := decide_eq_false h0
    have d1 : decide ((ws.length : Int) < n) = true := decide_eq_true h1
    clear h hn
    go_enter Try.func26, Try.ntmps26
    go_wp2
    go_ret
    exact ⟨rfl, rfl⟩
  by_cases h2 : size' < n
  · have d0 : decide (n < 0) = false := decide_eq_false h0
    have d1 : decide ((ws.length : Int) < n) = false := decide_eq_false h1
    have d2 : decide (size' < n) = true := decide_eq_true h2
    clear h hn
    go_enter Try.func26, Try.ntmps26
    go_wp2
    go_ret
    exact ⟨rfl, rfl⟩
  · have d0 : decide (n < 0) = false := decide_eq_false h0
    have d1 : decide ((ws.length : Int) < n) = false := decide_eq_false h1
    have d2 : decide (size' < n) = false := decide_eq_false h2
    have d3 : decide (1048576 < size') = true := decide_eq_true (by omega)
    clear h hn
    go_enter Try.func26, Try.ntmps26
    go_wp2
    go_ret
    exact ⟨rfl, rfl⟩
theorem mget_c (p : Nat) (v : Value) (ws : List Int) (size i r : Int) (w : World) (h : Ar 41 w p v ws size) (hr : rdAt ws i = some r) :
    Calls Try.prog 24 #[.pointer (some ⟨p, 0, none⟩), .int .i64 i] w fun e w' => e = .returned (.tuple #[.int .u64 r, .bool true]) ∧ w = w' := by
  obtain ⟨k, rfl, hk, hkr⟩ := rdAt_some hr
  rcases h.form with ⟨_, rfl⟩ | ⟨g, cap, rfl, hl, hm, hg, hgp, hc, hf⟩
  · simp at hk
  have c0 := h.c0
  have ck := hc k hk
  rw [hkr] at ck
  have d0 : decide ((k : Int) < 0) = false := decide_eq_false (by omega)
  have d1 : decide ((ws.length : Int) ≤ (k : Int)) = false := decide_eq_false (by omega)
  have d1' : decide (ws.length ≤ k) = false := decide_eq_false (by omega)
  clear h hc hf hkr hr hgp hg hm
  go_enter Try.func24, Try.ntmps24
  go_wp2
  go_ret2
  exact ⟨rfl, rfl⟩
theorem mget_no (p : Nat) (v : Value) (ws : List Int) (size i : Int) (w : World) (h : Ar 41 w p v ws size) (hr : rdAt ws i = none) :
    Calls Try.prog 24 #[.pointer (some ⟨p, 0, none⟩), .int .i64 i] w fun e w' => e = .returned (.tuple #[.int .u64 0, .bool false]) ∧ w = w' := by
  have hn := rdAt_none hr
  obtain ⟨A, cap, rfl⟩ := h.val
  have c0 := h.c0
  by_cases h0 : i < 0
  · have d0 : decide (i < 0) = true := decide_eq_true h0
    clear h hr hn
    go_enter Try.func24, Try.ntmps24
    go_wp2
    go_ret2
    exact ⟨rfl, rfl⟩
  · have d0 : decide (i < 0) = false := decide_eq_false h0
    have d1 : decide ((ws.length : Int) ≤ i) = true := decide_eq_true (by omega)
    clear h hr hn
    go_enter Try.func24, Try.ntmps24
    go_wp2
    go_ret2
    exact ⟨rfl, rfl⟩
theorem mset_c (p : Nat) (v : Value) (ws : List Int) (size i x : Int) (w : World) (h : Ar 41 w p v ws size) (hx : okW x) (hi : 0 ≤ i ∧ i < ws.length) :
    Calls Try.prog 22 #[.pointer (some ⟨p, 0, none⟩), .int .i64 i, .int .u64 x] w fun e w' => e = .returned (.bool true) ∧ Ar 41 w' p v (wrAt ws i x) size ∧ Fr w w' (InBlk v) := by
  obtain ⟨k, rfl⟩ := Int.eq_ofNat_of_zero_le hi.1
  have hk : k < ws.length := by omega
  have e0 : wrAt ws k x = ws.set k x := by unfold wrAt; rw [if_pos hi]; simp
  rw [e0]
  rcases h.form with ⟨_, rfl⟩ | ⟨g, cap, rfl, hl, hm, hg, hgp, hc, hf⟩
  · simp at hk
  have hs := h.set hk hx
  have c0 := h.c0
  have fk := hf k
  have ck := hc k hk
  have d0 : decide ((k : Int) < 0) = false := decide_eq_false (by omega)
  have d1 : decide ((ws.length : Int) ≤ (k : Int)) = false := decide_eq_false (by omega)
  have d1' : decide (ws.length ≤ k) = false := decide_eq_false (by omega)
  have HS := Lib.hid hs
  clear h hc hf hgp hg hm hs hi e0 hx
  go_enter Try.func22, Try.ntmps22
  go_wp2
  go_ret
  exact ⟨rfl, HS.out.1, HS.out.2.mono fun i hi _ => by simp [InBlk, Value.ownBlock, hi]⟩
theorem mset_no (p : Nat) (v : Value) (ws : List Int) (size i x : Int) (w : World) (h : Ar 41 w p v ws size) (hi : ¬ (0 ≤ i ∧ i < ws.length)) :
    Calls Try.prog 22 #[.pointer (some ⟨p, 0, none⟩), .int .i64 i, .int .u64 x] w fun e w' => e = .returned (.bool false) ∧ w = w' := by
  obtain ⟨A, cap, rfl⟩ := h.val
  have c0 := h.c0
  by_cases h0 : i < 0
  · have d0 : decide (i < 0) = true := decide_eq_true h0
    clear h hi
    go_enter Try.func22, Try.ntmps22
    go_wp2
    go_ret
    exact ⟨rfl, rfl⟩
  · have d0 : decide (i < 0) = false := decide_eq_false h0
    have d1 : decide ((ws.length : Int) ≤ i) = true := decide_eq_true (by omega)
    clear h hi
    go_enter Try.func22, Try.ntmps22
    go_wp2
    go_ret
    exact ⟨rfl, rfl⟩
theorem mnew_c (n : Int) (w : World) : Calls Try.prog 18 #[.int .i64 n] w fun e w' => e = .returned (.pointer (some ⟨w.heap.size, 0, none⟩)) ∧ Ar 41 w' w.heap.size (.slice none 0 0) [] (newSize n) ∧ Fr w w' (fun _ => False) := by
  have key : ∀ m : Int, 0 ≤ m → m ≤ 1048576 → Ar 41 (w.alloc (.cells #[.slice none 0 0, .int .i64 m] 41)) w.heap.size (.slice none 0 0) [] m ∧ Fr w (w.alloc (.cells #[.slice none 0 0, .int .i64 m] 41)) (fun _ => False) := fun m h0 h1 =>
    ⟨⟨heap_alloc_new w _, Own.nil _ _, by simpa using h0, h1, (fun _ h => by cases h), by decide⟩, (Fr.refl w _).alloc _⟩
  by_cases h0 : n < 0
  · have K := Lib.hid (key 0 (by omega) (by omega))
    have e : newSize n = 0 := by unfold newSize; rw [if_pos (.inl h0)]
    rw [e]; clear e key
    go_enter Try.func18, Try.ntmps18
    go_wp2
    go_ret
    exact ⟨rfl, K.out⟩
  by_cases h1 : n > 1048576
  · have K := Lib.hid (key 0 (by omega) (by omega))
    have e : newSize n = 0 := by unfold newSize; rw [if_pos (.inr h1)]
    rw [e]; clear e key
    go_enter Try.func18, Try.ntmps18
    go_wp2
    go_ret
    exact ⟨rfl, K.out⟩
  · have K := Lib.hid (key n (by omega) (by omega))
    have e : newSize n = n := by unfold newSize; rw [if_neg (by omega)]
    rw [e]; clear e key
    have d1 : decide (1048576 < n) = false := by simp; omega
    go_enter Try.func18, Try.ntmps18
    go_wp2
    go_ret
    exact ⟨rfl, K.out⟩
end Go.Proofs.Ytjiaaefpepdoeaa

/-
  READING ROWS: a slice value that reads as a list of values (one cell an element), wherever it lies; LAW OF NO FUNCTION: 'append(s, x...)' onto a row of the program's own. Conditions: fewer than 2^30 elements of at most 64 bytes.
-/
namespace Go.Proofs.Ytjiaaefpepdoeaa
open Go.RowKit
set_option linter.unusedVariables false

/-- The slice value v reads as xs. -/
def Rd (w : World) (v : Value) (xs : List Value) : Prop :=
  (xs = [] ∧ ∃ A cap, v = .slice A 0 cap ∧ (A = none → cap = 0)) ∨
  ∃ b off cap, v = .slice (some ⟨b, off, none⟩) xs.length cap ∧ 0 < xs.length ∧ xs.length ≤ cap ∧ cap ≤ maxLen ∧ b < w.heap.size ∧ ∀ i, i < xs.length → w.cell? ⟨b, off + i, none⟩ = xs[i]?
section
variable {w w1 : World} {e : TypeId} {v : Value} {xs ys : List Value} {S : Nat → Prop}
theorem Rd.keep (h : Rd w v xs) (hf : Fr w w1 S) (hn : ∀ i, InBlk v i → ¬ S i) : Rd w1 v xs := by
  rcases h with h | ⟨b, off, cap, rfl, h0, hl, hm, hb, hc⟩
  · exact .inl h
  · refine .inr ⟨b, off, cap, rfl, h0, hl, hm, Nat.lt_of_lt_of_le hb hf.size, fun i hi => ?_⟩
    have := hc i hi
    rw [List.getElem?_eq_getElem hi] at this ⊢
    exact hf.cell this (hn b (by simp [InBlk, Value.ownBlock]))
theorem Own.rd (h : Own w e v xs) : Rd w v xs := by
  rcases h.form with ⟨rfl, rfl⟩ | ⟨g, cap, rfl, hl, hm, hg, hc, hf⟩
  · exact .inl ⟨rfl, none, 0, rfl, fun _ => rfl⟩
  · by_cases h0 : xs.length = 0
    · have hx : xs = [] := List.eq_nil_of_length_eq_zero h0
      exact .inl ⟨hx, some ⟨g, 0, none⟩, cap, by rw [h0], fun e => by cases e⟩
    · exact .inr ⟨g, 0, cap, rfl, by omega, hl, hm, hg, fun i hi => by rw [Nat.zero_add]; exact hc i hi⟩
theorem Rd.len (h : Rd w v xs) : ∃ A cap, v = .slice A xs.length cap := by
  rcases h with ⟨rfl, A, cap, rfl, _⟩ | ⟨b, off, cap, rfl, _⟩
  · exact ⟨A, cap, rfl⟩
  · exact ⟨_, _, rfl⟩
theorem Rd.lt (h : Rd w v xs) (h0 : 0 < xs.length) : ∀ i, InBlk v i → i < w.heap.size := by
  rcases h with ⟨rfl, _⟩ | ⟨b, off, cap, rfl, _, _, _, hb, _⟩
  · simp at h0
  · intro i hi; simp [InBlk, Value.ownBlock] at hi; omega
end
theorem oneCell_all {k : IntKind} (zs : List Int) : ∀ u ∈ zs.map (Value.int k), u.oneCell' = true := ints_oneCell k zs
theorem run_append_rd {P : Program} (w : World) (t ty e : TypeId) (i : TypeInfo) (z : Value) (ht : P.underlying t = some (.slice e)) (hi : P.info? e = some i) (hz : i.zero = some z)
    (hsz : i.size = 1) (hby : i.bytes ≤ 64) (hz1 : z.cells.size = 1) (s v : Value) (ys xs : List Value) (hs : Own w e s ys) (hv : Rd w v xs) (h1 : ∀ u ∈ xs, u.oneCell' = true) (hb : ys.length + xs.length ≤ 1073741824) :
    ∃ v' w', (Builtin.append_ #[t, t] ty #[s, v]).run P w = .ok v' w' ∧ Own w' e v' (ys ++ xs) ∧ w.grownBy w' s.ownBlock ∧ (∀ k, InBlk v' k → InBlk s k ∨ w.heap.size ≤ k) := by
  have hlen : (ys ++ xs).length = (ys ++ xs).length * 1 := by omega
  have hl2 : (ys ++ xs).length = ys.length + xs.length := by simp
  rcases hv with ⟨rfl, A, cap, rfl, hA⟩ | ⟨b, off, cap, rfl, h0, hl, hm, hbb, hc⟩
  · refine ⟨s, w, ?_, by simpa using hs, World.grownBy.refl _ _, fun k hk => .inl hk⟩
    rcases hs.2 with ⟨rfl, _⟩ | ⟨g, cp, cur, rfl, _, hg, hlc, _⟩
    · cases A with
      | none => simp [Builtin.append_, run_underlying ht, sizeOf, typeInfo, hi, Builtin.lenOf, Builtin.firstCells]
      | some a => simp [Builtin.append_, run_underlying ht, sizeOf, typeInfo, hi, Builtin.lenOf, Builtin.firstCells, loadCells, loadCellsFrom]
    · cases A with
      | none => simp [Builtin.append_, run_underlying ht, sizeOf, typeInfo, hi, Builtin.lenOf, Builtin.firstCells, hlc, storeCells]
      | some a => simp [Builtin.append_, run_underlying ht, sizeOf, typeInfo, hi, Builtin.lenOf, Builtin.firstCells, hlc, storeCells, loadCells, loadCellsFrom]
  have hnews : ∀ j u, xs[j]? = some u → w.cell? ((⟨b, off, none⟩ : Addr).add j) = some u := fun j u hj => by
    have hjl : j < xs.length := (List.getElem?_eq_some_iff.1 hj).1
    rw [Addr.add_lit, hc j hjl, hj]
  have hxl : xs.length = xs.length * i.size := by rw [hsz]; omega
  have hfit : (ys.length + xs.length) * i.bytes ≤ 140737488355328 := by
    have : (ys.length + xs.length) * i.bytes ≤ (ys.length + xs.length) * 64 := Nat.mul_le_mul_left _ hby
    omega
  have grown : ∀ (old : Nat) (row : Option Nat), old < ys.length + xs.length →
      Own (w.drew.alloc (.cells (ys.toArray ++ xs.toArray ++ Builtin.zeroCells z.cells (grownCap w (ys.length + xs.length) old e - (ys.length + xs.length))) e)) e
        (.slice (some ⟨w.heap.size, 0, none⟩) (ys.length + xs.length) (grownCap w (ys.length + xs.length) old e)) (ys ++ xs) ∧
      w.grownBy (w.drew.alloc (.cells (ys.toArray ++ xs.toArray ++ Builtin.zeroCells z.cells (grownCap w (ys.length + xs.length) old e - (ys.length + xs.length))) e)) row := by
    intro old row ho
    have hge := grownCap_ge w (ys.length + xs.length) old e
    have hcm : grownCap w (ys.length + xs.length) old e ≤ maxLen := grownCap_le_maxLen w (ys.length + xs.length) old e (by simp only [maxLen]; omega)
    refine ⟨⟨hlen, .inr ⟨w.heap.size, _, _, by rw [hl2], Nat.zero_le _, heap_alloc_new w.drew _, by rw [hl2]; exact hge, hcm, ?_, ?_⟩⟩, ⟨rfl, rfl, rfl, by simp, fun k hk _ => heap_alloc_old w.drew _ hk⟩⟩
    · simp only [Array.size_append, List.size_toArray, size_zeroCells, hz1]
      omega
    · rw [Nat.mul_one]
      simp only [Array.toList_append]
      exact List.take_left
  rcases hs.2 with ⟨rfl, hy0⟩ | ⟨g, cp, cur, rfl, _, hg, hlc, hcm, hcs, htk⟩
  · have hy : ys = [] := List.eq_nil_of_length_eq_zero hy0
    subst hy
    have hr := run_append_nil (P := P) w t ty e i z ht hi hz ⟨b, off, none⟩ xs.length cap xs hxl hnews h0 (by omega) (by simp only [List.length_nil, Nat.zero_add] at hfit; omega)
    have hgr := grown 0 (Value.ownBlock (.slice none 0 0)) (by simp; omega)
    simp only [List.length_nil, Nat.zero_add, List.nil_append, Array.empty_append] at hgr ⊢
    exact ⟨_, _, hr, hgr.1, hgr.2, fun k hk => .inr (by simp [InBlk, Value.ownBlock] at hk; omega)⟩
  · have hcs' : cur.size = cp := by rw [hcs]; omega
    by_cases hroom : ys.length + xs.length ≤ cp
    · have hr := run_append_room (P := P) w t ty e i ht hi g ys.length cp cur hg ⟨b, off, none⟩ xs.length cap xs hxl hnews h1 hroom (by rw [hsz]; omega)
      refine ⟨_, _, hr, ⟨hlen, .inr ⟨g, cp, _, by rw [hl2], Nat.zero_le _, setRow_heap w g cur _ e _ hg, by rw [hl2]; exact hroom, hcm, ?_, ?_⟩⟩,
        ⟨rfl, rfl, rfl, by simp, fun k _ hk => setRow_other w g k _ (fun e => hk (by simp [Value.ownBlock, e]))⟩, fun k hk => .inl (by simpa [InBlk, Value.ownBlock] using hk)⟩
      · simp [hsz]; omega
      · rw [Nat.mul_one] at htk
        rw [Nat.mul_one, hl2, hsz, Nat.mul_one, htk, ← hl2]
        exact List.take_left
    · have holds : ∀ j u, ys[j]? = some u → w.cell? ((⟨g, 0, none⟩ : Addr).add j) = some u := World.ownsRow.cells hs (g := g) rfl
      have hr := run_append_grow (P := P) w t ty e i z ht hi hz ⟨g, 0, none⟩ ys.length cp ys (by rw [hsz]; omega) holds ⟨b, off, none⟩ xs.length cap xs hxl hnews (by omega) (by omega) (growslice_fits (by omega) hfit)
      have hgr := grown cp (Value.ownBlock (.slice (some ⟨g, 0, none⟩) ys.length cp)) (by omega)
      exact ⟨_, _, hr, hgr.1, hgr.2, fun k hk => .inr (by simp [InBlk, Value.ownBlock] at hk; omega)⟩
end Go.Proofs.Ytjiaaefpepdoeaa

/-
  CONTRACTS: slices.Clone at words, the arena's Words, the reference's Copy and SameWords. Conditions: rows of at most 2^30 words.
-/
namespace Go.Proofs.Ytjiaaefpepdoeaa
open Go.RowKit Md
set_option linter.unusedVariables false

/-- the row that a call has made: it reads so, it is the call's own -/
def New (w w' : World) (e : TypeId) (v : Value) (xs : List Value) : Prop := Own w' e v xs ∧ Fr w w' (fun _ => False) ∧ ∀ k, InBlk v k → w.heap.size ≤ k
theorem uw_one (ws : List Int) : ∀ u ∈ uw ws, u.oneCell' = true := oneCell_all ws
set_option maxRecDepth 100000 in
set_option maxHeartbeats 1000000 in
theorem clone_c (v : Value) (ws : List Int) (w : World) (h : Rd w v (uw ws)) (hb : ws.length ≤ 1073741824) :
    Calls Try.prog 61 #[v] w fun e w' => ∃ v', e = .returned v' ∧ New w w' 29 v' (uw ws) := by
  have key : ∀ v, Rd w v (uw ws) → ∃ v' w1, (Builtin.append_ #[39, 39] 39 #[.slice (some ⟨w.heap.size, 0, none⟩) 0 0, v]).run Try.prog (w.alloc (.cells #[] 29)) = .ok v' w1 ∧ New w w1 29 v' (uw ws) := by
    intro v h
    obtain ⟨i0, hi, hz0, hz1, hz2⟩ := info_parts wordInfo
    have hs : Own (w.alloc (.cells #[] 29)) 29 (.slice (some ⟨w.heap.size, 0, none⟩) 0 0) [] := World.ownsRow_made w #[] 0 (Nat.zero_le _) (Nat.zero_le _) rfl
    have hv : Rd (w.alloc (.cells #[] 29)) v (uw ws) := h.keep ((Fr.refl w (fun _ => False)).alloc _) (fun _ _ h => h)
    obtain ⟨v', w1, hr, ho, hg, hn⟩ := run_append_rd (P := Try.prog) _ 39 39 29 i0 (.int .u64 0) Try.underlying39 hi hz0 hz1 (by omega) rfl _ v [] (uw ws) hs hv (uw_one ws) (by rw [uw_length]; simp; omega)
    refine ⟨v', w1, hr, ho, ?_, fun k hk => ?_⟩
    · exact ((Fr.refl w _).alloc _).grown hg (fun k hk hlt => by simp [Value.ownBlock] at hk; omega)
    · rcases hn k hk with h1 | h1
      · simp [InBlk, Value.ownBlock] at h1; omega
      · simp at h1; omega
  have h2 := h
  rcases h with ⟨hx, A, cap, rfl, hA⟩ | ⟨b, off, cap, rfl, h0, hl, hm, hbb, hc⟩
  · cases A with
    | none =>
      have hcap := hA rfl
      subst hcap
      clear key hA
      have HX := Lib.hid hx
      clear hx h2
      have hq : (binOp .eql 39 (.slice none 0 0) (.slice none 0 0)).run Try.prog w = .ok (.bool true) w := Lib.run_eql_slice_nil (P := Try.prog) w 39 29 (none) (0) (0) 0 0 Try.underlying39
      go_enter Try.func61, Try.ntmps61
      go_wp2
      go_ret
      exact ⟨_, rfl, by rw [HX.out]; exact Own.nil _ _, Fr.refl _ _, fun k hk => by simp [InBlk, Value.ownBlock] at hk⟩
    | some a =>
      obtain ⟨v', w1, hr, hnew⟩ := key _ h2
      have HR := Lib.hid hr
      have HN := Lib.hid hnew
      clear key hA hr hnew hx h2
      have hq : (binOp .eql 39 (.slice (some a) 0 cap) (.slice none 0 0)).run Try.prog w = .ok (.bool false) w := Lib.run_eql_slice_nil (P := Try.prog) w 39 29 ((some a)) (0) (cap) 0 0 Try.underlying39
      go_enter Try.func61, Try.ntmps61
      go_wp2_with (at_builtin; refine Lib.wpList_append_run _ rfl _ _ _ _ rfl _ _ rfl rfl _ w1 HR.out ?_)
      go_ret
      exact ⟨_, rfl, HN.out⟩
  · obtain ⟨v', w1, hr, hnew⟩ := key _ h2
    have HR := Lib.hid hr
    have HN := Lib.hid hnew
    clear key hr hnew h2 hc hm
    have hq : (binOp .eql 39 (.slice (some ⟨b, off, none⟩) (uw ws).length cap) (.slice none 0 0)).run Try.prog w = .ok (.bool false) w := Lib.run_eql_slice_nil (P := Try.prog) w 39 29 ((some ⟨b, off, none⟩)) ((uw ws).length) (cap) 0 0 Try.underlying39
    go_enter Try.func61, Try.ntmps61
    go_wp2_with (at_builtin; refine Lib.wpList_append_run _ rfl _ _ _ _ rfl _ _ rfl rfl _ w1 HR.out ?_)
    go_ret
    exact ⟨_, rfl, HN.out⟩
theorem words_c (p : Nat) (v : Value) (ws : List Int) (size : Int) (w : World) (h : Ar 101 w p v ws size) :
    Calls Try.prog 30 #[.pointer (some ⟨p, 0, none⟩)] w fun e w' => ∃ v', e = .returned v' ∧ New w w' 29 v' (uw ws) := by
  have hb : ws.length ≤ 1073741824 := by have := h.le; have := h.mx; omega
  have HRd := Lib.hid h.own.rd
  have c0 := h.c0
  obtain ⟨A, cap, rfl⟩ := h.val
  clear h
  go_enter Try.func30, Try.ntmps30
  go_wp2_with (first | (go_at_call 61; (with_reducible refine (clone_c _ ws _ HRd.out hb).mono ?_); rintro e w' ⟨v', rfl, hnew⟩))
  go_ret
  exact ⟨_, rfl, hnew⟩
theorem copy_c (v : Value) (ws : List Int) (w : World) (h : Rd w v (uw ws)) (hb : ws.length ≤ 1073741824) :
    Calls Try.prog 40 #[v] w fun e w' => ∃ v', e = .returned v' ∧ New w w' 29 v' (uw ws) := by
  obtain ⟨i0, hi, hz0, hz1, hz2⟩ := info_parts wordInfo
  obtain ⟨v', w1, hr, ho, hg, hn⟩ := run_append_rd (P := Try.prog) w 39 39 29 i0 (.int .u64 0) Try.underlying39 hi hz0 hz1 (by omega) rfl _ v [] (uw ws) (Own.nil w _) h (uw_one ws) (by rw [uw_length]; simp; omega)
  have hnew : New w w1 29 v' (uw ws) := ⟨ho, (Fr.refl w _).grown hg (fun k hk hlt => by simp [Value.ownBlock] at hk), fun k hk => (hn k hk).elim (fun h => by simp [InBlk, Value.ownBlock] at h) id⟩
  have HR := Lib.hid hr
  have HN := Lib.hid hnew
  obtain ⟨A, cap, rfl⟩ := h.len
  clear hr hnew ho hg hn hi hz0 hz1 hz2 h
  go_enter Try.func40, Try.ntmps40
  go_wp2_with (at_builtin; refine Lib.wpList_append_run _ rfl _ _ _ _ rfl _ _ rfl rfl _ w1 HR.out ?_)
  go_ret
  exact ⟨_, rfl, HN.out⟩
/-! ### SameWords -/
theorem Drawn.refl (w : World) : Drawn w w := ⟨0, rfl⟩
theorem Drawn.step {w w' : World} (h : Drawn w w') (n : Nat) : Drawn w (w'.drewN n) := by
  obtain ⟨m, rfl⟩ := h
  exact ⟨m + n, World.drewN_drewN ..⟩
theorem Drawn.fr {w w' : World} (h : Drawn w w') (S : Nat → Prop) : Fr w w' S := by
  obtain ⟨m, rfl⟩ := h
  exact (Fr.refl w S).drewN m
theorem uw_get {ws : List Int} {k : Nat} (h : k < ws.length) : (uw ws)[k]? = some (.int .u64 (ws.getD k 0)) := by simp [uw, List.getD, h]
theorem take_eq_succ {xs ys : List Int} {k : Nat} (hx : k < xs.length) (hy : k < ys.length) (h : xs.take k = ys.take k) (e : xs.getD k 0 = ys.getD k 0) : xs.take (k + 1) = ys.take (k + 1) := by
  rw [List.take_succ_eq_append_getElem hx, List.take_succ_eq_append_getElem hy, h]
  simp [List.getD, hx, hy] at e
  rw [e]
theorem samew_c (va vb : Value) (xs ys : List Int) (w : World) (ha : Rd w va (uw xs)) (hb : Rd w vb (uw ys)) (hl : xs.length ≤ 1073741824) :
    Calls Try.prog 29 #[va, vb] w fun e w' => e = .returned (.bool (decide (xs = ys))) ∧ Drawn w w' := by
  obtain ⟨A, ca, rfl⟩ := ha.len
  obtain ⟨B, cb, rfl⟩ := hb.len
  rw [uw_length] at *
  rw [uw_length] at *
  by_cases hlen : xs.length = ys.length
  · by_cases h0 : xs.length = 0
    · have e1 : xs = [] := List.eq_nil_of_length_eq_zero h0
      have e2 : ys = [] := List.eq_nil_of_length_eq_zero (by omega)
      subst e1
      subst e2
      clear ha hb hlen h0
      go_enter Try.func29, Try.ntmps29
      go_wp2
      refine wp_loop_rounds 1 ?_
      rw [rounds_succ]
      go_wp2
      go_ret
      exact ⟨rfl, Drawn.refl _⟩
    · rcases ha with ⟨hx, _⟩ | ⟨b1, o1, c1, e1, _, hl1, hm1, hb1, hc1⟩
      · have := congrArg List.length hx; rw [uw_length] at this; exact absurd this h0
      rcases hb with ⟨hx, _⟩ | ⟨b2, o2, c2, e2, _, hl2, hm2, hb2, hc2⟩
      · have := congrArg List.length hx; rw [uw_length] at this; exact absurd (hlen.trans this) h0
      injection e1 with e1 _ e3
      injection e2 with e2 _ e4
      subst e1; subst e2; subst e3; subst e4
      have HC1 := Lib.hid hc1
      have HC2 := Lib.hid hc2
      have HL := Lib.hid hlen
      have d0 : (((xs.length : Int)) != (ys.length : Int)) = false := by rw [hlen]; simp
      have d0' : (xs.length != ys.length) = false := by rw [hlen]; simp
      clear hc1 hc2 hl1 hl2 hm1 hm2 hb1 hb2 hlen
      go_enter Try.func29, Try.ntmps29
      go_wp2
      go_loopw [5] (fun i wr => ∃ k : Nat, k ≤ xs.length ∧ i = .int .i64 k ∧ xs.take k = ys.take k ∧ Drawn w wr) (fun i _ => xs.length - (intOf i).toNat)
      case atStart => exact ⟨0, Nat.zero_le _, rfl, rfl, Drawn.refl _⟩
      case round =>
        obtain ⟨k, hk, rfl, ht, nq, rfl⟩ := hrel
        have HT := Lib.hid ht
        clear ht d0 d0'
        by_cases hlt : k < xs.length
        · have hlt2 : k < ys.length := by have := HL.out; omega
          have g1 : w.cell? ⟨b1, o1 + k, none⟩ = some (.int .u64 (xs.getD k 0)) := by rw [HC1.out k (by rw [uw_length]; exact hlt), uw_get hlt]
          have g2 : w.cell? ⟨b2, o2 + k, none⟩ = some (.int .u64 (ys.getD k 0)) := by rw [HC2.out k (by rw [uw_length]; exact hlt2), uw_get hlt2]
          obtain ⟨x, hx⟩ : ∃ x, xs.getD k 0 = x := ⟨_, rfl⟩
          obtain ⟨y, hy⟩ : ∃ y, ys.getD k 0 = y := ⟨_, rfl⟩
          rw [hx] at g1
          rw [hy] at g2
          have HX := Lib.hid hx
          have HY := Lib.hid hy
          clear hx hy
          have q1 : (0 : Int) ≤ k := by omega
          have q2 : (k : Int) < xs.length := by omega
          have q3 : (k : Int) < ys.length := by omega
          by_cases hxy : x = y
          · have dn : (x != y) = false := by simp [hxy]
            have HXY := Lib.hid hxy
            clear hxy
            go_wp2
            go_quiet (fail)
            go_wp2
            go_roundw
            case rel => exact ⟨k + 1, by omega, by go_num, take_eq_succ hlt hlt2 HT.out (by rw [HX.out, HY.out]; exact HXY.out), ⟨_, rfl⟩⟩
            case measure => simp [intOf]; omega
          · have dn : (x != y) = true := by simpa using hxy
            have HXY := Lib.hid hxy
            clear hxy
            go_wp2
            go_quiet (fail)
            go_wp2
            go_ret
            refine ⟨?_, Drawn.step ⟨_, rfl⟩ _⟩
            have : ¬ xs = ys := fun e => HXY.out (by rw [← HX.out, ← HY.out, e])
            simp [this]
        · have hk2 : k = xs.length := by omega
          go_wp2
          go_ret
          refine ⟨?_, nq, rfl⟩
          have h3 := HT.out
          rw [List.take_of_length_le (by omega), List.take_of_length_le (by have := HL.out; omega)] at h3
          simp [h3]
  · have d0 : (((xs.length : Int)) != (ys.length : Int)) = true := by simp; omega
    have d0' : (xs.length != ys.length) = true := by simp; omega
    have hne : decide (xs = ys) = false := decide_eq_false (fun e => hlen (by rw [e]))
    rw [hne]
    clear ha hb hlen
    go_enter Try.func29, Try.ntmps29
    go_wp2
    go_ret
    exact ⟨rfl, Drawn.refl _⟩
end Go.Proofs.Ytjiaaefpepdoeaa

/-
  CONTRACTS: law 8's Fill, Mem, awake. Conditions: rows of words of 64 bits; at most 2^20 of them with what is more.
-/
namespace Go.Proofs.Ytjiaaefpepdoeaa
open Go.RowKit Md
set_option linter.unusedVariables false

theorem take_i (p : Nat) (v : Value) (ws : List Int) (size n : Int) (w : World) (h : Ar 101 w p v ws size) (h0 : 0 ≤ n) (hn : n ≤ size - ws.length) :
    Calls Try.prog 19 #[.pointer (some ⟨p, 0, none⟩), .int .i64 n] w fun e w' => e = .returned (.tuple #[.int .i64 ws.length, .bool true]) ∧
      ∃ v', Ar 101 w' p v' (ws ++ List.replicate n.toNat 0) size ∧ Fr w w' (fun i => i = p ∨ InBlk v i) ∧ ∀ k, InBlk v' k → InBlk v k ∨ w.heap.size ≤ k := by
  obtain ⟨k, rfl⟩ := Int.eq_ofNat_of_zero_le h0
  exact take_c p v ws size k w h hn
/-- an arena that a call has made -/
def NewAr (T : TypeId) (w w' : World) (p : Nat) (v : Value) (ws : List Int) (size : Int) : Prop := Ar T w' p v ws size ∧ Fr w w' (fun _ => False) ∧ w.heap.size ≤ p ∧ ∀ k, InBlk v k → w.heap.size ≤ k
theorem newSize_of {n : Int} (h0 : 0 ≤ n) (h1 : n ≤ 1048576) : newSize n = n := by unfold newSize; rw [if_neg (by omega)]
theorem filled_step {l : List Int} {k : Nat} (h : k < l.length) : wrAt (l.take k ++ List.replicate (l.length - k) 0) k (l.getD k 0) = l.take (k + 1) ++ List.replicate (l.length - (k + 1)) 0 := by
  have hl : (l.take k ++ List.replicate (l.length - k) 0).length = l.length := by simp; omega
  unfold wrAt
  rw [if_pos ⟨by omega, by rw [hl]; omega⟩, Int.toNat_natCast]
  have hk : (l.take k).length = k := by simp; omega
  rw [List.set_append, if_neg (by omega), hk, Nat.sub_self]
  have e : l.length - k = (l.length - (k + 1)) + 1 := by omega
  rw [e, List.replicate_succ, List.set_cons_zero, List.take_succ_eq_append_getElem h, List.append_assoc]
  simp [List.getD, h]
theorem okWs_getD {l : List Int} (h : okWs l) (k : Nat) (hk : k < l.length) : okW (l.getD k 0) := by
  simp only [List.getD, List.getElem?_eq_getElem hk, Option.getD_some]
  exact h _ (List.getElem_mem hk)
set_option maxHeartbeats 1000000 in
theorem fill_c (v : Value) (l : List Int) (more : Int) (w : World) (h : Rd w v (uw l)) (hok : okWs l) (h0 : 0 ≤ more) (h1 : l.length + more ≤ 1048576) :
    Calls Try.prog 31 #[v, .int .i64 more] w fun e w' => ∃ p v', e = .returned (.pointer (some ⟨p, 0, none⟩)) ∧ NewAr 101 w w' p v' l (l.length + more) := by
  have hlt := fun h0 => h.lt h0
  have hsz : newSize (l.length + more) = l.length + more := newSize_of (by omega) h1
  have hsum : IntKind.i64.wrap ((l.length : Int) + more) = l.length + more := by rw [IntKind.wrap_i64]; omega
  have hsum2 : wrap64 ((l.length : Int) + more) = l.length + more := by unfold wrap64; omega
  have HSZ := Lib.hid hsz
  have HOK := Lib.hid hok
  have HR := Lib.hid h
  have HLT := Lib.hid hlt
  clear hsz hok hlt
  obtain ⟨A, cap, rfl⟩ := h.len
  clear h
  rw [uw_length]
  have hA : 0 < l.length → ∃ b off, A = some ⟨b, off, none⟩ ∧ ∀ i, i < l.length → w.cell? ⟨b, off + i, none⟩ = some (.int .u64 (l.getD i 0)) := by
    intro hp
    rcases HR.out with ⟨hx, _⟩ | ⟨b, off, c, e, _, _, _, _, hc⟩
    · have := congrArg List.length hx; rw [uw_length] at this; simp at this; subst this; simp at hp
    · injection e with e1 e2 e3
      exact ⟨b, off, e1, fun i hi => by rw [hc i (by rw [uw_length]; exact hi), uw_get hi]⟩
  by_cases hp : 0 < l.length
  · obtain ⟨b, off, rfl, hc⟩ := hA hp
    have HC := Lib.hid hc
    have hbw : b < w.heap.size := HLT.out (by rw [uw_length]; exact hp) b (by simp [InBlk, Value.ownBlock])
    clear hA hc
    go_enter Try.func31, Try.ntmps31
    go_wp2_with (first | (go_at_call 17; (with_reducible refine (new_c _ _).mono ?_); rintro e w1 ⟨rfl, ha, hf⟩))
    rw [HSZ.out] at ha
    have HA := Lib.hid ha
    have HF := Lib.hid hf
    clear ha hf
    have htk : ((l.length : Nat) : Int) ≤ (l.length + more) - (([] : List Int).length : Int) := by simp; omega
    have HTK := Lib.hid htk
    clear htk
    go_wp2_with (first | (go_at_call 19; (with_reducible refine (take_c _ _ [] (l.length + more) l.length _ HA.out HTK.out).mono ?_); rintro e w2 ⟨rfl, v2, ha2, hf2, hn2⟩))
    simp only [List.nil_append] at ha2
    have hf02 : Fr w w2 (fun _ => False) := HF.out.then_ hf2 (fun i hi hlt => hi.elim (fun e => by omega) (fun e => by simp [InBlk, Value.ownBlock] at e))
    have hin2 : ∀ k, InBlk v2 k → w.heap.size ≤ k := fun k hk => (hn2 k hk).elim (fun e => by simp [InBlk, Value.ownBlock] at e) (fun e => Nat.le_trans HF.out.size e)
    have HA2 := Lib.hid ha2
    have HF2 := Lib.hid hf02
    have HI2 := Lib.hid hin2
    clear ha2 hf2 hn2 hf02 hin2 HA HF hsum hsum2
    have hlen : l.length ≤ 1048576 := by omega
    go_wp2
    go_loopw [6] (fun i wr => ∃ k : Nat, k ≤ l.length ∧ i = .int .i64 k ∧ Hid (Ar 101 wr w.heap.size v2 (l.take k ++ List.replicate (l.length - k) 0) (l.length + more)) ∧ Hid (Fr w wr (fun _ => False))) (fun i _ => l.length - (intOf i).toNat)
    case atStart => exact ⟨0, Nat.zero_le _, rfl, Lib.hid (by simpa using HA2.out), HF2⟩
    case round =>
      obtain ⟨k, hk, rfl, HAr, HFr⟩ := hrel
      by_cases hkl : k < l.length
      · have hcell : wr.cell? ⟨b, off + k, none⟩ = some (.int .u64 (l.getD k 0)) := HFr.out.cell (HC.out k hkl) (fun h => h)
        have hx := okWs_getD HOK.out k hkl
        have HX := Lib.hid hx
        have hst := filled_step hkl
        obtain ⟨x, hxe⟩ : ∃ x, l.getD k 0 = x := ⟨_, rfl⟩
        rw [hxe] at hcell hst
        have HST := Lib.hid hst
        have HXE := Lib.hid hxe
        have hlk : ((l.take k ++ List.replicate (l.length - k) 0).length : Int) = l.length := by simp; omega
        have HLK := Lib.hid hlk
        clear hst hxe hx hlk
        have q1 : (0 : Int) ≤ k := by omega
        have q2 : (k : Int) < l.length := by omega
        go_wp2_with (first | (go_at_call 21; (with_reducible refine (set_c _ _ _ _ _ _ _ HAr.out (HXE.out ▸ HX.out) ⟨q1, by rw [HLK.out]; exact q2⟩).mono ?_); rintro e w3 ⟨rfl, ha3, hf3⟩))
        rw [HST.out] at ha3
        have hf4 : Fr w w3 (fun _ => False) := HFr.out.then_ hf3 (fun i hi hlt => by have := HI2.out i hi; omega)
        have HA3 := Lib.hid ha3
        have HF3 := Lib.hid hf4
        clear ha3 hf3 hf4 HAr HFr
        go_wp2
        go_roundw
        case rel => exact ⟨k + 1, by omega, by go_num, HA3, HF3⟩
        case measure => simp [intOf]; omega
      · have hke : k = l.length := by omega
        have hfin : l.take k ++ List.replicate (l.length - k) 0 = l := by rw [hke]; simp
        have HFIN := Lib.hid hfin
        clear hfin
        go_wp2
        go_ret
        refine ⟨_, v2, rfl, ?_, HFr.out, Nat.le_refl _, HI2.out⟩
        have := HAr.out
        rw [HFIN.out] at this
        exact this
  · have hl0 : l = [] := List.eq_nil_of_length_eq_zero (by omega)
    subst hl0
    clear hA HLT
    simp only [List.length_nil] at *
    go_enter Try.func31, Try.ntmps31
    go_wp2_with (first | (go_at_call 17; (with_reducible refine (new_c _ _).mono ?_); rintro e w1 ⟨rfl, ha, hf⟩))
    have hsz2 : newSize more = ((0 : Nat) : Int) + more := by have := HSZ.out; simpa using this
    rw [hsz2] at ha
    have htk : (0 : Int) ≤ (((0 : Nat) : Int) + more) - (([] : List Int).length : Int) := by simp; omega
    have HA := Lib.hid ha
    have HF := Lib.hid hf
    have HTK := Lib.hid htk
    clear ha hf htk hsz2
    go_wp2_with (first | (go_at_call 19; (with_reducible refine (take_i _ _ [] _ 0 _ HA.out (Int.le_refl 0) HTK.out).mono ?_); rintro e w2 ⟨rfl, v2, ha2, hf2, hn2⟩))
    simp only [List.nil_append, Int.toNat_zero, List.replicate_zero] at ha2
    have hf02 : Fr w w2 (fun _ => False) := HF.out.then_ hf2 (fun i hi hlt => hi.elim (fun e => by omega) (fun e => by simp [InBlk, Value.ownBlock] at e))
    have hin2 : ∀ k, InBlk v2 k → w.heap.size ≤ k := fun k hk => (hn2 k hk).elim (fun e => by simp [InBlk, Value.ownBlock] at e) (fun e => Nat.le_trans HF.out.size e)
    have HA2 := Lib.hid ha2
    have HF2 := Lib.hid hf02
    have HI2 := Lib.hid hin2
    clear ha2 hf2 hn2 hf02 hin2 HA HF hsum hsum2
    go_wp2
    refine wp_loop_rounds 1 ?_
    rw [rounds_succ]
    go_wp2
    go_ret
    exact ⟨_, v2, rfl, HA2.out, HF2.out, Nat.le_refl _, HI2.out⟩
end Go.Proofs.Ytjiaaefpepdoeaa

/-
  CONTRACTS: law 8's awake (true, and what was there is left), Mem. Conditions: those of each.
-/
namespace Go.Proofs.Ytjiaaefpepdoeaa
open Go.RowKit Md
set_option linter.unusedVariables false

set_option maxHeartbeats 1000000 in
theorem awake8_c (w : World) : Calls Try.prog 16 #[] w fun e w' => e = .returned (.bool true) ∧ Fr w w' (fun _ => False) := by
  go_enter Try.func16, Try.ntmps16
  go_wp2_with (first | (go_at_call 17; (with_reducible refine (new_c _ _).mono ?_); rintro e w1 ⟨rfl, ha, hf⟩))
  rw [newSize_of (by omega) (by omega)] at ha
  have HA := Lib.hid ha
  have HF := Lib.hid hf
  clear ha hf
  go_wp2_with (first | (go_at_call 19; (with_reducible refine (take_i _ _ [] 4 3 _ HA.out (by omega) (by simp only [List.length_nil]; omega)).mono ?_); rintro e w2 ⟨rfl, v2, ha2, hf2, hn2⟩))
  have hf02 : Fr w w2 (fun _ => False) := HF.out.then_ hf2 (fun i hi hlt => hi.elim (fun e => by omega) (fun e => by simp [InBlk, Value.ownBlock] at e))
  have hin2 : ∀ k, InBlk v2 k → w.heap.size ≤ k := fun k hk => (hn2 k hk).elim (fun e => by simp [InBlk, Value.ownBlock] at e) (fun e => Nat.le_trans HF.out.size e)
  have e3 : ([] : List Int) ++ List.replicate (3 : Int).toNat 0 = [0, 0, 0] := rfl
  rw [e3] at ha2
  have HA2 := Lib.hid ha2
  have HF2 := Lib.hid hf02
  have HI2 := Lib.hid hin2
  clear ha2 hf2 hn2 hf02 hin2 HA HF e3
  go_wp2_with (first | (go_at_call 19; (with_reducible refine (take_no _ _ [0, 0, 0] 4 2 _ HA2.out (by simp only [List.length_cons, List.length_nil]; omega)).mono ?_); rintro e w3 ⟨rfl, nd, rfl⟩))
  have hd : Drawn w2 (w2.drewN nd) := ⟨nd, rfl⟩
  have ha3 : Ar 101 (w2.drewN nd) w.heap.size v2 [0, 0, 0] 4 := HA2.out.keep (hd.fr (fun _ => False)) (fun h => h) (fun _ _ h => h)
  have HA3 := Lib.hid ha3
  clear ha3 hd
  go_wp2_with (first | (go_at_call 21; (with_reducible refine (set_c _ _ [0, 0, 0] 4 2 5 _ HA3.out (by unfold okW; omega) (by simp only [List.length_cons, List.length_nil]; omega)).mono ?_); rintro e w4 ⟨rfl, ha4, hf4⟩))
  have HA4 := Lib.hid ha4
  have hf04 : Fr w w4 (fun _ => False) := (HF2.out.drewN nd).then_ hf4 (fun i hi hlt => by have := HI2.out i hi; omega)
  have HF4 := Lib.hid hf04
  clear ha4 hf4 hf04
  go_wp2_with (first | (go_at_call 27; (with_reducible refine (used_c _ _ _ _ _ HA4.out).mono ?_); rintro e w' ⟨rfl, rfl⟩) | (go_at_call 28; (with_reducible refine (size_c _ _ _ _ _ HA4.out).mono ?_); rintro e w' ⟨rfl, rfl⟩))
  go_ret
  exact ⟨by first | rfl | (simp; done), HF4.out⟩
end Go.Proofs.Ytjiaaefpepdoeaa

/-
  TWO ARENAS SIDE BY SIDE: what one's call leaves of the other. Conditions: their rows lie apart; their types are two.
-/
namespace Go.Proofs.Ytjiaaefpepdoeaa
open Go.RowKit Md
set_option linter.unusedVariables false

/-- What a call on an arena has done: new words, a new size; nothing but its own blocks is touched. -/
def Chg (T : TypeId) (w w' : World) (p : Nat) (v v' : Value) (ws' : List Int) (size' : Int) : Prop :=
  Ar T w' p v' ws' size' ∧ Fr w w' (fun i => i = p ∨ InBlk v i) ∧ ∀ k, InBlk v' k → InBlk v k ∨ w.heap.size ≤ k
def Apt (v u : Value) : Prop := ∀ k, InBlk v k → ¬ InBlk u k
section
variable {T T' : TypeId} {w w1 : World} {p q : Nat} {v v' u : Value} {ws ws' ws2 : List Int} {s s' s2 : Int} {S : Nat → Prop}
theorem Ar.row_ne (ha : Ar T w p v ws s) (hm : Ar T' w q u ws2 s2) : ∀ k, InBlk u k → k ≠ p := by
  intro k hk e
  obtain ⟨cur, hc⟩ := hm.own.elem k hk
  rw [e, ha.blk] at hc
  simp at hc
  exact ha.ty hc.2
theorem Ar.ptr_ne (ha : Ar T w p v ws s) (hm : Ar T' w q u ws2 s2) (ht : T ≠ T') : q ≠ p := by
  intro e
  have h1 := ha.blk
  rw [← e, hm.blk] at h1
  simp at h1
  exact ht h1.2.symm
theorem Apt.symm (h : Apt v u) : Apt u v := fun k h1 h2 => h k h2 h1
theorem Chg.other (h : Chg T w w1 p v v' ws' s') (ha : Ar T w p v ws s) (hm : Ar T' w q u ws2 s2) (ht : T ≠ T') (hd : Apt v u) : Ar T' w1 q u ws2 s2 ∧ Apt v' u := by
  have hne : InBlk v q → False := fun e => by
    obtain ⟨cur, hc⟩ := ha.own.elem q e
    rw [hm.blk] at hc
    simp at hc
    exact hm.ty hc.2
  refine ⟨hm.keep h.2.1 (fun e => e.elim (ha.ptr_ne hm ht) hne) (fun i hi e => e.elim (fun e => ha.row_ne hm i hi e) (fun e => hd i e hi)), fun k h1 h2 => ?_⟩
  · rcases h.2.2 k h1 with h3 | h3
    · exact hd k h3 h2
    · have := hm.own.lt k h2; omega
theorem Chg.of_set (h : Ar T w1 p v ws' s) (hf : Fr w w1 (InBlk v)) : Chg T w w1 p v v ws' s := ⟨h, hf.mono fun _ h _ => .inr h, fun k h => .inl h⟩
theorem Chg.of_cut (h : Ar T w1 p v' ws' s') (hf : Fr w w1 (fun i => i = p)) (hn : ∀ k, InBlk v' k → InBlk v k) : Chg T w w1 p v v' ws' s' := ⟨h, hf.mono fun _ h _ => .inl h, fun k h => .inl (hn k h)⟩
theorem Chg.same (h : Ar T w p v ws s) : Chg T w w p v v ws s := ⟨h, Fr.refl _ _, fun k h => .inl h⟩
theorem Ar.drew (h : Ar T w p v ws s) : Ar T w.drew p v ws s := ⟨h.blk, h.own, h.le, h.mx, h.ok, h.ty⟩
theorem Ar.drewN (h : Ar T w p v ws s) (n : Nat) : Ar T (w.drewN n) p v ws s := h.keep ((Fr.refl w (fun _ => False)).drewN n) (fun h => h) (fun _ _ h => h)
theorem Ar.alloc (h : Ar T w p v ws s) (o : Obj) : Ar T (w.alloc o) p v ws s := h.keep ((Fr.refl w (fun _ => False)).alloc o) (fun h => h) (fun _ _ h => h)
theorem Ar.fr (h : Ar T w p v ws s) (hf : Fr w w1 (fun _ => False)) : Ar T w1 p v ws s := h.keep hf (fun h => h) (fun _ _ h => h)
end
end Go.Proofs.Ytjiaaefpepdoeaa

/-
  ONE CONTRACT A METHOD, for all arguments: Take, Set, Get, Cut of both arenas. No condition but that the arena stands.
-/
namespace Go.Proofs.Ytjiaaefpepdoeaa
open Go.RowKit Md
set_option linter.unusedVariables false
def takeB (ws : List Int) (s n : Int) : Bool := decide (0 ≤ n ∧ n ≤ s - ws.length)
def takeR (ws : List Int) (s n : Int) : Int := if takeB ws s n then ws.length else 0
def takeW (ws : List Int) (s n : Int) : List Int := if takeB ws s n then ws ++ List.replicate n.toNat 0 else ws
def setB (ws : List Int) (n : Int) : Bool := decide (0 ≤ n ∧ n < ws.length)
def setW (ws : List Int) (n x : Int) : List Int := if setB ws n then wrAt ws n x else ws
def getR (ws : List Int) (n : Int) : Int := (rdAt ws n).getD 0
def getB (ws : List Int) (n : Int) : Bool := (rdAt ws n).isSome
def cutB (ws : List Int) (n s' : Int) : Bool := decide (0 ≤ n ∧ n ≤ ws.length ∧ n ≤ s' ∧ s' ≤ 1048576)
def cutW (ws : List Int) (n s' : Int) : List Int := if cutB ws n s' then ws.take n.toNat else ws
def cutS (ws : List Int) (s n s' : Int) : Int := if cutB ws n s' then s' else s
theorem Ar.chg_drawn {T : TypeId} {w w1 : World} {p : Nat} {v : Value} {ws : List Int} {s : Int} (h : Ar T w p v ws s) (hd : Drawn w w1) : Chg T w w1 p v v ws s :=
  ⟨h.fr (hd.fr _), hd.fr _, fun k h => .inl h⟩
theorem take_u (p : Nat) (v : Value) (ws : List Int) (s n : Int) (w : World) (h : Ar 101 w p v ws s) :
    Calls Try.prog 19 #[.pointer (some ⟨p, 0, none⟩), .int .i64 n] w fun e w' => e = .returned (.tuple #[.int .i64 (takeR ws s n), .bool (takeB ws s n)]) ∧ ∃ v', Chg 101 w w' p v v' (takeW ws s n) s := by
  cases hb : takeB ws s n with
  | true =>
    have h1 := of_decide_eq_true hb
    obtain ⟨k, rfl⟩ := Int.eq_ofNat_of_zero_le h1.1
    refine (take_c p v ws s k w h h1.2).mono ?_
    rintro e w' ⟨rfl, v', h2⟩
    refine ⟨by simp only [takeR, hb, if_true], v', ?_⟩
    simp only [takeW, hb, if_true]
    exact h2
  | false =>
    have h1 := of_decide_eq_false hb
    refine (take_no p v ws s n w h (by omega)).mono ?_
    rintro e w' ⟨rfl, h2⟩
    refine ⟨by simp only [takeR, hb]; rfl, v, ?_⟩
    simp only [takeW, hb]
    exact h.chg_drawn h2
theorem set_u (p : Nat) (v : Value) (ws : List Int) (s n x : Int) (w : World) (h : Ar 101 w p v ws s) (hx : okW x) :
    Calls Try.prog 21 #[.pointer (some ⟨p, 0, none⟩), .int .i64 n, .int .u64 x] w fun e w' => e = .returned (.bool (setB ws n)) ∧ Chg 101 w w' p v v (setW ws n x) s := by
  cases hb : setB ws n with
  | true =>
    refine (set_c p v ws s n x w h hx (of_decide_eq_true hb)).mono ?_
    rintro e w' ⟨rfl, h1, h2⟩
    refine ⟨rfl, ?_⟩
    simp only [setW, hb, if_true]
    exact Chg.of_set h1 h2
  | false =>
    refine (set_no p v ws s n x w h (of_decide_eq_false hb)).mono ?_
    rintro e w' ⟨rfl, rfl⟩
    refine ⟨rfl, ?_⟩
    simp only [setW, hb]
    exact Chg.same h
theorem get_u (p : Nat) (v : Value) (ws : List Int) (s n : Int) (w : World) (h : Ar 101 w p v ws s) :
    Calls Try.prog 23 #[.pointer (some ⟨p, 0, none⟩), .int .i64 n] w fun e w' => e = .returned (.tuple #[.int .u64 (getR ws n), .bool (getB ws n)]) ∧ w = w' := by
  cases hb : rdAt ws n with
  | some r => simp only [getR, getB, hb, Option.getD_some, Option.isSome_some]; exact get_c p v ws s n r w h hb
  | none => simp only [getR, getB, hb, Option.getD_none, Option.isSome_none]; exact get_no p v ws s n w h hb
theorem cut_u (p : Nat) (v : Value) (ws : List Int) (s n s' : Int) (w : World) (h : Ar 101 w p v ws s) :
    Calls Try.prog 25 #[.pointer (some ⟨p, 0, none⟩), .int .i64 n, .int .i64 s'] w fun e w' => e = .returned (.bool (cutB ws n s')) ∧ ∃ v', Chg 101 w w' p v v' (cutW ws n s') (cutS ws s n s') := by
  cases hb : cutB ws n s' with
  | true =>
    have h1 := of_decide_eq_true hb
    obtain ⟨k, rfl⟩ := Int.eq_ofNat_of_zero_le h1.1
    refine (cut_c p v ws s k s' w h (by omega) h1.2.2.1 h1.2.2.2).mono ?_
    rintro e w' ⟨rfl, v', h2, h3, h4⟩
    refine ⟨rfl, v', ?_⟩
    simp only [cutW, cutS, hb, if_true]
    exact Chg.of_cut h2 h3 h4
  | false =>
    have h1 := of_decide_eq_false hb
    refine (cut_no p v ws s n s' w h (by omega)).mono ?_
    rintro e w' ⟨rfl, rfl⟩
    refine ⟨rfl, v, ?_⟩
    simp only [cutW, cutS, hb]
    exact Chg.same h
theorem mtake_u (p : Nat) (v : Value) (ws : List Int) (s n : Int) (w : World) (h : Ar 41 w p v ws s) :
    Calls Try.prog 20 #[.pointer (some ⟨p, 0, none⟩), .int .i64 n] w fun e w' => e = .returned (.tuple #[.int .i64 (takeR ws s n), .bool (takeB ws s n)]) ∧ ∃ v', Chg 41 w w' p v v' (takeW ws s n) s := by
  cases hb : takeB ws s n with
  | true =>
    have h1 := of_decide_eq_true hb
    obtain ⟨k, rfl⟩ := Int.eq_ofNat_of_zero_le h1.1
    refine (mtake_c p v ws s k w h h1.2).mono ?_
    rintro e w' ⟨rfl, v', h2⟩
    refine ⟨by simp only [takeR, hb, if_true], v', ?_⟩
    simp only [takeW, hb, if_true]
    exact h2
  | false =>
    have h1 := of_decide_eq_false hb
    refine (mtake_no p v ws s n w h (by omega)).mono ?_
    rintro e w' ⟨rfl, h2⟩
    refine ⟨by simp only [takeR, hb]; rfl, v, ?_⟩
    simp only [takeW, hb]
    exact h.chg_drawn h2
theorem mset_u (p : Nat) (v : Value) (ws : List Int) (s n x : Int) (w : World) (h : Ar 41 w p v ws s) (hx : okW x) :
    Calls Try.prog 22 #[.pointer (some ⟨p, 0, none⟩), .int .i64 n, .int .u64 x] w fun e w' => e = .returned (.bool (setB ws n)) ∧ Chg 41 w w' p v v (setW ws n x) s := by
  cases hb : setB ws n with
  | true =>
    refine (mset_c p v ws s n x w h hx (of_decide_eq_true hb)).mono ?_
    rintro e w' ⟨rfl, h1, h2⟩
    refine ⟨rfl, ?_⟩
    simp only [setW, hb, if_true]
    exact Chg.of_set h1 h2
  | false =>
    refine (mset_no p v ws s n x w h (of_decide_eq_false hb)).mono ?_
    rintro e w' ⟨rfl, rfl⟩
    refine ⟨rfl, ?_⟩
    simp only [setW, hb]
    exact Chg.same h
theorem mget_u (p : Nat) (v : Value) (ws : List Int) (s n : Int) (w : World) (h : Ar 41 w p v ws s) :
    Calls Try.prog 24 #[.pointer (some ⟨p, 0, none⟩), .int .i64 n] w fun e w' => e = .returned (.tuple #[.int .u64 (getR ws n), .bool (getB ws n)]) ∧ w = w' := by
  cases hb : rdAt ws n with
  | some r => simp only [getR, getB, hb, Option.getD_some, Option.isSome_some]; exact mget_c p v ws s n r w h hb
  | none => simp only [getR, getB, hb, Option.getD_none, Option.isSome_none]; exact mget_no p v ws s n w h hb
theorem mcut_u (p : Nat) (v : Value) (ws : List Int) (s n s' : Int) (w : World) (h : Ar 41 w p v ws s) :
    Calls Try.prog 26 #[.pointer (some ⟨p, 0, none⟩), .int .i64 n, .int .i64 s'] w fun e w' => e = .returned (.bool (cutB ws n s')) ∧ ∃ v', Chg 41 w w' p v v' (cutW ws n s') (cutS ws s n s') := by
  cases hb : cutB ws n s' with
  | true =>
    have h1 := of_decide_eq_true hb
    obtain ⟨k, rfl⟩ := Int.eq_ofNat_of_zero_le h1.1
    refine (mcut_c p v ws s k s' w h (by omega) h1.2.2.1 h1.2.2.2).mono ?_
    rintro e w' ⟨rfl, v', h2, h3, h4⟩
    refine ⟨rfl, v', ?_⟩
    simp only [cutW, cutS, hb, if_true]
    exact Chg.of_cut h2 h3 h4
  | false =>
    have h1 := of_decide_eq_false hb
    refine (mcut_no p v ws s n s' w h (by omega)).mono ?_
    rintro e w' ⟨rfl, rfl⟩
    refine ⟨rfl, v, ?_⟩
    simp only [cutW, cutS, hb]
    exact Chg.same h
end Go.Proofs.Ytjiaaefpepdoeaa
