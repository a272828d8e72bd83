/-
  TEXTS JOINED FOR A CLAIM (SlideMeans): Bits Fr Pure Cls Ar Zer Ar2 Mem Rd Cpy Fill Aw8 Two Uni Obj Obs Thr Lnk Thd Lse Ints Sn0 Mov Dwn Up Liv. Conditions: none beyond those that each theorem states.
-/
import Derived.Laws.BitsLemmas
import Derived.Laws.Bits64
import Derived.RowKit
import Derived.Test.YtjiaaefpepdoeaaDoorZ00SlideMeans
import Derived.Test.YtjiaaefpepdoeaaDoorRows
import Derived.WalkKit
import Derived.Lib.Hide
import Derived.WalkSpells
import Derived.Deep.Draws
import Derived.Test.YtjiaaefpepdoeaaDoorZ28SlideMeans
import Derived.Deep.QuietTactic
import Derived.BigQuiet
import Derived.Outline
import Derived.Lib.AppendZerosOnto
import Derived.Deep.AppendSrc
import Derived.LoopTactic
import Derived.Deep.DeepCutAuto
import Derived.Deep.LoopGhost
import Derived.Deep.RegionHeld3
import Derived.Laws.OwnMore
import Derived.Lib.AppendZeros
import Derived.IntWalk
namespace Go.Proofs.YtjiaaefpepdoeaaDoor.Md
open Go Go.RowKit
set_option linter.unusedVariables false
theorem wraps_u64 (n : Int) (h₀ : 0 ≤ n) (h₁ : n < 2 ^ 64) : IntKind.u64.wrap n = n := by rw [IntKind.wrap_u64]; omega
theorem wraps_i64 (n : Int) (h₀ : 0 ≤ n) (h₁ : n < 2 ^ 63) : IntKind.i64.wrap n = n := by rw [IntKind.wrap_i64]; omega
theorem u64_and15 {x : Int} (h : okW x) : bits .and .u64 x 15 = x % 16 := bits_mask .u64 64 (by decide) wraps_u64 4 (by decide) x h.1 (by have := h.2; omega)
theorem i64_and {x : Int} (i : Nat) (hi : i ≤ 63) (h0 : 0 ≤ x) (h1 : x < 2 ^ 63) : bits .and .i64 x (2 ^ i - 1) = x % 2 ^ i := bits_mask .i64 63 (by decide) wraps_i64 i hi x h0 h1
theorem i64_and1 {x : Int} (h0 : 0 ≤ x) (h1 : x < 2 ^ 63) : bits .and .i64 x 1 = x % 2 := i64_and 1 (by decide) h0 h1
theorem i64_and3 {x : Int} (h0 : 0 ≤ x) (h1 : x < 2 ^ 63) : bits .and .i64 x 3 = x % 4 := i64_and 2 (by decide) h0 h1
theorem i64_and1048575 {x : Int} (h0 : 0 ≤ x) (h1 : x < 2 ^ 63) : bits .and .i64 x 1048575 = x % 1048576 := i64_and 20 (by decide) h0 h1
theorem i64_bit {x : Int} (h0 : 0 ≤ x) (h1 : x < 2 ^ 63) : bits .and .i64 x 4 = (x / 4 % 2) * 4 := by
 obtain ⟨a, rfl⟩ := Int.eq_ofNat_of_zero_le h0
 have ha : a < 2 ^ 63 := by exact_mod_cast h1
 have e := (bits_nat .i64 63 (by decide) wraps_i64 a 4 ha (by decide)).1
 have e2 : a &&& 4 = (a / 4 % 2) * 4 := by
  have h7 : a &&& 7 = a % 8 := Nat.and_two_pow_sub_one_eq_mod a 3
  have h4 : a &&& 4 = (a % 8) &&& 4 := by rw [← h7, Nat.and_assoc]; rfl
  have h8 : a / 4 % 2 = (a % 8) / 4 % 2 := by omega
  rw [h4, h8]
  have hlt : a % 8 < 8 := Nat.mod_lt _ (by decide)
  generalize a % 8 = m at hlt
  match m, hlt with
  | 0, _ => rfl
  | 1, _ => rfl
  | 2, _ => rfl
  | 3, _ => rfl
  | 4, _ => rfl
  | 5, _ => rfl
  | 6, _ => rfl
  | 7, _ => rfl
  | n + 8, h => omega
 have e3 : ((4 : Nat) : Int) = 4 := rfl
 rw [e3] at e
 rw [e, e2]
 omega
theorem i64_or {x y : Int} (i : Nat) (hx₀ : 0 ≤ x) (hx : x % 2 ^ i = 0) (hx₁ : x < 2 ^ 63) (hy₀ : 0 ≤ y) (hy : y < 2 ^ i) (hi : i ≤ 63) : bits .or .i64 x y = x + y :=
 bits_join .i64 63 (by decide) wraps_i64 i x y hx₀ hx hx₁ hy₀ hy (Int.lt_of_lt_of_le hy (by exact_mod_cast Nat.pow_le_pow_right (by decide : 0 < 2) hi))
theorem bits_or_comm (k : IntKind) (x y : Int) : bits .or k x y = bits .or k y x := by
 simp only [bits, BitVec.or_comm]
theorem of_bits {t n : Int} (h0 : 0 ≤ t) (h7 : t ≤ 7) (hf : fitsW n = true) :
  bits .or .u64 (IntKind.u64.wrap (IntKind.u64.wrap n * 16)) (IntKind.u64.wrap t) = ofW t n := by
 have e0 : ofW t n = n % 1152921504606846976 * 16 + t := by unfold ofW; exact if_pos ⟨h0, h7, hf⟩
 have e1 : IntKind.u64.wrap (IntKind.u64.wrap n * 16) = n % 1152921504606846976 * 16 := by
  rw [IntKind.wrap_u64, IntKind.wrap_u64]; omega
 have e2 : IntKind.u64.wrap t = t := wraps_u64 t h0 (by omega)
 rw [e0, e1, e2]
 exact bits_join .u64 64 (by decide) wraps_u64 4 _ t (by omega) (by omega) (by omega) h0 (by omega) (by omega)
theorem tag_bits {w : Int} (h : okW w) : wrap64 (bits .and .u64 w 15) = tagW w := by
 rw [u64_and15 h]; unfold wrap64 tagW; omega
theorem val_bits {w : Int} (h : okW w) : wrap64 w / 16 = valW w := by
 unfold wrap64 valW; unfold okW at h; split <;> omega
theorem fitsW_bits (n : Int) : (if n ≥ (-576460752303423488) then some (decide (n ≤ 576460752303423487)) else some false) = some (fitsW n) := by
 unfold fitsW
 by_cases h : n ≥ -576460752303423488
 ·rw [if_pos h]; simp [show -576460752303423488 ≤ n from h]
 ·rw [if_neg h]; simp [show ¬ (-576460752303423488 ≤ n) from h]
end Go.Proofs.YtjiaaefpepdoeaaDoor.Md
namespace Go.Proofs.YtjiaaefpepdoeaaDoor
open Go.RowKit
set_option linter.unusedVariables false
structure Fr (w w' : World) (S : Nat → Prop) : Prop where
 os : w'.os = w.os
 tape : w'.tape = w.tape
 output : w'.output = w.output
 size : w.heap.size ≤ w'.heap.size
 block : ∀ i, i < w.heap.size → ¬ S i → w'.heap[i]? = w.heap[i]?
section
variable {w w1 w2 : World} {S S1 S2 : Nat → Prop}
theorem Fr.refl (w : World) (S : Nat → Prop) : Fr w w S := ⟨rfl, rfl, rfl, Nat.le_refl _, fun _ _ _ => rfl⟩
theorem Fr.mono (h : Fr w w1 S) (k : ∀ i, S i → i < w.heap.size → S1 i) : Fr w w1 S1 := ⟨h.os, h.tape, h.output, h.size, fun i hi hn => h.block i hi fun hs => hn (k i hs hi)⟩
theorem Fr.trans (h : Fr w w1 S) (k : Fr w1 w2 S) : Fr w w2 S :=
 ⟨k.os.trans h.os, k.tape.trans h.tape, k.output.trans h.output, Nat.le_trans h.size k.size, fun i hi hn => (k.block i (Nat.lt_of_lt_of_le hi h.size) hn).trans (h.block i hi hn)⟩
theorem Fr.then_ (h : Fr w w1 S) (k : Fr w1 w2 S1) (hs : ∀ i, S1 i → i < w.heap.size → S i) : Fr w w2 S :=
 ⟨k.os.trans h.os, k.tape.trans h.tape, k.output.trans h.output, Nat.le_trans h.size k.size, fun i hi hn => (k.block i (Nat.lt_of_lt_of_le hi h.size) fun h1 => hn (hs i h1 hi)).trans (h.block i hi hn)⟩
theorem Fr.alloc (h : Fr w w1 S) (o : Obj) : Fr w (w1.alloc o) S :=
 ⟨h.os, h.tape, h.output, by simp; exact Nat.le_succ_of_le h.size, fun i hi hn => (heap_alloc_old w1 o (Nat.lt_of_lt_of_le hi h.size)).trans (h.block i hi hn)⟩
theorem Fr.drew (h : Fr w w1 S) : Fr w w1.drew S := ⟨h.os, h.tape, h.output, h.size, h.block⟩
theorem Fr.drewN (h : Fr w w1 S) (n : Nat) : Fr w (w1.drewN n) S := ⟨h.os, h.tape, h.output, h.size, h.block⟩
theorem Fr.setCell (h : Fr w w1 S) {a : Addr} (ha : a.block < w.heap.size → S a.block) (u : Value) : Fr w (w1.setCell a u) S :=
 ⟨h.os, h.tape, h.output, by simpa [World.setCell] using h.size, fun i hi hn => (Below.heap_setCell w1 a u i (fun e => hn (by subst e; exact ha hi))).trans (h.block i hi hn)⟩
theorem Fr.grown (h : Fr w w1 S) {row : Option Nat} (hg : w1.grownBy w2 row) (hr : ∀ k, row = some k → k < w.heap.size → S k) : Fr w w2 S :=
 ⟨hg.os.trans h.os, hg.tape.trans h.tape, hg.output.trans h.output, Nat.le_trans h.size hg.size, fun i hi hn => (hg.block i (Nat.lt_of_lt_of_le hi h.size) fun e => hn (hr i e.symm hi)).trans (h.block i hi hn)⟩
theorem Fr.of_below (h : Below w.heap.size w w1) (S : Nat → Prop) : Fr w w1 S := ⟨h.os, h.tape, h.output, h.size, fun i hi _ => h.block i hi⟩
theorem Fr.below (h : Fr w w1 fun _ => False) : Below w.heap.size w w1 := ⟨h.os, h.tape, h.output, h.size, fun i hi => h.block i hi fun h => h⟩
theorem Fr.cell (h : Fr w w1 S) {a : Addr} {u : Value} (hc : w.cell? a = some u) (hn : ¬ S a.block) : w1.cell? a = some u :=
 (World.cell?_of_block (h.block a.block (World.block_lt_of_cell? w a hc) hn)).trans hc
theorem Fr.blk (h : Fr w w1 S) {g : Nat} {o : Obj} (hc : w.heap[g]? = some o) (hn : ¬ S g) : w1.heap[g]? = some o :=
 (h.block g (Array.getElem?_eq_some_iff.1 hc).1 hn).trans hc
end
def uw (ws : List Int) : List Value := ws.map (Value.int .u64)
theorem uw_length (ws : List Int) : (uw ws).length = ws.length := by simp [uw]
def Own (w : World) (e : TypeId) (v : Value) (xs : List Value) : Prop := w.ownsRow 0 e 1 v xs.length xs
def InBlk (v : Value) (i : Nat) : Prop := v.ownBlock = some i
section
variable {w w1 : World} {e : TypeId} {v : Value} {xs : List Value} {S : Nat → Prop}
theorem Own.nil (w : World) (e : TypeId) : Own w e (.slice none 0 0) [] := World.ownsRow_nil w 0 e 1
theorem Own.keep (h : Own w e v xs) (hf : Fr w w1 S) (hn : ∀ i, InBlk v i → ¬ S i) : Own w1 e v xs := by
 refine ⟨h.1, ?_⟩
 rcases h.2 with h0 | ⟨g, cap, cur, rfl, hb, hg, rest⟩
 ·exact .inl h0
 ·exact .inr ⟨g, cap, cur, rfl, hb, hf.blk hg (hn g (by simp [InBlk, Value.ownBlock])), rest⟩
theorem Own.form (h : Own w e v xs) : (v = .slice none 0 0 ∧ xs = []) ∨ ∃ g cap, v = .slice (some ⟨g, 0, none⟩) xs.length cap ∧ xs.length ≤ cap ∧ cap ≤ maxLen ∧ g < w.heap.size ∧ (∀ i, i < xs.length → w.cell? ⟨g, i, none⟩ = xs[i]?) ∧ ∀ i, w.frozen? ⟨g, i, none⟩ = false := by
 rcases h.2 with ⟨rfl, h0⟩ | ⟨g, cap, cur, rfl, hb, hg, hl, hm, hs, ht⟩
 ·exact .inl ⟨rfl, List.eq_nil_of_length_eq_zero h0⟩
 ·refine .inr ⟨g, cap, rfl, hl, hm, (Array.getElem?_eq_some_iff.1 hg).1, fun i hi => ?_, fun i => by simp [World.frozen?, hg]⟩
  rw [cell_of_row w g i cur e (0, 0) hg]
  rw [Nat.mul_one] at ht
  have h2 : xs[i]? = (cur.toList.take xs.length)[i]? := by rw [ht]
  rw [h2, List.getElem?_take, if_pos hi]
  simp
theorem Own.lt (h : Own w e v xs) : ∀ i, InBlk v i → i < w.heap.size := fun i hi => (World.ownsRow.lt h i hi).2
theorem Own.elem (h : Own w e v xs) : ∀ i, InBlk v i → ∃ cur, w.heap[i]? = some (.cells cur e (0, 0)) := by
 intro i hi
 rcases h.2 with ⟨rfl, _⟩ | ⟨g, cap, cur, rfl, hb, hg, _⟩
 ·simp [InBlk, Value.ownBlock] at hi
 ·simp [InBlk, Value.ownBlock] at hi; subst hi; exact ⟨cur, hg⟩
end
end Go.Proofs.YtjiaaefpepdoeaaDoor
namespace Go.Proofs.YtjiaaefpepdoeaaDoor.Wd
open Go.RowKit Go.Proofs.YtjiaaefpepdoeaaDoor.PSlideMeans Go.Proofs.YtjiaaefpepdoeaaDoorW.PrintWords Go.Proofs.YtjiaaefpepdoeaaDoorW.PrintLast
open Go.Proofs.YtjiaaefpepdoeaaDoor.Md
set_option linter.unusedVariables false
theorem none_eq : word_none.f = some 4 := rfl
theorem fits_eq (n : Int) : word_Fits.f n = some (fitsW n) := fitsW_bits n
theorem rfits_eq (n : Int) : tenementref1_Fits.f n = some (fitsW n) := fitsW_bits n
theorem of_eq (t n : Int) : word_Of.f t n = some (ofW t n) := by
 unfold word_Of.f
 rw [none_eq, fits_eq]
 simp only [Option.bind_some]
 by_cases h0 : t < 0
 ·rw [if_pos h0]; unfold ofW; rw [if_neg (by omega)]
 rw [if_neg h0]
 by_cases h7 : t > 7
 ·rw [if_pos h7]; unfold ofW; rw [if_neg (by omega)]
 rw [if_neg h7]
 by_cases hf : fitsW n = true
 ·rw [if_pos hf, of_bits (by omega) (by omega) hf]
 ·rw [if_neg hf]; unfold ofW; rw [if_neg (fun h => hf h.2.2)]
theorem rof_eq (t n : Int) : tenementref1_Of.f t n = some (ofW t n) := by
 unfold tenementref1_Of.f
 rw [rfits_eq]
 simp only [Option.bind_some]
 by_cases h0 : t < 0
 ·rw [if_pos h0]; unfold ofW; rw [if_neg (by omega)]
 rw [if_neg h0]
 by_cases h7 : t > 7
 ·rw [if_pos h7]; unfold ofW; rw [if_neg (by omega)]
 rw [if_neg h7]
 by_cases hf : fitsW n = true
 ·rw [if_pos hf, of_bits (by omega) (by omega) hf]
 ·rw [if_neg hf]; unfold ofW; rw [if_neg (fun h => hf h.2.2)]
theorem tag_eq {w : Int} (h : okW w) : word_Tag.f w = some (tagW w) := by unfold word_Tag.f; rw [tag_bits h]
theorem rtag_eq {w : Int} (h : okW w) : tenementref1_Tag.f w = some (tagW w) := by unfold tenementref1_Tag.f; rw [tag_bits h]
theorem val_eq {w : Int} (h : okW w) : word_Value.f w = some (valW w) := by unfold word_Value.f; rw [val_bits h]
theorem rval_eq {w : Int} (h : okW w) : tenementref1_Value.f w = some (valW w) := by unfold tenementref1_Value.f; rw [val_bits h]
theorem of_c (t n r : Int) (w : World) (h : ofW t n = r) : Calls Tryd.prog 88 #[.int .i64 t, .int .i64 n] w fun e w' => e = .returned (.int .u64 r) ∧ Drawn0 w w' := word_Of.calls t n r w (by rw [of_eq, h])
theorem tag_c (x r : Int) (w : World) (hx : okW x) (h : tagW x = r) : Calls Tryd.prog 60 #[.int .u64 x] w fun e w' => e = .returned (.int .i64 r) ∧ Drawn0 w w' := word_Tag.calls x r w (by rw [tag_eq hx, h])
theorem val_c (x r : Int) (w : World) (hx : okW x) (h : valW x = r) : Calls Tryd.prog 61 #[.int .u64 x] w fun e w' => e = .returned (.int .i64 r) ∧ Drawn0 w w' := word_Value.calls x r w (by rw [val_eq hx, h])
theorem rof_c (t n r : Int) (w : World) (h : ofW t n = r) : Calls Tryd.prog 27 #[.int .i64 t, .int .i64 n] w fun e w' => e = .returned (.int .u64 r) ∧ Drawn0 w w' := tenementref1_Of.calls t n r w (by rw [rof_eq, h])
theorem rtag_c (x r : Int) (w : World) (hx : okW x) (h : tagW x = r) : Calls Tryd.prog 50 #[.int .u64 x] w fun e w' => e = .returned (.int .i64 r) ∧ Drawn0 w w' := tenementref1_Tag.calls x r w (by rw [rtag_eq hx, h])
theorem rval_c (x r : Int) (w : World) (hx : okW x) (h : valW x = r) : Calls Tryd.prog 49 #[.int .u64 x] w fun e w' => e = .returned (.int .i64 r) ∧ Drawn0 w w' := tenementref1_Value.calls x r w (by rw [rval_eq hx, h])
theorem pack_bits (h : Hdr) (hm : mayH h = true) :
  (if h.neg = true then bits .or .i64 (bits .or .i64 (bits .or .i64 h.kind (wrap64 (h.size * 8))) (wrap64 (h.tree * 8388608))) 4 else bits .or .i64 (bits .or .i64 h.kind (wrap64 (h.size * 8))) (wrap64 (h.tree * 8388608))) = packH h := by
 rw [mayH_iff] at hm
 have e1 : wrap64 (h.size * 8) = h.size * 8 := by unfold wrap64; omega
 have e2 : wrap64 (h.tree * 8388608) = h.tree * 8388608 := by unfold wrap64; omega
 have e3 : bits .or .i64 h.kind (h.size * 8) = h.size * 8 + h.kind := by
  rw [bits_or_comm]; exact i64_or 3 (by omega) (by omega) (by omega) (by omega) (by omega) (by omega)
 have e4 : bits .or .i64 (h.size * 8 + h.kind) (h.tree * 8388608) = h.tree * 8388608 + (h.size * 8 + h.kind) := by
  rw [bits_or_comm]; exact i64_or 23 (by omega) (by omega) (by omega) (by omega) (by omega) (by omega)
 rw [e1, e2, e3, e4]
 unfold packH
 cases hn : h.neg with
 | false => simp only [Bool.false_eq_true, if_false]; omega
 | true =>
  simp only [if_true]
  obtain ⟨a, ha⟩ : ∃ a, a = h.tree * 8388608 + (h.size * 8 + h.kind) := ⟨_, rfl⟩
  have k0 : 0 ≤ a := by omega
  have k1 : a < 8796093022208 := by omega
  have k2 : a % 8 = h.kind := by omega
  rw [← ha]
  -- the bit of worth 4 is not set: kind takes the two lowest, size begins at the fourth
  have e5 : bits .or .i64 a 4 = a + 4 := by
   have hsplit : a = (a / 8) * 8 + h.kind := by omega
   have s1 : bits .or .i64 ((a / 8) * 8) (4 + h.kind) = (a / 8) * 8 + (4 + h.kind) := i64_or 3 (by omega) (by omega) (by omega) (by omega) (by omega) (by omega)
   have s2 : bits .or .i64 ((a / 8) * 8) h.kind = (a / 8) * 8 + h.kind := i64_or 3 (by omega) (by omega) (by omega) (by omega) (by omega) (by omega)
   have s3 : bits .or .i64 4 h.kind = 4 + h.kind := i64_or 2 (by omega) (by omega) (by omega) (by omega) (by omega) (by omega)
   have s4 : bits .or .i64 (bits .or .i64 ((a / 8) * 8) h.kind) 4 = bits .or .i64 ((a / 8) * 8) (bits .or .i64 4 h.kind) := by
    rw [s2, s3]
    obtain ⟨x, hx⟩ := Int.eq_ofNat_of_zero_le (show 0 ≤ a / 8 * 8 by omega)
    obtain ⟨y, hy⟩ := Int.eq_ofNat_of_zero_le (show 0 ≤ h.kind by omega)
    have p63 : (2 : Nat) ^ 63 = 9223372036854775808 := by decide
    have b1 := (bits_nat .i64 63 (by decide) wraps_i64 x y (by omega) (by omega)).2
    have b2 := (bits_nat .i64 63 (by decide) wraps_i64 (x ||| y) 4 (Nat.or_lt_two_pow (by omega) (by omega)) (by decide)).2
    have b3 := (bits_nat .i64 63 (by decide) wraps_i64 4 y (by decide) (by omega)).2
    have b4 := (bits_nat .i64 63 (by decide) wraps_i64 x (4 ||| y) (by omega) (Nat.or_lt_two_pow (by decide) (by omega))).2
    rw [← hx, ← hy] at b1
    rw [← hy] at b3
    rw [← hx] at b4
    rw [s2] at b1
    rw [show ((4 : Nat) : Int) = 4 from rfl] at b2 b3
    rw [s3] at b3
    rw [← b1] at b2
    rw [← b3] at b4
    rw [b2, b4]
    congr 1
    rw [Nat.or_assoc, Nat.or_comm y 4]
   rw [s2, s3, s1, ← hsplit] at s4
   omega
  omega
theorem rmake_eq (h : Hdr) : tenementref1_Make.f 2 h.kind h.size h.tree h.neg = some (makeH h) := by
 have hno : mayH h = false → tenementref1_Make.j0 2 true h.kind h.size h.tree h.neg = some (makeH h) := fun hm => by
  rw [tenementref1_Make.j0, if_pos rfl]; unfold makeH; rw [hm]; rfl
 have hno' : ¬ mayH h = true → tenementref1_Make.j0 2 true h.kind h.size h.tree h.neg = some (makeH h) := fun hm => hno (by simpa using hm)
 unfold tenementref1_Make.f
 by_cases k0 : h.kind < 0
 ·rw [if_pos k0]; exact hno' (fun hm => by rw [mayH_iff] at hm; omega)
 rw [if_neg k0]
 by_cases k3 : h.kind > 3
 ·rw [if_pos k3]; exact hno' (fun hm => by rw [mayH_iff] at hm; omega)
 rw [if_neg k3]
 by_cases z0 : h.size < 0
 ·rw [if_pos z0]; exact hno' (fun hm => by rw [mayH_iff] at hm; omega)
 rw [if_neg z0]
 by_cases z3 : h.size ≥ 1048576
 ·rw [if_pos z3]; exact hno' (fun hm => by rw [mayH_iff] at hm; omega)
 rw [if_neg z3]
 by_cases t0 : h.tree < 0
 ·rw [if_pos t0]; exact hno' (fun hm => by rw [mayH_iff] at hm; omega)
 rw [if_neg t0]
 by_cases t3 : h.tree ≥ 1048576
 ·rw [decide_eq_true t3]; exact hno' (fun hm => by rw [mayH_iff] at hm; omega)
 rw [decide_eq_false t3]
 have hm : mayH h = true := by rw [mayH_iff]; omega
 rw [tenementref1_Make.j0, if_neg (by decide)]
 have hp := pack_bits h hm
 have hmk : makeH h = ofW 6 (packH h) := by unfold makeH; rw [if_pos hm]
 cases hn : h.neg with
 | true =>
  rw [hn, if_pos rfl] at hp
  rw [if_pos rfl, hp, rof_eq, hmk]; rfl
 | false =>
  rw [hn, if_neg (by decide)] at hp
  rw [if_neg (by decide), hp, rof_eq, hmk]; rfl
def readP (w : Int) : Int × Int × Int × Bool × Bool := match readH w with
 | some h => (h.kind, h.size, h.tree, h.neg, true)
 | none => (0, 0, 0, false, false)
theorem val_lt {w : Int} (h : okW w) : valW w < 576460752303423488 := by unfold valW; unfold okW at h; split <;> omega
theorem read_eq {w : Int} (hw : okW w) : word_Read.f w = some (readP w) := by
 unfold word_Read.f readP
 rw [val_eq hw, tag_eq hw]
 simp only [Option.bind_some]
 have hlt := val_lt hw
 by_cases ht : tagW w = 6
 ·rw [if_pos ht]
  by_cases h0 : valW w < 0
  ·rw [if_pos h0, show readH w = none from by unfold readH; rw [if_neg (by omega)]]
  rw [if_neg h0]
  by_cases h1 : valW w / 8796093022208 = 0
  ·have hr : readH w = some (unpackH (valW w)) := by unfold readH; rw [if_pos (by omega)]
   rw [if_pos h1, hr, i64_and3 (by omega) (by omega), i64_and1048575 (by omega) (by omega), i64_and1048575 (by omega) (by omega), i64_and1 (by omega) (by omega)]
   have e3 : valW w / 8388608 % 1048576 = valW w / 8388608 := by omega
   rw [e3]
   unfold unpackH
   by_cases hb : valW w / 4 % 2 = 1
   ·simp [hb]
   ·simp [hb]
  ·rw [if_neg h1, show readH w = none from by unfold readH; rw [if_neg (by omega)]]
 ·rw [if_neg ht, show readH w = none from by unfold readH; rw [if_neg (by omega)]]
theorem rread_eq {w : Int} (hw : okW w) : tenementref1_Read.f w = some (readP w) := by
 unfold tenementref1_Read.f readP
 rw [rval_eq hw, rtag_eq hw]
 simp only [Option.bind_some]
 have hlt := val_lt hw
 by_cases ht : tagW w = 6
 ·rw [if_pos ht]
  by_cases h0 : valW w < 0
  ·rw [if_pos h0, show readH w = none from by unfold readH; rw [if_neg (by omega)]]
  rw [if_neg h0]
  by_cases h1 : valW w ≥ 8796093022208
  ·rw [if_pos h1, show readH w = none from by unfold readH; rw [if_neg (by omega)]]
  ·have hr : readH w = some (unpackH (valW w)) := by unfold readH; rw [if_pos (by omega)]
   rw [if_neg h1, hr, i64_and3 (by omega) (by omega), i64_and1048575 (by omega) (by omega), i64_bit (by omega) (by omega)]
   unfold unpackH
   by_cases hb : valW w / 4 % 2 = 1
   ·simp [hb]
   ·have hb0 : valW w / 4 % 2 = 0 := by omega
    simp [hb0]
 ·rw [if_neg ht, show readH w = none from by unfold readH; rw [if_neg (by omega)]]
theorem fields_eq (h : Hdr) : word_Fields.f h.kind h.size h.tree h.neg = some (fieldsH h) := by
 unfold word_Fields.f fieldsH
 split <;> first | rfl | (split <;> rfl)
theorem rfields_eq (h : Hdr) : tenementref1_Fields.f h.kind h.size h.tree h.neg = some (fieldsH h) := by
 unfold tenementref1_Fields.f fieldsH
 split <;> first | rfl | (split <;> rfl)
theorem rmake_c (k z t : Int) (n : Bool) (r : Int) (w : World) (h : makeH ⟨k, z, t, n⟩ = r) : Calls Tryd.prog 26 #[.agg #[.int .i64 k, .int .i64 z, .int .i64 t, .bool n]] w fun e w' => e = .returned (.int .u64 r) ∧ Below w.heap.size w w' := tenementref1_Make.calls 2 k z t n r w (by rw [← h]; exact rmake_eq ⟨k, z, t, n⟩)
theorem read_c (x k z t : Int) (n ok : Bool) (w : World) (hx : okW x) (h : readP x = (k, z, t, n, ok)) : Calls Tryd.prog 69 #[.int .u64 x] w fun e w' => e = .returned (.tuple #[.agg #[.int .i64 k, .int .i64 z, .int .i64 t, .bool n], .bool ok]) ∧ Below w.heap.size w w' := word_Read.calls x k z t n ok w (by rw [read_eq hx, h])
theorem rread_c (x k z t : Int) (n ok : Bool) (w : World) (hx : okW x) (h : readP x = (k, z, t, n, ok)) : Calls Tryd.prog 70 #[.int .u64 x] w fun e w' => e = .returned (.tuple #[.agg #[.int .i64 k, .int .i64 z, .int .i64 t, .bool n], .bool ok]) ∧ Below w.heap.size w w' := tenementref1_Read.calls x k z t n ok w (by rw [rread_eq hx, h])
theorem fields_c (k z t : Int) (n : Bool) (r : Int) (w : World) (h : fieldsH ⟨k, z, t, n⟩ = r) : Calls Tryd.prog 42 #[.agg #[.int .i64 k, .int .i64 z, .int .i64 t, .bool n]] w fun e w' => e = .returned (.int .i64 r) ∧ Below w.heap.size w w' := word_Fields.calls k z t n r w (by rw [← h]; exact fields_eq ⟨k, z, t, n⟩)
theorem rfields_c (k z t : Int) (n : Bool) (r : Int) (w : World) (h : fieldsH ⟨k, z, t, n⟩ = r) : Calls Tryd.prog 48 #[.agg #[.int .i64 k, .int .i64 z, .int .i64 t, .bool n]] w fun e w' => e = .returned (.int .i64 r) ∧ Below w.heap.size w w' := tenementref1_Fields.calls k z t n r w (by rw [← h]; exact rfields_eq ⟨k, z, t, n⟩)
end Go.Proofs.YtjiaaefpepdoeaaDoor.Wd
namespace Go.Proofs.YtjiaaefpepdoeaaDoor
structure Cw (S : World → Prop) where
 val : World
 prop : S val
theorem wp_region_cls {P : Program} {S : World → Prop} {id : Nat} {Q : Exit → Act → World → Prop} {a : Act} {w : World} {l : List Oper} (hm : P.follows .mixedOrders = true) (hB : Region.lexB .any l.toArray = true) (hS : S { w with drawn := w.drawn + 1 })
  (h : Nonempty (Cw S) → wpQuiet P l.toArray (fun w' => ∃ x : Cw S, w' = x.val) (fun a' => ∀ w', (∃ x : Cw S, w' = x.val) → Q .normal a' w') l a) : (Code.region id l.toArray true).wp P Q a w :=
 wp_region_quiet (C := fun w' => ∃ x : Cw S, w' = x.val) hm hB ⟨⟨_, hS⟩, rfl⟩ (by simpa using h ⟨⟨_, hS⟩⟩)
theorem Cw.call {P : Program} {S : World → Prop} {f : FuncId} {args : Array Value} {v : Value} {w : World} {R : World → Prop} (h : Calls P f args w fun e w' => e = .returned v ∧ R w') (k : ∀ w', R w' → S w') :
 Calls P f args w fun e w' => e = .returned v ∧ ∃ x : Cw S, w' = x.val := h.mono fun _ w' ⟨he, hr⟩ => ⟨he, ⟨w', k w' hr⟩, rfl⟩
end Go.Proofs.YtjiaaefpepdoeaaDoor
namespace Go.Proofs.YtjiaaefpepdoeaaDoor
open Go.RowKit Md
set_option linter.unusedVariables false
structure Ar (T : TypeId) (w : World) (p : Nat) (v : Value) (ws : List Int) (size : Int) : Prop where
 blk : w.heap[p]? = some (.cells #[v, .int .i64 size] T (0, 0))
 own : Own w 39 v (uw ws)
 le : (ws.length : Int) ≤ size
 mx : size ≤ 1048576
 ok : okWs ws
 ty : T ≠ 39
section
variable {T : TypeId} {w w1 : World} {p : Nat} {v : Value} {ws : List Int} {size : Int} {S : Nat → Prop}
theorem Ar.lt (h : Ar T w p v ws size) : p < w.heap.size := (Array.getElem?_eq_some_iff.1 h.blk).1
theorem Ar.c0 (h : Ar T w p v ws size) : w.cell? ⟨p, 0, none⟩ = some v := by simp [World.cell?, h.blk]
theorem Ar.c1 (h : Ar T w p v ws size) : w.cell? ⟨p, 1, none⟩ = some (.int .i64 size) := by simp [World.cell?, h.blk]
theorem Ar.fz (h : Ar T w p v ws size) (i : Nat) : w.frozen? ⟨p, i, none⟩ = false := by simp [World.frozen?, h.blk]
theorem Ar.ne (h : Ar T w p v ws size) : ∀ i, InBlk v i → i ≠ p := by
 intro i hi e
 obtain ⟨cur, hc⟩ := h.own.elem i hi
 rw [e, h.blk] at hc
 simp at hc
 exact h.ty hc.2
theorem Ar.keep (h : Ar T w p v ws size) (hf : Fr w w1 S) (hp : ¬ S p) (hn : ∀ i, InBlk v i → ¬ S i) : Ar T w1 p v ws size :=
 ⟨hf.blk h.blk hp, h.own.keep hf hn, h.le, h.mx, h.ok, h.ty⟩
theorem Ar.form (h : Ar T w p v ws size) : (v = .slice none 0 0 ∧ ws = []) ∨ ∃ g cap, v = .slice (some ⟨g, 0, none⟩) ws.length cap ∧ ws.length ≤ cap ∧ cap ≤ maxLen ∧ g < w.heap.size ∧ g ≠ p ∧ (∀ i, i < ws.length → w.cell? ⟨g, i, none⟩ = some (.int .u64 (ws.getD i 0))) ∧ ∀ i, w.frozen? ⟨g, i, none⟩ = false := by
 rcases h.own.form with ⟨hv, hx⟩ | ⟨g, cap, hv, hl, hm, hg, hc, hf⟩
 ·refine .inl ⟨hv, ?_⟩
  have : (uw ws).length = 0 := by rw [hx]; rfl
  rw [uw_length] at this
  exact List.eq_nil_of_length_eq_zero this
 ·rw [uw_length] at hv hl hc
  refine .inr ⟨g, cap, hv, hl, hm, hg, h.ne g (by rw [hv]; simp [InBlk, Value.ownBlock]), fun i hi => ?_, hf⟩
  rw [hc i hi]
  simp [uw, List.getD, hi]
theorem Ar.val (h : Ar T w p v ws size) : ∃ A cap, v = .slice A ws.length cap := by
 rcases h.form with ⟨rfl, rfl⟩ | ⟨g, cap, rfl, _⟩
 ·exact ⟨none, 0, rfl⟩
 ·exact ⟨_, _, rfl⟩
end
theorem in_c (p : Nat) (v : Value) (ws : List Int) (size i : Int) (w : World) (b : Bool) (h : Ar 112 w p v ws size) (hb : decide (0 ≤ i ∧ i < ws.length) = b) :
  Calls Tryd.prog 68 #[.pointer (some ⟨p, 0, none⟩), .int .i64 i] w fun e w' => e = .returned (.bool b) ∧ w = w' := by
 obtain ⟨A, cap, rfl⟩ := h.val
 have c0 := h.c0
 by_cases h0 : i < 0
 ·have e : b = false := by rw [← hb]; simp; omega
  subst e
  clear hb h
  go_enter Tryd.func68, Tryd.ntmps68
  go_wp2
  go_ret
  exact ⟨rfl, rfl⟩
 by_cases h1 : i < ws.length
 ·have e : b = true := by rw [← hb]; simp; omega
  subst e
  clear hb h
  have h0' : 0 ≤ i := by omega
  have d1 : decide (i < (ws.length : Int)) = true := by simpa using h1
  go_enter Tryd.func68, Tryd.ntmps68
  go_wp2
  go_ret
  exact ⟨by first | rfl | simp [h1], rfl⟩
 ·have e : b = false := by rw [← hb]; simp; omega
  subst e
  clear hb h
  have h0' : 0 ≤ i := by omega
  have d1 : decide (i < (ws.length : Int)) = false := by simpa using h1
  go_enter Tryd.func68, Tryd.ntmps68
  go_wp2
  go_ret
  exact ⟨by first | rfl | simp [h1], rfl⟩
theorem rdAt_some {xs : List Int} {i r : Int} (h : rdAt xs i = some r) : ∃ k : Nat, i = k ∧ k < xs.length ∧ xs.getD k 0 = r := by
 unfold rdAt at h
 split at h
 ·rename_i hc
  obtain ⟨k, rfl⟩ := Int.eq_ofNat_of_zero_le hc.1
  exact ⟨k, rfl, by omega, by simpa using h⟩
 ·cases h
theorem rdAt_none {xs : List Int} {i : Int} (h : rdAt xs i = none) : ¬ (0 ≤ i ∧ i < xs.length) := by
 unfold rdAt at h
 split at h
 ·cases h
 ·assumption
theorem rdAt_of {xs : List Int} {k : Nat} (h : k < xs.length) : rdAt xs k = some (xs.getD k 0) := by
 unfold rdAt; rw [if_pos ⟨by omega, by omega⟩]; simp
theorem get_c (p : Nat) (v : Value) (ws : List Int) (size i r : Int) (w : World) (h : Ar 112 w p v ws size) (hr : rdAt ws i = some r) :
  Calls Tryd.prog 43 #[.pointer (some ⟨p, 0, none⟩), .int .i64 i] w fun e w' => e = .returned (.tuple #[.int .u64 r, .bool true]) ∧ w = w' := by
 obtain ⟨k, rfl, hk, hkr⟩ := rdAt_some hr
 rcases h.form with ⟨_, rfl⟩ | ⟨g, cap, rfl, hl, hm, hg, hgp, hc, hf⟩
 ·simp at hk
 have c0 := h.c0
 have ck := hc k hk
 rw [hkr] at ck
 have H := Lib.hid h
 clear h hc hf hkr hr hgp hg hm
 go_enter Tryd.func43, Tryd.ntmps43
 go_wp2_with (first | (go_at_call 68; (with_reducible refine (in_c p _ ws size k _ true H.out (by simp; omega)).mono ?_); rintro e w' ⟨rfl, rfl⟩))
 go_ret2
 exact ⟨rfl, rfl⟩
theorem get_no (p : Nat) (v : Value) (ws : List Int) (size i : Int) (w : World) (h : Ar 112 w p v ws size) (hr : rdAt ws i = none) :
  Calls Tryd.prog 43 #[.pointer (some ⟨p, 0, none⟩), .int .i64 i] w fun e w' => e = .returned (.tuple #[.int .u64 0, .bool false]) ∧ w = w' := by
 have hn := rdAt_none hr
 have H := Lib.hid h
 have HN := Lib.hid hn
 clear h hr hn
 go_enter Tryd.func43, Tryd.ntmps43
 go_wp2_with (first | (go_at_call 68; (with_reducible refine (in_c p _ ws size i _ false H.out (by simpa using HN.out)).mono ?_); rintro e w' ⟨rfl, rfl⟩))
 go_ret2
 exact ⟨rfl, rfl⟩
theorem used_c (p : Nat) (v : Value) (ws : List Int) (size : Int) (w : World) (h : Ar 112 w p v ws size) :
  Calls Tryd.prog 21 #[.pointer (some ⟨p, 0, none⟩)] w fun e w' => e = .returned (.int .i64 ws.length) ∧ w = w' := by
 obtain ⟨A, cap, rfl⟩ := h.val
 have c0 := h.c0
 clear h
 go_enter Tryd.func21, Tryd.ntmps21
 go_wp2
 go_ret
 exact ⟨rfl, rfl⟩
theorem size_c (p : Nat) (v : Value) (ws : List Int) (size : Int) (w : World) (h : Ar 112 w p v ws size) :
  Calls Tryd.prog 77 #[.pointer (some ⟨p, 0, none⟩)] w fun e w' => e = .returned (.int .i64 size) ∧ w = w' := by
 have c1 := h.c1
 clear h
 go_enter Tryd.func77, Tryd.ntmps77
 go_wp2
 go_ret
 exact ⟨rfl, rfl⟩
theorem okWs_set {ws : List Int} {k : Nat} {x : Int} (h : okWs ws) (hx : okW x) : okWs (ws.set k x) := by
 intro y hy
 rcases List.mem_or_eq_of_mem_set hy with h1 | h1
 ·exact h y h1
 ·rw [h1]; exact hx
theorem Ar.set {T : TypeId} {w : World} {p g cap : Nat} {ws : List Int} {size x : Int} {k : Nat} (h : Ar T w p (.slice (some ⟨g, 0, none⟩) ws.length cap) ws size) (hk : k < ws.length) (hx : okW x) :
  Ar T (w.setCell ⟨g, k, none⟩ (.int .u64 x)) p (.slice (some ⟨g, 0, none⟩) ws.length cap) (ws.set k x) size ∧ Fr w (w.setCell ⟨g, k, none⟩ (.int .u64 x)) (fun i => i = g) := by
 have hgp : g ≠ p := h.ne g (by simp [InBlk, Value.ownBlock])
 have hfr : Fr w (w.setCell ⟨g, k, none⟩ (.int .u64 x)) (fun i => i = g) := Fr.setCell (S := fun i => i = g) (a := ⟨g, k, none⟩) (Fr.refl w _) (fun _ => rfl) _
 refine ⟨⟨hfr.blk h.blk (fun e => hgp e.symm), ?_, by simpa using h.le, h.mx, okWs_set h.ok hx, h.ty⟩, hfr⟩
 have ho := h.own
 rcases ho.2 with ⟨hv, _⟩ | ⟨g', cap', cur, hv, hb, hg, hl, hm, hs, ht⟩
 ·cases hv
 ·injection hv with h1 h2 h3
  injection h1 with h1
  injection h1 with h1
  subst h1
  subst h3
  refine ⟨by simp [uw], .inr ⟨g, cap, cur.setIfInBounds k (.int .u64 x), by simp [uw], Nat.zero_le _, ?_, by simpa [uw] using hl, hm, by simpa using hs, ?_⟩⟩
  ·simp [World.setCell, Array.getElem?_modify, hg]
  ·have e1 : (uw (ws.set k x)).length = (uw ws).length := by simp [uw]
   rw [e1]
   rw [Array.toList_setIfInBounds, List.take_set, ht]
   simp [uw, List.map_set]
theorem set_c (p : Nat) (v : Value) (ws : List Int) (size i x : Int) (w : World) (h : Ar 112 w p v ws size) (hx : okW x) (hi : 0 ≤ i ∧ i < ws.length) :
  Calls Tryd.prog 38 #[.pointer (some ⟨p, 0, none⟩), .int .i64 i, .int .u64 x] w fun e w' => e = .returned (.bool true) ∧ Ar 112 w' p v (wrAt ws i x) size ∧ Fr w w' (InBlk v) := by
 obtain ⟨k, rfl⟩ := Int.eq_ofNat_of_zero_le hi.1
 have hk : k < ws.length := by omega
 have e0 : wrAt ws k x = ws.set k x := by unfold wrAt; rw [if_pos hi]; simp
 rw [e0]
 rcases h.form with ⟨_, rfl⟩ | ⟨g, cap, rfl, hl, hm, hg, hgp, hc, hf⟩
 ·simp at hk
 have hs := h.set hk hx
 have c0 := h.c0
 have fk := hf k
 have ck := hc k hk
 have H := Lib.hid h
 have HS := Lib.hid hs
 clear h hc hf hgp hg hm hs hi e0 hx
 go_enter Tryd.func38, Tryd.ntmps38
 go_wp2_with (first | (go_at_call 68; (with_reducible refine (in_c p _ ws size k _ true H.out (by simp; omega)).mono ?_); rintro e w' ⟨rfl, rfl⟩))
 go_ret
 exact ⟨rfl, HS.out.1, HS.out.2.mono fun i hi _ => by simp [InBlk, Value.ownBlock, hi]⟩
def newSize (n : Int) : Int := if n < 0 ∨ n > 1048576 then 0 else n
theorem new_c (n : Int) (w : World) : Calls Tryd.prog 36 #[.int .i64 n] w fun e w' => e = .returned (.pointer (some ⟨w.heap.size, 0, none⟩)) ∧ Ar 112 w' w.heap.size (.slice none 0 0) [] (newSize n) ∧ Fr w w' (fun _ => False) := by
 have key : ∀ m : Int, 0 ≤ m → m ≤ 1048576 → Ar 112 (w.alloc (.cells #[.slice none 0 0, .int .i64 m] 112)) w.heap.size (.slice none 0 0) [] m ∧ Fr w (w.alloc (.cells #[.slice none 0 0, .int .i64 m] 112)) (fun _ => False) := fun m h0 h1 =>
  ⟨⟨heap_alloc_new w _, Own.nil _ _, by simpa using h0, h1, (fun _ h => by cases h), by decide⟩, (Fr.refl w _).alloc _⟩
 by_cases h0 : n < 0
 ·have K := Lib.hid (key 0 (by omega) (by omega))
  have e : newSize n = 0 := by unfold newSize; rw [if_pos (.inl h0)]
  rw [e]; clear e key
  go_enter Tryd.func36, Tryd.ntmps36
  go_wp2
  go_ret
  exact ⟨rfl, K.out⟩
 by_cases h1 : n > 1048576
 ·have K := Lib.hid (key 0 (by omega) (by omega))
  have e : newSize n = 0 := by unfold newSize; rw [if_pos (.inr h1)]
  rw [e]; clear e key
  go_enter Tryd.func36, Tryd.ntmps36
  go_wp2
  go_ret
  exact ⟨rfl, K.out⟩
 ·have K := Lib.hid (key n (by omega) (by omega))
  have e : newSize n = n := by unfold newSize; rw [if_neg (by omega)]
  rw [e]; clear e key
  have d1 : decide (1048576 < n) = false := by simp; omega
  go_enter Tryd.func36, Tryd.ntmps36
  go_wp2
  go_ret
  exact ⟨rfl, K.out⟩
end Go.Proofs.YtjiaaefpepdoeaaDoor
namespace Go.Proofs.YtjiaaefpepdoeaaDoor
open Go.RowKit
set_option linter.unusedVariables false
theorem zeroCells_one (z : Value) (n : Nat) : (Builtin.zeroCells #[z] n).toList = List.replicate n z := by
 simp only [Builtin.zeroCells]
 apply List.ext_getElem
 ·simp
 ·intro i h1 h2
  simp [Nat.mod_one]
theorem run_append_zeros {P : Program} (w : World) (t tn ty e : TypeId) (i : TypeInfo) (z : Value) (kn kq : IntKind) (ht : P.underlying t = some (.slice e)) (htn : P.underlying tn = some (.int kn)) (hi : P.info? e = some i) (hz : i.zero = some z)
  (hsz : i.size = 1) (hby : i.bytes ≤ 8) (hz1 : z.cells = #[z]) (hone : z.oneCell' = true) (v : Value) (xs : List Value) (hown : Own w e v xs) (n : Nat) (hb : xs.length + n ≤ 1073741824) :
  ∃ v' w', (Builtin.append_ #[t, tn] ty #[v, .int kq n]).run P w = .ok v' w' ∧ Own w' e v' (xs ++ List.replicate n z) ∧ w.grownBy w' v.ownBlock ∧ ∀ k, InBlk v' k → InBlk v k ∨ w.heap.size ≤ k := by
 have hlen : (xs ++ List.replicate n z).length = (xs ++ List.replicate n z).length * 1 := by omega
 have hl2 : (xs ++ List.replicate n z).length = xs.length + n := by simp
 have hw : IntKind.i64.wrap (n : Int) = n := by rw [IntKind.wrap_i64]; omega
 have hneg : ¬ ((n : Int) < 0) := by omega
 have h48i : ¬ (281474976710656 < (n : Int) * (i.bytes : Int)) := by
  rw [← Int.natCast_mul]
  have : n * i.bytes ≤ n * 8 := Nat.mul_le_mul_left n hby
  omega
 by_cases hn : n = 0
 ·subst hn
  refine ⟨v, w, ?_, by simpa using hown, World.grownBy.refl _ _, fun k hk => .inl hk⟩
  rcases hown.2 with ⟨rfl, _⟩ | ⟨g, cap, cur, rfl, _, hg, hl, _⟩
  ·simp [Builtin.append_, run_underlying ht, run_underlying htn, sizeOf, typeInfo, hi, asInt, asIntOf, IntKind.wrap_i64]
  ·have hst := run_storeCells_at P g (xs.length * i.size) e [] 0 cur w hg (by simp [hsz]; omega) (by simp)
   simp [Builtin.append_, run_underlying ht, run_underlying htn, sizeOf, typeInfo, hi, asInt, asIntOf, IntKind.wrap_i64, hl, Addr.add_lit, storeCells]
 have hpos : 0 < n := by omega
 have hns : ¬ (n * i.size = 0) := by rw [hsz]; omega
 have hk48 : n * i.bytes ≤ 281474976710656 := by
  have : n * i.bytes ≤ n * 8 := Nat.mul_le_mul_left n hby
  omega
 have grown : ∀ (old : Nat) (row : Option Nat), old < xs.length + n →
   Own (w.drew.alloc (.cells (xs.toArray ++ Builtin.zeroCells z.cells n ++ Builtin.zeroCells z.cells (grownCap w (xs.length + n) old e - (xs.length + n))) e)) e
    (.slice (some ⟨w.heap.size, 0, none⟩) (xs.length + n) (grownCap w (xs.length + n) old e)) (xs ++ List.replicate n z) ∧
   w.grownBy (w.drew.alloc (.cells (xs.toArray ++ Builtin.zeroCells z.cells n ++ Builtin.zeroCells z.cells (grownCap w (xs.length + n) old e - (xs.length + n))) e)) row := by
  intro old row ho
  have hge := grownCap_ge w (xs.length + n) old e
  have hcm : grownCap w (xs.length + n) old e ≤ maxLen := grownCap_le_maxLen w (xs.length + n) old e (by simp only [maxLen]; omega)
  refine ⟨⟨hlen, .inr ⟨w.heap.size, _, _, by rw [hl2], Nat.zero_le _, heap_alloc_new w.drew _, by rw [hl2]; exact hge, hcm, ?_, ?_⟩⟩, ⟨rfl, rfl, rfl, by simp, fun k hk _ => heap_alloc_old w.drew _ hk⟩⟩
  ·simp only [Array.size_append, List.size_toArray, size_zeroCells, hz1]
   simp
   omega
  ·rw [hz1, Nat.mul_one]
   simp only [Array.toList_append, zeroCells_one]
   exact List.take_left
 rcases hown.2 with ⟨rfl, h0⟩ | ⟨g, cap, cur, rfl, hb0, hg, hnc, hcm, hcs, htake⟩
 ·have hx : xs = [] := List.eq_nil_of_length_eq_zero h0
  subst hx
  have hr := Lib.run_append_nil_zeros (P := P) w t tn ty e i z kq kn ht htn hi hz n hpos (by omega) (by omega) hk48
  have hgr := grown 0 (Value.ownBlock (.slice none 0 0)) (by simp; omega)
  simp only [List.length_nil, Nat.zero_add, List.nil_append, Array.empty_append] at hgr ⊢
  exact ⟨_, _, hr, hgr.1, hgr.2, fun k hk => .inr (by simp [InBlk, Value.ownBlock] at hk; omega)⟩
 ·by_cases hroom : xs.length + n ≤ cap
  ·have hst := run_storeCells_at P g (xs.length * i.size) e (List.replicate n z) 0 cur w hg (by simp [hsz]; omega) (by simp [hone])
   simp only [hsz, Nat.mul_one, Nat.add_zero, List.length_replicate] at hst htake hcs
   have hlt : (cur.toList.take xs.length).length = xs.length := by simp; omega
   have hown2 : Own (w.setRow g (cur.toList.take xs.length ++ List.replicate n z ++ cur.toList.drop (xs.length + n)).toArray) e (.slice (some ⟨g, 0, none⟩) (xs.length + n) cap) (xs ++ List.replicate n z) := by
    refine ⟨hlen, .inr ⟨g, cap, _, by rw [hl2], Nat.zero_le _, setRow_heap w g cur _ e _ hg, by rw [hl2]; exact hroom, hcm, ?_, ?_⟩⟩
    ·simp; omega
    ·rw [Nat.mul_one, hl2, htake]
     have h3 : (xs ++ List.replicate n z).length = xs.length + n := hl2
     rw [← h3]
     exact List.take_left
   refine ⟨.slice (some ⟨g, 0, none⟩) (xs.length + n) cap, w.setRow g (cur.toList.take xs.length ++ List.replicate n z ++ cur.toList.drop (xs.length + n)).toArray, ?_, hown2,
    ⟨rfl, rfl, rfl, by simp, fun k _ hk => setRow_other w g k _ (fun e => hk (by simp [Value.ownBlock, e]))⟩, fun k hk => .inl (by simpa [InBlk, Value.ownBlock] using hk)⟩
   have hz2 : (Builtin.zeroCells #[z] n).toList = List.replicate n z := zeroCells_one z n
   simp [Builtin.append_, run_underlying ht, run_underlying htn, sizeOf, typeInfo, zeroValue, hi, hz, hsz, asInt, asIntOf, hw, hn, hneg, h48i, hroom, Addr.add_lit, hz1, hz2, hst]
  ·have holds : ∀ j u, xs[j]? = some u → w.cell? ((⟨g, 0, none⟩ : Addr).add j) = some u := World.ownsRow.cells hown (g := g) rfl
   have hf := run_firstCells_some (P := P) w.drew i.size xs.length ⟨g, 0, none⟩ xs.length cap xs (by rw [hsz]; omega) (fun j u hj => holds j u hj)
   have hr := Lib.run_append_grow_zeros (P := P) w t tn ty e i z kq kn ht htn hi hz (some ⟨g, 0, none⟩) xs.length cap xs hf n hpos (by omega) (by omega) (by omega) hk48 (growslice_fits (by omega) (by
    have : (xs.length + n) * i.bytes ≤ (xs.length + n) * 8 := Nat.mul_le_mul_left _ hby
    omega))
   have hgr := grown cap (Value.ownBlock (.slice (some ⟨g, 0, none⟩) xs.length cap)) (by omega)
   exact ⟨_, _, hr, hgr.1, hgr.2, fun k hk => .inr (by simp [InBlk, Value.ownBlock] at hk; omega)⟩
end Go.Proofs.YtjiaaefpepdoeaaDoor
namespace Go.Proofs.YtjiaaefpepdoeaaDoor
open Go.RowKit Md
set_option linter.unusedVariables false
def Drawn (w w' : World) : Prop := ∃ n, w' = w.drewN n
theorem wordInfo : (Tryd.prog.info? 39).map (fun i => (i.zero, i.size, i.bytes)) = some (some (.int .u64 0), 1, 8) := by kernel_rfl
theorem uw_append (a b : List Int) : uw (a ++ b) = uw a ++ uw b := by simp [uw]
theorem uw_replicate (n : Nat) : uw (List.replicate n 0) = List.replicate n (.int .u64 0) := by simp [uw]
theorem okWs_append {a b : List Int} (ha : okWs a) (hb : okWs b) : okWs (a ++ b) := fun x hx => (List.mem_append.1 hx).elim (ha x) (hb x)
theorem okWs_zeros (n : Nat) : okWs (List.replicate n 0) := fun x hx => by
 have := (List.mem_replicate.1 hx).2
 subst this
 unfold okW
 omega
theorem Ar.store {T : TypeId} {w w1 : World} {p : Nat} {v v' : Value} {ws ws' : List Int} {size : Int} (h : Ar T w p v ws size) (hg : w.grownBy w1 v.ownBlock) (ho : Own w1 39 v' (uw ws')) (hl : (ws'.length : Int) ≤ size) (hk : okWs ws') (hn : ∀ k, InBlk v' k → InBlk v k ∨ w.heap.size ≤ k) :
  Ar T (w1.setCell ⟨p, 0, none⟩ v') p v' ws' size ∧ Fr w (w1.setCell ⟨p, 0, none⟩ v') (fun i => i = p ∨ InBlk v i) ∧ ∀ k, InBlk v' k → InBlk v k ∨ w.heap.size ≤ k := by
 have hpv : some p ≠ v.ownBlock := fun e => h.ne p e.symm rfl
 have hb1 : w1.heap[p]? = some (.cells #[v, .int .i64 size] T (0, 0)) := (hg.block p h.lt hpv).trans h.blk
 have hp1 : ∀ k, InBlk v' k → k ≠ p := fun k hk e => by
  obtain ⟨cur, hc⟩ := ho.elem k hk
  rw [e, hb1] at hc
  simp at hc
  exact h.ty hc.2
 refine ⟨⟨?_, ?_, hl, h.mx, hk, h.ty⟩, ?_, hn⟩
 ·simp [World.setCell, Array.getElem?_modify, hb1]
 ·refine ho.keep (S := fun i => i = p) (Fr.setCell (S := fun i => i = p) (a := ⟨p, 0, none⟩) (Fr.refl w1 _) (fun _ => rfl) _) (fun i hi => hp1 i hi)
 ·exact Fr.setCell (S := fun i => i = p ∨ InBlk v i) (a := ⟨p, 0, none⟩) (Fr.grown (Fr.refl w _) hg (fun k hk _ => .inr hk)) (fun _ => .inl rfl) _
theorem take_c (p : Nat) (v : Value) (ws : List Int) (size : Int) (n : Nat) (w : World) (h : Ar 112 w p v ws size) (hn : (n : Int) ≤ size - ws.length) :
  Calls Tryd.prog 37 #[.pointer (some ⟨p, 0, none⟩), .int .i64 n] w fun e w' => e = .returned (.tuple #[.int .i64 ws.length, .bool true]) ∧
   ∃ v', Ar 112 w' p v' (ws ++ List.replicate n 0) size ∧ Fr w w' (fun i => i = p ∨ InBlk v i) ∧ ∀ k, InBlk v' k → InBlk v k ∨ w.heap.size ≤ k := by
 obtain ⟨A, cap, rfl⟩ := h.val
 have c0 := h.c0
 have c1 := h.c1
 have hle := h.le
 have hmx := h.mx
 have d0 : decide ((n : Int) < 0) = false := decide_eq_false (by omega)
 have d1 : decide (size - (ws.length : Int) < (n : Int)) = false := decide_eq_false (by omega)
 have hw1 : wrap64 (size - (ws.length : Int)) = size - ws.length := by unfold wrap64; omega
 have hw2 : IntKind.i64.wrap (size - (ws.length : Int)) = size - ws.length := by rw [IntKind.wrap_i64]; omega
 have H := Lib.hid h
 clear h hle
 have HN := Lib.hid hn
 clear hn
 go_enter Tryd.func37, Tryd.ntmps37
 go_wp2
 go_quiet (fail)
 obtain ⟨i0, hi, hz0, hz1, hz2⟩ := info_parts wordInfo
 have hd : Ar 112 (w.drewN nq) p (.slice A ws.length cap) ws size := ⟨H.out.blk, H.out.own, H.out.le, H.out.mx, H.out.ok, H.out.ty⟩
 obtain ⟨v', w1, hr, ho, hg, hnn⟩ := run_append_zeros (P := Tryd.prog) (w.drewN nq) 44 3 44 39 i0 (.int .u64 0) .i64 .i64 Tryd.underlying44 Tryd.underlying3 hi hz0 hz1 (by omega) rfl rfl (.slice A ws.length cap) (uw ws) hd.own n (by have := HN.out; have := hd.mx; rw [uw_length]; omega)
 rw [← uw_replicate, ← uw_append] at ho
 have hst := hd.store hg ho (by have := HN.out; simp; omega) (okWs_append hd.ok (okWs_zeros n)) hnn
 have k0 : w1.cell? ⟨p, 0, none⟩ = some (.slice A ws.length cap) := hg.cell hd.c0 (fun e => hd.ne p e.symm rfl)
 have kf : w1.frozen? ⟨p, 0, none⟩ = false := (World.frozen?_of_block (hg.block p hd.lt (fun e => hd.ne p e.symm rfl))).trans (hd.fz 0)
 have HR := Lib.hid hr
 have HS := Lib.hid hst
 have hform := ho.form
 clear hr hst hg hnn hi hz0 hz1 hz2 ho hd c1 hw1 hw2 d0 d1 hmx
 rcases hform with ⟨rfl, _⟩ | ⟨g, cp, rfl, _⟩
 all_goals
  go_wp2_with (at_builtin; refine Lib.wpList_append_run _ rfl _ _ _ _ rfl _ _ rfl rfl _ w1 HR.out ?_)
  go_ret2
  exact ⟨rfl, _, HS.out.1, ((Fr.refl w _).drewN nq).trans HS.out.2.1, HS.out.2.2⟩
theorem take_len {α : Type} (l : List α) (n : Nat) (h : n ≤ l.length) : (l.take n).length = n := by simp; omega
theorem Ar.cut {T : TypeId} {w : World} {p : Nat} {v v' : Value} {ws : List Int} {size size' : Int} (h : Ar T w p v ws size) (n : Nat) (hn : n ≤ ws.length) (h0 : (n : Int) ≤ size') (h1 : size' ≤ 1048576)
  (hv : (v = .slice none 0 0 ∧ v' = .slice none 0 0) ∨ ∃ g cap, v = .slice (some ⟨g, 0, none⟩) ws.length cap ∧ v' = .slice (some ⟨g, 0, none⟩) n cap) :
  Ar T ((w.setCell ⟨p, 0, none⟩ v').setCell ⟨p, 1, none⟩ (.int .i64 size')) p v' (ws.take n) size' ∧ Fr w ((w.setCell ⟨p, 0, none⟩ v').setCell ⟨p, 1, none⟩ (.int .i64 size')) (fun i => i = p) ∧ ∀ k, InBlk v' k → InBlk v k := by
 have hf : Fr w ((w.setCell ⟨p, 0, none⟩ v').setCell ⟨p, 1, none⟩ (.int .i64 size')) (fun i => i = p) :=
  Fr.setCell (S := fun i => i = p) (a := ⟨p, 1, none⟩) (Fr.setCell (S := fun i => i = p) (a := ⟨p, 0, none⟩) (Fr.refl w _) (fun _ => rfl) _) (fun _ => rfl) _
 have hin : ∀ k, InBlk v' k → InBlk v k := by
  intro k hk
  rcases hv with ⟨rfl, rfl⟩ | ⟨g, cap, rfl, rfl⟩
  ·exact hk
  ·simpa [InBlk, Value.ownBlock] using hk
 refine ⟨⟨?_, ?_, by rw [take_len ws n hn]; exact h0, h1, fun x hx => h.ok x (List.mem_of_mem_take hx), h.ty⟩, hf, hin⟩
 ·simp [World.setCell, Array.getElem?_modify, h.blk]
 ·have ho := h.own
  refine Own.keep (w := w) ?_ hf (fun i hi => h.ne i (hin i hi))
  rcases hv with ⟨rfl, rfl⟩ | ⟨g, cap, rfl, rfl⟩
  ·rcases ho.2 with ⟨_, hz⟩ | ⟨g, cap, cur, hv, _⟩
   ·have : ws = [] := List.eq_nil_of_length_eq_zero (by simpa [uw] using hz)
    subst this
    simpa [uw] using Own.nil w 39
   ·cases hv
  ·rcases ho.2 with ⟨hv, _⟩ | ⟨g', cap', cur, hv, hb, hg, hl, hm, hs, ht⟩
   ·cases hv
   ·injection hv with e1 e2 e3
    injection e1 with e1
    injection e1 with e1
    subst e1
    subst e3
    have hlen : (uw (ws.take n)).length = n := by rw [uw_length, take_len ws n hn]
    refine ⟨by omega, .inr ⟨g, cap, cur, by rw [hlen], Nat.zero_le _, hg, by rw [hlen]; rw [uw_length] at hl; omega, hm, by simpa using hs, ?_⟩⟩
    rw [hlen, Nat.mul_one]
    rw [Nat.mul_one, uw_length] at ht
    have e4 : cur.toList.take n = (cur.toList.take ws.length).take n := by rw [List.take_take, Nat.min_eq_left hn]
    rw [e4, ht]
    simp [uw]
theorem cut_c (p : Nat) (v : Value) (ws : List Int) (size : Int) (n : Nat) (size' : Int) (w : World) (h : Ar 112 w p v ws size) (hn : n ≤ ws.length) (h0 : (n : Int) ≤ size') (h1 : size' ≤ 1048576) :
  Calls Tryd.prog 76 #[.pointer (some ⟨p, 0, none⟩), .int .i64 n, .int .i64 size'] w fun e w' => e = .returned (.bool true) ∧ ∃ v', Ar 112 w' p v' (ws.take n) size' ∧ Fr w w' (fun i => i = p) ∧ ∀ k, InBlk v' k → InBlk v k := by
 have hmx := h.mx
 have hle := h.le
 have d0 : decide ((n : Int) < 0) = false := decide_eq_false (by omega)
 have d1 : decide ((ws.length : Int) < (n : Int)) = false := decide_eq_false (by omega)
 have d1' : decide (ws.length < n) = false := decide_eq_false (by omega)
 have d2 : decide (size' < (n : Int)) = false := decide_eq_false (by omega)
 have d3 : decide (1048576 < size') = false := decide_eq_false (by omega)
 rcases h.form with ⟨rfl, rfl⟩ | ⟨g, cap, rfl, hl, hm, _⟩
 ·have hz : n = 0 := by simpa using hn
  subst hz
  have HC := Lib.hid (h.cut 0 (by simp) h0 h1 (.inl ⟨rfl, rfl⟩))
  have c0 := h.c0
  have c1 := h.c1
  have f0 := h.fz 0
  have f1 := h.fz 1
  clear h hn
  go_enter Tryd.func76, Tryd.ntmps76
  go_wp2
  go_ret
  exact ⟨rfl, _, HC.out.1, HC.out.2.1, HC.out.2.2⟩
 ·have HC := Lib.hid (h.cut n hn h0 h1 (.inr ⟨g, cap, rfl, rfl⟩))
  have c0 := h.c0
  have c1 := h.c1
  have f0 := h.fz 0
  have f1 := h.fz 1
  have hncap : n ≤ cap := by omega
  have hncap' : (n : Int) ≤ (cap : Int) := by omega
  have hcap : cap ≤ 9223372036854775807 := hm
  clear h hm
  go_enter Tryd.func76, Tryd.ntmps76
  go_wp2
  go_ret
  exact ⟨rfl, _, HC.out.1, HC.out.2.1, HC.out.2.2⟩
end Go.Proofs.YtjiaaefpepdoeaaDoor
namespace Go.Proofs.YtjiaaefpepdoeaaDoor
open Go.RowKit Md
set_option linter.unusedVariables false
end Go.Proofs.YtjiaaefpepdoeaaDoor
namespace Go.Proofs.YtjiaaefpepdoeaaDoor
open Go.RowKit
set_option linter.unusedVariables false
def Rd (w : World) (v : Value) (xs : List Value) : Prop :=
 (xs = [] ∧ ∃ A cap, v = .slice A 0 cap ∧ (A = none → cap = 0)) ∨
 ∃ b off cap, v = .slice (some ⟨b, off, none⟩) xs.length cap ∧ 0 < xs.length ∧ xs.length ≤ cap ∧ cap ≤ maxLen ∧ b < w.heap.size ∧ ∀ i, i < xs.length → w.cell? ⟨b, off + i, none⟩ = xs[i]?
section
variable {w w1 : World} {e : TypeId} {v : Value} {xs ys : List Value} {S : Nat → Prop}
theorem Rd.keep (h : Rd w v xs) (hf : Fr w w1 S) (hn : ∀ i, InBlk v i → ¬ S i) : Rd w1 v xs := by
 rcases h with h | ⟨b, off, cap, rfl, h0, hl, hm, hb, hc⟩
 ·exact .inl h
 ·refine .inr ⟨b, off, cap, rfl, h0, hl, hm, Nat.lt_of_lt_of_le hb hf.size, fun i hi => ?_⟩
  have := hc i hi
  rw [List.getElem?_eq_getElem hi] at this ⊢
  exact hf.cell this (hn b (by simp [InBlk, Value.ownBlock]))
theorem Own.rd (h : Own w e v xs) : Rd w v xs := by
 rcases h.form with ⟨rfl, rfl⟩ | ⟨g, cap, rfl, hl, hm, hg, hc, hf⟩
 ·exact .inl ⟨rfl, none, 0, rfl, fun _ => rfl⟩
 ·by_cases h0 : xs.length = 0
  ·have hx : xs = [] := List.eq_nil_of_length_eq_zero h0
   exact .inl ⟨hx, some ⟨g, 0, none⟩, cap, by rw [h0], fun e => by cases e⟩
  ·exact .inr ⟨g, 0, cap, rfl, by omega, hl, hm, hg, fun i hi => by rw [Nat.zero_add]; exact hc i hi⟩
theorem Rd.len (h : Rd w v xs) : ∃ A cap, v = .slice A xs.length cap := by
 rcases h with ⟨rfl, A, cap, rfl, _⟩ | ⟨b, off, cap, rfl, _⟩
 ·exact ⟨A, cap, rfl⟩
 ·exact ⟨_, _, rfl⟩
theorem Rd.lt (h : Rd w v xs) (h0 : 0 < xs.length) : ∀ i, InBlk v i → i < w.heap.size := by
 rcases h with ⟨rfl, _⟩ | ⟨b, off, cap, rfl, _, _, _, hb, _⟩
 ·simp at h0
 ·intro i hi; simp [InBlk, Value.ownBlock] at hi; omega
end
theorem oneCell_all {k : IntKind} (zs : List Int) : ∀ u ∈ zs.map (Value.int k), u.oneCell' = true := ints_oneCell k zs
theorem run_append_rd {P : Program} (w : World) (t ty e : TypeId) (i : TypeInfo) (z : Value) (ht : P.underlying t = some (.slice e)) (hi : P.info? e = some i) (hz : i.zero = some z)
  (hsz : i.size = 1) (hby : i.bytes ≤ 64) (hz1 : z.cells.size = 1) (s v : Value) (ys xs : List Value) (hs : Own w e s ys) (hv : Rd w v xs) (h1 : ∀ u ∈ xs, u.oneCell' = true) (hb : ys.length + xs.length ≤ 1073741824) :
  ∃ v' w', (Builtin.append_ #[t, t] ty #[s, v]).run P w = .ok v' w' ∧ Own w' e v' (ys ++ xs) ∧ w.grownBy w' s.ownBlock ∧ (∀ k, InBlk v' k → InBlk s k ∨ w.heap.size ≤ k) := by
 have hlen : (ys ++ xs).length = (ys ++ xs).length * 1 := by omega
 have hl2 : (ys ++ xs).length = ys.length + xs.length := by simp
 rcases hv with ⟨rfl, A, cap, rfl, hA⟩ | ⟨b, off, cap, rfl, h0, hl, hm, hbb, hc⟩
 ·refine ⟨s, w, ?_, by simpa using hs, World.grownBy.refl _ _, fun k hk => .inl hk⟩
  rcases hs.2 with ⟨rfl, _⟩ | ⟨g, cp, cur, rfl, _, hg, hlc, _⟩
  ·cases A with
   | none => simp [Builtin.append_, run_underlying ht, sizeOf, typeInfo, hi, Builtin.lenOf, Builtin.firstCells]
   | some a => simp [Builtin.append_, run_underlying ht, sizeOf, typeInfo, hi, Builtin.lenOf, Builtin.firstCells, loadCells, loadCellsFrom]
  ·cases A with
   | none => simp [Builtin.append_, run_underlying ht, sizeOf, typeInfo, hi, Builtin.lenOf, Builtin.firstCells, hlc, storeCells]
   | some a => simp [Builtin.append_, run_underlying ht, sizeOf, typeInfo, hi, Builtin.lenOf, Builtin.firstCells, hlc, storeCells, loadCells, loadCellsFrom]
 have hnews : ∀ j u, xs[j]? = some u → w.cell? ((⟨b, off, none⟩ : Addr).add j) = some u := fun j u hj => by
  have hjl : j < xs.length := (List.getElem?_eq_some_iff.1 hj).1
  rw [Addr.add_lit, hc j hjl, hj]
 have hxl : xs.length = xs.length * i.size := by rw [hsz]; omega
 have hfit : (ys.length + xs.length) * i.bytes ≤ 140737488355328 := by
  have : (ys.length + xs.length) * i.bytes ≤ (ys.length + xs.length) * 64 := Nat.mul_le_mul_left _ hby
  omega
 have grown : ∀ (old : Nat) (row : Option Nat), old < ys.length + xs.length →
   Own (w.drew.alloc (.cells (ys.toArray ++ xs.toArray ++ Builtin.zeroCells z.cells (grownCap w (ys.length + xs.length) old e - (ys.length + xs.length))) e)) e
    (.slice (some ⟨w.heap.size, 0, none⟩) (ys.length + xs.length) (grownCap w (ys.length + xs.length) old e)) (ys ++ xs) ∧
   w.grownBy (w.drew.alloc (.cells (ys.toArray ++ xs.toArray ++ Builtin.zeroCells z.cells (grownCap w (ys.length + xs.length) old e - (ys.length + xs.length))) e)) row := by
  intro old row ho
  have hge := grownCap_ge w (ys.length + xs.length) old e
  have hcm : grownCap w (ys.length + xs.length) old e ≤ maxLen := grownCap_le_maxLen w (ys.length + xs.length) old e (by simp only [maxLen]; omega)
  refine ⟨⟨hlen, .inr ⟨w.heap.size, _, _, by rw [hl2], Nat.zero_le _, heap_alloc_new w.drew _, by rw [hl2]; exact hge, hcm, ?_, ?_⟩⟩, ⟨rfl, rfl, rfl, by simp, fun k hk _ => heap_alloc_old w.drew _ hk⟩⟩
  ·simp only [Array.size_append, List.size_toArray, size_zeroCells, hz1]
   omega
  ·rw [Nat.mul_one]
   simp only [Array.toList_append]
   exact List.take_left
 rcases hs.2 with ⟨rfl, hy0⟩ | ⟨g, cp, cur, rfl, _, hg, hlc, hcm, hcs, htk⟩
 ·have hy : ys = [] := List.eq_nil_of_length_eq_zero hy0
  subst hy
  have hr := run_append_nil (P := P) w t ty e i z ht hi hz ⟨b, off, none⟩ xs.length cap xs hxl hnews h0 (by omega) (by simp only [List.length_nil, Nat.zero_add] at hfit; omega)
  have hgr := grown 0 (Value.ownBlock (.slice none 0 0)) (by simp; omega)
  simp only [List.length_nil, Nat.zero_add, List.nil_append, Array.empty_append] at hgr ⊢
  exact ⟨_, _, hr, hgr.1, hgr.2, fun k hk => .inr (by simp [InBlk, Value.ownBlock] at hk; omega)⟩
 ·have hcs' : cur.size = cp := by rw [hcs]; omega
  by_cases hroom : ys.length + xs.length ≤ cp
  ·have hr := run_append_room (P := P) w t ty e i ht hi g ys.length cp cur hg ⟨b, off, none⟩ xs.length cap xs hxl hnews h1 hroom (by rw [hsz]; omega)
   refine ⟨_, _, hr, ⟨hlen, .inr ⟨g, cp, _, by rw [hl2], Nat.zero_le _, setRow_heap w g cur _ e _ hg, by rw [hl2]; exact hroom, hcm, ?_, ?_⟩⟩,
    ⟨rfl, rfl, rfl, by simp, fun k _ hk => setRow_other w g k _ (fun e => hk (by simp [Value.ownBlock, e]))⟩, fun k hk => .inl (by simpa [InBlk, Value.ownBlock] using hk)⟩
   ·simp [hsz]; omega
   ·rw [Nat.mul_one] at htk
    rw [Nat.mul_one, hl2, hsz, Nat.mul_one, htk, ← hl2]
    exact List.take_left
  ·have holds : ∀ j u, ys[j]? = some u → w.cell? ((⟨g, 0, none⟩ : Addr).add j) = some u := World.ownsRow.cells hs (g := g) rfl
   have hr := run_append_grow (P := P) w t ty e i z ht hi hz ⟨g, 0, none⟩ ys.length cp ys (by rw [hsz]; omega) holds ⟨b, off, none⟩ xs.length cap xs hxl hnews (by omega) (by omega) (growslice_fits (by omega) hfit)
   have hgr := grown cp (Value.ownBlock (.slice (some ⟨g, 0, none⟩) ys.length cp)) (by omega)
   exact ⟨_, _, hr, hgr.1, hgr.2, fun k hk => .inr (by simp [InBlk, Value.ownBlock] at hk; omega)⟩
end Go.Proofs.YtjiaaefpepdoeaaDoor
namespace Go.Proofs.YtjiaaefpepdoeaaDoor
open Go.RowKit Md
set_option linter.unusedVariables false
def New (w w' : World) (e : TypeId) (v : Value) (xs : List Value) : Prop := Own w' e v xs ∧ Fr w w' (fun _ => False) ∧ ∀ k, InBlk v k → w.heap.size ≤ k
theorem uw_one (ws : List Int) : ∀ u ∈ uw ws, u.oneCell' = true := oneCell_all ws
set_option maxRecDepth 100000 in
set_option maxHeartbeats 1000000 in
theorem clone_c (v : Value) (ws : List Int) (w : World) (h : Rd w v (uw ws)) (hb : ws.length ≤ 1073741824) :
  Calls Tryd.prog 56 #[v] w fun e w' => ∃ v', e = .returned v' ∧ New w w' 39 v' (uw ws) := by
 have key : ∀ v, Rd w v (uw ws) → ∃ v' w1, (Builtin.append_ #[44, 44] 44 #[.slice (some ⟨w.heap.size, 0, none⟩) 0 0, v]).run Tryd.prog (w.alloc (.cells #[] 39)) = .ok v' w1 ∧ New w w1 39 v' (uw ws) := by
  intro v h
  obtain ⟨i0, hi, hz0, hz1, hz2⟩ := info_parts wordInfo
  have hs : Own (w.alloc (.cells #[] 39)) 39 (.slice (some ⟨w.heap.size, 0, none⟩) 0 0) [] := World.ownsRow_made w #[] 0 (Nat.zero_le _) (Nat.zero_le _) rfl
  have hv : Rd (w.alloc (.cells #[] 39)) v (uw ws) := h.keep ((Fr.refl w (fun _ => False)).alloc _) (fun _ _ h => h)
  obtain ⟨v', w1, hr, ho, hg, hn⟩ := run_append_rd (P := Tryd.prog) _ 44 44 39 i0 (.int .u64 0) Tryd.underlying44 hi hz0 hz1 (by omega) rfl _ v [] (uw ws) hs hv (uw_one ws) (by rw [uw_length]; simp; omega)
  refine ⟨v', w1, hr, ho, ?_, fun k hk => ?_⟩
  ·exact ((Fr.refl w _).alloc _).grown hg (fun k hk hlt => by simp [Value.ownBlock] at hk; omega)
  ·rcases hn k hk with h1 | h1
   ·simp [InBlk, Value.ownBlock] at h1; omega
   ·simp at h1; omega
 have h2 := h
 rcases h with ⟨hx, A, cap, rfl, hA⟩ | ⟨b, off, cap, rfl, h0, hl, hm, hbb, hc⟩
 ·cases A with
  | none =>
   have hcap := hA rfl
   subst hcap
   clear key hA
   have HX := Lib.hid hx
   clear hx h2
   have hq : (binOp .eql 44 (.slice none 0 0) (.slice none 0 0)).run Tryd.prog w = .ok (.bool true) w := Lib.run_eql_slice_nil (P := Tryd.prog) w 44 39 (none) (0) (0) 0 0 Tryd.underlying44
   go_enter Tryd.func56, Tryd.ntmps56
   go_wp2
   go_ret
   exact ⟨_, rfl, by rw [HX.out]; exact Own.nil _ _, Fr.refl _ _, fun k hk => by simp [InBlk, Value.ownBlock] at hk⟩
  | some a =>
   obtain ⟨v', w1, hr, hnew⟩ := key _ h2
   have HR := Lib.hid hr
   have HN := Lib.hid hnew
   clear key hA hr hnew hx h2
   have hq : (binOp .eql 44 (.slice (some a) 0 cap) (.slice none 0 0)).run Tryd.prog w = .ok (.bool false) w := Lib.run_eql_slice_nil (P := Tryd.prog) w 44 39 ((some a)) (0) (cap) 0 0 Tryd.underlying44
   go_enter Tryd.func56, Tryd.ntmps56
   go_wp2_with (at_builtin; refine Lib.wpList_append_run _ rfl _ _ _ _ rfl _ _ rfl rfl _ w1 HR.out ?_)
   go_ret
   exact ⟨_, rfl, HN.out⟩
 ·obtain ⟨v', w1, hr, hnew⟩ := key _ h2
  have HR := Lib.hid hr
  have HN := Lib.hid hnew
  clear key hr hnew h2 hc hm
  have hq : (binOp .eql 44 (.slice (some ⟨b, off, none⟩) (uw ws).length cap) (.slice none 0 0)).run Tryd.prog w = .ok (.bool false) w := Lib.run_eql_slice_nil (P := Tryd.prog) w 44 39 ((some ⟨b, off, none⟩)) ((uw ws).length) (cap) 0 0 Tryd.underlying44
  go_enter Tryd.func56, Tryd.ntmps56
  go_wp2_with (at_builtin; refine Lib.wpList_append_run _ rfl _ _ _ _ rfl _ _ rfl rfl _ w1 HR.out ?_)
  go_ret
  exact ⟨_, rfl, HN.out⟩
theorem words_c (p : Nat) (v : Value) (ws : List Int) (size : Int) (w : World) (h : Ar 112 w p v ws size) :
  Calls Tryd.prog 22 #[.pointer (some ⟨p, 0, none⟩)] w fun e w' => ∃ v', e = .returned v' ∧ New w w' 39 v' (uw ws) := by
 have hb : ws.length ≤ 1073741824 := by have := h.le; have := h.mx; omega
 have HRd := Lib.hid h.own.rd
 have c0 := h.c0
 obtain ⟨A, cap, rfl⟩ := h.val
 clear h
 go_enter Tryd.func22, Tryd.ntmps22
 go_wp2_with (first | (go_at_call 56; (with_reducible refine (clone_c _ ws _ HRd.out hb).mono ?_); rintro e w' ⟨v', rfl, hnew⟩))
 go_ret
 exact ⟨_, rfl, hnew⟩
theorem copy_c (v : Value) (ws : List Int) (w : World) (h : Rd w v (uw ws)) (hb : ws.length ≤ 1073741824) :
  Calls Tryd.prog 18 #[v] w fun e w' => ∃ v', e = .returned v' ∧ New w w' 39 v' (uw ws) := by
 obtain ⟨i0, hi, hz0, hz1, hz2⟩ := info_parts wordInfo
 obtain ⟨v', w1, hr, ho, hg, hn⟩ := run_append_rd (P := Tryd.prog) w 44 44 39 i0 (.int .u64 0) Tryd.underlying44 hi hz0 hz1 (by omega) rfl _ v [] (uw ws) (Own.nil w _) h (uw_one ws) (by rw [uw_length]; simp; omega)
 have hnew : New w w1 39 v' (uw ws) := ⟨ho, (Fr.refl w _).grown hg (fun k hk hlt => by simp [Value.ownBlock] at hk), fun k hk => (hn k hk).elim (fun h => by simp [InBlk, Value.ownBlock] at h) id⟩
 have HR := Lib.hid hr
 have HN := Lib.hid hnew
 obtain ⟨A, cap, rfl⟩ := h.len
 clear hr hnew ho hg hn hi hz0 hz1 hz2 h
 go_enter Tryd.func18, Tryd.ntmps18
 go_wp2_with (at_builtin; refine Lib.wpList_append_run _ rfl _ _ _ _ rfl _ _ rfl rfl _ w1 HR.out ?_)
 go_ret
 exact ⟨_, rfl, HN.out⟩
theorem Drawn.refl (w : World) : Drawn w w := ⟨0, rfl⟩
theorem Drawn.step {w w' : World} (h : Drawn w w') (n : Nat) : Drawn w (w'.drewN n) := by
 obtain ⟨m, rfl⟩ := h
 exact ⟨m + n, World.drewN_drewN ..⟩
theorem Drawn.fr {w w' : World} (h : Drawn w w') (S : Nat → Prop) : Fr w w' S := by
 obtain ⟨m, rfl⟩ := h
 exact (Fr.refl w S).drewN m
theorem uw_get {ws : List Int} {k : Nat} (h : k < ws.length) : (uw ws)[k]? = some (.int .u64 (ws.getD k 0)) := by simp [uw, List.getD, h]
theorem take_eq_succ {xs ys : List Int} {k : Nat} (hx : k < xs.length) (hy : k < ys.length) (h : xs.take k = ys.take k) (e : xs.getD k 0 = ys.getD k 0) : xs.take (k + 1) = ys.take (k + 1) := by
 rw [List.take_succ_eq_append_getElem hx, List.take_succ_eq_append_getElem hy, h]
 simp [List.getD, hx, hy] at e
 rw [e]
theorem samew_c (va vb : Value) (xs ys : List Int) (w : World) (ha : Rd w va (uw xs)) (hb : Rd w vb (uw ys)) (hl : xs.length ≤ 1073741824) :
  Calls Tryd.prog 25 #[va, vb] w fun e w' => e = .returned (.bool (decide (xs = ys))) ∧ Drawn w w' := by
 obtain ⟨A, ca, rfl⟩ := ha.len
 obtain ⟨B, cb, rfl⟩ := hb.len
 rw [uw_length] at *
 rw [uw_length] at *
 by_cases hlen : xs.length = ys.length
 ·by_cases h0 : xs.length = 0
  ·have e1 : xs = [] := List.eq_nil_of_length_eq_zero h0
   have e2 : ys = [] := List.eq_nil_of_length_eq_zero (by omega)
   subst e1
   subst e2
   clear ha hb hlen h0
   go_enter Tryd.func25, Tryd.ntmps25
   go_wp2
   refine wp_loop_rounds 1 ?_
   rw [rounds_succ]
   go_wp2
   go_ret
   exact ⟨rfl, Drawn.refl _⟩
  ·rcases ha with ⟨hx, _⟩ | ⟨b1, o1, c1, e1, _, hl1, hm1, hb1, hc1⟩
   ·have := congrArg List.length hx; rw [uw_length] at this; exact absurd this h0
   rcases hb with ⟨hx, _⟩ | ⟨b2, o2, c2, e2, _, hl2, hm2, hb2, hc2⟩
   ·have := congrArg List.length hx; rw [uw_length] at this; exact absurd (hlen.trans this) h0
   injection e1 with e1 _ e3
   injection e2 with e2 _ e4
   subst e1; subst e2; subst e3; subst e4
   have HC1 := Lib.hid hc1
   have HC2 := Lib.hid hc2
   have HL := Lib.hid hlen
   have d0 : (((xs.length : Int)) != (ys.length : Int)) = false := by rw [hlen]; simp
   have d0' : (xs.length != ys.length) = false := by rw [hlen]; simp
   clear hc1 hc2 hl1 hl2 hm1 hm2 hb1 hb2 hlen
   go_enter Tryd.func25, Tryd.ntmps25
   go_wp2
   go_loopw [5] (fun i wr => ∃ k : Nat, k ≤ xs.length ∧ i = .int .i64 k ∧ xs.take k = ys.take k ∧ Drawn w wr) (fun i _ => xs.length - (intOf i).toNat)
   case atStart => exact ⟨0, Nat.zero_le _, rfl, rfl, Drawn.refl _⟩
   case round =>
    obtain ⟨k, hk, rfl, ht, nq, rfl⟩ := hrel
    have HT := Lib.hid ht
    clear ht d0 d0'
    by_cases hlt : k < xs.length
    ·have hlt2 : k < ys.length := by have := HL.out; omega
     have g1 : w.cell? ⟨b1, o1 + k, none⟩ = some (.int .u64 (xs.getD k 0)) := by rw [HC1.out k (by rw [uw_length]; exact hlt), uw_get hlt]
     have g2 : w.cell? ⟨b2, o2 + k, none⟩ = some (.int .u64 (ys.getD k 0)) := by rw [HC2.out k (by rw [uw_length]; exact hlt2), uw_get hlt2]
     obtain ⟨x, hx⟩ : ∃ x, xs.getD k 0 = x := ⟨_, rfl⟩
     obtain ⟨y, hy⟩ : ∃ y, ys.getD k 0 = y := ⟨_, rfl⟩
     rw [hx] at g1
     rw [hy] at g2
     have HX := Lib.hid hx
     have HY := Lib.hid hy
     clear hx hy
     have q1 : (0 : Int) ≤ k := by omega
     have q2 : (k : Int) < xs.length := by omega
     have q3 : (k : Int) < ys.length := by omega
     by_cases hxy : x = y
     ·have dn : (x != y) = false := by simp [hxy]
      have HXY := Lib.hid hxy
      clear hxy
      go_wp2
      go_quiet (fail)
      go_wp2
      go_roundw
      case rel => exact ⟨k + 1, by omega, by go_num, take_eq_succ hlt hlt2 HT.out (by rw [HX.out, HY.out]; exact HXY.out), ⟨_, rfl⟩⟩
      case measure => simp [intOf]; omega
     ·have dn : (x != y) = true := by simpa using hxy
      have HXY := Lib.hid hxy
      clear hxy
      go_wp2
      go_quiet (fail)
      go_wp2
      go_ret
      refine ⟨?_, Drawn.step ⟨_, rfl⟩ _⟩
      have : ¬ xs = ys := fun e => HXY.out (by rw [← HX.out, ← HY.out, e])
      simp [this]
    ·have hk2 : k = xs.length := by omega
     go_wp2
     go_ret
     refine ⟨?_, nq, rfl⟩
     have h3 := HT.out
     rw [List.take_of_length_le (by omega), List.take_of_length_le (by have := HL.out; omega)] at h3
     simp [h3]
 ·have d0 : (((xs.length : Int)) != (ys.length : Int)) = true := by simp; omega
  have d0' : (xs.length != ys.length) = true := by simp; omega
  have hne : decide (xs = ys) = false := decide_eq_false (fun e => hlen (by rw [e]))
  rw [hne]
  clear ha hb hlen
  go_enter Tryd.func25, Tryd.ntmps25
  go_wp2
  go_ret
  exact ⟨rfl, Drawn.refl _⟩
end Go.Proofs.YtjiaaefpepdoeaaDoor
namespace Go.Proofs.YtjiaaefpepdoeaaDoor
open Go.RowKit Md
set_option linter.unusedVariables false
theorem take_i (p : Nat) (v : Value) (ws : List Int) (size n : Int) (w : World) (h : Ar 112 w p v ws size) (h0 : 0 ≤ n) (hn : n ≤ size - ws.length) :
  Calls Tryd.prog 37 #[.pointer (some ⟨p, 0, none⟩), .int .i64 n] w fun e w' => e = .returned (.tuple #[.int .i64 ws.length, .bool true]) ∧
   ∃ v', Ar 112 w' p v' (ws ++ List.replicate n.toNat 0) size ∧ Fr w w' (fun i => i = p ∨ InBlk v i) ∧ ∀ k, InBlk v' k → InBlk v k ∨ w.heap.size ≤ k := by
 obtain ⟨k, rfl⟩ := Int.eq_ofNat_of_zero_le h0
 exact take_c p v ws size k w h hn
def NewAr (T : TypeId) (w w' : World) (p : Nat) (v : Value) (ws : List Int) (size : Int) : Prop := Ar T w' p v ws size ∧ Fr w w' (fun _ => False) ∧ w.heap.size ≤ p ∧ ∀ k, InBlk v k → w.heap.size ≤ k
theorem newSize_of {n : Int} (h0 : 0 ≤ n) (h1 : n ≤ 1048576) : newSize n = n := by unfold newSize; rw [if_neg (by omega)]
theorem filled_step {l : List Int} {k : Nat} (h : k < l.length) : wrAt (l.take k ++ List.replicate (l.length - k) 0) k (l.getD k 0) = l.take (k + 1) ++ List.replicate (l.length - (k + 1)) 0 := by
 have hl : (l.take k ++ List.replicate (l.length - k) 0).length = l.length := by simp; omega
 unfold wrAt
 rw [if_pos ⟨by omega, by rw [hl]; omega⟩, Int.toNat_natCast]
 have hk : (l.take k).length = k := by simp; omega
 rw [List.set_append, if_neg (by omega), hk, Nat.sub_self]
 have e : l.length - k = (l.length - (k + 1)) + 1 := by omega
 rw [e, List.replicate_succ, List.set_cons_zero, List.take_succ_eq_append_getElem h, List.append_assoc]
 simp [List.getD, h]
theorem okWs_getD {l : List Int} (h : okWs l) (k : Nat) (hk : k < l.length) : okW (l.getD k 0) := by
 simp only [List.getD, List.getElem?_eq_getElem hk, Option.getD_some]
 exact h _ (List.getElem_mem hk)
set_option maxHeartbeats 1000000 in
theorem fill_c (v : Value) (l : List Int) (more : Int) (w : World) (h : Rd w v (uw l)) (hok : okWs l) (h0 : 0 ≤ more) (h1 : l.length + more ≤ 1048576) :
  Calls Tryd.prog 11 #[v, .int .i64 more] w fun e w' => ∃ p v', e = .returned (.pointer (some ⟨p, 0, none⟩)) ∧ NewAr 112 w w' p v' l (l.length + more) := by
 have hlt := fun h0 => h.lt h0
 have hsz : newSize (l.length + more) = l.length + more := newSize_of (by omega) h1
 have hsum : IntKind.i64.wrap ((l.length : Int) + more) = l.length + more := by rw [IntKind.wrap_i64]; omega
 have hsum2 : wrap64 ((l.length : Int) + more) = l.length + more := by unfold wrap64; omega
 have HSZ := Lib.hid hsz
 have HOK := Lib.hid hok
 have HR := Lib.hid h
 have HLT := Lib.hid hlt
 clear hsz hok hlt
 obtain ⟨A, cap, rfl⟩ := h.len
 clear h
 rw [uw_length]
 have hA : 0 < l.length → ∃ b off, A = some ⟨b, off, none⟩ ∧ ∀ i, i < l.length → w.cell? ⟨b, off + i, none⟩ = some (.int .u64 (l.getD i 0)) := by
  intro hp
  rcases HR.out with ⟨hx, _⟩ | ⟨b, off, c, e, _, _, _, _, hc⟩
  ·have := congrArg List.length hx; rw [uw_length] at this; simp at this; subst this; simp at hp
  ·injection e with e1 e2 e3
   exact ⟨b, off, e1, fun i hi => by rw [hc i (by rw [uw_length]; exact hi), uw_get hi]⟩
 by_cases hp : 0 < l.length
 ·obtain ⟨b, off, rfl, hc⟩ := hA hp
  have HC := Lib.hid hc
  have hbw : b < w.heap.size := HLT.out (by rw [uw_length]; exact hp) b (by simp [InBlk, Value.ownBlock])
  clear hA hc
  go_enter Tryd.func11, Tryd.ntmps11
  go_wp2_with (first | (go_at_call 36; (with_reducible refine (new_c _ _).mono ?_); rintro e w1 ⟨rfl, ha, hf⟩))
  rw [HSZ.out] at ha
  have HA := Lib.hid ha
  have HF := Lib.hid hf
  clear ha hf
  have htk : ((l.length : Nat) : Int) ≤ (l.length + more) - (([] : List Int).length : Int) := by simp; omega
  have HTK := Lib.hid htk
  clear htk
  go_wp2_with (first | (go_at_call 37; (with_reducible refine (take_c _ _ [] (l.length + more) l.length _ HA.out HTK.out).mono ?_); rintro e w2 ⟨rfl, v2, ha2, hf2, hn2⟩))
  simp only [List.nil_append] at ha2
  have hf02 : Fr w w2 (fun _ => False) := HF.out.then_ hf2 (fun i hi hlt => hi.elim (fun e => by omega) (fun e => by simp [InBlk, Value.ownBlock] at e))
  have hin2 : ∀ k, InBlk v2 k → w.heap.size ≤ k := fun k hk => (hn2 k hk).elim (fun e => by simp [InBlk, Value.ownBlock] at e) (fun e => Nat.le_trans HF.out.size e)
  have HA2 := Lib.hid ha2
  have HF2 := Lib.hid hf02
  have HI2 := Lib.hid hin2
  clear ha2 hf2 hn2 hf02 hin2 HA HF hsum hsum2
  have hlen : l.length ≤ 1048576 := by omega
  go_wp2
  go_loopw [6] (fun i wr => ∃ k : Nat, k ≤ l.length ∧ i = .int .i64 k ∧ Hid (Ar 112 wr w.heap.size v2 (l.take k ++ List.replicate (l.length - k) 0) (l.length + more)) ∧ Hid (Fr w wr (fun _ => False))) (fun i _ => l.length - (intOf i).toNat)
  case atStart => exact ⟨0, Nat.zero_le _, rfl, Lib.hid (by simpa using HA2.out), HF2⟩
  case round =>
   obtain ⟨k, hk, rfl, HAr, HFr⟩ := hrel
   by_cases hkl : k < l.length
   ·have hcell : wr.cell? ⟨b, off + k, none⟩ = some (.int .u64 (l.getD k 0)) := HFr.out.cell (HC.out k hkl) (fun h => h)
    have hx := okWs_getD HOK.out k hkl
    have HX := Lib.hid hx
    have hst := filled_step hkl
    obtain ⟨x, hxe⟩ : ∃ x, l.getD k 0 = x := ⟨_, rfl⟩
    rw [hxe] at hcell hst
    have HST := Lib.hid hst
    have HXE := Lib.hid hxe
    have hlk : ((l.take k ++ List.replicate (l.length - k) 0).length : Int) = l.length := by simp; omega
    have HLK := Lib.hid hlk
    clear hst hxe hx hlk
    have q1 : (0 : Int) ≤ k := by omega
    have q2 : (k : Int) < l.length := by omega
    go_wp2_with (first | (go_at_call 38; (with_reducible refine (set_c _ _ _ _ _ _ _ HAr.out (HXE.out ▸ HX.out) ⟨q1, by rw [HLK.out]; exact q2⟩).mono ?_); rintro e w3 ⟨rfl, ha3, hf3⟩))
    rw [HST.out] at ha3
    have hf4 : Fr w w3 (fun _ => False) := HFr.out.then_ hf3 (fun i hi hlt => by have := HI2.out i hi; omega)
    have HA3 := Lib.hid ha3
    have HF3 := Lib.hid hf4
    clear ha3 hf3 hf4 HAr HFr
    go_wp2
    go_roundw
    case rel => exact ⟨k + 1, by omega, by go_num, HA3, HF3⟩
    case measure => simp [intOf]; omega
   ·have hke : k = l.length := by omega
    have hfin : l.take k ++ List.replicate (l.length - k) 0 = l := by rw [hke]; simp
    have HFIN := Lib.hid hfin
    clear hfin
    go_wp2
    go_ret
    refine ⟨_, v2, rfl, ?_, HFr.out, Nat.le_refl _, HI2.out⟩
    have := HAr.out
    rw [HFIN.out] at this
    exact this
 ·have hl0 : l = [] := List.eq_nil_of_length_eq_zero (by omega)
  subst hl0
  clear hA HLT
  simp only [List.length_nil] at *
  go_enter Tryd.func11, Tryd.ntmps11
  go_wp2_with (first | (go_at_call 36; (with_reducible refine (new_c _ _).mono ?_); rintro e w1 ⟨rfl, ha, hf⟩))
  have hsz2 : newSize more = ((0 : Nat) : Int) + more := by have := HSZ.out; simpa using this
  rw [hsz2] at ha
  have htk : (0 : Int) ≤ (((0 : Nat) : Int) + more) - (([] : List Int).length : Int) := by simp; omega
  have HA := Lib.hid ha
  have HF := Lib.hid hf
  have HTK := Lib.hid htk
  clear ha hf htk hsz2
  go_wp2_with (first | (go_at_call 37; (with_reducible refine (take_i _ _ [] _ 0 _ HA.out (Int.le_refl 0) HTK.out).mono ?_); rintro e w2 ⟨rfl, v2, ha2, hf2, hn2⟩))
  simp only [List.nil_append, Int.toNat_zero, List.replicate_zero] at ha2
  have hf02 : Fr w w2 (fun _ => False) := HF.out.then_ hf2 (fun i hi hlt => hi.elim (fun e => by omega) (fun e => by simp [InBlk, Value.ownBlock] at e))
  have hin2 : ∀ k, InBlk v2 k → w.heap.size ≤ k := fun k hk => (hn2 k hk).elim (fun e => by simp [InBlk, Value.ownBlock] at e) (fun e => Nat.le_trans HF.out.size e)
  have HA2 := Lib.hid ha2
  have HF2 := Lib.hid hf02
  have HI2 := Lib.hid hin2
  clear ha2 hf2 hn2 hf02 hin2 HA HF hsum hsum2
  go_wp2
  refine wp_loop_rounds 1 ?_
  rw [rounds_succ]
  go_wp2
  go_ret
  exact ⟨_, v2, rfl, HA2.out, HF2.out, Nat.le_refl _, HI2.out⟩
end Go.Proofs.YtjiaaefpepdoeaaDoor
namespace Go.Proofs.YtjiaaefpepdoeaaDoor
open Go.RowKit Md
set_option linter.unusedVariables false
end Go.Proofs.YtjiaaefpepdoeaaDoor
namespace Go.Proofs.YtjiaaefpepdoeaaDoor
open Go.RowKit Md
set_option linter.unusedVariables false
def Chg (T : TypeId) (w w' : World) (p : Nat) (v v' : Value) (ws' : List Int) (size' : Int) : Prop :=
 Ar T w' p v' ws' size' ∧ Fr w w' (fun i => i = p ∨ InBlk v i) ∧ ∀ k, InBlk v' k → InBlk v k ∨ w.heap.size ≤ k
def Apt (v u : Value) : Prop := ∀ k, InBlk v k → ¬ InBlk u k
section
variable {T T' : TypeId} {w w1 : World} {p q : Nat} {v v' u : Value} {ws ws' ws2 : List Int} {s s' s2 : Int} {S : Nat → Prop}
theorem Chg.of_set (h : Ar T w1 p v ws' s) (hf : Fr w w1 (InBlk v)) : Chg T w w1 p v v ws' s := ⟨h, hf.mono fun _ h _ => .inr h, fun k h => .inl h⟩
theorem Chg.of_cut (h : Ar T w1 p v' ws' s') (hf : Fr w w1 (fun i => i = p)) (hn : ∀ k, InBlk v' k → InBlk v k) : Chg T w w1 p v v' ws' s' := ⟨h, hf.mono fun _ h _ => .inl h, fun k h => .inl (hn k h)⟩
theorem Ar.drewN (h : Ar T w p v ws s) (n : Nat) : Ar T (w.drewN n) p v ws s := h.keep ((Fr.refl w (fun _ => False)).drewN n) (fun h => h) (fun _ _ h => h)
theorem Ar.fr (h : Ar T w p v ws s) (hf : Fr w w1 (fun _ => False)) : Ar T w1 p v ws s := h.keep hf (fun h => h) (fun _ _ h => h)
end
end Go.Proofs.YtjiaaefpepdoeaaDoor
namespace Go.Proofs.YtjiaaefpepdoeaaDoor
open Go.RowKit Md
set_option linter.unusedVariables false
def getR (ws : List Int) (n : Int) : Int := (rdAt ws n).getD 0
def getB (ws : List Int) (n : Int) : Bool := (rdAt ws n).isSome
theorem get_u (p : Nat) (v : Value) (ws : List Int) (s n : Int) (w : World) (h : Ar 112 w p v ws s) :
  Calls Tryd.prog 43 #[.pointer (some ⟨p, 0, none⟩), .int .i64 n] w fun e w' => e = .returned (.tuple #[.int .u64 (getR ws n), .bool (getB ws n)]) ∧ w = w' := by
 cases hb : rdAt ws n with
 | some r => simp only [getR, getB, hb, Option.getD_some, Option.isSome_some]; exact get_c p v ws s n r w h hb
 | none => simp only [getR, getB, hb, Option.getD_none, Option.isSome_none]; exact get_no p v ws s n w h hb
end Go.Proofs.YtjiaaefpepdoeaaDoor
namespace Go.Proofs.YtjiaaefpepdoeaaDoor
open Go.RowKit Md Go.Proofs.YtjiaaefpepdoeaaDoorW.PrintWords
set_option linter.unusedVariables false
theorem objAt_some {ws : List Int} {i : Int} {h : Hdr} (hh : objAt ws i = some h) : ∃ k : Nat, i = k ∧ k < ws.length ∧ readH (ws.getD k 0) = some h ∧ h.size < ws.length - k := by
 unfold objAt at hh
 cases hr : rdAt ws i with
 | none => rw [hr] at hh; cases hh
 | some x =>
  obtain ⟨k, rfl, hk, hx⟩ := rdAt_some hr
  rw [hr] at hh
  simp only at hh
  cases hq : readH x with
  | none => rw [hq] at hh; cases hh
  | some h' =>
   rw [hq] at hh
   simp only at hh
   split at hh
   ·rename_i hs; cases hh; exact ⟨k, rfl, hk, by rw [hx, hq], hs⟩
   ·cases hh
theorem objAt_none {ws : List Int} {i : Int} (hh : objAt ws i = none) : ¬ (0 ≤ i ∧ i < ws.length) ∨ ∃ k : Nat, i = k ∧ k < ws.length ∧ (readH (ws.getD k 0) = none ∨ ∃ h, readH (ws.getD k 0) = some h ∧ (ws.length : Int) - k ≤ h.size) := by
 unfold objAt at hh
 cases hr : rdAt ws i with
 | none => exact .inl (rdAt_none hr)
 | some x =>
  obtain ⟨k, rfl, hk, hx⟩ := rdAt_some hr
  rw [hr] at hh
  simp only at hh
  refine .inr ⟨k, rfl, hk, ?_⟩
  rw [hx]
  cases hq : readH x with
  | none => exact .inl rfl
  | some h' =>
   rw [hq] at hh
   simp only at hh
   split at hh
   ·cases hh
   ·rename_i hs; exact .inr ⟨h', rfl, by omega⟩
theorem objAt_of {ws : List Int} {k : Nat} {h : Hdr} (hk : k < ws.length) (hr : readH (ws.getD k 0) = some h) (hs : h.size < (ws.length : Int) - k) : objAt ws k = some h := by
 unfold objAt
 rw [rdAt_of hk]
 simp only [hr]
 rw [if_pos hs]
theorem readH_size {x : Int} {h : Hdr} (hr : readH x = some h) : 0 ≤ h.size ∧ h.size < 1048576 := by
 obtain ⟨h1, h2, h3, h4⟩ := read_some hr
 rw [h4]; unfold unpackH; simp only; omega
set_option maxHeartbeats 1000000 in
theorem obj_some (p : Nat) (v : Value) (ws : List Int) (size i : Int) (h : Hdr) (w : World) (ha : Ar 112 w p v ws size) (hh : objAt ws i = some h) :
  Calls Tryd.prog 39 #[.pointer (some ⟨p, 0, none⟩), .int .i64 i] w fun e w' => e = .returned (.tuple #[.agg #[.int .i64 h.kind, .int .i64 h.size, .int .i64 h.tree, .bool h.neg], .bool true]) ∧ Fr w w' (fun _ => False) := by
 obtain ⟨k, rfl, hk, hr, hs⟩ := objAt_some hh
 clear hh
 rcases ha.form with ⟨_, rfl⟩ | ⟨g, cap, rfl, hl, hm, hg, hgp, hc, hf⟩
 ·simp at hk
 have c0 := ha.c0
 have ck := hc k hk
 have hx := okWs_getD ha.ok k hk
 obtain ⟨x, hxe⟩ : ∃ x, ws.getD k 0 = x := ⟨_, rfl⟩
 rw [hxe] at ck hr hx
 have hrp : Wd.readP x = (h.kind, h.size, h.tree, h.neg, true) := by unfold Wd.readP; rw [hr]
 obtain ⟨hz0, hz1⟩ := readH_size hr
 obtain ⟨hkd, hsz, htr, hng⟩ := h
 simp only at hrp hz0 hz1 hs ⊢
 have HRP := Lib.hid hrp
 have hle := ha.le
 have hmx := ha.mx
 have hpw := ha.lt
 have HX := Lib.hid hx
 have d1 : decide ((k : Int) < 0) = false := decide_eq_false (by omega)
 have d2 : decide ((ws.length : Int) ≤ (k : Int)) = false := decide_eq_false (by omega)
 have d2' : decide (ws.length ≤ k) = false := decide_eq_false (by omega)
 have d3 : decide ((ws.length : Int) - (k : Int) ≤ hsz) = false := decide_eq_false (by omega)
 have hw1 : IntKind.i64.wrap ((ws.length : Int) - (k : Int)) = ws.length - k := by rw [IntKind.wrap_i64]; omega
 have hw3 : wrap64 ((ws.length : Int) - (k : Int)) = ws.length - k := by unfold wrap64; omega
 clear ha hc hf hgp hm hx hrp hr hxe hle
 go_enter Tryd.func39, Tryd.ntmps39
 go_wp2_with (first | (go_at_call 69; (with_reducible refine (Wd.read_c x hkd hsz htr hng true _ HX.out HRP.out).mono ?_); rintro e w1 ⟨rfl, hb⟩))
 have c0w := pw_cell_below hb ((World.cell?_alloc_past _ _ _ hpw).trans c0)
 have hpw1 : p < w1.heap.size := World.block_lt_of_cell? w1 _ c0w
 have HB := Lib.hid hb
 clear hb ck c0
 have hbk : w1.heap[w.heap.size]? = some (.cells #[.int .i64 0, .int .i64 0, .int .i64 0, .bool false] 88 (0, 0)) := (HB.out.block w.heap.size (by simp)).trans (by show (w.heap.push _)[w.heap.size]? = _; exact Array.getElem?_push_size)
 have gw1 : w.heap.size < w1.heap.size := (Array.getElem?_eq_some_iff.1 hbk).1
 have fz : ∀ i, w1.frozen? ⟨w.heap.size, i, none⟩ = false := fun i => by simp [World.frozen?, hbk]
 have e0 : w1.cell? ⟨w.heap.size, 0, none⟩ = some (.int .i64 0) := by simp [World.cell?, hbk]
 have e1 : w1.cell? ⟨w.heap.size, 1, none⟩ = some (.int .i64 0) := by simp [World.cell?, hbk]
 have e2 : w1.cell? ⟨w.heap.size, 2, none⟩ = some (.int .i64 0) := by simp [World.cell?, hbk]
 have e3 : w1.cell? ⟨w.heap.size, 3, none⟩ = some (.bool false) := by simp [World.cell?, hbk]
 have HBK := Lib.hid hbk
 clear hbk
 go_quiet (fail)
 go_wp2
 refine bodyPost_ret (results_ct rfl _ _ w.heap.size 88 #[.int .i64 hkd, .int .i64 hsz, .int .i64 htr, .bool hng] (0, 0) _ rfl (by
  refine blk_put (cs := #[.int .i64 hkd, .int .i64 hsz, .int .i64 htr, .bool false]) ?_ 3 _ rfl
  refine blk_put (cs := #[.int .i64 hkd, .int .i64 hsz, .int .i64 0, .bool false]) ?_ 2 _ rfl
  refine blk_put (cs := #[.int .i64 hkd, .int .i64 0, .int .i64 0, .bool false]) ?_ 1 _ rfl
  refine blk_put (cs := #[.int .i64 0, .int .i64 0, .int .i64 0, .bool false]) ?_ 0 _ rfl
  refine blk_drewN ?_ _
  refine blk_alloc ?_ _
  exact HBK.out) Tryd.underlying88 rfl (by kernel_rfl)) rfl ?_
 exact ⟨rfl, (((((((((Fr.refl w _).alloc _).trans (Fr.of_below HB.out _)).alloc _).drewN _).setCell (fun h => absurd h (Nat.lt_irrefl _)) _).setCell (fun h => absurd h (Nat.lt_irrefl _)) _).setCell (fun h => absurd h (Nat.lt_irrefl _)) _).setCell (fun h => absurd h (Nat.lt_irrefl _)) _)⟩
set_option maxHeartbeats 1000000 in
theorem obj_far (p : Nat) (v : Value) (ws : List Int) (size i : Int) (w : World) (ha : Ar 112 w p v ws size) (hh : ¬ (0 ≤ i ∧ i < ws.length)) :
  Calls Tryd.prog 39 #[.pointer (some ⟨p, 0, none⟩), .int .i64 i] w fun e w' => e = .returned (.tuple #[.agg #[.int .i64 0, .int .i64 0, .int .i64 0, .bool false], .bool false]) ∧ Fr w w' (fun _ => False) := by
 obtain ⟨A, cap, rfl⟩ := ha.val
 have c0 := ha.c0
 have hpw := ha.lt
 clear ha
 have key : decide (i < 0) = true ∨ (decide (i < 0) = false ∧ decide ((ws.length : Int) ≤ i) = true) := by
  by_cases h0 : i < 0
  ·exact .inl (decide_eq_true h0)
  ·exact .inr ⟨decide_eq_false h0, decide_eq_true (by omega)⟩
 clear hh
 have hbk : (w.alloc (.cells #[.int .i64 0, .int .i64 0, .int .i64 0, .bool false] 88)).heap[w.heap.size]? = some (.cells #[.int .i64 0, .int .i64 0, .int .i64 0, .bool false] 88 (0, 0)) := by show (w.heap.push _)[w.heap.size]? = _; exact Array.getElem?_push_size
 have HBK := Lib.hid hbk
 clear hbk
 rcases key with d1 | ⟨d1, d2⟩
 ·go_enter Tryd.func39, Tryd.ntmps39
  go_wp2
  refine bodyPost_ret (results_ct rfl _ _ w.heap.size 88 #[.int .i64 0, .int .i64 0, .int .i64 0, .bool false] (0, 0) _ rfl HBK.out Tryd.underlying88 rfl (by kernel_rfl)) rfl ?_
  exact ⟨rfl, (Fr.refl w _).alloc _⟩
 ·go_enter Tryd.func39, Tryd.ntmps39
  go_wp2
  refine bodyPost_ret (results_ct rfl _ _ w.heap.size 88 #[.int .i64 0, .int .i64 0, .int .i64 0, .bool false] (0, 0) _ rfl HBK.out Tryd.underlying88 rfl (by kernel_rfl)) rfl ?_
  exact ⟨rfl, (Fr.refl w _).alloc _⟩
set_option maxHeartbeats 1000000 in
theorem obj_bad (p : Nat) (v : Value) (ws : List Int) (size : Int) (k : Nat) (w : World) (ha : Ar 112 w p v ws size) (hk : k < ws.length) (hr : readH (ws.getD k 0) = none) :
  Calls Tryd.prog 39 #[.pointer (some ⟨p, 0, none⟩), .int .i64 k] w fun e w' => e = .returned (.tuple #[.agg #[.int .i64 0, .int .i64 0, .int .i64 0, .bool false], .bool false]) ∧ Fr w w' (fun _ => False) := by
 rcases ha.form with ⟨_, rfl⟩ | ⟨g, cap, rfl, hl, hm, hg, hgp, hc, hf⟩
 ·simp at hk
 have c0 := ha.c0
 have ck := hc k hk
 have hx := okWs_getD ha.ok k hk
 obtain ⟨x, hxe⟩ : ∃ x, ws.getD k 0 = x := ⟨_, rfl⟩
 rw [hxe] at ck hr hx
 have hrp : Wd.readP x = (0, 0, 0, false, false) := by unfold Wd.readP; rw [hr]
 have HRP := Lib.hid hrp
 have hle := ha.le
 have hmx := ha.mx
 have hpw := ha.lt
 have HX := Lib.hid hx
 have d1 : decide ((k : Int) < 0) = false := decide_eq_false (by omega)
 have d2 : decide ((ws.length : Int) ≤ (k : Int)) = false := decide_eq_false (by omega)
 have d2' : decide (ws.length ≤ k) = false := decide_eq_false (by omega)
 clear ha hc hf hgp hm hx hrp hr hxe hle
 go_enter Tryd.func39, Tryd.ntmps39
 go_wp2_with (first | (go_at_call 69; (with_reducible refine (Wd.read_c x 0 0 0 false false _ HX.out HRP.out).mono ?_); rintro e w1 ⟨rfl, hb⟩))
 have c0w := pw_cell_below hb ((World.cell?_alloc_past _ _ _ hpw).trans c0)
 have hpw1 : p < w1.heap.size := World.block_lt_of_cell? w1 _ c0w
 have HB := Lib.hid hb
 clear hb ck c0
 have hbk : w1.heap[w.heap.size]? = some (.cells #[.int .i64 0, .int .i64 0, .int .i64 0, .bool false] 88 (0, 0)) := (HB.out.block w.heap.size (by simp)).trans (by show (w.heap.push _)[w.heap.size]? = _; exact Array.getElem?_push_size)
 have gw1 : w.heap.size < w1.heap.size := (Array.getElem?_eq_some_iff.1 hbk).1
 have fz : ∀ i, w1.frozen? ⟨w.heap.size, i, none⟩ = false := fun i => by simp [World.frozen?, hbk]
 have e0 : w1.cell? ⟨w.heap.size, 0, none⟩ = some (.int .i64 0) := by simp [World.cell?, hbk]
 have e1 : w1.cell? ⟨w.heap.size, 1, none⟩ = some (.int .i64 0) := by simp [World.cell?, hbk]
 have e2 : w1.cell? ⟨w.heap.size, 2, none⟩ = some (.int .i64 0) := by simp [World.cell?, hbk]
 have e3 : w1.cell? ⟨w.heap.size, 3, none⟩ = some (.bool false) := by simp [World.cell?, hbk]
 have HBK := Lib.hid hbk
 clear hbk
 go_quiet (fail)
 go_wp2
 refine bodyPost_ret (results_ct rfl _ _ w.heap.size 88 #[.int .i64 0, .int .i64 0, .int .i64 0, .bool false] (0, 0) _ rfl (by
  refine blk_put (cs := #[.int .i64 0, .int .i64 0, .int .i64 0, .bool false]) ?_ 3 _ rfl
  refine blk_put (cs := #[.int .i64 0, .int .i64 0, .int .i64 0, .bool false]) ?_ 2 _ rfl
  refine blk_put (cs := #[.int .i64 0, .int .i64 0, .int .i64 0, .bool false]) ?_ 1 _ rfl
  refine blk_put (cs := #[.int .i64 0, .int .i64 0, .int .i64 0, .bool false]) ?_ 0 _ rfl
  refine blk_drewN ?_ _
  refine blk_alloc ?_ _
  exact HBK.out) Tryd.underlying88 rfl (by kernel_rfl)) rfl ?_
 exact ⟨rfl, (((((((((Fr.refl w _).alloc _).trans (Fr.of_below HB.out _)).alloc _).drewN _).setCell (fun h => absurd h (Nat.lt_irrefl _)) _).setCell (fun h => absurd h (Nat.lt_irrefl _)) _).setCell (fun h => absurd h (Nat.lt_irrefl _)) _).setCell (fun h => absurd h (Nat.lt_irrefl _)) _)⟩
set_option maxHeartbeats 1000000 in
theorem obj_long (p : Nat) (v : Value) (ws : List Int) (size : Int) (k : Nat) (h : Hdr) (w : World) (ha : Ar 112 w p v ws size) (hk : k < ws.length) (hr : readH (ws.getD k 0) = some h) (hs : (ws.length : Int) - k ≤ h.size) :
  Calls Tryd.prog 39 #[.pointer (some ⟨p, 0, none⟩), .int .i64 k] w fun e w' => e = .returned (.tuple #[.agg #[.int .i64 0, .int .i64 0, .int .i64 0, .bool false], .bool false]) ∧ Fr w w' (fun _ => False) := by
 rcases ha.form with ⟨_, rfl⟩ | ⟨g, cap, rfl, hl, hm, hg, hgp, hc, hf⟩
 ·simp at hk
 have c0 := ha.c0
 have ck := hc k hk
 have hx := okWs_getD ha.ok k hk
 obtain ⟨x, hxe⟩ : ∃ x, ws.getD k 0 = x := ⟨_, rfl⟩
 rw [hxe] at ck hr hx
 have hrp : Wd.readP x = (h.kind, h.size, h.tree, h.neg, true) := by unfold Wd.readP; rw [hr]
 obtain ⟨hz0, hz1⟩ := readH_size hr
 obtain ⟨hkd, hsz, htr, hng⟩ := h
 simp only at hrp hz0 hz1 hs ⊢
 have HRP := Lib.hid hrp
 have hle := ha.le
 have hmx := ha.mx
 have hpw := ha.lt
 have HX := Lib.hid hx
 have d1 : decide ((k : Int) < 0) = false := decide_eq_false (by omega)
 have d2 : decide ((ws.length : Int) ≤ (k : Int)) = false := decide_eq_false (by omega)
 have d2' : decide (ws.length ≤ k) = false := decide_eq_false (by omega)
 have d3 : decide ((ws.length : Int) - (k : Int) ≤ hsz) = true := decide_eq_true (by omega)
 have hw1 : IntKind.i64.wrap ((ws.length : Int) - (k : Int)) = ws.length - k := by rw [IntKind.wrap_i64]; omega
 have hw3 : wrap64 ((ws.length : Int) - (k : Int)) = ws.length - k := by unfold wrap64; omega
 clear ha hc hf hgp hm hx hrp hr hxe hle
 go_enter Tryd.func39, Tryd.ntmps39
 go_wp2_with (first | (go_at_call 69; (with_reducible refine (Wd.read_c x hkd hsz htr hng true _ HX.out HRP.out).mono ?_); rintro e w1 ⟨rfl, hb⟩))
 have c0w := pw_cell_below hb ((World.cell?_alloc_past _ _ _ hpw).trans c0)
 have hpw1 : p < w1.heap.size := World.block_lt_of_cell? w1 _ c0w
 have HB := Lib.hid hb
 clear hb ck c0
 have hbk : w1.heap[w.heap.size]? = some (.cells #[.int .i64 0, .int .i64 0, .int .i64 0, .bool false] 88 (0, 0)) := (HB.out.block w.heap.size (by simp)).trans (by show (w.heap.push _)[w.heap.size]? = _; exact Array.getElem?_push_size)
 have gw1 : w.heap.size < w1.heap.size := (Array.getElem?_eq_some_iff.1 hbk).1
 have fz : ∀ i, w1.frozen? ⟨w.heap.size, i, none⟩ = false := fun i => by simp [World.frozen?, hbk]
 have e0 : w1.cell? ⟨w.heap.size, 0, none⟩ = some (.int .i64 0) := by simp [World.cell?, hbk]
 have e1 : w1.cell? ⟨w.heap.size, 1, none⟩ = some (.int .i64 0) := by simp [World.cell?, hbk]
 have e2 : w1.cell? ⟨w.heap.size, 2, none⟩ = some (.int .i64 0) := by simp [World.cell?, hbk]
 have e3 : w1.cell? ⟨w.heap.size, 3, none⟩ = some (.bool false) := by simp [World.cell?, hbk]
 have HBK := Lib.hid hbk
 clear hbk
 go_quiet (fail)
 go_wp2
 refine bodyPost_ret (results_ct rfl _ _ w.heap.size 88 #[.int .i64 0, .int .i64 0, .int .i64 0, .bool false] (0, 0) _ rfl (by
  refine blk_put (cs := #[.int .i64 0, .int .i64 0, .int .i64 0, .bool false]) ?_ 3 _ rfl
  refine blk_put (cs := #[.int .i64 0, .int .i64 0, .int .i64 0, .bool false]) ?_ 2 _ rfl
  refine blk_put (cs := #[.int .i64 0, .int .i64 0, .int .i64 0, .bool false]) ?_ 1 _ rfl
  refine blk_put (cs := #[.int .i64 0, .int .i64 0, .int .i64 0, .bool false]) ?_ 0 _ rfl
  refine blk_drewN ?_ _
  refine blk_alloc ?_ _
  exact HBK.out) Tryd.underlying88 rfl (by kernel_rfl)) rfl ?_
 exact ⟨rfl, (((((((((Fr.refl w _).alloc _).trans (Fr.of_below HB.out _)).alloc _).drewN _).setCell (fun h => absurd h (Nat.lt_irrefl _)) _).setCell (fun h => absurd h (Nat.lt_irrefl _)) _).setCell (fun h => absurd h (Nat.lt_irrefl _)) _).setCell (fun h => absurd h (Nat.lt_irrefl _)) _)⟩
theorem obj_none (p : Nat) (v : Value) (ws : List Int) (size i : Int) (w : World) (ha : Ar 112 w p v ws size) (hh : objAt ws i = none) :
  Calls Tryd.prog 39 #[.pointer (some ⟨p, 0, none⟩), .int .i64 i] w fun e w' => e = .returned (.tuple #[.agg #[.int .i64 0, .int .i64 0, .int .i64 0, .bool false], .bool false]) ∧ Fr w w' (fun _ => False) := by
 rcases objAt_none hh with h | ⟨k, rfl, hk, h | ⟨hd, h, hs⟩⟩
 ·exact obj_far p v ws size i w ha h
 ·exact obj_bad p v ws size k w ha hk h
 ·exact obj_long p v ws size k hd w ha hk h hs
set_option maxHeartbeats 1000000 in
theorem mobj_some (p : Nat) (v : Value) (ws : List Int) (size i : Int) (h : Hdr) (w : World) (ha : Ar 46 w p v ws size) (hh : objAt ws i = some h) :
  Calls Tryd.prog 47 #[.pointer (some ⟨p, 0, none⟩), .int .i64 i] w fun e w' => e = .returned (.tuple #[.agg #[.int .i64 h.kind, .int .i64 h.size, .int .i64 h.tree, .bool h.neg], .bool true]) ∧ Fr w w' (fun _ => False) := by
 obtain ⟨k, rfl, hk, hr, hs⟩ := objAt_some hh
 clear hh
 rcases ha.form with ⟨_, rfl⟩ | ⟨g, cap, rfl, hl, hm, hg, hgp, hc, hf⟩
 ·simp at hk
 have c0 := ha.c0
 have ck := hc k hk
 have hx := okWs_getD ha.ok k hk
 obtain ⟨x, hxe⟩ : ∃ x, ws.getD k 0 = x := ⟨_, rfl⟩
 rw [hxe] at ck hr hx
 have hrp : Wd.readP x = (h.kind, h.size, h.tree, h.neg, true) := by unfold Wd.readP; rw [hr]
 obtain ⟨hz0, hz1⟩ := readH_size hr
 obtain ⟨hkd, hsz, htr, hng⟩ := h
 simp only at hrp hz0 hz1 hs ⊢
 have HRP := Lib.hid hrp
 have hle := ha.le
 have hmx := ha.mx
 have hpw := ha.lt
 have HX := Lib.hid hx
 have d1 : decide ((k : Int) < 0) = false := decide_eq_false (by omega)
 have d2 : decide ((ws.length : Int) ≤ (k : Int)) = false := decide_eq_false (by omega)
 have d2' : decide (ws.length ≤ k) = false := decide_eq_false (by omega)
 have d3 : decide ((ws.length : Int) - (k : Int) - 1 < hsz) = false := decide_eq_false (by omega)
 have hw2 : IntKind.i64.wrap ((ws.length : Int) - (k : Int) - 1) = ws.length - k - 1 := by rw [IntKind.wrap_i64]; omega
 have hw4 : wrap64 ((ws.length : Int) - (k : Int) - 1) = ws.length - k - 1 := by unfold wrap64; omega
 have hw1 : IntKind.i64.wrap ((ws.length : Int) - (k : Int)) = ws.length - k := by rw [IntKind.wrap_i64]; omega
 have hw3 : wrap64 ((ws.length : Int) - (k : Int)) = ws.length - k := by unfold wrap64; omega
 clear ha hc hf hgp hm hx hrp hr hxe hle
 go_enter Tryd.func47, Tryd.ntmps47
 go_wp2_with (first | (go_at_call 70; (with_reducible refine (Wd.rread_c x hkd hsz htr hng true _ HX.out HRP.out).mono ?_); rintro e w1 ⟨rfl, hb⟩))
 have c0w := pw_cell_below hb ((World.cell?_alloc_past _ _ _ hpw).trans c0)
 have hpw1 : p < w1.heap.size := World.block_lt_of_cell? w1 _ c0w
 have HB := Lib.hid hb
 clear hb ck c0
 have hbk : w1.heap[w.heap.size]? = some (.cells #[.int .i64 0, .int .i64 0, .int .i64 0, .bool false] 68 (0, 0)) := (HB.out.block w.heap.size (by simp)).trans (by show (w.heap.push _)[w.heap.size]? = _; exact Array.getElem?_push_size)
 have gw1 : w.heap.size < w1.heap.size := (Array.getElem?_eq_some_iff.1 hbk).1
 have fz : ∀ i, w1.frozen? ⟨w.heap.size, i, none⟩ = false := fun i => by simp [World.frozen?, hbk]
 have e0 : w1.cell? ⟨w.heap.size, 0, none⟩ = some (.int .i64 0) := by simp [World.cell?, hbk]
 have e1 : w1.cell? ⟨w.heap.size, 1, none⟩ = some (.int .i64 0) := by simp [World.cell?, hbk]
 have e2 : w1.cell? ⟨w.heap.size, 2, none⟩ = some (.int .i64 0) := by simp [World.cell?, hbk]
 have e3 : w1.cell? ⟨w.heap.size, 3, none⟩ = some (.bool false) := by simp [World.cell?, hbk]
 have HBK := Lib.hid hbk
 clear hbk
 go_quiet (fail)
 go_wp2
 refine bodyPost_ret (results_ct rfl _ _ w.heap.size 68 #[.int .i64 hkd, .int .i64 hsz, .int .i64 htr, .bool hng] (0, 0) _ rfl (by
  refine blk_put (cs := #[.int .i64 hkd, .int .i64 hsz, .int .i64 htr, .bool false]) ?_ 3 _ rfl
  refine blk_put (cs := #[.int .i64 hkd, .int .i64 hsz, .int .i64 0, .bool false]) ?_ 2 _ rfl
  refine blk_put (cs := #[.int .i64 hkd, .int .i64 0, .int .i64 0, .bool false]) ?_ 1 _ rfl
  refine blk_put (cs := #[.int .i64 0, .int .i64 0, .int .i64 0, .bool false]) ?_ 0 _ rfl
  refine blk_drewN ?_ _
  refine blk_alloc ?_ _
  exact HBK.out) Tryd.underlying68 rfl (by kernel_rfl)) rfl ?_
 exact ⟨rfl, (((((((((Fr.refl w _).alloc _).trans (Fr.of_below HB.out _)).alloc _).drewN _).setCell (fun h => absurd h (Nat.lt_irrefl _)) _).setCell (fun h => absurd h (Nat.lt_irrefl _)) _).setCell (fun h => absurd h (Nat.lt_irrefl _)) _).setCell (fun h => absurd h (Nat.lt_irrefl _)) _)⟩
set_option maxHeartbeats 1000000 in
theorem mobj_far (p : Nat) (v : Value) (ws : List Int) (size i : Int) (w : World) (ha : Ar 46 w p v ws size) (hh : ¬ (0 ≤ i ∧ i < ws.length)) :
  Calls Tryd.prog 47 #[.pointer (some ⟨p, 0, none⟩), .int .i64 i] w fun e w' => e = .returned (.tuple #[.agg #[.int .i64 0, .int .i64 0, .int .i64 0, .bool false], .bool false]) ∧ Fr w w' (fun _ => False) := by
 obtain ⟨A, cap, rfl⟩ := ha.val
 have c0 := ha.c0
 have hpw := ha.lt
 clear ha
 have key : decide (i < 0) = true ∨ (decide (i < 0) = false ∧ decide ((ws.length : Int) ≤ i) = true) := by
  by_cases h0 : i < 0
  ·exact .inl (decide_eq_true h0)
  ·exact .inr ⟨decide_eq_false h0, decide_eq_true (by omega)⟩
 clear hh
 have hbk : (w.alloc (.cells #[.int .i64 0, .int .i64 0, .int .i64 0, .bool false] 68)).heap[w.heap.size]? = some (.cells #[.int .i64 0, .int .i64 0, .int .i64 0, .bool false] 68 (0, 0)) := by show (w.heap.push _)[w.heap.size]? = _; exact Array.getElem?_push_size
 have HBK := Lib.hid hbk
 clear hbk
 rcases key with d1 | ⟨d1, d2⟩
 ·go_enter Tryd.func47, Tryd.ntmps47
  go_wp2
  refine bodyPost_ret (results_ct rfl _ _ w.heap.size 68 #[.int .i64 0, .int .i64 0, .int .i64 0, .bool false] (0, 0) _ rfl HBK.out Tryd.underlying68 rfl (by kernel_rfl)) rfl ?_
  exact ⟨rfl, (Fr.refl w _).alloc _⟩
 ·go_enter Tryd.func47, Tryd.ntmps47
  go_wp2
  refine bodyPost_ret (results_ct rfl _ _ w.heap.size 68 #[.int .i64 0, .int .i64 0, .int .i64 0, .bool false] (0, 0) _ rfl HBK.out Tryd.underlying68 rfl (by kernel_rfl)) rfl ?_
  exact ⟨rfl, (Fr.refl w _).alloc _⟩
set_option maxHeartbeats 1000000 in
theorem mobj_bad (p : Nat) (v : Value) (ws : List Int) (size : Int) (k : Nat) (w : World) (ha : Ar 46 w p v ws size) (hk : k < ws.length) (hr : readH (ws.getD k 0) = none) :
  Calls Tryd.prog 47 #[.pointer (some ⟨p, 0, none⟩), .int .i64 k] w fun e w' => e = .returned (.tuple #[.agg #[.int .i64 0, .int .i64 0, .int .i64 0, .bool false], .bool false]) ∧ Fr w w' (fun _ => False) := by
 rcases ha.form with ⟨_, rfl⟩ | ⟨g, cap, rfl, hl, hm, hg, hgp, hc, hf⟩
 ·simp at hk
 have c0 := ha.c0
 have ck := hc k hk
 have hx := okWs_getD ha.ok k hk
 obtain ⟨x, hxe⟩ : ∃ x, ws.getD k 0 = x := ⟨_, rfl⟩
 rw [hxe] at ck hr hx
 have hrp : Wd.readP x = (0, 0, 0, false, false) := by unfold Wd.readP; rw [hr]
 have HRP := Lib.hid hrp
 have hle := ha.le
 have hmx := ha.mx
 have hpw := ha.lt
 have HX := Lib.hid hx
 have d1 : decide ((k : Int) < 0) = false := decide_eq_false (by omega)
 have d2 : decide ((ws.length : Int) ≤ (k : Int)) = false := decide_eq_false (by omega)
 have d2' : decide (ws.length ≤ k) = false := decide_eq_false (by omega)
 clear ha hc hf hgp hm hx hrp hr hxe hle
 go_enter Tryd.func47, Tryd.ntmps47
 go_wp2_with (first | (go_at_call 70; (with_reducible refine (Wd.rread_c x 0 0 0 false false _ HX.out HRP.out).mono ?_); rintro e w1 ⟨rfl, hb⟩))
 have c0w := pw_cell_below hb ((World.cell?_alloc_past _ _ _ hpw).trans c0)
 have hpw1 : p < w1.heap.size := World.block_lt_of_cell? w1 _ c0w
 have HB := Lib.hid hb
 clear hb ck c0
 have hbk : w1.heap[w.heap.size]? = some (.cells #[.int .i64 0, .int .i64 0, .int .i64 0, .bool false] 68 (0, 0)) := (HB.out.block w.heap.size (by simp)).trans (by show (w.heap.push _)[w.heap.size]? = _; exact Array.getElem?_push_size)
 have gw1 : w.heap.size < w1.heap.size := (Array.getElem?_eq_some_iff.1 hbk).1
 have fz : ∀ i, w1.frozen? ⟨w.heap.size, i, none⟩ = false := fun i => by simp [World.frozen?, hbk]
 have e0 : w1.cell? ⟨w.heap.size, 0, none⟩ = some (.int .i64 0) := by simp [World.cell?, hbk]
 have e1 : w1.cell? ⟨w.heap.size, 1, none⟩ = some (.int .i64 0) := by simp [World.cell?, hbk]
 have e2 : w1.cell? ⟨w.heap.size, 2, none⟩ = some (.int .i64 0) := by simp [World.cell?, hbk]
 have e3 : w1.cell? ⟨w.heap.size, 3, none⟩ = some (.bool false) := by simp [World.cell?, hbk]
 have HBK := Lib.hid hbk
 clear hbk
 go_quiet (fail)
 go_wp2
 refine bodyPost_ret (results_ct rfl _ _ w.heap.size 68 #[.int .i64 0, .int .i64 0, .int .i64 0, .bool false] (0, 0) _ rfl (by
  refine blk_put (cs := #[.int .i64 0, .int .i64 0, .int .i64 0, .bool false]) ?_ 3 _ rfl
  refine blk_put (cs := #[.int .i64 0, .int .i64 0, .int .i64 0, .bool false]) ?_ 2 _ rfl
  refine blk_put (cs := #[.int .i64 0, .int .i64 0, .int .i64 0, .bool false]) ?_ 1 _ rfl
  refine blk_put (cs := #[.int .i64 0, .int .i64 0, .int .i64 0, .bool false]) ?_ 0 _ rfl
  refine blk_drewN ?_ _
  refine blk_alloc ?_ _
  exact HBK.out) Tryd.underlying68 rfl (by kernel_rfl)) rfl ?_
 exact ⟨rfl, (((((((((Fr.refl w _).alloc _).trans (Fr.of_below HB.out _)).alloc _).drewN _).setCell (fun h => absurd h (Nat.lt_irrefl _)) _).setCell (fun h => absurd h (Nat.lt_irrefl _)) _).setCell (fun h => absurd h (Nat.lt_irrefl _)) _).setCell (fun h => absurd h (Nat.lt_irrefl _)) _)⟩
set_option maxHeartbeats 1000000 in
theorem mobj_long (p : Nat) (v : Value) (ws : List Int) (size : Int) (k : Nat) (h : Hdr) (w : World) (ha : Ar 46 w p v ws size) (hk : k < ws.length) (hr : readH (ws.getD k 0) = some h) (hs : (ws.length : Int) - k ≤ h.size) :
  Calls Tryd.prog 47 #[.pointer (some ⟨p, 0, none⟩), .int .i64 k] w fun e w' => e = .returned (.tuple #[.agg #[.int .i64 0, .int .i64 0, .int .i64 0, .bool false], .bool false]) ∧ Fr w w' (fun _ => False) := by
 rcases ha.form with ⟨_, rfl⟩ | ⟨g, cap, rfl, hl, hm, hg, hgp, hc, hf⟩
 ·simp at hk
 have c0 := ha.c0
 have ck := hc k hk
 have hx := okWs_getD ha.ok k hk
 obtain ⟨x, hxe⟩ : ∃ x, ws.getD k 0 = x := ⟨_, rfl⟩
 rw [hxe] at ck hr hx
 have hrp : Wd.readP x = (h.kind, h.size, h.tree, h.neg, true) := by unfold Wd.readP; rw [hr]
 obtain ⟨hz0, hz1⟩ := readH_size hr
 obtain ⟨hkd, hsz, htr, hng⟩ := h
 simp only at hrp hz0 hz1 hs ⊢
 have HRP := Lib.hid hrp
 have hle := ha.le
 have hmx := ha.mx
 have hpw := ha.lt
 have HX := Lib.hid hx
 have d1 : decide ((k : Int) < 0) = false := decide_eq_false (by omega)
 have d2 : decide ((ws.length : Int) ≤ (k : Int)) = false := decide_eq_false (by omega)
 have d2' : decide (ws.length ≤ k) = false := decide_eq_false (by omega)
 have d3 : decide ((ws.length : Int) - (k : Int) - 1 < hsz) = true := decide_eq_true (by omega)
 have hw2 : IntKind.i64.wrap ((ws.length : Int) - (k : Int) - 1) = ws.length - k - 1 := by rw [IntKind.wrap_i64]; omega
 have hw4 : wrap64 ((ws.length : Int) - (k : Int) - 1) = ws.length - k - 1 := by unfold wrap64; omega
 have hw1 : IntKind.i64.wrap ((ws.length : Int) - (k : Int)) = ws.length - k := by rw [IntKind.wrap_i64]; omega
 have hw3 : wrap64 ((ws.length : Int) - (k : Int)) = ws.length - k := by unfold wrap64; omega
 clear ha hc hf hgp hm hx hrp hr hxe hle
 go_enter Tryd.func47, Tryd.ntmps47
 go_wp2_with (first | (go_at_call 70; (with_reducible refine (Wd.rread_c x hkd hsz htr hng true _ HX.out HRP.out).mono ?_); rintro e w1 ⟨rfl, hb⟩))
 have c0w := pw_cell_below hb ((World.cell?_alloc_past _ _ _ hpw).trans c0)
 have hpw1 : p < w1.heap.size := World.block_lt_of_cell? w1 _ c0w
 have HB := Lib.hid hb
 clear hb ck c0
 have hbk : w1.heap[w.heap.size]? = some (.cells #[.int .i64 0, .int .i64 0, .int .i64 0, .bool false] 68 (0, 0)) := (HB.out.block w.heap.size (by simp)).trans (by show (w.heap.push _)[w.heap.size]? = _; exact Array.getElem?_push_size)
 have gw1 : w.heap.size < w1.heap.size := (Array.getElem?_eq_some_iff.1 hbk).1
 have fz : ∀ i, w1.frozen? ⟨w.heap.size, i, none⟩ = false := fun i => by simp [World.frozen?, hbk]
 have e0 : w1.cell? ⟨w.heap.size, 0, none⟩ = some (.int .i64 0) := by simp [World.cell?, hbk]
 have e1 : w1.cell? ⟨w.heap.size, 1, none⟩ = some (.int .i64 0) := by simp [World.cell?, hbk]
 have e2 : w1.cell? ⟨w.heap.size, 2, none⟩ = some (.int .i64 0) := by simp [World.cell?, hbk]
 have e3 : w1.cell? ⟨w.heap.size, 3, none⟩ = some (.bool false) := by simp [World.cell?, hbk]
 have HBK := Lib.hid hbk
 clear hbk
 go_quiet (fail)
 go_wp2
 refine bodyPost_ret (results_ct rfl _ _ w.heap.size 68 #[.int .i64 0, .int .i64 0, .int .i64 0, .bool false] (0, 0) _ rfl (by
  refine blk_put (cs := #[.int .i64 0, .int .i64 0, .int .i64 0, .bool false]) ?_ 3 _ rfl
  refine blk_put (cs := #[.int .i64 0, .int .i64 0, .int .i64 0, .bool false]) ?_ 2 _ rfl
  refine blk_put (cs := #[.int .i64 0, .int .i64 0, .int .i64 0, .bool false]) ?_ 1 _ rfl
  refine blk_put (cs := #[.int .i64 0, .int .i64 0, .int .i64 0, .bool false]) ?_ 0 _ rfl
  refine blk_drewN ?_ _
  refine blk_alloc ?_ _
  exact HBK.out) Tryd.underlying68 rfl (by kernel_rfl)) rfl ?_
 exact ⟨rfl, (((((((((Fr.refl w _).alloc _).trans (Fr.of_below HB.out _)).alloc _).drewN _).setCell (fun h => absurd h (Nat.lt_irrefl _)) _).setCell (fun h => absurd h (Nat.lt_irrefl _)) _).setCell (fun h => absurd h (Nat.lt_irrefl _)) _).setCell (fun h => absurd h (Nat.lt_irrefl _)) _)⟩
theorem mobj_none (p : Nat) (v : Value) (ws : List Int) (size i : Int) (w : World) (ha : Ar 46 w p v ws size) (hh : objAt ws i = none) :
  Calls Tryd.prog 47 #[.pointer (some ⟨p, 0, none⟩), .int .i64 i] w fun e w' => e = .returned (.tuple #[.agg #[.int .i64 0, .int .i64 0, .int .i64 0, .bool false], .bool false]) ∧ Fr w w' (fun _ => False) := by
 rcases objAt_none hh with h | ⟨k, rfl, hk, h | ⟨hd, h, hs⟩⟩
 ·exact mobj_far p v ws size i w ha h
 ·exact mobj_bad p v ws size k w ha hk h
 ·exact mobj_long p v ws size k hd w ha hk h hs
end Go.Proofs.YtjiaaefpepdoeaaDoor
namespace Go.Proofs.YtjiaaefpepdoeaaDoor
open Go.RowKit Md Go.Proofs.YtjiaaefpepdoeaaDoorW.PrintWords
set_option linter.unusedVariables false
theorem blk_new (w : World) (c : Array Value) (T : TypeId) : (w.alloc (.cells c T)).heap[w.heap.size]? = some (.cells c T (0, 0)) := by
 show (w.heap.push _)[w.heap.size]? = _
 exact Array.getElem?_push_size
def iw (l : List Int) : List Value := l.map (Value.int .i64)
theorem intInfo : (Tryd.prog.info? 3).map (fun i => (i.zero, i.size, i.bytes)) = some (some (.int .i64 0), 1, 8) := by kernel_rfl
structure OI (T : TypeId) (w W : World) (p : Nat) (v : Value) (ws : List Int) (size : Int) (g : Nat) (u : Value) (acc : List Int) (a : Int) : Prop where
 ar : Ar T W p v ws size
 fr : Fr w W (fun _ => False)
 own : Own W 3 u (iw acc)
 inn : ∀ k, InBlk u k → w.heap.size ≤ k
 eq : objs ws = (objsFrom ws g a).map (acc ++ ·)
 le : 0 ≤ a
 le2 : a ≤ ws.length
 ac : (acc.length : Int) ≤ a
 ag : (ws.length : Int) ≤ a + g
theorem objsFrom_end {ws : List Int} {g : Nat} {a : Int} (h : ¬ a < ws.length) : objsFrom ws g a = some [] := by
 cases g <;> simp [objsFrom, h]
theorem objsFrom_none {ws : List Int} {g : Nat} {a : Int} (h : a < ws.length) (ho : objAt ws a = none) : objsFrom ws g a = none := by
 cases g <;> simp [objsFrom, h, ho]
theorem objsFrom_step {ws : List Int} {g : Nat} {a : Int} {h : Hdr} (hl : a < ws.length) (ho : objAt ws a = some h) : objsFrom ws (g + 1) a = (objsFrom ws g (a + 1 + h.size)).map (a :: ·) := by
 simp [objsFrom, hl, ho]
theorem objsFrom_step2 {ws : List Int} {g : Nat} {a k z t : Int} {n : Bool} (hl : a < ws.length) (ho : objAt ws a = some ⟨k, z, t, n⟩) (acc : List Int) : (objsFrom ws (g + 1) a).map (acc ++ ·) = (objsFrom ws g (a + (1 + z))).map ((acc ++ [a]) ++ ·) := by
 rw [objsFrom_step hl ho, Option.map_map, ← Int.add_assoc]
 congr 1
 funext x
 simp
theorem iw_append (a b : List Int) : iw (a ++ b) = iw a ++ iw b := by simp [iw]
theorem OI.frm {T : TypeId} {w W W1 : World} {p : Nat} {v : Value} {ws : List Int} {size : Int} {g : Nat} {u : Value} {acc : List Int} {a : Int} (h : OI T w W p v ws size g u acc a) (hf : Fr W W1 fun _ => False) : OI T w W1 p v ws size g u acc a :=
 ⟨h.ar.fr hf, h.fr.trans hf, h.own.keep hf (fun _ _ h => h), h.inn, h.eq, h.le, h.le2, h.ac, h.ag⟩
theorem OI.step {T TH : TypeId} {w W2 : World} {p D gk : Nat} {v u : Value} {ws acc : List Int} {size a kd z t : Int} {n : Bool} (hI2 : OI T w W2 p v ws size gk u acc a) (hT : T ≠ 3) (hTH : TH ≠ 3)
  (hal : a < ws.length) (hob : objAt ws a = some ⟨kd, z, t, n⟩)
  (hdb : W2.heap[D]? = some (.cells #[.int .i64 kd, .int .i64 z, .int .i64 t, .bool n] TH (0, 0))) :
  ∃ v' w1, (Builtin.append_ #[55, 55] 55 #[u, .slice (some ⟨W2.heap.size, 0, none⟩) 1 1]).run Tryd.prog (W2.alloc (.cells #[.int .i64 a] 3)) = .ok v' w1 ∧
   OI T w w1 p v ws size (gk - 1) v' (acc ++ [a]) (a + (1 + z)) ∧ w1.cell? ⟨D, 1, none⟩ = some (.int .i64 z) ∧ gk - 1 < gk := by
 have hmx := hI2.ar.mx
 have hle := hI2.ar.le
 have h2z : 0 ≤ z ∧ a + 1 + z ≤ ws.length := by
  obtain ⟨k, rfl, hk, hr, hz⟩ := objAt_some hob
  have := readH_size hr
  simp only at this hz
  omega
 obtain ⟨i0, hi, hz0, hz1, hzb⟩ := info_parts intInfo
 have hf3 : Fr W2 (W2.alloc (.cells #[.int .i64 a] 3)) (fun _ => False) := (Fr.refl _ _).alloc _
 have hone : Rd (W2.alloc (.cells #[.int .i64 a] 3)) (.slice (some ⟨W2.heap.size, 0, none⟩) 1 1) (iw [a]) := .inr ⟨W2.heap.size, 0, 1, rfl, by simp [iw], by simp [iw], by decide, by simp, fun i hi => by
  have : i = 0 := by simp [iw] at hi; exact hi
  subst this
  simp only [World.cell?, blk_new]; rfl⟩
 have h2a := hI2.ac
 obtain ⟨v', w1, hr, ho, hg, hn⟩ := run_append_rd (P := Tryd.prog) _ 55 55 3 i0 (.int .i64 0) Tryd.underlying55 hi hz0 hz1 (by omega) rfl _ _ (iw acc) (iw [a]) (hI2.own.keep hf3 (fun _ _ h => h)) hone (oneCell_all [a]) (by simp [iw]; omega)
 rw [← iw_append] at ho
 have hne : some D ≠ u.ownBlock := fun e => by
  obtain ⟨cur, hc⟩ := hI2.own.elem D e.symm
  rw [hdb] at hc
  simp at hc
  exact hTH hc.2
 have hfw : Fr w w1 (fun _ => False) := (hI2.fr.trans hf3).grown hg (fun k hk hlt => by have := hI2.inn k hk; omega)
 have hf4 : Fr W2 w1 (fun i => InBlk u i) := (hf3.mono fun _ h _ => h.elim).grown hg (fun k hk _ => hk)
 have hne2 : ∀ k, InBlk u k → ¬ (InBlk v k) ∧ k ≠ p := fun k hk => by
  obtain ⟨cur, hc⟩ := hI2.own.elem k hk
  refine ⟨fun e => ?_, fun e => ?_⟩
  ·obtain ⟨cur2, hc2⟩ := hI2.ar.own.elem k e
   rw [hc] at hc2; simp at hc2
  ·rw [e, hI2.ar.blk] at hc; simp at hc; exact hT hc.2
 have hdb1 := hf4.blk hdb (fun e => hne e.symm)
 obtain ⟨g', rfl⟩ : ∃ g', gk = g' + 1 := ⟨gk - 1, by have := hI2.ag; omega⟩
 refine ⟨v', w1, hr, ⟨hI2.ar.keep hf4 (fun e => (hne2 p e).2 rfl) (fun i hi e => (hne2 i e).1 hi), hfw, ho, fun k hk => ?_, ?_, by have := hI2.le; omega, by omega, by simp; omega, by have := hI2.ag; omega⟩, by simp only [World.cell?, hdb1]; rfl, by have := hI2.ag; omega⟩
 ·rcases hn k hk with h1 | h1
  ·exact hI2.inn k h1
  ·have h2 := hI2.fr.size
   have h3 : (W2.alloc (.cells #[.int .i64 a] 3)).heap.size = W2.heap.size + 1 := Array.size_push _
   omega
 ·rw [hI2.eq, Nat.add_sub_cancel]
  exact objsFrom_step2 hal hob acc
set_option maxRecDepth 100000 in
set_option maxHeartbeats 4000000 in
theorem objects_c (p : Nat) (v : Value) (ws : List Int) (size : Int) (w : World) (h : Ar 112 w p v ws size) :
  Calls Tryd.prog 40 #[.pointer (some ⟨p, 0, none⟩)] w fun e w' => ∃ u, e = .returned (.tuple #[u, .bool (objs ws).isSome]) ∧ New w w' 3 u (iw ((objs ws).getD [])) := by
 have hmx := h.mx
 have hle := h.le
 have HL : Hid ((ws.length : Int) ≤ 1048576) := Lib.hid (by omega)
 have H0 : Hid (OI 112 w w p v ws size ws.length (.slice none 0 0) [] 0) := Lib.hid ⟨h, Fr.refl _ _, Own.nil _ _, (fun k hk => by simp [InBlk, Value.ownBlock] at hk), by simp [objs], Int.le_refl 0, by omega, by simp, by omega⟩
 clear h hmx hle
 go_enter Tryd.func40, Tryd.ntmps40
 go_wp2
 go_loopg [4, 5] ws.length (fun g lv av wr => ∃ (u : Value) (acc : List Int) (a : Int), lv = u ∧ av = .int .i64 a ∧ Hid (OI 112 w wr p v ws size g u acc a))
 case atStart => exact ⟨_, [], 0, rfl, rfl, H0⟩
 case round =>
  clear H0
  obtain ⟨u, acc, a, rfl, rfl, HI⟩ := hrel
  by_cases hal : a < ws.length
  ·have hle := HI.out.le
   have HA : Hid (a < ws.length) := Lib.hid hal
   cases hob : objAt ws a with
   | none =>
    have HO := Lib.hid hob
    clear hob hle
    go_wp2_with (first | (go_at_call 21; (with_reducible refine (used_c p v ws size _ HI.out.ar).mono ?_); rintro e wa ⟨rfl, rfl⟩) | (go_at_call 39; (with_reducible refine (obj_none p v ws size a _ HI.out.ar HO.out).mono ?_); rintro e wb ⟨rfl, hf⟩; have HF := Lib.hid hf; clear hf))
    go_ret2
    have hn : objs ws = none := by rw [HI.out.eq, objsFrom_none HA.out HO.out]; rfl
    rw [hn]
    exact ⟨_, rfl, Own.nil _ _, (HI.out.fr.trans HF.out).alloc _, (fun k hk => by simp [InBlk, Value.ownBlock] at hk)⟩
   | some hd =>
    have HO := Lib.hid hob
    have hs := objAt_some hob
    have HZ : Hid (0 ≤ hd.size ∧ a + 1 + hd.size ≤ ws.length ∧ 0 ≤ a) := by
     obtain ⟨k, rfl, hk, hr, hz⟩ := hs
     have := readH_size hr
     exact Lib.hid (by omega)
    obtain ⟨kd, z, t, n⟩ := hd
    have hz2 := HZ.out
    have hl2 := HL.out
    simp only at hz2
    have hw1 : wrap64 (1 + z) = 1 + z := by unfold wrap64; omega
    have hw2 : wrap64 (a + (1 + z)) = a + (1 + z) := by clear hw1; unfold wrap64; omega
    have HW2 := Lib.hid hw2
    clear hob hs hz2 hl2 hle hw2
    go_upto_region 5 with (first | (go_at_call 21; (with_reducible refine (used_c p v ws size _ HI.out.ar).mono ?_); rintro e wa ⟨rfl, rfl⟩) | (go_at_call 39; (with_reducible refine (obj_some p v ws size a _ _ HI.out.ar HO.out).mono ?_); rintro e wo ⟨rfl, hf⟩))
    obtain ⟨W2, hW2⟩ : ∃ W2, wo.alloc (.cells #[.int .i64 kd, .int .i64 z, .int .i64 t, .bool n] 88) = W2 := ⟨_, rfl⟩
    obtain ⟨D, hD⟩ : ∃ D, wo.heap.size = D := ⟨_, rfl⟩
    have hf2 : Fr wr W2 (fun _ => False) := by rw [← hW2]; exact hf.alloc _
    have hdb : W2.heap[D]? = some (.cells #[.int .i64 kd, .int .i64 z, .int .i64 t, .bool n] 88 (0, 0)) := by rw [← hW2, ← hD]; exact blk_new _ _ _
    have hI2 := HI.out.frm hf2
    rw [hW2, hD]
    clear hW2 hD hf hf2 HI
    obtain ⟨v', w1, hr, hI3, kz, hgk⟩ := hI2.step (by decide) (by decide) HA.out HO.out hdb
    have HI3 := Lib.hid hI3
    have HR := Lib.hid hr
    have HGK := Lib.hid hgk
    clear hdb hI2 hr hI3 hgk
    go_wp2_with (at_builtin; refine Lib.wpList_append_run _ rfl _ _ _ _ rfl _ _ rfl rfl _ w1 HR.out ?_)
    go_roundg (gk - 1)
    case measure => exact HGK.out
    case rel => exact ⟨_, acc ++ [a], a + (1 + z), rfl, by rw [HW2.out], HI3⟩
  ·have HA : Hid (¬ a < ws.length) := Lib.hid hal
   go_wp2_with (first | (go_at_call 21; (with_reducible refine (used_c p v ws size _ HI.out.ar).mono ?_); rintro e wa ⟨rfl, rfl⟩))
   go_ret2
   have hn : objs ws = some acc := by rw [HI.out.eq, objsFrom_end (by have := HA.out; omega)]; simp
   rw [hn]
   exact ⟨_, rfl, HI.out.own, HI.out.fr, HI.out.inn⟩
set_option maxRecDepth 100000 in
set_option maxHeartbeats 4000000 in
theorem mobjects_c (p : Nat) (v : Value) (ws : List Int) (size : Int) (w : World) (h : Ar 46 w p v ws size) :
  Calls Tryd.prog 46 #[.pointer (some ⟨p, 0, none⟩)] w fun e w' => ∃ u, e = .returned (.tuple #[u, .bool (objs ws).isSome]) ∧ New w w' 3 u (iw ((objs ws).getD [])) := by
 have hmx := h.mx
 have hle := h.le
 obtain ⟨A, cap, rfl⟩ := h.val
 have HL : Hid ((ws.length : Int) ≤ 1048576) := Lib.hid (by omega)
 have H0 : Hid (OI 46 w w p (.slice A ws.length cap) ws size ws.length (.slice none 0 0) [] 0) := Lib.hid ⟨h, Fr.refl _ _, Own.nil _ _, (fun k hk => by simp [InBlk, Value.ownBlock] at hk), by simp [objs], Int.le_refl 0, by omega, by simp, by omega⟩
 clear h hmx hle
 go_enter Tryd.func46, Tryd.ntmps46
 go_wp2
 go_loopg [4, 5] ws.length (fun g lv av wr => ∃ (u : Value) (acc : List Int) (a : Int), lv = u ∧ av = .int .i64 a ∧ Hid (OI 46 w wr p (.slice A ws.length cap) ws size g u acc a))
 case atStart => exact ⟨_, [], 0, rfl, rfl, H0⟩
 case round =>
  clear H0
  obtain ⟨u, acc, a, rfl, rfl, HI⟩ := hrel
  have kp := HI.out.ar.c0
  by_cases hal : a < ws.length
  ·have hle := HI.out.le
   have HA : Hid (a < ws.length) := Lib.hid hal
   obtain ⟨k, rfl⟩ := Int.eq_ofNat_of_zero_le hle
   have hk : k < ws.length := by omega
   rcases HI.out.ar.form with ⟨e, e0⟩ | ⟨g, cap', e, hl, hm, hg, hgp, hc, hf⟩
   ·subst e0; simp at hk
   injection e with e1 e2 e3
   subst e1 e3
   have ck := hc k hk
   have hx := okWs_getD HI.out.ar.ok k hk
   obtain ⟨x, hxe⟩ : ∃ x, ws.getD k 0 = x := ⟨_, rfl⟩
   rw [hxe] at ck hx
   have HX := Lib.hid hx
   have HXE := Lib.hid hxe
   have hpw := HI.out.ar.lt
   obtain ⟨kd, z, t, n, ok, hrp, hcase⟩ : ∃ kd z t n ok, Wd.readP x = (kd, z, t, n, ok) ∧ ((ok = false ∧ objAt ws k = none) ∨ (ok = true ∧ 0 ≤ z ∧ z < 1048576 ∧ ((objAt ws k = some ⟨kd, z, t, n⟩ ∧ z < ws.length - k) ∨ (objAt ws k = none ∧ ws.length - k ≤ z)))) := by
    cases hr : readH x with
    | none => exact ⟨0, 0, 0, false, false, by unfold Wd.readP; rw [hr], .inl ⟨rfl, by unfold objAt; rw [rdAt_of hk, hxe]; simp only [hr]⟩⟩
    | some hh =>
     obtain ⟨kd, z, t, n⟩ := hh
     have h1 := readH_size hr
     refine ⟨kd, z, t, n, true, by unfold Wd.readP; rw [hr], .inr ⟨rfl, h1.1, h1.2, ?_⟩⟩
     by_cases hs : z < (ws.length : Int) - k
     ·exact .inl ⟨objAt_of hk (by rw [hxe]; exact hr) hs, hs⟩
     ·refine .inr ⟨?_, by omega⟩
      unfold objAt; rw [rdAt_of hk, hxe]; simp only [hr]; rw [if_neg hs]
   have HRP := Lib.hid hrp
   have HCS := Lib.hid hcase
   clear hcase hrp hx hxe hc hf hm hgp e2
   go_upto_region 5 with (first | (go_at_call 70; (with_reducible refine (Wd.rread_c x kd z t n ok _ HX.out HRP.out).mono ?_); rintro e wo ⟨rfl, hb⟩))
   obtain ⟨W2, hW2⟩ : ∃ W2, wo.alloc (.cells #[.int .i64 kd, .int .i64 z, .int .i64 t, .bool n] 68) = W2 := ⟨_, rfl⟩
   obtain ⟨D, hD⟩ : ∃ D, wo.heap.size = D := ⟨_, rfl⟩
   have hf2 : Fr wr W2 (fun _ => False) := by rw [← hW2]; exact (Fr.of_below hb _).alloc _
   have hdb : W2.heap[D]? = some (.cells #[.int .i64 kd, .int .i64 z, .int .i64 t, .bool n] 68 (0, 0)) := by rw [← hW2, ← hD]; exact blk_new _ _ _
   have HI2 := Lib.hid (HI.out.frm hf2)
   have kz0 : W2.cell? ⟨D, 1, none⟩ = some (.int .i64 z) := by simp [World.cell?, hdb]
   have kp2 := HI2.out.ar.c0
   have HDB := Lib.hid hdb
   rw [hW2, hD]
   clear hW2 hD hb hf2 HI hdb kp ck hpw hg
   have hl2 := HL.out
   rcases HCS.out with ⟨rfl, ho⟩ | ⟨rfl, z0, z1, ⟨ho, hs⟩ | ⟨ho, hs⟩⟩
   ·have HO := Lib.hid ho
    clear ho HCS
    go_quiet (fail)
    go_wp2
    go_ret2
    have hn : objs ws = none := by rw [HI2.out.eq, objsFrom_none HA.out HO.out]; rfl
    rw [hn]
    exact ⟨_, rfl, Own.nil _ _, HI2.out.fr.drewN _, (fun k hk => by simp [InBlk, Value.ownBlock] at hk)⟩
   ·have HO := Lib.hid ho
    have d1 : decide ((ws.length : Int) - k - 1 < z) = false := decide_eq_false (by omega)
    have hw2 : wrap64 ((ws.length : Int) - k - 1) = ws.length - k - 1 := by unfold wrap64; omega
    have hw1 : wrap64 ((ws.length : Int) - k) = ws.length - k := by clear hw2; unfold wrap64; omega
    have hw3 : wrap64 ((k : Int) + 1) = k + 1 := by clear hw1 hw2; unfold wrap64; omega
    have HW4 : Hid (wrap64 ((k : Int) + 1 + z) = k + (1 + z)) := Lib.hid (by clear hw1 hw2 hw3; unfold wrap64; omega)
    clear ho HCS hs
    go_quiet (fail)
    obtain ⟨W3, hW3⟩ : ∃ W3, W2.drewN nq = W3 := ⟨_, rfl⟩
    have hdb3 : W3.heap[D]? = some (.cells #[.int .i64 kd, .int .i64 z, .int .i64 t, .bool n] 68 (0, 0)) := by rw [← hW3]; exact HDB.out
    have hI3 := HI2.out.frm (W1 := W3) (by rw [← hW3]; exact (Fr.refl _ _).drewN _)
    rw [hW3]
    clear hW3 HI2 HDB kz0 kp2
    obtain ⟨v', w1, hr, hI4, kz, hgk⟩ := hI3.step (by decide) (by decide) HA.out HO.out hdb3
    have HI3 := Lib.hid hI4
    have HR := Lib.hid hr
    have HGK := Lib.hid hgk
    clear hdb3 hI3 hr hI4 hgk hw1 hw2 d1
    go_wp2_with (at_builtin; refine Lib.wpList_append_run _ rfl _ _ _ _ rfl _ _ rfl rfl _ w1 HR.out ?_)
    go_roundg (gk - 1)
    case measure => exact HGK.out
    case rel => exact ⟨_, acc ++ [(k : Int)], k + (1 + z), rfl, by first | (rw [HW4.out]; done) | exact congrArg (Value.int .i64) (by omega), HI3⟩
   ·have HO := Lib.hid ho
    have d1 : decide ((ws.length : Int) - k - 1 < z) = true := decide_eq_true (by omega)
    have hw2 : wrap64 ((ws.length : Int) - k - 1) = ws.length - k - 1 := by unfold wrap64; omega
    have hw1 : wrap64 ((ws.length : Int) - k) = ws.length - k := by clear hw2; unfold wrap64; omega
    clear ho HCS hs
    go_quiet (fail)
    go_wp2
    go_ret2
    have hn : objs ws = none := by rw [HI2.out.eq, objsFrom_none HA.out HO.out]; rfl
    rw [hn]
    exact ⟨_, rfl, Own.nil _ _, HI2.out.fr.drewN _, (fun k hk => by simp [InBlk, Value.ownBlock] at hk)⟩
  ·have HA : Hid (¬ a < ws.length) := Lib.hid hal
   go_wp2
   go_ret2
   have hn : objs ws = some acc := by rw [HI.out.eq, objsFrom_end (by have := HA.out; omega)]; simp
   rw [hn]
   exact ⟨_, rfl, HI.out.own, HI.out.fr, HI.out.inn⟩
end Go.Proofs.YtjiaaefpepdoeaaDoor
namespace Go.Proofs.YtjiaaefpepdoeaaDoor
open Go.RowKit Md
set_option linter.unusedVariables false
structure TA (T : TypeId) (W : World) (p : Nat) (v : Value) (ws : List Int) (size : Int) (r : Value) (rs : List Int) : Prop where
 ar : Ar T W p v ws size
 own : Own W 39 r (uw rs)
 ap : Apt v r
 okr : okWs rs
 lenr : rs.length ≤ 1048576
section
variable {T : TypeId} {W W1 : World} {p : Nat} {v v' : Value} {ws ws' rs : List Int} {size s' : Int} {r : Value} {S : Nat → Prop}
theorem TA.fr (h : TA T W p v ws size r rs) (hf : Fr W W1 fun _ => False) : TA T W1 p v ws size r rs := ⟨h.ar.fr hf, h.own.keep hf (fun _ _ h => h), h.ap, h.okr, h.lenr⟩
theorem TA.chg (h : TA T W p v ws size r rs) (hc : Chg T W W1 p v v' ws' s') : TA T W1 p v' ws' s' r rs := by
 refine ⟨hc.1, h.own.keep hc.2.1 fun i hi e => ?_, fun k hk hr => ?_, h.okr, h.lenr⟩
 ·rcases e with rfl | e
  ·obtain ⟨cur, hcur⟩ := h.own.elem _ hi
   rw [h.ar.blk] at hcur
   simp at hcur
   exact h.ar.ty hcur.2
  ·exact h.ap i e hi
 ·rcases hc.2.2 k hk with h3 | h3
  ·exact h.ap k h3 hr
  ·have := h.own.lt k hr; omega
theorem TA.setr {g cap k : Nat} {x : Int} (h : TA T W p v ws size (.slice (some ⟨g, 0, none⟩) rs.length cap) rs) (hk : k < rs.length) (hx : okW x) :
  TA T (W.setCell ⟨g, k, none⟩ (.int .u64 x)) p v ws size (.slice (some ⟨g, 0, none⟩) rs.length cap) (rs.set k x) ∧ Fr W (W.setCell ⟨g, k, none⟩ (.int .u64 x)) (fun i => i = g) := by
 have hfr : Fr W (W.setCell ⟨g, k, none⟩ (.int .u64 x)) (fun i => i = g) := Fr.setCell (S := fun i => i = g) (a := ⟨g, k, none⟩) (Fr.refl W _) (fun _ => rfl) _
 have hge : InBlk (.slice (some ⟨g, 0, none⟩) rs.length cap) g := by simp [InBlk, Value.ownBlock]
 have hne : p ≠ g := fun e => by
  obtain ⟨cur, hcur⟩ := h.own.elem g hge
  rw [← e, h.ar.blk] at hcur
  simp at hcur
  exact h.ar.ty hcur.2
 refine ⟨⟨h.ar.keep hfr hne (fun i hi e => h.ap i hi (by rw [e]; exact hge)), ?_, h.ap, okWs_set h.okr hx, by simpa using h.lenr⟩, hfr⟩
 have ho := h.own
 rcases ho.2 with ⟨hv, _⟩ | ⟨g', cap', cur, hv, hb, hg, hl, hm, hs, ht⟩
 ·cases hv
 ·injection hv with h1 h2 h3
  injection h1 with h1
  injection h1 with h1
  subst h1
  subst h3
  refine ⟨by simp [uw], .inr ⟨g, cap, cur.setIfInBounds k (.int .u64 x), by simp [uw], Nat.zero_le _, ?_, by simpa [uw] using hl, hm, by simpa using hs, ?_⟩⟩
  ·simp [World.setCell, Array.getElem?_modify, hg]
  ·have e1 : (uw (rs.set k x)).length = (uw rs).length := by simp [uw]
   rw [e1]
   rw [Array.toList_setIfInBounds, List.take_set, ht]
   simp [uw, List.map_set]
end
set_option maxHeartbeats 1000000 in
theorem fget_c (p : Nat) (v r : Value) (ws rs : List Int) (size i : Int) (b : Bool) (w : World) (h : TA 112 w p v ws size r rs) :
  Calls Tryd.prog 71 #[.agg #[.bool b, .int .i64 i], .pointer (some ⟨p, 0, none⟩), r] w fun e w' => e = .returned (.tuple #[.int .u64 ((fGet ws rs ⟨b, i⟩).getD 0), .bool (fGet ws rs ⟨b, i⟩).isSome]) ∧ Fr w w' (fun _ => False) := by
 cases b with
 | false =>
  have H := Lib.hid (h.fr ((Fr.refl w _).alloc (.cells #[.bool false, .int .i64 i] 109)))
  obtain ⟨A, cap, rfl⟩ := h.own.rd.len
  rw [uw_length] at *
  clear h
  go_enter Tryd.func71, Tryd.ntmps71
  go_wp2_with (first | (go_at_call 43; (with_reducible refine (get_u p v ws size i _ H.out.ar).mono ?_); rintro e w1 ⟨rfl, rfl⟩))
  go_ret2
  exact ⟨rfl, (Fr.refl w _).alloc _⟩
 | true =>
  have e : fGet ws rs ⟨true, i⟩ = rdAt rs i := rfl
  rw [e]
  rcases h.own.form with ⟨rfl, h0⟩ | ⟨g, cap, rfl, hl, hm, hg, hc, hf⟩
  ·have h1 : rs = [] := List.eq_nil_of_length_eq_zero (by rw [← uw_length, h0]; rfl)
   subst h1
   clear h h0 e
   have e2 : rdAt [] i = none := by unfold rdAt; rw [if_neg (by simp only [List.length_nil]; omega)]
   rw [e2]
   by_cases hi : i < 0
   ·have d1 : decide (i < 0) = true := decide_eq_true hi
    clear hi e2
    go_enter Tryd.func71, Tryd.ntmps71
    go_wp2
    go_ret2
    exact ⟨rfl, (Fr.refl w _).alloc _⟩
   ·have d1 : decide (i < 0) = false := decide_eq_false hi
    have d2 : decide (0 ≤ i) = true := decide_eq_true (by omega)
    clear hi e2
    go_enter Tryd.func71, Tryd.ntmps71
    go_wp2
    go_ret2
    exact ⟨rfl, (Fr.refl w _).alloc _⟩
  ·rw [uw_length] at *
   clear e
   by_cases hi : i < 0
   ·have d1 : decide (i < 0) = true := decide_eq_true hi
    have e2 : rdAt rs i = none := by unfold rdAt; rw [if_neg (by omega)]
    rw [e2]
    clear hi e2 h hm hg hc hf
    go_enter Tryd.func71, Tryd.ntmps71
    go_wp2
    go_ret2
    exact ⟨rfl, (Fr.refl w _).alloc _⟩
   ·have d1 : decide (i < 0) = false := decide_eq_false hi
    obtain ⟨k, rfl⟩ := Int.eq_ofNat_of_zero_le (show 0 ≤ i by omega)
    by_cases hk : k < rs.length
    ·have ck := hc k hk
     rw [uw_get hk] at ck
     rw [rdAt_of hk]
     obtain ⟨x, hx⟩ : ∃ x, rs.getD k 0 = x := ⟨_, rfl⟩
     rw [hx] at ck ⊢
     clear hx
     have d2 : decide ((rs.length : Int) ≤ k) = false := decide_eq_false (by omega)
     have d3 : decide (rs.length ≤ k) = false := decide_eq_false (by omega)
     clear hi h hm hc hf
     go_enter Tryd.func71, Tryd.ntmps71
     go_wp2
     go_ret2
     exact ⟨rfl, (Fr.refl w _).alloc _⟩
    ·have e2 : rdAt rs k = none := by unfold rdAt; rw [if_neg (by omega)]
     rw [e2]
     have d2 : decide ((rs.length : Int) ≤ k) = true := decide_eq_true (by omega)
     have d3 : decide (rs.length ≤ k) = true := decide_eq_true (by omega)
     clear hi hk e2 h hm hg hc hf
     go_enter Tryd.func71, Tryd.ntmps71
     go_wp2
     go_ret2
     exact ⟨rfl, (Fr.refl w _).alloc _⟩
set_option maxHeartbeats 1000000 in
theorem fset_c (p : Nat) (v r : Value) (ws rs : List Int) (size i x : Int) (b : Bool) (w : World) (h : TA 112 w p v ws size r rs) (hx : okW x) (hi : (fGet ws rs ⟨b, i⟩).isSome = true) :
  Calls Tryd.prog 72 #[.agg #[.bool b, .int .i64 i], .pointer (some ⟨p, 0, none⟩), r, .int .u64 x] w fun e w' => e = .returned (.tuple #[]) ∧ TA 112 w' p v (fSetW ws ⟨b, i⟩ x) size r (fSetR rs ⟨b, i⟩ x) ∧ Fr w w' (fun i => InBlk v i ∨ InBlk r i) := by
 cases b with
 | false =>
  have H := Lib.hid (h.fr ((Fr.refl w _).alloc (.cells #[.bool false, .int .i64 i] 109)))
  have hir : 0 ≤ i ∧ i < ws.length := by
   have : (rdAt ws i).isSome = true := hi
   unfold rdAt at this
   split at this
   ·assumption
   ·cases this
  have HIR := Lib.hid hir
  have HX := Lib.hid hx
  obtain ⟨A, cap, rfl⟩ := h.own.rd.len
  rw [uw_length] at *
  clear h hir hi hx
  go_enter Tryd.func72, Tryd.ntmps72
  go_wp2_with (first | (go_at_call 38; (with_reducible refine (set_c p v ws size i x _ H.out.ar HX.out HIR.out).mono ?_); rintro e w1 ⟨rfl, ha, hf⟩))
  go_end0
  have hw : fSetW ws ⟨false, i⟩ x = wrAt ws i x := rfl
  have hc := H.out.chg (Chg.of_set ha hf)
  refine ⟨rfl, hc, ((Fr.refl w _).alloc _).then_ hf (fun j hj _ => .inl hj)⟩
 | true =>
  have hir : 0 ≤ i ∧ i < rs.length := by
   have : (rdAt rs i).isSome = true := hi
   unfold rdAt at this
   split at this
   ·assumption
   ·cases this
  obtain ⟨k, rfl⟩ := Int.eq_ofNat_of_zero_le hir.1
  have hk : k < rs.length := by omega
  have e0 : fSetR rs ⟨true, k⟩ x = rs.set k x := by
   show wrAt rs k x = _
   unfold wrAt; rw [if_pos hir]; simp
  have e1 : fSetW ws ⟨true, k⟩ x = ws := rfl
  rw [e0, e1]
  rcases h.own.form with ⟨rfl, h0⟩ | ⟨g, cap, rfl, hl, hm, hg, hc, hf⟩
  ·have h1 : rs = [] := List.eq_nil_of_length_eq_zero (by rw [← uw_length, h0]; rfl)
   subst h1; simp at hk
  ·rw [uw_length] at *
   have HS := Lib.hid (h.setr hk hx)
   have ck := hc k hk
   rw [uw_get hk] at ck
   have fk := hf k
   have q2 : (k : Int) < rs.length := by omega
   obtain ⟨y, hy⟩ : ∃ y, rs.getD k 0 = y := ⟨_, rfl⟩
   rw [hy] at ck
   clear hy h hc hf hm hir hi e0 e1 hx
   go_enter Tryd.func72, Tryd.ntmps72
   go_wp2
   go_end0
   exact ⟨rfl, HS.out.1.fr ((Fr.refl _ _).alloc _), (HS.out.2.mono (fun j hj _ => .inr (by rw [hj]; simp [InBlk, Value.ownBlock]))).alloc _⟩
end Go.Proofs.YtjiaaefpepdoeaaDoor
namespace Go.Proofs.YtjiaaefpepdoeaaDoor.Wd
open Go.RowKit Go.Proofs.YtjiaaefpepdoeaaDoor.PSlideMeans Go.Proofs.YtjiaaefpepdoeaaDoorW.PrintWords Go.Proofs.YtjiaaefpepdoeaaDoorW.PrintLast
open Go.Proofs.YtjiaaefpepdoeaaDoor.Md
set_option linter.unusedVariables false
theorem i64_and1_any (x : Int) : Go.bits .and .i64 x 1 = x % 2 := by
 have h : Go.bits .and .i64 x 1 = IntKind.i64.wrap (((BitVec.ofInt 64 x) &&& (BitVec.ofInt 64 1)).toNat : Int) := rfl
 rw [h, BitVec.toNat_and, BitVec.toNat_ofInt]
 have e1 : (BitVec.ofInt 64 1).toNat = 1 := by decide
 rw [e1, Nat.and_one_is_mod, IntKind.wrap_i64]
 omega
theorem linked_eq {w : Int} (hw : okW w) : thread_linked.f w = some ((Md.linked w).root, (Md.linked w).at_) := by
 unfold thread_linked.f Md.linked
 rw [val_eq hw]
 simp only [Option.bind_some, i64_and1_any]
 congr 2
theorem link_eq (f : Fld) (h0 : 0 ≤ f.at_) (h1 : f.at_ < 1099511627776) : thread_Field_link.f f.root f.at_ = some (linkF f) := by
 unfold thread_Field_link.f linkF
 have hw : wrap64 (f.at_ * 2) = 2 * f.at_ := by unfold wrap64; omega
 rw [hw, of_eq, of_eq]
 cases f.root with
 | true =>
  have : Go.bits .or .i64 (2 * f.at_) 1 = 2 * f.at_ + 1 := i64_or 1 (by omega) (by omega) (by omega) (by omega) (by omega) (by omega)
  rw [this]
  rfl
 | false => simp
theorem linked_c (x : Int) (f : Fld) (w : World) (hx : okW x) (h : Md.linked x = f) : Calls Tryd.prog 89 #[.int .u64 x] w fun e w' => e = .returned (.agg #[.bool f.root, .int .i64 f.at_]) ∧ Below w.heap.size w w' :=
 thread_linked.calls x f.root f.at_ w (by rw [linked_eq hx, h])
theorem link_c (b : Bool) (i r : Int) (w : World) (h0 : 0 ≤ i) (h1 : i < 1099511627776) (h : linkF ⟨b, i⟩ = r) : Calls Tryd.prog 73 #[.agg #[.bool b, .int .i64 i]] w fun e w' => e = .returned (.int .u64 r) ∧ Below w.heap.size w w' :=
 thread_Field_link.calls b i r w (by rw [← h]; exact link_eq ⟨b, i⟩ h0 h1)
end Go.Proofs.YtjiaaefpepdoeaaDoor.Wd
namespace Go.Proofs.YtjiaaefpepdoeaaDoor
open Go.RowKit Md
set_option linter.unusedVariables false
def UO (v r : Value) (i : Nat) : Prop := InBlk v i ∨ InBlk r i
theorem fGet_ok {ws rs : List Int} {f : Fld} {x : Int} (hw : okWs ws) (hr : okWs rs) (h : fGet ws rs f = some x) : okW x := by
 unfold fGet at h
 split at h
 ·obtain ⟨k, _, hk, rfl⟩ := rdAt_some h; exact okWs_getD hr k hk
 ·obtain ⟨k, _, hk, rfl⟩ := rdAt_some h; exact okWs_getD hw k hk
theorem wrAt_len (xs : List Int) (i x : Int) : (wrAt xs i x).length = xs.length := by unfold wrAt; split <;> simp
theorem fSetW_len (ws : List Int) (f : Fld) (x : Int) : (fSetW ws f x).length = ws.length := by unfold fSetW; split <;> simp [wrAt_len]
set_option maxHeartbeats 2000000 in
theorem thread_no (p : Nat) (v r : Value) (ws rs : List Int) (size i : Int) (b : Bool) (w : World) (h : TA 112 w p v ws size r rs) (hn : threadM ws rs ⟨b, i⟩ = none) :
  Calls Tryd.prog 52 #[.pointer (some ⟨p, 0, none⟩), r, .agg #[.bool b, .int .i64 i]] w fun e w' => e = .returned (.bool false) ∧ Fr w w' (fun _ => False) := by
 have H := Lib.hid (h.fr ((Fr.refl w _).alloc (.cells #[.bool b, .int .i64 i] 109)))
 have hbk : (w.alloc (.cells #[.bool b, .int .i64 i] 109)).heap[w.heap.size]? = some (.cells #[.bool b, .int .i64 i] 109 (0, 0)) := blk_new _ _ _
 have HBK := Lib.hid hbk
 cases hg : fGet ws rs ⟨b, i⟩ with
 | none =>
  have HG := Lib.hid hg
  obtain ⟨A, cap, rfl⟩ := h.own.rd.len
  rw [uw_length] at *
  clear h hg hn hbk
  go_enter Tryd.func52, Tryd.ntmps52
  go_wp2_with (first | (go_at_call 71; (with_reducible refine (fget_c p v _ ws rs size i b _ H.out).mono ?_); rintro e w1 ⟨rfl, hf⟩; rw [HG.out]; have HF := Lib.hid hf; clear hf))
  go_ret
  exact ⟨rfl, ((Fr.refl w _).alloc _).trans HF.out⟩
 | some x =>
  have hx := fGet_ok h.ar.ok h.okr hg
  have HG := Lib.hid hg
  have HX := Lib.hid hx
  obtain ⟨t, ht⟩ : ∃ t, tagW x = t := ⟨_, rfl⟩
  obtain ⟨n, hn2⟩ : ∃ n, valW x = n := ⟨_, rfl⟩
  have key : (t == 5) = false ∨ ((t == 5) = true ∧ n < 0) ∨ ((t == 5) = true ∧ 0 ≤ n ∧ (ws.length : Int) ≤ n) ∨ ((t == 5) = true ∧ 0 ≤ n ∧ n < ws.length ∧ b = false ∧ i = n) := by
   unfold threadM at hn
   rw [hg] at hn
   simp only [ht, hn2] at hn
   split at hn
   ·cases hn
   ·rename_i hc
    by_cases h5 : t = 5
    ·have h5b : (t == 5) = true := by simp [h5]
     by_cases h0 : n < 0
     ·exact .inr (.inl ⟨h5b, h0⟩)
     ·by_cases h1 : (ws.length : Int) ≤ n
      ·exact .inr (.inr (.inl ⟨h5b, by omega, h1⟩))
      ·refine .inr (.inr (.inr ⟨h5b, by omega, by omega, ?_⟩))
       cases b with
       | true => exact absurd ⟨h5, by omega, by omega, .inl rfl⟩ hc
       | false =>
        refine ⟨rfl, ?_⟩
        by_cases hi : i = n
        ·exact hi
        ·exact absurd ⟨h5, by omega, by omega, .inr hi⟩ hc
    ·exact .inl (by simp [h5])
  have HT := Lib.hid ht
  have HN := Lib.hid hn2
  have hmx := h.ar.mx
  have hle := h.ar.le
  obtain ⟨A, cap, rfl⟩ := h.own.rd.len
  rw [uw_length] at *
  have LB : Hid ((ws.length : Int) ≤ 1048576) := Lib.hid (by omega)
  clear h hg hn hx ht hn2 hmx hle hbk
  rcases key with c1 | ⟨c1, c2⟩ | ⟨c1, c2, c3⟩ | ⟨c1, c2, c3, rfl, rfl⟩
  ·have c1b : (t != 5) = true := by simpa using c1
   go_enter Tryd.func52, Tryd.ntmps52
   go_wp2_with (first | (go_at_call 71; (with_reducible refine (fget_c p v _ ws rs size i b _ H.out).mono ?_); rintro e w1 ⟨rfl, hf⟩; rw [HG.out]; have HF := Lib.hid hf; clear hf) | (go_at_call 60; (with_reducible refine (Wd.tag_c x t _ HX.out HT.out).mono ?_); rintro e w2 ⟨rfl, n2, rfl⟩))
   go_ret
   exact ⟨rfl, (((Fr.refl w _).alloc _).trans HF.out).drewN _⟩
  ·have c1b : (t != 5) = false := by simpa using c1
   have d1 : decide (n < 0) = true := decide_eq_true c2
   clear c1 c2
   go_enter Tryd.func52, Tryd.ntmps52
   go_wp2_with (first | (go_at_call 71; (with_reducible refine (fget_c p v _ ws rs size i b _ H.out).mono ?_); rintro e w1 ⟨rfl, hf⟩; rw [HG.out]; have HF := Lib.hid (((Fr.refl w _).alloc _).trans hf); have H1 := Lib.hid (H.out.fr hf); have HB1 := Lib.hid (hf.blk HBK.out (fun h => h)); clear hf) | (go_at_call 60; (with_reducible refine (Wd.tag_c x t _ HX.out HT.out).mono ?_); rintro e w2 ⟨rfl, n2, rfl⟩) | (go_at_call 61; (with_reducible refine (Wd.val_c x n _ HX.out HN.out).mono ?_); rintro e w3 ⟨rfl, n3, rfl⟩; have H3 := Lib.hid (H1.out.fr ((Fr.refl _ _).drewN (n2 + n3))); have HF3 := Lib.hid (HF.out.drewN (n2 + n3))) | (go_at_call 21; (with_reducible refine (used_c p v ws size _ H3.out.ar).mono ?_); rintro e w4 ⟨rfl, rfl⟩))
   go_ret
   exact ⟨rfl, HF3.out⟩
  ·have c1b : (t != 5) = false := by simpa using c1
   have d1 : decide (n < 0) = false := decide_eq_false (by omega)
   have d2 : decide ((ws.length : Int) ≤ n) = true := decide_eq_true c3
   clear c1 c2 c3
   go_enter Tryd.func52, Tryd.ntmps52
   go_wp2_with (first | (go_at_call 71; (with_reducible refine (fget_c p v _ ws rs size i b _ H.out).mono ?_); rintro e w1 ⟨rfl, hf⟩; rw [HG.out]; have HF := Lib.hid (((Fr.refl w _).alloc _).trans hf); have H1 := Lib.hid (H.out.fr hf); have HB1 := Lib.hid (hf.blk HBK.out (fun h => h)); clear hf) | (go_at_call 60; (with_reducible refine (Wd.tag_c x t _ HX.out HT.out).mono ?_); rintro e w2 ⟨rfl, n2, rfl⟩) | (go_at_call 61; (with_reducible refine (Wd.val_c x n _ HX.out HN.out).mono ?_); rintro e w3 ⟨rfl, n3, rfl⟩; have H3 := Lib.hid (H1.out.fr ((Fr.refl _ _).drewN (n2 + n3))); have HF3 := Lib.hid (HF.out.drewN (n2 + n3))) | (go_at_call 21; (with_reducible refine (used_c p v ws size _ H3.out.ar).mono ?_); rintro e w4 ⟨rfl, rfl⟩))
   go_ret
   exact ⟨rfl, HF3.out⟩
  ·have c1b : (t != 5) = false := by simpa using c1
   have d1 : decide (i < 0) = false := decide_eq_false (by omega)
   have d2 : decide ((ws.length : Int) ≤ i) = false := decide_eq_false (by omega)
   clear c1 c2 c3
   go_enter Tryd.func52, Tryd.ntmps52
   go_upto_region 5 with (first | (go_at_call 71; (with_reducible refine (fget_c p v _ ws rs size i false _ H.out).mono ?_); rintro e w1 ⟨rfl, hf⟩; rw [HG.out]; have HF := Lib.hid (((Fr.refl w _).alloc _).trans hf); have H1 := Lib.hid (H.out.fr hf); have HB1 := Lib.hid (hf.blk HBK.out (fun h => h)); clear hf) | (go_at_call 60; (with_reducible refine (Wd.tag_c x t _ HX.out HT.out).mono ?_); rintro e w2 ⟨rfl, n2, rfl⟩) | (go_at_call 61; (with_reducible refine (Wd.val_c x i _ HX.out HN.out).mono ?_); rintro e w3 ⟨rfl, n3, rfl⟩; have H3 := Lib.hid (H1.out.fr ((Fr.refl _ _).drewN (n2 + n3))); have HF3 := Lib.hid (HF.out.drewN (n2 + n3))) | (go_at_call 21; (with_reducible refine (used_c p v ws size _ H3.out.ar).mono ?_); rintro e w4 ⟨rfl, rfl⟩))
   have k0 : (w1.drewN (n2 + n3)).cell? ⟨w.heap.size, 0, none⟩ = some (.bool false) := by simp [World.cell?, HB1.out]
   have k1 : (w1.drewN (n2 + n3)).cell? ⟨w.heap.size, 1, none⟩ = some (.int .i64 i) := by simp [World.cell?, HB1.out]
   go_wp2_with (first | (go_at_call 71; (with_reducible refine (fget_c p v _ ws rs size i false _ H.out).mono ?_); rintro e w1 ⟨rfl, hf⟩; rw [HG.out]; have HF := Lib.hid (((Fr.refl w _).alloc _).trans hf); have H1 := Lib.hid (H.out.fr hf); have HB1 := Lib.hid (hf.blk HBK.out (fun h => h)); clear hf) | (go_at_call 60; (with_reducible refine (Wd.tag_c x t _ HX.out HT.out).mono ?_); rintro e w2 ⟨rfl, n2, rfl⟩) | (go_at_call 61; (with_reducible refine (Wd.val_c x i _ HX.out HN.out).mono ?_); rintro e w3 ⟨rfl, n3, rfl⟩; have H3 := Lib.hid (H1.out.fr ((Fr.refl _ _).drewN (n2 + n3))); have HF3 := Lib.hid (HF.out.drewN (n2 + n3))) | (go_at_call 21; (with_reducible refine (used_c p v ws size _ H3.out.ar).mono ?_); rintro e w4 ⟨rfl, rfl⟩))
   go_ret
   exact ⟨rfl, HF3.out⟩
set_option maxHeartbeats 4000000 in
theorem thread_yes (p : Nat) (v r : Value) (ws rs ws' rs' : List Int) (size i : Int) (b : Bool) (w : World) (h : TA 112 w p v ws size r rs) (hn : threadM ws rs ⟨b, i⟩ = some (ws', rs')) :
  Calls Tryd.prog 52 #[.pointer (some ⟨p, 0, none⟩), r, .agg #[.bool b, .int .i64 i]] w fun e w' => e = .returned (.bool true) ∧ TA 112 w' p v ws' size r rs' ∧ Fr w w' (UO v r) := by
 obtain ⟨x, n, hg, ht, hv, hn0, hn1, hne, rfl, rfl⟩ : ∃ x n, fGet ws rs ⟨b, i⟩ = some x ∧ tagW x = 5 ∧ valW x = n ∧ 0 ≤ n ∧ n < ws.length ∧ (b = true ∨ i ≠ n) ∧ ws' = wrAt (fSetW ws ⟨b, i⟩ (rd0 ws n)) n (linkF ⟨b, i⟩) ∧ rs' = fSetR rs ⟨b, i⟩ (rd0 ws n) := by
  unfold threadM at hn
  cases hg : fGet ws rs ⟨b, i⟩ with
  | none => rw [hg] at hn; cases hn
  | some x =>
   rw [hg] at hn
   simp only at hn
   split at hn
   ·rename_i hc
    simp only [Option.some.injEq, Prod.mk.injEq] at hn
    exact ⟨x, _, rfl, hc.1, rfl, hc.2.1, hc.2.2.1, hc.2.2.2, hn.1.symm, hn.2.symm⟩
   ·cases hn
 have hx := fGet_ok h.ar.ok h.okr hg
 have hmx := h.ar.mx
 have hle := h.ar.le
 have hlr := h.lenr
 have hi : 0 ≤ i ∧ i < 1099511627776 := by
  unfold fGet at hg
  split at hg
  ·obtain ⟨k, e, hk, _⟩ := rdAt_some hg; simp only at e; omega
  ·obtain ⟨k, e, hk, _⟩ := rdAt_some hg; simp only at e; omega
 obtain ⟨x0, hx0⟩ : ∃ x0, rd0 ws n = x0 := ⟨_, rfl⟩
 obtain ⟨k, rfl⟩ := Int.eq_ofNat_of_zero_le hn0
 have hk : k < ws.length := by omega
 have hr0 : rdAt ws k = some x0 := by rw [← hx0]; unfold rd0; rw [rdAt_of hk]; rfl
 have hx0k : okW x0 := by
  have := okWs_getD h.ar.ok k hk
  have hr1 := hr0
  rw [rdAt_of hk] at hr1
  injection hr1 with e
  rw [← e]; exact this
 rw [hx0]
 obtain ⟨n, hnk⟩ : ∃ n : Int, (k : Int) = n := ⟨_, rfl⟩
 rw [hnk] at hr0 hn0 hn1 hv hne ⊢
 obtain ⟨L, hL⟩ : ∃ L, linkF ⟨b, i⟩ = L := ⟨_, rfl⟩
 rw [hL]
 have HLK : Hid (okW L) := Lib.hid (by rw [← hL]; exact okW_ofW _ _)
 have HL := Lib.hid hL
 have HX0 := Lib.hid hr0
 have HX0K := Lib.hid hx0k
 have HI0 := Lib.hid hi.1
 have HI1 := Lib.hid hi.2
 have HX := Lib.hid hx
 have HT := Lib.hid ht
 have HN := Lib.hid hv
 have HG := Lib.hid hg
 have HIS : Hid ((fGet ws rs ⟨b, i⟩).isSome = true) := Lib.hid (by rw [hg]; rfl)
 have HNW : Hid (0 ≤ n ∧ n < (fSetW ws ⟨b, i⟩ x0).length) := Lib.hid (by rw [fSetW_len]; exact ⟨hn0, hn1⟩)
 have d1 : decide (n < 0) = false := decide_eq_false (by omega)
 have d2 : decide ((ws.length : Int) ≤ n) = false := decide_eq_false (by omega)
 have q1 : (0 : Int) ≤ n := hn0
 have q2 : n < ws.length := hn1
 clear hL hr0 hx0k hi hx ht hv hg hn hx0 hmx hle hlr hnk hk hn0 hn1
 cases b with
 | true =>
  have H := Lib.hid (h.fr ((Fr.refl w _).alloc (.cells #[.bool true, .int .i64 i] 109)))
  have hbk : (w.alloc (.cells #[.bool true, .int .i64 i] 109)).heap[w.heap.size]? = some (.cells #[.bool true, .int .i64 i] 109 (0, 0)) := blk_new _ _ _
  have HBK := Lib.hid hbk
  obtain ⟨A, cap, rfl⟩ := h.own.rd.len
  rw [uw_length] at *
  clear h hbk hne
  go_enter Tryd.func52, Tryd.ntmps52
  go_upto_region 5 with (first | (go_at_call 71; (with_reducible refine (fget_c p v _ ws rs size i true _ H.out).mono ?_); rintro e w1 ⟨rfl, hf⟩; rw [HG.out]; have HF := Lib.hid (((Fr.refl w _).alloc _).trans hf); have H1 := Lib.hid (H.out.fr hf); have HB1 := Lib.hid (hf.blk HBK.out (fun h => h)); clear hf) | (go_at_call 60; (with_reducible refine (Wd.tag_c x 5 _ HX.out HT.out).mono ?_); rintro e w2 ⟨rfl, n2, rfl⟩) | (go_at_call 61; (with_reducible refine (Wd.val_c x n _ HX.out HN.out).mono ?_); rintro e w3 ⟨rfl, n3, rfl⟩; have H3 := Lib.hid (H1.out.fr ((Fr.refl _ _).drewN (n2 + n3))); have HF3 := Lib.hid (HF.out.drewN (n2 + n3))))
  have hb3 : (w1.drewN (n2 + n3)).heap[w.heap.size]? = some (.cells #[.bool true, .int .i64 i] 109 (0, 0)) := HB1.out
  obtain ⟨w3, hw3⟩ : ∃ w3, w1.drewN (n2 + n3) = w3 := ⟨_, rfl⟩
  rw [hw3] at hb3 H3 HF3 ⊢
  obtain ⟨D, hD⟩ : ∃ D, w.heap.size = D := ⟨_, rfl⟩
  rw [hD] at hb3 ⊢
  have HDD := Lib.hid hD
  clear hw3 hD
  have k0 : w3.cell? ⟨D, 0, none⟩ = some (.bool true) := by simp [World.cell?, hb3]
  have k1 : w3.cell? ⟨D, 1, none⟩ = some (.int .i64 i) := by simp [World.cell?, hb3]
  have hnD : ¬ UO v (.slice A rs.length cap) D := fun e => by
   rcases e with e | e
   ·obtain ⟨cur, hc⟩ := H3.out.ar.own.elem D e; rw [hb3] at hc; simp at hc
   ·obtain ⟨cur, hc⟩ := H3.out.own.elem D e; rw [hb3] at hc; simp at hc
  have HND := Lib.hid hnD
  have HB3 := Lib.hid hb3
  clear hnD hb3
  go_upto_region 8 with (first | (go_at_call 21; (with_reducible refine (used_c p v ws size _ H3.out.ar).mono ?_); rintro e w4 ⟨rfl, rfl⟩) | (go_at_call 43; (with_reducible refine (get_c p v ws size n x0 _ H3.out.ar HX0.out).mono ?_); rintro e w5 ⟨rfl, rfl⟩))
  go_wp2_with (first
   | (go_at_call 72; (with_reducible refine (fset_c p v _ ws rs size i x0 true _ H3.out HX0K.out HIS.out).mono ?_); rintro e w5 ⟨rfl, ht5, hf5⟩; have H5 := Lib.hid ht5; have HF5 := Lib.hid hf5; have k05 := hf5.cell k0 HND.out; have k15 := hf5.cell k1 HND.out; clear ht5 hf5 k0 k1)
   | (go_at_call 73; (with_reducible refine (Wd.link_c true i L _ HI0.out HI1.out HL.out).mono ?_); rintro e w6 ⟨rfl, hb6⟩; have H6 := Lib.hid (H5.out.fr (Fr.of_below hb6 _)); have HF6 := Lib.hid (HF5.out.trans (Fr.of_below hb6 _)); clear hb6)
   | (go_at_call 38; (with_reducible refine (set_c p v _ size n L _ H6.out.ar HLK.out HNW.out).mono ?_); rintro e w7 ⟨rfl, ha7, hf7⟩; have H7 := Lib.hid (H6.out.chg (Chg.of_set ha7 hf7)); have HF7 := Lib.hid (HF6.out.then_ hf7 (fun j hj _ => .inl hj)); clear ha7 hf7))
  go_ret
  exact ⟨rfl, H7.out, (HF3.out.mono (fun _ h _ => h.elim)).then_ HF7.out (fun j hj _ => hj)⟩
 | false =>
  have H := Lib.hid (h.fr ((Fr.refl w _).alloc (.cells #[.bool false, .int .i64 i] 109)))
  have hbk : (w.alloc (.cells #[.bool false, .int .i64 i] 109)).heap[w.heap.size]? = some (.cells #[.bool false, .int .i64 i] 109 (0, 0)) := blk_new _ _ _
  have HBK := Lib.hid hbk
  obtain ⟨A, cap, rfl⟩ := h.own.rd.len
  rw [uw_length] at *
  have hin : (i == n) = false := by simpa using hne
  clear h hbk hne
  go_enter Tryd.func52, Tryd.ntmps52
  go_upto_region 5 with (first | (go_at_call 71; (with_reducible refine (fget_c p v _ ws rs size i false _ H.out).mono ?_); rintro e w1 ⟨rfl, hf⟩; rw [HG.out]; have HF := Lib.hid (((Fr.refl w _).alloc _).trans hf); have H1 := Lib.hid (H.out.fr hf); have HB1 := Lib.hid (hf.blk HBK.out (fun h => h)); clear hf) | (go_at_call 60; (with_reducible refine (Wd.tag_c x 5 _ HX.out HT.out).mono ?_); rintro e w2 ⟨rfl, n2, rfl⟩) | (go_at_call 61; (with_reducible refine (Wd.val_c x n _ HX.out HN.out).mono ?_); rintro e w3 ⟨rfl, n3, rfl⟩; have H3 := Lib.hid (H1.out.fr ((Fr.refl _ _).drewN (n2 + n3))); have HF3 := Lib.hid (HF.out.drewN (n2 + n3))))
  have hb3 : (w1.drewN (n2 + n3)).heap[w.heap.size]? = some (.cells #[.bool false, .int .i64 i] 109 (0, 0)) := HB1.out
  obtain ⟨w3, hw3⟩ : ∃ w3, w1.drewN (n2 + n3) = w3 := ⟨_, rfl⟩
  rw [hw3] at hb3 H3 HF3 ⊢
  obtain ⟨D, hD⟩ : ∃ D, w.heap.size = D := ⟨_, rfl⟩
  rw [hD] at hb3 ⊢
  have HDD := Lib.hid hD
  clear hw3 hD
  have k0 : w3.cell? ⟨D, 0, none⟩ = some (.bool false) := by simp [World.cell?, hb3]
  have k1 : w3.cell? ⟨D, 1, none⟩ = some (.int .i64 i) := by simp [World.cell?, hb3]
  have hnD : ¬ UO v (.slice A rs.length cap) D := fun e => by
   rcases e with e | e
   ·obtain ⟨cur, hc⟩ := H3.out.ar.own.elem D e; rw [hb3] at hc; simp at hc
   ·obtain ⟨cur, hc⟩ := H3.out.own.elem D e; rw [hb3] at hc; simp at hc
  have HND := Lib.hid hnD
  have HB3 := Lib.hid hb3
  clear hnD hb3
  go_upto_region 8 with (first | (go_at_call 21; (with_reducible refine (used_c p v ws size _ H3.out.ar).mono ?_); rintro e w4 ⟨rfl, rfl⟩) | (go_at_call 43; (with_reducible refine (get_c p v ws size n x0 _ H3.out.ar HX0.out).mono ?_); rintro e w5 ⟨rfl, rfl⟩))
  go_wp2_with (first
   | (go_at_call 72; (with_reducible refine (fset_c p v _ ws rs size i x0 false _ H3.out HX0K.out HIS.out).mono ?_); rintro e w5 ⟨rfl, ht5, hf5⟩; have H5 := Lib.hid ht5; have HF5 := Lib.hid hf5; have k05 := hf5.cell k0 HND.out; have k15 := hf5.cell k1 HND.out; clear ht5 hf5 k0 k1)
   | (go_at_call 73; (with_reducible refine (Wd.link_c false i L _ HI0.out HI1.out HL.out).mono ?_); rintro e w6 ⟨rfl, hb6⟩; have H6 := Lib.hid (H5.out.fr (Fr.of_below hb6 _)); have HF6 := Lib.hid (HF5.out.trans (Fr.of_below hb6 _)); clear hb6)
   | (go_at_call 38; (with_reducible refine (set_c p v _ size n L _ H6.out.ar HLK.out HNW.out).mono ?_); rintro e w7 ⟨rfl, ha7, hf7⟩; have H7 := Lib.hid (H6.out.chg (Chg.of_set ha7 hf7)); have HF7 := Lib.hid (HF6.out.then_ hf7 (fun j hj _ => .inl hj)); clear ha7 hf7))
  go_ret
  exact ⟨rfl, H7.out, (HF3.out.mono (fun _ h _ => h.elim)).then_ HF7.out (fun j hj _ => hj)⟩
end Go.Proofs.YtjiaaefpepdoeaaDoor
namespace Go.Proofs.YtjiaaefpepdoeaaDoor
open Go.RowKit Md
set_option linter.unusedVariables false
theorem fSetR_len (rs : List Int) (f : Fld) (x : Int) : (fSetR rs f x).length = rs.length := by unfold fSetR; split <;> simp [wrAt_len]
structure LI (T : TypeId) (w W : World) (p : Nat) (v r : Value) (ws0 rs0 : List Int) (size at_ dst : Int) (g n : Nat) (ws rs : List Int) : Prop where
 ta : TA T W p v ws size r rs
 fr : Fr w W (UO v r)
 eq : looseM (ws0.length + rs0.length) ws0 rs0 at_ dst = ⟨n + (looseM g ws rs at_ dst).n, (looseM g ws rs at_ dst).ok, (looseM g ws rs at_ dst).ws, (looseM g ws rs at_ dst).rs⟩
 gn : n + g = ws0.length + rs0.length
 l1 : ws.length = ws0.length
 l2 : rs.length = rs0.length
def LA (T : TypeId) (w w' : World) (p : Nat) (v r : Value) (size : Int) (q : Loosed) (e : Ending) : Prop :=
 e = .returned (.tuple #[.int .i64 q.n, .bool q.ok]) ∧ TA T w' p v q.ws size r q.rs ∧ Fr w w' (UO v r)
theorem loose_none {g : Nat} {ws rs : List Int} {a t : Int} (h : rdAt ws a = none) : looseM g ws rs a t = ⟨0, true, ws, rs⟩ := by cases g <;> simp [looseM, h]
theorem loose_tag {g : Nat} {ws rs : List Int} {a t x : Int} (h : rdAt ws a = some x) (h7 : tagW x ≠ 7) : looseM g ws rs a t = ⟨0, true, ws, rs⟩ := by cases g <;> simp [looseM, h, h7]
theorem loose_zero {ws rs : List Int} {a t x : Int} (h : rdAt ws a = some x) (h7 : tagW x = 7) : looseM 0 ws rs a t = ⟨0, false, ws, rs⟩ := by simp [looseM, h, h7]
theorem loose_far {g : Nat} {ws rs : List Int} {a t x : Int} (h : rdAt ws a = some x) (h7 : tagW x = 7) (hf : fGet ws rs (Md.linked x) = none) : looseM g ws rs a t = ⟨0, false, ws, rs⟩ := by cases g <;> simp [looseM, h, h7, hf]
theorem loose_step {g : Nat} {ws rs : List Int} {a t x y : Int} (h : rdAt ws a = some x) (h7 : tagW x = 7) (hf : fGet ws rs (Md.linked x) = some y) :
  looseM (g + 1) ws rs a t = ⟨(looseM g (fSetW (wrAt ws a y) (Md.linked x) (ofW 5 t)) (fSetR rs (Md.linked x) (ofW 5 t)) a t).n + 1, (looseM g (fSetW (wrAt ws a y) (Md.linked x) (ofW 5 t)) (fSetR rs (Md.linked x) (ofW 5 t)) a t).ok, (looseM g (fSetW (wrAt ws a y) (Md.linked x) (ofW 5 t)) (fSetR rs (Md.linked x) (ofW 5 t)) a t).ws, (looseM g (fSetW (wrAt ws a y) (Md.linked x) (ofW 5 t)) (fSetR rs (Md.linked x) (ofW 5 t)) a t).rs⟩ := by
 simp [looseM, h, h7, hf]
set_option maxRecDepth 100000 in
set_option maxHeartbeats 4000000 in
theorem loose_c (p : Nat) (v r : Value) (ws rs : List Int) (size at_ dst : Int) (w : World) (h : TA 112 w p v ws size r rs) :
  Calls Tryd.prog 74 #[.pointer (some ⟨p, 0, none⟩), r, .int .i64 at_, .int .i64 dst] w fun e w' => LA 112 w w' p v r size (looseM (ws.length + rs.length) ws rs at_ dst) e := by
 have hmx := h.ar.mx
 have hle := h.ar.le
 have hlr := h.lenr
 have HB : Hid (ws.length ≤ 1048576 ∧ rs.length ≤ 1048576) := Lib.hid (by omega)
 have H0 : Hid (LI 112 w w p v r ws rs size at_ dst (ws.length + rs.length) 0 ws rs) := Lib.hid ⟨h, Fr.refl _ _, by simp, by simp, rfl, rfl⟩
 obtain ⟨A, cap, rfl⟩ := h.own.rd.len
 rw [uw_length] at *
 obtain ⟨Z, hZ⟩ : ∃ Z, looseM (ws.length + rs.length) ws rs at_ dst = Z := ⟨_, rfl⟩
 rw [hZ]
 have HZ := Lib.hid hZ
 clear h hmx hle hlr hZ
 go_enter Tryd.func74, Tryd.ntmps74
 go_wp2
 go_loopg [10] (ws.length + rs.length) (fun g nv wr => ∃ (n : Nat) (ws1 rs1 : List Int), nv = .int .i64 n ∧ Hid (LI 112 w wr p v (.slice A rs.length cap) ws rs size at_ dst g n ws1 rs1))
 case atStart => exact ⟨0, _, _, rfl, H0⟩
 case round =>
  clear H0
  obtain ⟨n, ws1, rs1, rfl, HI⟩ := hrel
  cases hr : rdAt ws1 at_ with
  | none =>
   have HR := Lib.hid hr
   clear hr
   go_wp2_with (first | (go_at_call 43; (with_reducible refine (get_no p v ws1 size at_ _ HI.out.ta.ar HR.out).mono ?_); rintro e w1 ⟨rfl, rfl⟩))
   go_ret2
   have hz : Z = ⟨n, true, ws1, rs1⟩ := by rw [← HZ.out, HI.out.eq, loose_none HR.out]; simp
   rw [hz]
   exact ⟨rfl, HI.out.ta, HI.out.fr⟩
  | some x =>
   have HR := Lib.hid hr
   have hx : okW x := by obtain ⟨k, _, hk, rfl⟩ := rdAt_some hr; exact okWs_getD HI.out.ta.ar.ok k hk
   have HX := Lib.hid hx
   obtain ⟨t, ht⟩ : ∃ t, tagW x = t := ⟨_, rfl⟩
   have HT := Lib.hid ht
   clear hr hx ht
   by_cases h7 : t = 7
   ·subst h7
    obtain ⟨⟨fb, fi⟩, hfl⟩ : ∃ f, Md.linked x = f := ⟨_, rfl⟩
    have HFL := Lib.hid hfl
    clear hfl
    go_upto_region 9 with (first | (go_at_call 43; (with_reducible refine (get_c p v ws1 size at_ x _ HI.out.ta.ar HR.out).mono ?_); rintro e w1 ⟨rfl, rfl⟩) | (go_at_call 60; (with_reducible refine (Wd.tag_c x 7 _ HX.out HT.out).mono ?_); rintro e w2 ⟨rfl, n2, rfl⟩) | (go_at_call 89; (with_reducible refine (Wd.linked_c x ⟨fb, fi⟩ _ HX.out HFL.out).mono ?_); rintro e wl ⟨rfl, hb⟩))
    obtain ⟨W2, hW2⟩ : ∃ W2, wl.alloc (.cells #[.bool fb, .int .i64 fi] 109) = W2 := ⟨_, rfl⟩
    obtain ⟨D, hD⟩ : ∃ D, wl.heap.size = D := ⟨_, rfl⟩
    have hf2 : Fr wr W2 (fun _ => False) := by rw [← hW2]; exact (((Fr.refl _ _).drewN n2).trans (Fr.of_below hb _)).alloc _
    have hdb : W2.heap[D]? = some (.cells #[.bool fb, .int .i64 fi] 109 (0, 0)) := by rw [← hW2, ← hD]; exact blk_new _ _ _
    have H2 := Lib.hid (HI.out.ta.fr hf2)
    have HF2 := Lib.hid (HI.out.fr.then_ hf2 (fun _ h _ => h.elim))
    have k0 : W2.cell? ⟨D, 0, none⟩ = some (.bool fb) := by simp [World.cell?, hdb]
    have k1 : W2.cell? ⟨D, 1, none⟩ = some (.int .i64 fi) := by simp [World.cell?, hdb]
    have HDB := Lib.hid hdb
    simp only [hW2, hD]
    clear hW2 hD hb hf2 hdb
    cases hfg : fGet ws1 rs1 ⟨fb, fi⟩ with
    | none =>
     have HG := Lib.hid hfg
     clear hfg
     go_wp2_with (first | (go_at_call 71; (with_reducible refine (fget_c p v _ ws1 rs1 size fi fb _ H2.out).mono ?_); rintro e w3 ⟨rfl, hf⟩; rw [HG.out]; have HF3 := Lib.hid hf; clear hf))
     go_ret2
     have hz : Z = ⟨n, false, ws1, rs1⟩ := by rw [← HZ.out, HI.out.eq, loose_far HR.out HT.out (by rw [HFL.out]; exact HG.out)]; simp
     rw [hz]
     exact ⟨rfl, H2.out.fr HF3.out, HF2.out.then_ HF3.out (fun _ h _ => h.elim)⟩
    | some y =>
     have HG := Lib.hid hfg
     have HIS : Hid ((fGet ws1 rs1 ⟨fb, fi⟩).isSome = true) := Lib.hid (by rw [hfg]; rfl)
     have HY := Lib.hid (fGet_ok HI.out.ta.ar.ok HI.out.ta.okr hfg)
     have hbd := HB.out
     have hgn := HI.out.gn
     have hl1 := HI.out.l1
     have HW : Hid (wrap64 ((ws1.length : Int) + rs.length) = ws1.length + rs.length) := Lib.hid (by unfold wrap64; omega)
     clear hfg
     cases gk with
     | zero =>
      have d1 : decide ((ws1.length : Int) + rs.length ≤ n) = true := decide_eq_true (by omega)
      clear hbd hgn hl1
      have hw := HW.out
      go_wp2_with (first | (go_at_call 71; (with_reducible refine (fget_c p v _ ws1 rs1 size fi fb _ H2.out).mono ?_); rintro e w3 ⟨rfl, hf⟩; rw [HG.out]; have HF3 := Lib.hid hf; have H3 := Lib.hid (H2.out.fr hf); clear hf) | (go_at_call 21; (with_reducible refine (used_c p v ws1 size _ H3.out.ar).mono ?_); rintro e w4 ⟨rfl, rfl⟩))
      go_ret2
      have hz : Z = ⟨n, false, ws1, rs1⟩ := by rw [← HZ.out, HI.out.eq, loose_zero HR.out HT.out]; simp
      rw [hz]
      exact ⟨rfl, H3.out, HF2.out.then_ HF3.out (fun _ h _ => h.elim)⟩
     | succ g' =>
      have d1 : decide ((ws1.length : Int) + rs.length ≤ n) = false := decide_eq_false (by omega)
      clear hbd hgn hl1
      have hw := HW.out
      obtain ⟨q, hq⟩ : ∃ q, ofW 5 dst = q := ⟨_, rfl⟩
      have HQ := Lib.hid hq
      have HQK : Hid (okW q) := Lib.hid (by rw [← hq]; exact okW_ofW _ _)
      have HIR : Hid (0 ≤ at_ ∧ at_ < ws1.length) := Lib.hid (by obtain ⟨k, rfl, hk, _⟩ := rdAt_some HR.out; omega)
      have HIS2 : Hid ((fGet (wrAt ws1 at_ y) rs1 ⟨fb, fi⟩).isSome = true) := Lib.hid (by
       have h1 := HIS.out
       unfold fGet at h1 ⊢
       split
       ·rename_i hh; rw [if_pos hh] at h1; exact h1
       ·rename_i hh; rw [if_neg hh] at h1
        unfold rdAt at h1 ⊢
        rw [wrAt_len]
        split at h1
        ·rename_i h3; rw [if_pos h3]; rfl
        ·cases h1)
      clear hq
      go_upto_region 13 with (first | (go_at_call 71; (with_reducible refine (fget_c p v _ ws1 rs1 size fi fb _ H2.out).mono ?_); rintro e w3 ⟨rfl, hf⟩; rw [HG.out]; have HF3 := Lib.hid hf; have H3 := Lib.hid (H2.out.fr hf); clear hf) | (go_at_call 21; (with_reducible refine (used_c p v ws1 size _ H3.out.ar).mono ?_); rintro e w4 ⟨rfl, rfl⟩) | (go_at_call 38; (with_reducible refine (set_c p v ws1 size at_ y _ H3.out.ar HY.out HIR.out).mono ?_); rintro e w4 ⟨rfl, ha, hf⟩; have H4 := Lib.hid (H3.out.chg (Chg.of_set ha hf)); have HF4 := Lib.hid hf; clear ha hf))
      have hb3 := HF3.out.blk HDB.out (fun h => h)
      have hnD : ¬ UO v (.slice A rs.length cap) D := fun e => by
       rcases e with e | e
       ·obtain ⟨cur, hc⟩ := H3.out.ar.own.elem D e; rw [hb3] at hc; simp at hc
       ·obtain ⟨cur, hc⟩ := H3.out.own.elem D e; rw [hb3] at hc; simp at hc
      have hb4 := HF4.out.blk hb3 (fun e => hnD (.inl e))
      have k04 : w4.cell? ⟨D, 0, none⟩ = some (.bool fb) := by simp [World.cell?, hb4]
      have k14 : w4.cell? ⟨D, 1, none⟩ = some (.int .i64 fi) := by simp [World.cell?, hb4]
      have HND := Lib.hid hnD
      have H4d := Lib.hid (H4.out.fr ((Fr.refl _ (fun _ => False)).drew))
      clear hb3 hnD hb4 k0 k1
      go_region_held3 (fun w' => w'.cell? ⟨D, 0, none⟩ = some (.bool fb) ∧ w'.cell? ⟨D, 1, none⟩ = some (.int .i64 fi)) (first | exact ⟨k06, k16⟩ | exact ⟨k04, k14⟩)
       (first
        | (go_at_call 88; (with_reducible refine (Wd.of_c 5 dst q _ HQ.out).mono ?_); rintro e w5 ⟨rfl, n5, rfl⟩; have H5 := Lib.hid (H4.out.fr ((Fr.refl w4 (fun _ => False)).drewN (1 + n5))))
        | (go_at_call 72; (with_reducible refine (fset_c p v _ (wrAt ws1 at_ y) rs1 size fi q fb _ H5.out HQK.out HIS2.out).mono ?_); rintro e w6 ⟨rfl, ht6, hf6⟩; have H6 := Lib.hid ht6; have HF6 := Lib.hid hf6; have k06 := hf6.cell (a := ⟨D, 0, none⟩) k04 HND.out; have k16 := hf6.cell (a := ⟨D, 1, none⟩) k14 HND.out; clear ht6 hf6))
      go_wp2
      go_roundg g'
      case measure => exact Nat.lt_succ_self _
      case rel =>
       have hst := loose_step (g := g') (a := at_) (t := dst) HR.out HT.out (by rw [HFL.out]; exact HG.out)
       rw [HFL.out, HQ.out] at hst
       have hw1 : wrap64 ((n : Int) + 1) = n + 1 := by have := HI.out.gn; have := HB.out; clear hw; unfold wrap64; omega
       refine ⟨n + 1, _, _, by first | (simp; done) | (simp; exact hw1), Lib.hid ⟨H6.out, ?_, ?_, ?_, ?_, ?_⟩⟩
       ·refine Fr.then_ ((HF2.out.then_ HF3.out (fun _ h _ => h.elim)).then_ HF4.out (fun j hj _ => .inl hj)) (S1 := UO v (.slice A rs.length cap)) ?_ (fun j hj _ => hj)
        exact Fr.trans (Fr.drewN (Fr.refl w4 _) (1 + n5)) HF6.out
       ·rw [HI.out.eq, hst]
        simp only [Loosed.mk.injEq, and_self, and_true]
        omega
       ·have := HI.out.gn; omega
       ·rw [fSetW_len, wrAt_len]; exact HI.out.l1
       ·rw [fSetR_len]; exact HI.out.l2
   ·have hb : (t != 7) = true := by simpa using h7
    have H7 := Lib.hid h7
    clear h7
    go_wp2_with (first | (go_at_call 43; (with_reducible refine (get_c p v ws1 size at_ x _ HI.out.ta.ar HR.out).mono ?_); rintro e w1 ⟨rfl, rfl⟩) | (go_at_call 60; (with_reducible refine (Wd.tag_c x t _ HX.out HT.out).mono ?_); rintro e w2 ⟨rfl, n2, rfl⟩))
    go_ret2
    have hz : Z = ⟨n, true, ws1, rs1⟩ := by rw [← HZ.out, HI.out.eq, loose_tag HR.out (by rw [HT.out]; exact H7.out)]; simp
    rw [hz]
    exact ⟨rfl, HI.out.ta.fr ((Fr.refl _ _).drewN _), HI.out.fr.drewN _⟩
end Go.Proofs.YtjiaaefpepdoeaaDoor
namespace Go.Proofs.YtjiaaefpepdoeaaDoor
open Go.RowKit Md
set_option linter.unusedVariables false
theorem iw_length (l : List Int) : (iw l).length = l.length := by simp [iw]
theorem iw_get {ws : List Int} {k : Nat} (h : k < ws.length) : (iw ws)[k]? = some (.int .i64 (ws.getD k 0)) := by simp [iw, List.getD, h]
set_option maxHeartbeats 1000000 in
theorem mem_c (v : Value) (l : List Int) (more : Int) (w : World) (h : Rd w v (uw l)) (hok : okWs l) (h0 : 0 ≤ more) (h1 : l.length + more ≤ 1048576) :
  Calls Tryd.prog 16 #[v, .int .i64 more] w fun e w' => ∃ p v', e = .returned (.pointer (some ⟨p, 0, none⟩)) ∧ NewAr 46 w w' p v' l (l.length + more) := by
 have hw : wrap64 ((l.length : Int) + more) = l.length + more := by unfold wrap64; omega
 have hw2 : IntKind.i64.wrap ((l.length : Int) + more) = l.length + more := by rw [IntKind.wrap_i64]; omega
 have HB : Hid (l.length ≤ 1073741824) := Lib.hid (by omega)
 have H1 := Lib.hid h1
 have HOK := Lib.hid hok
 have HR := Lib.hid h
 have H0 := Lib.hid h0
 obtain ⟨A, cap, rfl⟩ := h.len
 rw [uw_length] at *
 clear h hok h0 h1
 go_enter Tryd.func16, Tryd.ntmps16
 go_wp2_with (first | (go_at_call 18; (with_reducible refine (copy_c _ l _ HR.out HB.out).mono ?_); rintro e w1 ⟨v', rfl, hn⟩; obtain ⟨A9, c9, hv⟩ := hn.1.rd.len; subst hv; have HN := Lib.hid hn; clear hn))
 go_ret
 have hn := HN.out
 rw [uw_length] at *
 exact ⟨_, _, rfl, ⟨blk_new _ _ _, hn.1.keep ((Fr.refl _ (fun _ => False)).alloc _) (fun _ _ h => h), by have := H0.out; omega, H1.out, HOK.out, by decide⟩, hn.2.1.alloc _, hn.2.1.size, hn.2.2⟩
end Go.Proofs.YtjiaaefpepdoeaaDoor
namespace Go.Proofs.YtjiaaefpepdoeaaDoor
open Go.RowKit Md
set_option linter.unusedVariables false
def bw (l : List Bool) : List Value := l.map Value.bool
theorem bw_length (l : List Bool) : (bw l).length = l.length := by simp [bw]
theorem bw_get {l : List Bool} {k : Nat} (h : k < l.length) : (bw l)[k]? = some (.bool (l.getD k false)) := by simp [bw, List.getD, h]
theorem boolInfo : (Tryd.prog.info? 4).map (fun i => (i.zero, i.size, i.bytes)) = some (some (.bool false), 1, 1) := by kernel_rfl
theorem Rd.keep2 {w w1 : World} {v : Value} {xs : List Value} {S : Nat → Prop} (h : Rd w v xs) (hf : Fr w w1 S) (hn : 0 < xs.length → ∀ i, InBlk v i → ¬ S i) : Rd w1 v xs := by
 by_cases h0 : 0 < xs.length
 ·exact h.keep hf (hn h0)
 ·rcases h with h | ⟨b, off, cap, rfl, hx, _⟩
  ·exact .inl h
  ·omega
theorem Rd.cellAt {w : World} {A : Option Addr} {n cap : Nat} {xs : List Value} (h : Rd w (.slice A n cap) xs) (h0 : 0 < xs.length) : ∃ b off, A = some ⟨b, off, none⟩ ∧ ∀ i, i < xs.length → w.cell? ⟨b, off + i, none⟩ = xs[i]? := by
 rcases h with ⟨rfl, _⟩ | ⟨b, off, cap', e, _, _, _, _, hc⟩
 ·simp at h0
 ·injection e with e1 e2 e3; exact ⟨b, off, e1, hc⟩
theorem Own.cellAt {w : World} {e : TypeId} {A : Option Addr} {n cap : Nat} {xs : List Value} (h : Own w e (.slice A n cap) xs) (h0 : 0 < xs.length) : ∃ b, A = some ⟨b, 0, none⟩ ∧ b < w.heap.size ∧ ∀ i, i < xs.length → w.cell? ⟨b, i, none⟩ = xs[i]? ∧ w.frozen? ⟨b, i, none⟩ = false := by
 rcases h.form with ⟨e, rfl⟩ | ⟨b, cap', e, hl, hm, hg, hc, hf⟩
 ·simp at h0
 ·injection e with e1 e2 e3; exact ⟨b, e1, hg, fun i hi => ⟨hc i hi, hf i⟩⟩
theorem Apt.new {W : World} {e : TypeId} {v u : Value} {xs : List Value} (h : Own W e v xs) (hu : ∀ k, InBlk u k → W.heap.size ≤ k) : Apt v u := fun k hk h2 => by
 have := h.lt k hk; have := hu k h2; omega
section
variable {w W W1 : World} {e : TypeId} {v u : Value} {xs : List Value} {S : Nat → Prop} {T : TypeId} {p q : Nat} {ws : List Int} {size : Int}
theorem Own.setAt {g cap k : Nat} (h : Own W e (.slice (some ⟨g, 0, none⟩) xs.length cap) xs) (hk : k < xs.length) :
  Own (W.setCell ⟨g, k, none⟩ u) e (.slice (some ⟨g, 0, none⟩) xs.length cap) (xs.set k u) ∧ Fr W (W.setCell ⟨g, k, none⟩ u) (fun i => i = g) := by
 refine ⟨?_, Fr.setCell (S := fun i => i = g) (a := ⟨g, k, none⟩) (Fr.refl W _) (fun _ => rfl) _⟩
 rcases h.2 with ⟨hv, _⟩ | ⟨g', cap', cur, hv, hb, hg, hl, hm, hs, ht⟩
 ·cases hv
 ·injection hv with h1 h2 h3
  injection h1 with h1
  injection h1 with h1
  subst h1
  subst h3
  refine ⟨by simp, .inr ⟨g, cap, cur.setIfInBounds k u, by simp, Nat.zero_le _, ?_, by simpa using hl, hm, by simpa using hs, ?_⟩⟩
  ·simp [World.setCell, Array.getElem?_modify, hg]
  ·rw [List.length_set, Array.toList_setIfInBounds, List.take_set, ht]
theorem Own.apart {e2 : TypeId} {ys : List Value} (h : Own W e v xs) (k : Own W e2 u ys) (ne : e ≠ e2) : Apt v u := fun i h1 h2 => by
 obtain ⟨c1, b1⟩ := h.elem i h1
 obtain ⟨c2, b2⟩ := k.elem i h2
 rw [b1] at b2
 simp at b2
 exact ne b2.2
theorem Own.not_ptr (h : Own W e u xs) (ha : Ar T W p v ws size) (ne : T ≠ e) : ∀ i, InBlk u i → i ≠ p := fun i hi ei => by
 obtain ⟨c, b⟩ := h.elem i hi
 rw [ei, ha.blk] at b
 simp at b
 exact ne b.2
theorem Own.not_box {D : Nat} {c : Array Value} {T2 : TypeId} (h : Own W e u xs) (hb : W.heap[D]? = some (.cells c T2 (0, 0))) (ne : T2 ≠ e) : ¬ InBlk u D := fun hi => by
 obtain ⟨c2, b⟩ := h.elem D hi
 rw [hb] at b
 simp at b
 exact ne b.2
theorem Own.cases {ws : List Int} {A : Option Addr} {cap : Nat} (h : Own W 39 (.slice A ws.length cap) (uw ws)) :
  (A = none ∧ ws.length = 0 ∧ cap = 0) ∨ ∃ g, A = some ⟨g, 0, none⟩ ∧ ws.length ≤ cap ∧ cap ≤ maxLen ∧ g < W.heap.size ∧ (∀ i, i < ws.length → W.cell? ⟨g, i, none⟩ = some (.int .u64 (ws.getD i 0))) ∧ ∀ i, W.frozen? ⟨g, i, none⟩ = false := by
 rcases h.form with ⟨e, h0⟩ | ⟨g, cap', e, hl, hm, hg, hc, hf⟩
 ·injection e with e1 e2 e3
  exact .inl ⟨e1, e2, e3⟩
 ·injection e with e1 e2 e3
  subst e3
  rw [uw_length] at *
  exact .inr ⟨g, e1, hl, hm, hg, fun i hi => by rw [hc i hi, uw_get hi], hf⟩
theorem rd_sliced {ws : List Int} {A : Option Addr} {cap : Nat} (h : Own W 39 (.slice A ws.length cap) (uw ws)) (lo hi : Nat) (h1 : lo ≤ hi) (h2 : hi ≤ ws.length) :
  Rd W (sliced A lo hi cap 1) (uw ((ws.drop lo).take (hi - lo))) ∧ ∀ i, InBlk (sliced A lo hi cap 1) i → InBlk (.slice A ws.length cap) i := by
 have hlen : ((ws.drop lo).take (hi - lo)).length = hi - lo := by simp; omega
 rcases h.cases with ⟨rfl, h3, rfl⟩ | ⟨g, rfl, hl, hm, hg, hc, hf⟩
 ·have hlo : lo = 0 := by omega
  have hhi : hi = 0 := by omega
  subst hlo hhi
  refine ⟨.inl ⟨by simp [uw], none, 0, rfl, fun _ => rfl⟩, fun i hi => ?_⟩
  simp [sliced, InBlk, Value.ownBlock] at hi
 ·refine ⟨?_, fun i hi => ?_⟩
  ·by_cases h0 : hi - lo = 0
   ·have e : (ws.drop lo).take (hi - lo) = [] := List.eq_nil_of_length_eq_zero (by omega)
    rw [e]
    refine .inl ⟨rfl, (if cap = lo then some ⟨g, 0, none⟩ else (some (⟨g, 0, none⟩ : Addr)).map (·.add (lo * 1))), cap - lo, ?_, ?_⟩
    ·unfold sliced; rw [h0]
    ·intro hn
     split at hn
     ·cases hn
     ·simp at hn
   ·have hne : ¬ cap = lo := by omega
    refine .inr ⟨g, lo, cap - lo, ?_, by rw [uw_length]; omega, by rw [uw_length]; omega, by omega, hg, fun i hi => ?_⟩
    ·unfold sliced
     rw [if_neg hne, uw_length, hlen]
     simp [Addr.add_lit]
    ·rw [uw_length] at hi
     rw [hc (lo + i) (by omega), uw_get hi]
     simp only [List.getD_eq_getElem?_getD, List.getElem?_take, List.getElem?_drop]
     rw [if_pos (by omega)]
  ·unfold sliced at hi
   split at hi
   ·simpa [InBlk, Value.ownBlock] using hi
   ·simpa [InBlk, Value.ownBlock, Addr.add_lit] using hi
theorem elemWord : Tryd.prog.elem 44 = 39 := by kernel_rfl
theorem undWord : Tryd.prog.underlying 44 = some (.slice (Tryd.prog.elem 44)) := by kernel_rfl
theorem sizeWord (w : World) : (Go.sizeOf (Tryd.prog.elem 44)).run Tryd.prog w = .ok 1 w := by
 obtain ⟨i0, hi, hz0, hz1, hz2⟩ := info_parts wordInfo
 rw [elemWord]
 simp [Go.sizeOf, Go.typeInfo, hi, hz1]
theorem run_part (A : Option Addr) (len cap lo hi : Nat) (h1 : lo ≤ hi) (h2 : hi ≤ cap) (w : World) :
  (Instr.slice 44 (.slice A len cap) (some (.int .i64 (lo : Int))) (some (.int .i64 (hi : Int))) none).run Tryd.prog w = .ok (sliced A lo hi cap 1) w := by
 rw [run_slice_lh w _ _ _ _ undWord .i64 .i64 _ _ (by omega) (by omega) (by omega), sizeWord]
 rfl
theorem rd_part {ws : List Int} {A : Option Addr} {cap : Nat} (h : Own W 39 (.slice A ws.length cap) (uw ws)) (lo hi : Nat) (h1 : lo ≤ hi) (h2 : hi ≤ ws.length) :
  ∃ u, (∀ W : World, (Instr.slice 44 (.slice A ws.length cap) (some (.int .i64 (lo : Int))) (some (.int .i64 (hi : Int))) none).run Tryd.prog W = .ok u W) ∧ Rd W u (uw ((ws.drop lo).take (hi - lo))) ∧ ∀ i, InBlk u i → InBlk (.slice A ws.length cap) i := by
 have hcap : ws.length ≤ cap := by
  rcases h.cases with ⟨_, h3, rfl⟩ | ⟨g, _, hl, _⟩
  ·omega
  ·exact hl
 exact ⟨_, fun w => run_part A ws.length cap lo hi h1 (by omega) w, (rd_sliced h lo hi h1 h2).1, (rd_sliced h lo hi h1 h2).2⟩
end
theorem step_append_run {P : Program} (w : World) {ops : Array Oper} {o : Oper} {a : Act} {K : Act → World → Prop} {Q : Exit → Act → World → Prop} {E : Prop} (hgd : o.guard = none) (s x : Operand) (t tn : TypeId)
  (ho : o.op = .call { callee := .builtin .append, args := #[s, x], argTypes := #[t, tn] }) (vs vx : Value) (hs : a.eval s = vs) (hx : a.eval x = vx)
  (v' : Value) (w' : World) (hr : (Builtin.append_ #[t, tn] o.type #[vs, vx]).run P w = .ok v' w') (h : K (a.put o.dst v') w') :
  if Region.wanted o (yielded ops a.tmps) = true then Oper.wp P o a w K Q else E := by
 have hw : Region.wanted o (yielded ops a.tmps) = true := by simp [Region.wanted, hgd]
 rw [if_pos hw]
 exact Lib.wp_append_run w s x t tn ho vs vx hs hx v' w' hr h
theorem rd_fields {W : World} {ws : List Int} {A : Option Addr} {cap k : Nat} {f : Int} (h : Own W 39 (.slice A ws.length cap) (uw ws)) (h0 : 0 ≤ f) (h1 : (k : Int) + 1 + f ≤ ws.length)
  (hp : fieldsAt ws k f.toNat = (ws.drop (k + 1)).take (k + 1 + f.toNat - (k + 1))) :
  ∃ u, (∀ W : World, (Instr.slice 44 (.slice A ws.length cap) (some (.int .i64 ((k : Int) + 1))) (some (.int .i64 ((k : Int) + 1 + f))) none).run Tryd.prog W = .ok u W) ∧ (∀ W1, Own W1 39 (.slice A ws.length cap) (uw ws) → Rd W1 u (uw (fieldsAt ws k f.toNat))) := by
 obtain ⟨u, hu, _⟩ := rd_part h (k + 1) (k + 1 + f.toNat) (by omega) (by omega)
 have e1 : (((k + 1 : Nat)) : Int) = (k : Int) + 1 := by omega
 have e2 : (((k + 1 + f.toNat : Nat)) : Int) = (k : Int) + 1 + f := by omega
 rw [e1, e2] at hu
 refine ⟨u, hu, fun W1 h1 => ?_⟩
 obtain ⟨u2, hu2, hr2, _⟩ := rd_part h1 (k + 1) (k + 1 + f.toNat) (by omega) (by omega)
 rw [e1, e2] at hu2
 have := (hu W1).symm.trans (hu2 W1)
 injection this with e3
 rw [hp, e3]
 exact hr2
theorem mk_bools (n : Nat) (w : World) (hn : n ≤ 1048576) : ∃ w', (Instr.makeSlice 92 (.int .i64 (n : Int)) (.int .i64 (n : Int))).run Tryd.prog w = .ok (.slice (some ⟨w.heap.size, 0, none⟩) n n) w' ∧ Own w' 4 (.slice (some ⟨w.heap.size, 0, none⟩) n n) (bw (List.replicate n false)) ∧ Fr w w' (fun _ => False) := by
 obtain ⟨i0, hi, hz0, hz1, hz2⟩ := info_parts boolInfo
 obtain ⟨w', hr, ho, hg⟩ := run_make_full (P := Tryd.prog) w 0 92 4 i0 (.bool false) 1 Tryd.underlying92 hi hz0 hz1 .i64 .i64 n (by rw [hz2]; omega) (by unfold maxLen; omega) (Nat.zero_le _)
 refine ⟨w', hr, ?_, (Fr.refl w _).grown hg (fun k hk => by cases hk)⟩
 have e : (madeCells (Value.cells (.bool false)) (n * 1)).toList = bw (List.replicate n false) := by
  rw [Nat.mul_one]
  exact (toList_madeCells_one (.bool false) n).trans (by simp [bw])
 rw [e] at ho
 unfold Own
 rw [bw_length, List.length_replicate]
 exact ho
theorem fieldsAt_part {ws : List Int} {a n : Nat} (h : a + 1 + n ≤ ws.length) : fieldsAt ws a n = (ws.drop (a + 1)).take (a + 1 + n - (a + 1)) := by
 apply List.ext_getElem?
 intro i
 unfold fieldsAt
 rw [List.getElem?_take, List.getElem?_drop]
 by_cases hi : i < n
 ·rw [if_pos (by omega), List.getElem?_map, List.getElem?_range hi]
  simp only [Option.map_some]
  rw [List.getElem?_eq_getElem (by omega)]
  unfold rd0 rdAt
  rw [if_pos (by omega)]
  have e : ((a : Int) + 1 + i).toNat = a + 1 + i := by omega
  rw [e]
  simp [List.getD, show a + 1 + i < ws.length by omega]
 ·rw [if_neg (by omega)]
  simp; omega
def flatF (ws P : List Int) : List Int := P.flatMap fun a => fieldsAt ws a (fieldsH (obj0 ws a)).toNat
theorem flatF_snoc (ws P : List Int) (a : Int) : flatF ws (P ++ [a]) = flatF ws P ++ fieldsAt ws a (fieldsH (obj0 ws a)).toNat := by simp [flatF]
theorem flatF_len {ws : List Int} {b : Int} {L : List Int} (h : Md.Rows ws b L) : ∀ P Q, L = P ++ Q → (∀ a ∈ P, fieldsH (obj0 ws a) ≤ (obj0 ws a).size) → b + (flatF ws P).length + P.length ≤ ws.length := by
 induction h with
 | nil => intro P Q e _; cases P with
  | nil => simp [flatF]
  | cons a P => cases e
 | @cons a hd L ho hr ih =>
  intro P Q e hf
  cases P with
  | nil => have := obj_facts ho; simp [flatF]; omega
  | cons c P =>
   injection e with e1 e2
   subst e1
   have h1 := ih P Q e2 (fun x hx => hf x (by simp [hx]))
   have h2 := hf a (by simp)
   have h3 := obj_facts ho
   rw [obj0_of ho] at h2
   have h4 : flatF ws (a :: P) = fieldsAt ws a (fieldsH (obj0 ws a)).toNat ++ flatF ws P := by simp [flatF]
   rw [h4, obj0_of ho, List.length_append]
   have h5 : (fieldsAt ws a (fieldsH hd).toNat).length = (fieldsH hd).toNat := by simp [fieldsAt]
   rw [h5]
   simp only [List.length_cons]
   omega
theorem fieldsH_nonneg {h : Hdr} (hz : 0 ≤ h.size) : 0 ≤ fieldsH h := by unfold fieldsH; split <;> first | decide | (split <;> first | exact hz | decide)
def fitA (ws : List Int) (a : Int) : Bool := decide (fieldsH (obj0 ws a) ≤ (obj0 ws a).size)
theorem soundB_none {ws rs : List Int} (h : objs ws = none) : soundB ws rs = false := by unfold soundB; rw [h]
theorem soundB_far {ws rs L : List Int} {a : Int} (h : objs ws = some L) (ha : a ∈ L) (hf : fitA ws a = false) : soundB ws rs = false := by
 unfold soundB
 rw [h]
 simp only [Bool.and_eq_false_iff, List.all_eq_false]
 right
 refine ⟨a, ha, ?_⟩
 unfold soundAt
 unfold fitA at hf
 simp only [hf, Bool.false_and, Bool.false_eq_true, not_false_eq_true]
theorem soundB_of {ws rs L : List Int} (h : objs ws = some L) (hf : ∀ a ∈ L, fitA ws a = true) : soundB ws rs = (rs ++ flatF ws L).all fun w => soundW w (isList ws.length L) := by
 unfold soundB
 rw [h]
 simp only [List.all_append]
 congr 1
 have key : ∀ M : List Int, (∀ a ∈ M, fitA ws a = true) → (M.all fun at_ => soundAt ws (isList ws.length L) at_) = (flatF ws M).all fun w => soundW w (isList ws.length L) := by
  intro M
  induction M with
  | nil => intro _; rfl
  | cons a M ih =>
   intro hM
   have e : flatF ws (a :: M) = fieldsAt ws a (fieldsH (obj0 ws a)).toNat ++ flatF ws M := by simp [flatF]
   rw [e, List.all_append, List.all_cons, ih (fun b hb => hM b (by simp [hb]))]
   congr 1
   have := hM a (by simp)
   unfold fitA at this
   unfold soundAt
   simp only [this, Bool.true_and]
 exact key L hf
theorem isList_nil (n : Nat) : isList n [] = List.replicate n false := by
 unfold isList
 apply List.ext_getElem
 ·simp
 ·intro i h1 h2; simp
theorem isList_snoc {n k : Nat} {P : List Int} (hk : k < n) : (isList n P).set k true = isList n (P ++ [(k : Int)]) := by
 apply List.ext_getElem
 ·simp [isList]
 ·intro i h1 h2
  simp only [List.length_set, isList_len] at h1
  rw [List.getElem_set]
  by_cases h : k = i
  ·subst h; simp [isList]
  ·rw [if_neg h]
   have : ¬ ((i : Int) = k) := by omega
   simp [isList, this]
theorem okWs_fieldsAt {ws : List Int} (h : okWs ws) (a : Int) (n : Nat) : okWs (fieldsAt ws a n) := fun x hx => by
 unfold fieldsAt at hx
 obtain ⟨k, _, rfl⟩ := List.mem_map.1 hx
 unfold rd0
 cases hr : rdAt ws (a + 1 + k) with
 | none => exact ⟨Int.le_refl 0, by decide⟩
 | some y => obtain ⟨i, _, hi, rfl⟩ := rdAt_some hr; exact okWs_getD h i hi
theorem okWs_flatF {ws : List Int} (h : okWs ws) (P : List Int) : okWs (flatF ws P) := fun x hx => by
 obtain ⟨a, _, hx⟩ := List.mem_flatMap.1 hx
 exact okWs_fieldsAt h _ _ x hx
end Go.Proofs.YtjiaaefpepdoeaaDoor
namespace Go.Proofs.YtjiaaefpepdoeaaDoor
open Go.RowKit Md
set_option linter.unusedVariables false
def Sld (W : World) (sp p : Nat) (xv lv hv : Value) : Prop := W.heap[sp]? = some (.cells #[.pointer (some ⟨p, 0, none⟩), xv, lv, hv] 105 (0, 0))
section
variable {W W1 : World} {sp p : Nat} {xv lv hv : Value} {S : Nat → Prop}
theorem Sld.c0 (h : Sld W sp p xv lv hv) : W.cell? ⟨sp, 0, none⟩ = some (.pointer (some ⟨p, 0, none⟩)) := by unfold Sld at h; simp [World.cell?, h]
theorem Sld.c1 (h : Sld W sp p xv lv hv) : W.cell? ⟨sp, 1, none⟩ = some xv := by unfold Sld at h; simp [World.cell?, h]
theorem Sld.c2 (h : Sld W sp p xv lv hv) : W.cell? ⟨sp, 2, none⟩ = some lv := by unfold Sld at h; simp [World.cell?, h]
theorem Sld.c3 (h : Sld W sp p xv lv hv) : W.cell? ⟨sp, 3, none⟩ = some hv := by unfold Sld at h; simp [World.cell?, h]
theorem Sld.keep (h : Sld W sp p xv lv hv) (hf : Fr W W1 S) (hn : ¬ S sp) : Sld W1 sp p xv lv hv := hf.blk h hn
theorem Sld.not_own {e : TypeId} {v : Value} {xs : List Value} (h : Sld W sp p xv lv hv) (k : Own W e v xs) (ne : 105 ≠ e) : ¬ InBlk v sp := k.not_box h ne
end
set_option maxRecDepth 100000 in
set_option maxHeartbeats 4000000 in
theorem move_c (sp p fr dst n : Nat) (va xv lv hv : Value) (ws rs : List Int) (size : Int) (w : World) (h : TA 112 w p va ws size xv rs) (hs : Sld w sp p xv lv hv) (hle : dst ≤ fr) (hn : fr + n ≤ ws.length) :
  Calls Tryd.prog 75 #[.pointer (some ⟨sp, 0, none⟩), .int .i64 fr, .int .i64 dst, .int .i64 n] w fun e w' => e = .returned (.tuple #[]) ∧ TA 112 w' p va (movedW ws fr dst n) size xv rs ∧ Fr w w' (fun i => InBlk va i) := by
 have hmx := h.ar.mx
 have hal := h.ar.le
 have HB : Hid (ws.length ≤ 1048576 ∧ dst ≤ fr ∧ fr + n ≤ ws.length) := Lib.hid (by omega)
 have H0 : Hid (TA 112 w p va (movedW ws fr dst 0) size xv rs ∧ Fr w w (fun i => InBlk va i)) := Lib.hid ⟨by rw [movedW_zero]; exact h, Fr.refl _ _⟩
 have HS := Lib.hid hs
 have HVA : Hid (¬ InBlk va sp) := Lib.hid (hs.not_own h.ar.own (by decide))
 have q1 : (fr : Int) ≤ 1048576 := by omega
 have q2 : (dst : Int) ≤ 1048576 := by omega
 have q3 : (n : Int) ≤ 1048576 := by omega
 clear h hs hle hn hmx hal
 go_enter Tryd.func75, Tryd.ntmps75
 go_wp2
 go_loopg [12] n (fun g a12 wr => ∃ (k : Nat), a12 = .int .i64 k ∧ g + k = n ∧ Hid (TA 112 wr p va (movedW ws fr dst k) size xv rs ∧ Fr w wr (fun i => InBlk va i)))
 case atStart => exact ⟨0, rfl, rfl, H0⟩
 case round =>
  clear H0
  obtain ⟨k, rfl, hgk, HI⟩ := hrel
  have HGK := Lib.hid hgk
  clear hgk
  by_cases hk : k < n
  ·have HKL := Lib.hid hk
   have qk : (k : Int) < n := by omega
   have hS := HS.out.keep HI.out.2 HVA.out
   have c0 := hS.c0
   have hfk : fr + k < ws.length := by have := HB.out; omega
   obtain ⟨y, hy⟩ : ∃ y, (movedW ws fr dst k).getD (fr + k) 0 = y := ⟨_, rfl⟩
   have hrd : rdAt (movedW ws fr dst k) ((fr : Int) + k) = some y := by
    have e : (fr : Int) + k = ((fr + k : Nat) : Int) := by omega
    rw [e, rdAt_of (by rw [movedW_len]; exact hfk), hy]
   have hoy : okW y := by rw [← hy]; exact okWs_getD HI.out.1.ar.ok _ (by rw [movedW_len]; exact hfk)
   have HRD := Lib.hid hrd
   have HOY := Lib.hid hoy
   have HRG : Hid (0 ≤ (dst : Int) + k ∧ (dst : Int) + k < (movedW ws fr dst k).length) := Lib.hid (by rw [movedW_len]; have := HB.out; omega)
   have HNX : Hid (wrAt (movedW ws fr dst k) ((dst : Int) + k) y = movedW ws fr dst (k + 1)) := Lib.hid (by
    unfold wrAt
    rw [if_pos HRG.out]
    have e : ((dst : Int) + k).toNat = dst + k := by omega
    rw [e, ← hy]
    exact movedW_succ HB.out.2.1 hfk)
   clear hk hS hfk hy hrd hoy
   go_wp2_with (first
    | (go_at_call 43; (with_reducible refine (get_c p va _ size _ y _ HI.out.1.ar HRD.out).mono ?_); rintro e w4 ⟨rfl, rfl⟩)
    | (go_at_call 38; (with_reducible refine (set_c p va _ size _ y _ HI.out.1.ar HOY.out HRG.out).mono ?_); rintro e w5 ⟨rfl, ha, hf⟩; rw [HNX.out] at ha; have HI5 := Lib.hid (HI.out.1.chg (Chg.of_set ha hf)); have HF5 := Lib.hid (HI.out.2.trans hf); clear ha hf))
   go_roundg (gk - 1)
   case measure => have := HGK.out; have := HKL.out; omega
   case rel => exact ⟨k + 1, by first | rfl | go_num, by have := HGK.out; have := HKL.out; omega, Lib.hid ⟨HI5.out, HF5.out⟩⟩
  ·have b2 : decide (k < n) = false := decide_eq_false hk
   have hke : k = n := by have := HGK.out; omega
   have HI5 : Hid (TA 112 wr p va (movedW ws fr dst n) size xv rs) := Lib.hid (by rw [← hke]; exact HI.out.1)
   clear hk hke
   go_wp2
   go_end0
   exact ⟨rfl, HI5.out, HI.out.2⟩
end Go.Proofs.YtjiaaefpepdoeaaDoor
namespace Go.Proofs.YtjiaaefpepdoeaaDoor
open Go.RowKit Md
set_option linter.unusedVariables false
def hcs (h : Hdr) : List Value := [.int .i64 h.kind, .int .i64 h.size, .int .i64 h.tree, .bool h.neg]
def hws (hs : List Hdr) : List Value := hs.flatMap hcs
theorem hws_length (hs : List Hdr) : (hws hs).length = hs.length * 4 := by
 unfold hws
 induction hs with
 | nil => rfl
 | cons f l ih => simp only [List.flatMap_cons, List.length_append, List.length_cons, hcs, List.length_nil, ih]; omega
theorem hws_get : ∀ {hs : List Hdr} {k : Nat} (h : k < hs.length) (c : Nat), c < 4 → (hws hs)[k * 4 + c]? = (hcs (hs.getD k hdr0))[c]? := by
 intro hs
 induction hs with
 | nil => intro k h; simp at h
 | cons f l ih =>
  intro k h c hc
  have e : hws (f :: l) = hcs f ++ hws l := by simp [hws]
  have e4 : (hcs f).length = 4 := rfl
  rw [e]
  cases k with
  | zero => rw [List.getElem?_append_left (by rw [e4]; omega)]; simp
  | succ k =>
   rw [List.getElem?_append_right (by rw [e4]; omega), e4]
   have e5 : (k + 1) * 4 + c - 4 = k * 4 + c := by omega
   rw [e5, ih (by simp at h; omega) c hc]
   simp
def OwnH (w : World) (v : Value) (hs : List Hdr) : Prop := w.ownsRow 0 88 4 v hs.length (hws hs)
section
variable {w w1 : World} {v u : Value} {hs : List Hdr} {S : Nat → Prop}
theorem OwnH.keep (h : OwnH w v hs) (hf : Fr w w1 S) (hn : ∀ i, InBlk v i → ¬ S i) : OwnH w1 v hs := by
 refine ⟨h.1, ?_⟩
 rcases h.2 with h0 | ⟨g, cap, cur, rfl, hb, hg, rest⟩
 ·exact .inl h0
 ·exact .inr ⟨g, cap, cur, rfl, hb, hf.blk hg (hn g (by simp [InBlk, Value.ownBlock])), rest⟩
theorem OwnH.elem (h : OwnH w v hs) : ∀ i, InBlk v i → ∃ cur, w.heap[i]? = some (.cells cur 88 (0, 0)) := by
 intro i hi
 rcases h.2 with ⟨rfl, _⟩ | ⟨g, cap, cur, rfl, hb, hg, _⟩
 ·simp [InBlk, Value.ownBlock] at hi
 ·simp [InBlk, Value.ownBlock] at hi; subst hi; exact ⟨cur, hg⟩
theorem OwnH.len (h : OwnH w v hs) : ∃ A cap, v = .slice A hs.length cap := by
 rcases h.2 with ⟨rfl, h0⟩ | ⟨g, cap, cur, rfl, _⟩
 ·exact ⟨none, 0, by rw [h0]⟩
 ·exact ⟨_, cap, rfl⟩
theorem OwnH.apart {e2 : TypeId} {ys : List Value} (h : OwnH w v hs) (k : Own w e2 u ys) (ne : 88 ≠ e2) : Apt v u := fun i h1 h2 => by
 obtain ⟨c1, b1⟩ := h.elem i h1
 obtain ⟨c2, b2⟩ := k.elem i h2
 rw [b1] at b2
 simp at b2
 exact ne b2.2
theorem OwnH.cellAt {A : Option Addr} {n cap : Nat} (h : OwnH w (.slice A n cap) hs) (h0 : 0 < hs.length) : ∃ b, A = some ⟨b, 0, none⟩ ∧ b < w.heap.size ∧ ∀ i c, i < hs.length → c < 4 → w.cell? ⟨b, i * 4 + c, none⟩ = (hcs (hs.getD i hdr0))[c]? ∧ w.frozen? ⟨b, i * 4 + c, none⟩ = false := by
 rcases h.2 with ⟨_, h1⟩ | ⟨g, cap', cur, e1, hb, hg, hl, hm, hs2, ht⟩
 ·omega
 ·injection e1 with e1 e2 e3
  refine ⟨g, e1, (Array.getElem?_eq_some_iff.1 hg).1, fun i c hi hc => ⟨?_, by simp [World.frozen?, hg]⟩⟩
  rw [← hws_get hi c hc, cell_of_row w g (i * 4 + c) cur 88 (0, 0) hg, ← ht, List.getElem?_take, if_pos (by omega)]
  simp
end
def cntM (ws M P : List Int) : Nat := (P.filter fun a => decide (plc ws M a ≠ a)).length
theorem cntM_snoc (ws M P : List Int) (a : Int) : cntM ws M (P ++ [a]) = cntM ws M P + if plc ws M a ≠ a then 1 else 0 := by
 unfold cntM
 rw [List.filter_append, List.length_append]
 congr 1
 by_cases h : plc ws M a ≠ a
 ·rw [if_pos h]; simp [h]
 ·rw [if_neg h]; simp [h]
set_option maxRecDepth 100000 in
set_option maxHeartbeats 4000000 in
theorem down_c (sp p : Nat) (va xv lv hv : Value) (l rs L M ws ys : List Int) (size : Int) (w : World) (h : TA 112 w p va ws size xv ys) (hs : Sld w sp p xv lv hv) (hlv : Own w 3 lv (iw M)) (hhv : OwnH w hv (M.map (obj0 l)))
  (S : Sc l rs L M) (D : Ds l rs L M [] 0 0 ws ys) (hl : l.length ≤ 4000) :
  Calls Tryd.prog 54 #[.pointer (some ⟨sp, 0, none⟩)] w fun e w' => e = .returned (.int .i64 (cntM l M M)) ∧ ∃ va', TA 112 w' p va' (imgs l M M) size xv (rs.map (mvW l M)) ∧ Fr w w' (fun i => i = p ∨ UO va xv i) ∧ ∀ k, InBlk va' k → InBlk va k := by
 have hMl : M.length ≤ l.length := by have := (words_le S.snd.rows M S.srt S.sub).2; have := S.snd.rows.len; omega
 have hWl : wordsM l M ≤ l.length := by have := (words_le S.snd.rows M S.srt S.sub).1; omega
 have HML := Lib.hid hMl
 have HWL := Lib.hid hWl
 have HL := Lib.hid hl
 have HSC := Lib.hid S
 have H0 : Hid (TA 112 w p va ws size xv ys ∧ Fr w w (UO va xv) ∧ Ds l rs L M [] 0 0 ws ys) := Lib.hid ⟨h, Fr.refl _ _, D⟩
 have HS := Lib.hid hs
 have HLV := Lib.hid hlv
 have HHV := Lib.hid hhv
 have HN1 : Hid (¬ UO va xv sp) := Lib.hid (fun e => e.elim (hs.not_own h.ar.own (by decide)) (hs.not_own h.own (by decide)))
 have HN2 : Hid (∀ i, InBlk lv i → ¬ UO va xv i) := Lib.hid (fun i hi e => e.elim (hlv.apart h.ar.own (by decide) i hi) (hlv.apart h.own (by decide) i hi))
 have HN3 : Hid (∀ i, InBlk hv i → ¬ UO va xv i) := Lib.hid (fun i hi e => e.elim (hhv.apart h.ar.own (by decide) i hi) (hhv.apart h.own (by decide) i hi))
 have c2 := hs.c2
 have q1 : (M.length : Int) ≤ 4000 := by omega
 obtain ⟨Al, cl, rfl⟩ := hlv.rd.len
 obtain ⟨Ah, chp, rfl⟩ := hhv.len
 rw [iw_length, List.length_map] at *
 clear h hs hlv hhv S D hl hMl hWl
 go_enter Tryd.func54, Tryd.ntmps54
 go_wp2
 clear c2
 go_loopg [3, 4, 13] M.length (fun g a3 a4 a13 wr => ∃ (t : Int) (m i : Nat) (P Q : List Int) (lo A : Nat) (ws ys : List Int), a3 = .int .i64 t ∧ a4 = .int .i64 m ∧ a13 = .int .i64 i ∧ g + i = M.length ∧ Hid (TA 112 wr p va ws size xv ys ∧ Fr w wr (UO va xv) ∧ Ds l rs L M P lo A ws ys) ∧ Hid (M = P ++ Q ∧ P.length = i ∧ t = wordsM l P ∧ m = cntM l M P))
 case atStart => exact ⟨0, 0, 0, [], M, 0, 0, _, _, rfl, rfl, rfl, rfl, H0, Lib.hid ⟨rfl, rfl, by simp [wordsM], by simp [cntM]⟩⟩
 case round =>
  clear H0
  obtain ⟨t, m, i, P, Q, lo, A, ws, ys, rfl, rfl, rfl, hgi, HI, HP⟩ := hrel
  have HGI := Lib.hid hgi
  clear hgi
  have hS := HS.out.keep HI.out.2.1 HN1.out
  have c0 := hS.c0
  have c1 := hS.c1
  have c3 := hS.c3
  have HSw := Lib.hid hS
  have hml : m ≤ M.length := by
   have := HP.out.2.2.2
   unfold cntM at this
   have h2 := List.length_filter_le (fun a => decide (plc l M a ≠ a)) P
   have h3 := congrArg List.length HP.out.1
   rw [List.length_append] at h3
   omega
  have qm : (m : Int) ≤ 4000 := by have := HML.out; have := HL.out; omega
  have qt0 : 0 ≤ t := by rw [HP.out.2.2.1]; exact HI.out.2.2.nn
  have qt1 : t ≤ 4000 := by
   have := words_le HSC.out.snd.rows P (by have := HSC.out.srt; rw [HP.out.1] at this; exact (List.pairwise_append.1 this).1) (fun x hx => HSC.out.sub x (by rw [HP.out.1]; simp [hx]))
   rw [HP.out.2.2.1]; have := HL.out; omega
  clear hS hml
  by_cases hi : i < M.length
  ·obtain ⟨a0, Q2, rfl⟩ : ∃ a0 Q2, Q = a0 :: Q2 := by
    cases Q with
    | nil => have h1 := HP.out.1; have h2 := HP.out.2.1; rw [List.append_nil] at h1; rw [h1] at hi; omega
    | cons a0 Q2 => exact ⟨a0, Q2, rfl⟩
   have haM : a0 ∈ M := by rw [HP.out.1]; simp
   have hL := HSC.out.sub _ haM
   obtain ⟨hd, hob, ho0, hb0, hb1, hrd, hz0, hz1, hz2⟩ := HSC.out.snd.rows.obj _ hL
   obtain ⟨a, rfl⟩ := Int.eq_ofNat_of_zero_le hb0
   have hga : M.getD i 0 = a := by
    have h1 := HP.out.1
    have h2 := HP.out.2.1
    rw [h1, ← h2]
    simp [List.getD]
   obtain ⟨n, ws', ys', hlo, hl1, hTa, hD⟩ := HI.out.2.2.step HSC.out HP.out.1
   rw [ho0] at hD
   obtain ⟨kd, z, tr, nn⟩ := hd
   simp only at hz0 hz1 hz2 hD
   obtain ⟨zn, rfl⟩ := Int.eq_ofNat_of_zero_le hz0
   obtain ⟨tn, htn⟩ := Int.eq_ofNat_of_zero_le qt0
   have HTN := Lib.hid htn
   subst htn
   have e1 : (wordsM l P).toNat = tn := by rw [← HP.out.2.2.1]; simp
   have e2 : (1 + (zn : Int)).toNat = 1 + zn := by omega
   have e3 : ((zn : Int)).toNat = zn := by simp
   rw [e1, e2, e3] at hD
   rw [e1] at hTa
   rw [← HP.out.2.2.1] at hlo
   have HLO := Lib.hid hlo
   have HD := Lib.hid hD
   have HL1 := Lib.hid hl1
   have HTA := Lib.hid hTa
   have HO0 := Lib.hid ho0
   have HIL := Lib.hid hi
   have HGA := Lib.hid hga
   have HZ : Hid (a + 1 + zn ≤ l.length) := Lib.hid (by omega)
   have HPL : Hid (plc l M (a : Int) = tn) := Lib.hid (by
    have h1 := HSC.out.srt
    have h2 := HP.out.1
    rw [h2] at h1
    rw [HP.out.2.2.1, h2]
    exact plc_split h1)
   have HLw := Lib.hid (HLV.out.keep HI.out.2.1 HN2.out)
   have HHw := Lib.hid (HHV.out.keep HI.out.2.1 HN3.out)
   obtain ⟨gl, rfl, _, hcl⟩ := HLw.out.cellAt (by rw [iw_length]; omega)
   have cl0 := (hcl i (by rw [iw_length]; exact hi)).1
   rw [iw_get hi, hga] at cl0
   obtain ⟨gh, rfl, _, hch⟩ := HHw.out.cellAt (by rw [List.length_map]; omega)
   have ch1 := (hch i 1 (by rw [List.length_map]; exact hi) (by decide)).1
   have hgh : (M.map (obj0 l)).getD i hdr0 = ⟨kd, zn, tr, nn⟩ := by
    have : (M.map (obj0 l)).getD i hdr0 = obj0 l (M.getD i 0) := by simp [List.getD, hi]
    rw [this, hga, ho0]
   rw [hgh] at ch1
   have HCH : Hid (wr.cell? ⟨gh, i * 4 + 1, none⟩ = some (.int .i64 zn)) := Lib.hid ch1
   have qi : (i : Int) < M.length := by omega
   have qa : (a : Int) ≤ 4000 := by have := HL.out; omega
   have qz : (zn : Int) ≤ 4000 := by have := HL.out; omega
   have HTd := Lib.hid (HI.out.1.fr ((Fr.refl wr (fun _ => False)).drew))
   clear hi haM hL hob ho0 hb0 hb1 hrd hz0 hz1 hz2 hga hlo hl1 hTa hD e1 e2 e3 hcl hch ch1 hgh
   go_upto_region 5 with (fail)
   go_region_held3 (fun w' => w'.cell? ⟨sp, 0, none⟩ = some (.pointer (some ⟨p, 0, none⟩)) ∧ w'.cell? ⟨sp, 1, none⟩ = some xv) (first | exact ⟨g0, g1⟩ | exact ⟨c0, c1⟩)
    (first
     | (go_at_call 74; (with_reducible refine (loose_c p va xv ws ys _ a tn _ HTd.out).mono ?_); rintro e w6 ⟨hre, ht6, hf6⟩; rw [HLO.out] at hre ht6; subst hre; have HF6 := Lib.hid (((Fr.refl wr (UO va xv)).drew).trans hf6); have hS6 := HSw.out.keep HF6.out HN1.out; have g0 := hS6.c0; have g1 := hS6.c1; have HT6 := Lib.hid ht6; clear ht6 hf6))
   have c3b := hS6.c3
   have ch2 := HF6.out.cell HCH.out (HN3.out gh (by simp [InBlk, Value.ownBlock]))
   obtain ⟨N, hN⟩ : ∃ N : Nat, 1 + zn = N := ⟨_, rfl⟩
   have hNI : (1 : Int) + (zn : Int) = N := by omega
   have HN := Lib.hid hN
   have qN : (N : Int) ≤ 4001 := by omega
   have HS6 := Lib.hid hS6
   clear g0 g1 c0 c1 c3 HTd hS6 hN cl0
   by_cases hat : (a : Int) = tn
   ·have b1 : ((a : Int) == tn) = true := by simpa using hat
    have b2 : ((a : Int) != tn) = false := by simpa using hat
    have HAT := Lib.hid hat
    have HTE : Hid (TA 112 w6 p va (movedW ws' a tn (1 + zn)) size xv ys') := Lib.hid (by
     have e : a = tn := by omega
     rw [e, movedW_same]
     exact HT6.out)
    clear hat
    go_wp2
    go_roundg (gk - 1)
    case measure => have := HGI.out; have := HIL.out; omega
    case rel =>
     have hp := HP.out
     refine ⟨(tn : Int) + N, m, i + 1, P ++ [(a : Int)], Q2, a + 1 + zn, a + 1, movedW ws' a tn (1 + zn), ys', rfl, by first | rfl | go_num, by first | rfl | go_num, by have := HGI.out; have := HIL.out; omega, Lib.hid ⟨HTE.out, HI.out.2.1.trans HF6.out, HD.out⟩, Lib.hid ⟨by rw [hp.1]; simp, by rw [List.length_append, hp.2.1]; rfl, ?_, ?_⟩⟩
     ·have e : wordsM l (P ++ [(a : Int)]) = wordsM l P + (1 + (obj0 l a).size) := by simp [wordsM]
      rw [e, HO0.out, ← hp.2.2.1]
      have := HN.out
      simp only
      omega
     ·rw [cntM_snoc, ← hp.2.2.2, HPL.out]
      have := HAT.out
      rw [if_neg (by omega)]; rfl
   ·have b1 : ((a : Int) == tn) = false := by simpa using hat
    have b2 : ((a : Int) != tn) = true := by simpa using hat
    have HAT := Lib.hid hat
    clear hat
    go_wp2_with (first | (go_at_call 75; (with_reducible refine (move_c sp p a tn N va xv _ _ ws' ys' _ _ HT6.out HS6.out HTA.out (by have := HZ.out; have := HN.out; have := HL1.out; omega)).mono ?_); rintro e w7 ⟨rfl, ht7, hf7⟩; have HT7 := Lib.hid ht7; have HF7 := Lib.hid (HF6.out.trans (hf7.mono (S1 := UO va xv) (fun i hi _ => .inl hi))); clear ht7 hf7))
    go_roundg (gk - 1)
    case measure => have := HGI.out; have := HIL.out; omega
    case rel =>
     have hp := HP.out
     refine ⟨(tn : Int) + N, m + 1, i + 1, P ++ [(a : Int)], Q2, a + 1 + zn, a + 1, movedW ws' a tn (1 + zn), ys', rfl, by first | rfl | go_num, by first | rfl | go_num, by have := HGI.out; have := HIL.out; omega, Lib.hid ⟨by rw [HN.out]; exact HT7.out, HI.out.2.1.trans HF7.out, HD.out⟩, Lib.hid ⟨by rw [hp.1]; simp, by rw [List.length_append, hp.2.1]; rfl, ?_, ?_⟩⟩
     ·have e : wordsM l (P ++ [(a : Int)]) = wordsM l P + (1 + (obj0 l a).size) := by simp [wordsM]
      rw [e, HO0.out, ← hp.2.2.1]
      have := HN.out
      simp only
      omega
     ·rw [cntM_snoc, ← hp.2.2.2, HPL.out]
      have := HAT.out
      rw [if_pos (by omega)]
  ·have hPM : P = M ∧ Q = [] := by
    have h1 := HP.out.1
    have h2 := HP.out.2.1
    have h3 := congrArg List.length h1
    rw [List.length_append] at h3
    have h4 : Q = [] := List.eq_nil_of_length_eq_zero (by omega)
    rw [h4, List.append_nil] at h1
    exact ⟨h1.symm, h4⟩
   obtain ⟨rfl, rfl⟩ := hPM
   obtain ⟨tn, rfl⟩ := Int.eq_ofNat_of_zero_le qt0
   obtain ⟨hf1, hf2⟩ := HI.out.2.2.fin HSC.out
   have htn : (wordsM l P).toNat = tn := by rw [← HP.out.2.2.1]; simp
   rw [htn] at hf1
   have hle : tn ≤ ws.length := by rw [HI.out.2.2.l1]; have := HWL.out; have := HP.out.2.2.1; omega
   have HLE := Lib.hid hle
   have hLE2 : (tn : Int) ≤ size := by have := HI.out.1.ar.le; omega
   have HLE2 := Lib.hid hLE2
   have HMX := Lib.hid HI.out.1.ar.mx
   have HF1 := Lib.hid hf1
   have HF2 := Lib.hid hf2
   have HCN : Hid (m = cntM l P P) := Lib.hid HP.out.2.2.2
   have b2 : decide (i < P.length) = false := decide_eq_false hi
   have HTd := Lib.hid (HI.out.1.fr ((Fr.refl wr (fun _ => False)).drew))
   clear hi hf1 hf2 htn hle hLE2 c1 c3
   go_upto_region 12 with (fail)
   go_region_held3 (fun w' => w'.cell? ⟨sp, 0, none⟩ = some (.pointer (some ⟨p, 0, none⟩))) (first | exact g0 | exact c0)
    (first
     | (go_at_call 77; (with_reducible refine (size_c p va ws size _ HTd.out.ar).mono ?_); rintro e w6 ⟨rfl, rfl⟩)
     | (go_at_call 76; (with_reducible refine (cut_c p va ws size tn size _ HTd.out.ar HLE.out HLE2.out HMX.out).mono ?_); rintro e w7 ⟨rfl, va', ha, hf, hn⟩; have HT7 := Lib.hid (HTd.out.chg (Chg.of_cut ha hf hn)); have HF7 := Lib.hid hf; have HNV := Lib.hid hn; have g0 : w7.cell? ⟨sp, 0, none⟩ = some (.pointer (some ⟨p, 0, none⟩)) := (HSw.out.keep (((Fr.refl wr (fun i => i = p)).drew).trans hf) (fun e => by have h1 := HSw.out; have h2 := HI.out.1.ar.blk; unfold Sld at h1; rw [e] at h1; rw [h2] at h1; simp at h1)).c0; clear ha hf hn))
   clear g0 c0
   go_wp2
   go_ret
   have ht := HT7.out
   rw [HF1.out, HF2.out] at ht
   exact ⟨by rw [HCN.out]; rfl, va', ht, (HI.out.2.1.mono (S1 := fun i => i = p ∨ UO va xv i) (fun _ h _ => .inr h)).trans ((((Fr.refl wr _).drew).trans (HF7.out.mono (S1 := fun i => i = p ∨ UO va xv i) (fun _ h _ => .inl h)))), HNV.out⟩
end Go.Proofs.YtjiaaefpepdoeaaDoor
namespace Go.Proofs.YtjiaaefpepdoeaaDoor
open Go.RowKit Md
set_option linter.unusedVariables false
structure UpP (l M P Q : List Int) (b : Nat) : Prop where
 eq : M = P ++ Q
 lo : ∀ a ∈ P, a + 1 + (obj0 l a).size ≤ b
 hi : ∀ a ∈ Q, (b : Int) ≤ a
 le : b ≤ l.length
theorem set_mid {α : Type} {A B : List α} {x : α} {i : Nat} (h : A.length = i) (hb : i < B.length) : (A ++ B.drop i).set i x = (A ++ [x]) ++ B.drop (i + 1) := by
 subst h
 rw [List.set_append_right _ _ (Nat.le_refl _), Nat.sub_self, List.drop_eq_getElem_cons hb, List.set_cons_zero, List.append_assoc, List.singleton_append]
theorem UpP.next {l rs L M P Q : List Int} {b a zn : Nat} (S : Sc l rs L M) (h : UpP l M P ((a : Int) :: Q) b) (hz : (obj0 l (a : Int)).size = zn) (hl : a + 1 + zn ≤ l.length) : UpP l M (P ++ [(a : Int)]) Q (a + 1 + zn) where
 eq := by rw [h.eq]; simp
 lo := fun c hc => by
  have hb := h.hi a (by simp)
  rcases List.mem_append.1 hc with hc | hc
  ·have := h.lo c hc; omega
  ·simp at hc; rw [hc, hz]; omega
 hi := fun c hc => by
  have hs := S.srt
  rw [h.eq] at hs
  have h4 := (List.pairwise_cons.1 (List.pairwise_append.1 hs).2.1).1 c hc
  have := S.snd.rows.sep a (S.sub _ (by rw [h.eq]; simp)) c (S.sub _ (by rw [h.eq]; simp [hc])) h4
  rw [hz] at this
  omega
 le := hl
theorem UpP.noObj {l rs L M P Q : List Int} {b a zn : Nat} (S : Sc l rs L M) (h : UpP l M P ((a : Int) :: Q) b) (hz : (obj0 l (a : Int)).size = zn) : ∀ c ∈ M, ¬ (((a + 1 : Nat) : Int) ≤ c ∧ c < ((a + 1 + zn : Nat) : Int)) := fun c hc hh => by
 have := S.snd.rows.sep a (S.sub _ (by rw [h.eq]; simp)) c (S.sub _ hc) (by omega)
 rw [hz] at this
 omega
theorem noFld_of {l rs L M : List Int} {j : Nat} (S : Sc l rs L M) (h : fldB l L j = false) : fldB l M j = false := by
 cases hf : fldB l M j with
 | false => rfl
 | true => rw [fldB_sub S.sub hf] at h; cases h
theorem UpP.noFld {l rs L M P Q : List Int} {b j : Nat} (S : Sc l rs L M) (h : UpP l M P Q b) (h1 : b ≤ j) (h2 : ∀ a ∈ Q, (j : Int) ≤ a) : fldB l M j = false := by
 cases hf : fldB l M j with
 | false => rfl
 | true =>
  obtain ⟨a, ha, h3, h4⟩ := fldB_iff.1 hf
  have h5 := S.snd.fit a (S.sub a ha)
  rw [h.eq] at ha
  rcases List.mem_append.1 ha with ha | ha
  ·have := h.lo a ha; omega
  ·have := h2 a ha; omega
theorem UpP.fin {l rs L M P : List Int} {b : Nat} {ws ys : List Int} (S : Sc l rs L M) (h : UpP l M P [] b) (U : Us l rs L M b b rs.length ws ys) : Us l rs L M l.length l.length rs.length ws ys :=
 U.skip S h.le h.le (fun j h1 _ => h.noFld S h1 (fun a ha => by simp at ha)) (fun a ha hh => by
  rw [h.eq, List.append_nil] at ha
  have h1 := h.lo a ha
  obtain ⟨_, _, e6, _, _, _, h7, _⟩ := S.snd.rows.obj a (S.sub a (by rw [h.eq, List.append_nil]; exact ha))
  rw [e6] at h1
  omega)
theorem Fr.setCell1 {w w1 : World} {g : Nat} (h : Fr w w1 (fun j => j = g)) (o : Nat) (u : Value) : Fr w (w1.setCell ⟨g, o, none⟩ u) (fun j => j = g) := h.setCell (a := ⟨g, o, none⟩) (fun _ => rfl) u
theorem blk_setX {w : World} {g : Nat} {t : TypeId} {cs : Array Value} (h : w.heap[g]? = some (.cells cs t (0, 0))) (i : Nat) (u : Value) : (w.setCell ⟨g, i, none⟩ u).heap[g]? = some (.cells (cs.setIfInBounds i u) t (0, 0)) := by
 simp [World.setCell, Array.getElem?_modify, h]
theorem setCells_rowX {g : Nat} {e : TypeId} : ∀ (vs : List Value) (o : Nat) (w : World) (cur : Array Value), w.heap[g]? = some (.cells cur e (0, 0)) → o + vs.length ≤ cur.size →
  ∃ cur', (w.setCells g o vs).heap[g]? = some (.cells cur' e (0, 0)) ∧ cur'.size = cur.size ∧ cur'.toList = cur.toList.take o ++ vs ++ cur.toList.drop (o + vs.length) := by
 intro vs
 induction vs with
 | nil => intro o w cur h _; exact ⟨cur, h, rfl, by simp⟩
 | cons v r ih =>
  intro o w cur h hl
  simp only [List.length_cons] at hl
  obtain ⟨c2, h3, h4, h5⟩ := ih (o + 1) _ _ (blk_setX h o v) (by simp; omega)
  refine ⟨c2, h3, by rw [h4]; simp, ?_⟩
  rw [h5, Array.toList_setIfInBounds]
  have hc : cur.toList.length = cur.size := Array.length_toList
  apply List.ext_getElem?
  intro j
  simp only [List.length_cons]
  by_cases h1 : j < o
  ·rw [List.append_assoc, List.append_assoc, List.getElem?_append_left (by rw [List.length_take, List.length_set]; omega), List.getElem?_append_left (by rw [List.length_take]; omega), List.getElem?_take, List.getElem?_take, if_pos (by omega), if_pos h1, List.getElem?_set_ne (by omega)]
  ·by_cases h2 : j = o
   ·subst h2
    rw [List.append_assoc, List.append_assoc, List.getElem?_append_left (by rw [List.length_take, List.length_set]; omega), List.getElem?_append_right (by rw [List.length_take]; omega), List.getElem?_take, if_pos (by omega), List.length_take, List.getElem?_set]
    have : j - min j cur.toList.length = 0 := by omega
    rw [this]
    have h6 : j < cur.toList.length := by omega
    simp [h6]
    omega
   ·rw [List.append_assoc, List.append_assoc, List.getElem?_append_right (l₁ := List.take (o + 1) (cur.toList.set o v)) (by rw [List.length_take, List.length_set]; omega), List.getElem?_append_right (l₁ := List.take o cur.toList) (by rw [List.length_take]; omega), List.length_take, List.length_take, List.length_set]
    obtain ⟨m, hm⟩ : ∃ m, j - min o cur.toList.length = m + 1 := ⟨j - o - 1, by omega⟩
    have hm2 : j - min (o + 1) cur.toList.length = m := by omega
    rw [hm, hm2, List.cons_append, List.getElem?_cons_succ]
    by_cases h7 : m < r.length
    ·rw [List.getElem?_append_left h7, List.getElem?_append_left h7]
    ·rw [List.getElem?_append_right (l₂ := List.drop (o + 1 + r.length) (cur.toList.set o v)) (by omega), List.getElem?_append_right (l₂ := List.drop (o + (r.length + 1)) cur.toList) (by omega), List.getElem?_drop, List.getElem?_drop, List.getElem?_set_ne (by omega)]
     congr 1
     omega
theorem OwnH.store {w w1 : World} {A : Option Addr} {g n cap i : Nat} {hs : List Hdr} {o : Hdr} (h : OwnH w (.slice A n cap) hs) (hA : A = some ⟨g, 0, none⟩) (hi : i < hs.length)
  (e : ((((w.setCell ⟨g, i * 4, none⟩ (.int .i64 o.kind)).setCell ⟨g, i * 4 + 1, none⟩ (.int .i64 o.size)).setCell ⟨g, i * 4 + 2, none⟩ (.int .i64 o.tree)).setCell ⟨g, i * 4 + 3, none⟩ (.bool o.neg)) = w1) :
  OwnH w1 (.slice A n cap) (hs.set i o) ∧ Fr w w1 (fun j => j = g) := by
 subst hA
 rcases h.2 with ⟨_, h1⟩ | ⟨g', cap', cur, e1, hb, hg, hl, hm, hs2, ht⟩
 ·omega
 ·injection e1 with e1 e2 e3
  injection e1 with e1
  injection e1 with e1 _ _
  subst e1
  obtain ⟨cur', h3, h4, h5⟩ := setCells_rowX (hcs o) (i * 4) w cur hg (by rw [hs2]; simp only [hcs, List.length_cons, List.length_nil]; omega)
  have e' : w.setCells g (i * 4) (hcs o) = w1 := by rw [← e]; rfl
  rw [e'] at h3
  refine ⟨⟨by rw [hws_length, List.length_set], .inr ⟨g, cap', cur', ?_, hb, h3, by rw [List.length_set]; exact hl, hm, by rw [h4]; exact hs2, ?_⟩⟩, ?_⟩
  ·rw [List.length_set, e2, e3]
  ·rw [List.length_set, h5]
   have hc : cur.toList.length = cap' * 4 := by rw [Array.length_toList]; exact hs2
   apply List.ext_getElem?
   intro j
   rw [List.getElem?_take]
   have hlc : (hcs o).length = 4 := rfl
   by_cases hj : j < hs.length * 4
   ·rw [if_pos hj]
    have hq : j = j / 4 * 4 + j % 4 := by omega
    have hg1 : (hws (hs.set i o))[j]? = (hcs ((hs.set i o).getD (j / 4) hdr0))[j % 4]? := by
     have := hws_get (hs := hs.set i o) (k := j / 4) (by rw [List.length_set]; omega) (j % 4) (by omega)
     rw [← hq] at this
     exact this
    have hg0 : cur.toList[j]? = (hcs (hs.getD (j / 4) hdr0))[j % 4]? := by
     have := hws_get (hs := hs) (k := j / 4) (by omega) (j % 4) (by omega)
     rw [← hq, ← ht, List.getElem?_take, if_pos hj] at this
     exact this
    rw [hg1]
    by_cases hji : j / 4 = i
    ·have e1 : (hs.set i o).getD (j / 4) hdr0 = o := by rw [hji]; simp [List.getD, hi]
     rw [e1, List.getElem?_append_left (by rw [List.length_append, List.length_take, hlc]; omega), List.getElem?_append_right (by rw [List.length_take]; omega), List.length_take]
     congr 1
     omega
    ·have e1 : (hs.set i o).getD (j / 4) hdr0 = hs.getD (j / 4) hdr0 := by simp [List.getD, List.getElem?_set, Ne.symm hji]
     rw [e1, ← hg0]
     by_cases hlt : j < i * 4
     ·rw [List.getElem?_append_left (by rw [List.length_append, List.length_take]; omega), List.getElem?_append_left (by rw [List.length_take]; omega), List.getElem?_take, if_pos hlt]
     ·rw [List.getElem?_append_right (by rw [List.length_append, List.length_take, hlc]; omega), List.getElem?_drop, List.length_append, List.length_take, hlc]
      congr 1
      omega
   ·rw [if_neg hj, List.getElem?_eq_none]
    rw [hws_length, List.length_set]; omega
  ·subst e
   exact ((((Fr.refl w _).setCell1 _ _).setCell1 _ _).setCell1 _ _).setCell1 _ _
set_option maxRecDepth 100000 in
set_option maxHeartbeats 4000000 in
theorem up_c (sp p : Nat) (va xv lv hv : Value) (l rs L M ws ys : List Int) (h0s : List Hdr) (size : Int) (w : World) (h : TA 112 w p va ws size xv ys) (hs : Sld w sp p xv lv hv) (hlv : Own w 3 lv (iw M)) (hhv : OwnH w hv h0s) (hlen : h0s.length = M.length)
  (S : Sc l rs L M) (U : Us l rs L M 0 0 rs.length ws ys) (hl : l.length ≤ 4000) :
  Calls Tryd.prog 53 #[.pointer (some ⟨sp, 0, none⟩)] w fun e w' => e = .returned (.tuple #[]) ∧ ∃ ws' ys', TA 112 w' p va ws' size xv ys' ∧ Us l rs L M l.length l.length rs.length ws' ys' ∧ OwnH w' hv (M.map (obj0 l)) ∧ Fr w w' (fun i => UO va xv i ∨ InBlk hv i) := by
 have hMl : M.length ≤ l.length := by have := (words_le S.snd.rows M S.srt S.sub).2; have := S.snd.rows.len; omega
 have HML := Lib.hid hMl
 have HL := Lib.hid hl
 have HSC := Lib.hid S
 have HHL := Lib.hid hlen
 have HS := Lib.hid hs
 have HLV := Lib.hid hlv
 have HN1 : Hid (¬ (UO va xv sp ∨ InBlk hv sp)) := Lib.hid (fun e => e.elim (fun e => e.elim (hs.not_own h.ar.own (by decide)) (hs.not_own h.own (by decide))) (fun e => by
  obtain ⟨c, hc⟩ := hhv.elem sp e
  unfold Sld at hs
  rw [hs] at hc
  simp at hc))
 have HN2 : Hid (∀ i, InBlk lv i → ¬ (UO va xv i ∨ InBlk hv i)) := Lib.hid (fun i hi e => e.elim (fun e => e.elim (hlv.apart h.ar.own (by decide) i hi) (hlv.apart h.own (by decide) i hi)) (fun e => hhv.apart hlv (by decide) i e hi))
 have HN3 : Hid (∀ i, InBlk hv i → ¬ UO va xv i ∧ i ≠ p) := Lib.hid (fun i hi => ⟨fun e => e.elim (hhv.apart h.ar.own (by decide) i hi) (hhv.apart h.own (by decide) i hi), fun e => by
  obtain ⟨c, hc⟩ := hhv.elem i hi
  rw [e, h.ar.blk] at hc
  simp at hc⟩)
 have H0 : Hid (TA 112 w p va ws size xv ys ∧ Fr w w (fun i => UO va xv i ∨ InBlk hv i) ∧ Us l rs L M 0 0 rs.length ws ys ∧ OwnH w hv (([] : List Int).map (obj0 l) ++ h0s.drop 0)) := Lib.hid ⟨h, Fr.refl _ _, U, by simpa using hhv⟩
 have c2 := hs.c2
 have q1 : (M.length : Int) ≤ 4000 := by omega
 obtain ⟨Al, cl, rfl⟩ := hlv.rd.len
 obtain ⟨Ah, chp, rfl⟩ := hhv.len
 rw [iw_length] at *
 rw [hlen] at HS HN1 HN2 HN3 H0
 rw [hlen]
 clear h hs hlv hhv S U hl hMl
 go_enter Tryd.func53, Tryd.ntmps53
 go_wp2
 clear c2
 go_loopg [2, 13] M.length (fun g a2 a13 wr => ∃ (t : Int) (i : Nat) (P Q : List Int) (b : Nat) (ws ys : List Int), a2 = .int .i64 t ∧ a13 = .int .i64 i ∧ g + i = M.length ∧ Hid (TA 112 wr p va ws size xv ys ∧ Fr w wr (fun i => UO va xv i ∨ InBlk (.slice Ah M.length chp) i) ∧ Us l rs L M b b rs.length ws ys ∧ OwnH wr (.slice Ah M.length chp) (P.map (obj0 l) ++ h0s.drop i)) ∧ Hid (UpP l M P Q b ∧ P.length = i ∧ t = wordsM l P ∧ 0 ≤ t))
 case atStart => exact ⟨0, 0, [], M, 0, _, _, rfl, rfl, rfl, H0, Lib.hid ⟨⟨rfl, (fun a ha => absurd ha (by simp)), (fun a ha => HSC.out.snd.rows.ge a (HSC.out.sub a ha)), Nat.zero_le _⟩, rfl, by simp [wordsM], by omega⟩⟩
 case round =>
  clear H0
  obtain ⟨t, i, P, Q, b, ws, ys, rfl, rfl, hgi, HI, HP⟩ := hrel
  obtain ⟨G, rfl⟩ : ∃ G, G = gk := ⟨_, rfl⟩
  have HGI := Lib.hid hgi
  clear hgi
  have hS := HS.out.keep HI.out.2.1 HN1.out
  have c0 := hS.c0
  have c1 := hS.c1
  have HSw := Lib.hid hS
  have qt0 : 0 ≤ t := HP.out.2.2.2
  have qt1 : t ≤ 4000 := by
   have := words_le HSC.out.snd.rows P (by have := HSC.out.srt; rw [HP.out.1.eq] at this; exact (List.pairwise_append.1 this).1) (fun x hx => HSC.out.sub x (by rw [HP.out.1.eq]; simp [hx]))
   rw [HP.out.2.2.1]; have := HL.out; omega
  clear hS
  by_cases hi : i < M.length
  ·obtain ⟨a0, Q2, rfl⟩ : ∃ a0 Q2, Q = a0 :: Q2 := by
    cases Q with
    | nil => have h1 := HP.out.1.eq; have h2 := HP.out.2.1; rw [List.append_nil] at h1; rw [h1] at hi; omega
    | cons a0 Q2 => exact ⟨a0, Q2, rfl⟩
   have haM : a0 ∈ M := by rw [HP.out.1.eq]; simp
   have hL := HSC.out.sub _ haM
   obtain ⟨hd, hob, ho0, hb0, hb1, hrd, hz0, hz1, hz2⟩ := HSC.out.snd.rows.obj _ hL
   obtain ⟨a, rfl⟩ := Int.eq_ofNat_of_zero_le hb0
   have hga : M.getD i 0 = a := by
    have h1 := HP.out.1.eq
    have h2 := HP.out.2.1
    rw [h1, ← h2]
    simp [List.getD]
   have hsrt := HSC.out.srt
   rw [HP.out.1.eq] at hsrt
   obtain ⟨_, hs2, hs3⟩ := List.pairwise_append.1 hsrt
   have hs4 := (List.pairwise_cons.1 hs2).1
   have hba : b ≤ a := by have := HP.out.1.hi a (by simp); omega
   have hU := HI.out.2.2.1.skip (F' := a) (V' := a) HSC.out hba hba (fun j h1 h2 => HP.out.1.noFld HSC.out h1 (fun q hq => by
    rcases List.mem_cons.1 hq with e | e
    ·omega
    ·have := hs4 q e; omega)) (fun q hq => by
    rw [HP.out.1.eq] at hq
    rcases List.mem_append.1 hq with hq | hq
    ·have h5 := HP.out.1.lo q hq
     have h6 := HSC.out.snd.rows.obj q (HSC.out.sub q (by rw [HP.out.1.eq]; simp [hq]))
     obtain ⟨_, _, e6, _, _, _, h7, _⟩ := h6
     rw [e6] at h5
     omega
    ·rcases List.mem_cons.1 hq with e | e
     ·omega
     ·have := hs4 q e; omega)
   obtain ⟨n, ws', ys', hlo, hU2, hob2⟩ := hU.loose HSC.out haM
   have hpl : plc l M (a : Int) = t := by
    have h1 := HSC.out.srt
    have h2 := HP.out.1.eq
    rw [h2] at h1
    rw [HP.out.2.2.1, h2]
    exact plc_split h1
   rw [hpl] at hlo
   obtain ⟨kd, z, tr, nn⟩ := hd
   simp only at hz0 hz1 hz2
   obtain ⟨zn, rfl⟩ := Int.eq_ofNat_of_zero_le hz0
   obtain ⟨f, hfd⟩ : ∃ f, fieldsH ⟨kd, zn, tr, nn⟩ = f := ⟨_, rfl⟩
   have hf0 : 0 ≤ f := by rw [← hfd]; exact fieldsH_nonneg hz0
   obtain ⟨fn, rfl⟩ := Int.eq_ofNat_of_zero_le hf0
   have hfit := HSC.out.snd.fit _ hL
   rw [ho0, hfd] at hfit
   simp only at hfit
   rw [hob] at hob2
   have HLO := Lib.hid hlo
   have HU2 := Lib.hid hU2
   have HOB := Lib.hid hob2
   have HO0 := Lib.hid ho0
   have HFD := Lib.hid hfd
   have HIL := Lib.hid hi
   have HAM := Lib.hid haM
   have HAL := Lib.hid hL
   have HZ : Hid (a + 1 + zn ≤ l.length ∧ fn ≤ zn) := Lib.hid (by omega)
   have HS4 := Lib.hid hs4
   have HS3 := Lib.hid hs3
   have HLw := Lib.hid (HLV.out.keep HI.out.2.1 HN2.out)
   obtain ⟨gl, rfl, _, hcl⟩ := HLw.out.cellAt (by rw [iw_length]; omega)
   have cl0 := (hcl i (by rw [iw_length]; exact hi)).1
   rw [iw_get hi, hga] at cl0
   have qi : (i : Int) < M.length := by omega
   have qa : (a : Int) ≤ 4000 := by have := HL.out; omega
   have qz : (zn : Int) ≤ 4000 := by have := HL.out; omega
   have qf : (fn : Int) ≤ 4000 := by have := HL.out; omega
   have HTd := Lib.hid (HI.out.1.fr ((Fr.refl wr (fun _ => False)).drew))
   clear hi haM hL hob ho0 hb0 hb1 hrd hz0 hz1 hz2 hga hlo hU hU2 hob2 hpl hfd hf0 hfit hcl hba hsrt hs2 hs3 hs4
   go_upto_region 4 with (fail)
   go_region_held3 (fun w' => w'.cell? ⟨sp, 0, none⟩ = some (.pointer (some ⟨p, 0, none⟩)) ∧ w'.cell? ⟨sp, 1, none⟩ = some xv) (first | exact ⟨g0, g1⟩ | exact ⟨c0, c1⟩)
    (first
     | (go_at_call 74; (with_reducible refine (loose_c p va xv ws ys _ a t _ HTd.out).mono ?_); rintro e w6 ⟨hre, ht6, hf6⟩; rw [HLO.out] at hre ht6; subst hre; have HF6 := Lib.hid (((Fr.refl wr (UO va xv)).drew).trans hf6); have hS6 := HSw.out.keep (HF6.out.mono (S1 := fun i => UO va xv i ∨ InBlk (.slice Ah M.length chp) i) (fun _ h _ => .inl h)) HN1.out; have g0 := hS6.c0; have g1 := hS6.c1; have HT6 := Lib.hid ht6; clear ht6 hf6))
   have HS6 := Lib.hid hS6
   clear g1 c0 c1 HTd hS6 cl0
   go_upto_region 6 with (first | (go_at_call 39; (with_reducible refine (obj_some p va ws' size a _ _ HT6.out.ar HOB.out).mono ?_); rintro e wo ⟨rfl, hfo⟩))
   obtain ⟨W2, hW2⟩ : ∃ W2, wo.alloc (.cells #[.int .i64 kd, .int .i64 zn, .int .i64 tr, .bool nn] 88) = W2 := ⟨_, rfl⟩
   obtain ⟨D, hD⟩ : ∃ D, wo.heap.size = D := ⟨_, rfl⟩
   have hf2 : Fr w6 W2 (fun _ => False) := by rw [← hW2]; exact hfo.alloc _
   have hdb : W2.heap[D]? = some (.cells #[.int .i64 kd, .int .i64 zn, .int .i64 tr, .bool nn] 88 (0, 0)) := by rw [← hW2, ← hD]; exact blk_new _ _ _
   have hDn : w6.heap.size ≤ D := by rw [← hD]; exact hfo.size
   have HDN := Lib.hid hDn
   have HT7 := Lib.hid (HT6.out.fr hf2)
   have HDB := Lib.hid hdb
   have HS7 := Lib.hid (HS6.out.keep hf2 (fun h => h))
   have HF7 := Lib.hid (HF6.out.trans (hf2.mono (fun _ h _ => h.elim)))
   have HH7 := Lib.hid ((HI.out.2.2.2.keep HF6.out (fun j hj e => (HN3.out j hj).1 e)).keep hf2 (fun _ _ h => h))
   simp only [hW2, hD]
   have hll : (P.map (obj0 l) ++ h0s.drop i).length = M.length := by rw [List.length_append, List.length_map, HP.out.2.1, List.length_drop, HHL.out]; have := HIL.out; omega
   obtain ⟨gh, rfl, hghb, hch⟩ := HH7.out.cellAt (by rw [hll]; have := HIL.out; omega)
   obtain ⟨⟨x0, x1, x2, x3⟩, hx⟩ : ∃ x, (P.map (obj0 l) ++ h0s.drop i).getD i hdr0 = x := ⟨_, rfl⟩
   have t0 := hch i 0 (by rw [hll]; exact HIL.out) (by decide)
   have t1 := hch i 1 (by rw [hll]; exact HIL.out) (by decide)
   have t2 := hch i 2 (by rw [hll]; exact HIL.out) (by decide)
   have t3 := hch i 3 (by rw [hll]; exact HIL.out) (by decide)
   rw [hx] at t0 t1 t2 t3
   obtain ⟨r0, f0⟩ := t0
   obtain ⟨r1, f1⟩ := t1
   obtain ⟨r2, f2⟩ := t2
   obtain ⟨r3, f3⟩ := t3
   have t0 : W2.cell? ⟨gh, i * 4, none⟩ = some (.int .i64 x0) := r0
   have t1 : W2.cell? ⟨gh, i * 4 + 1, none⟩ = some (.int .i64 x1) := r1
   have t2 : W2.cell? ⟨gh, i * 4 + 2, none⟩ = some (.int .i64 x2) := r2
   have t3 : W2.cell? ⟨gh, i * 4 + 3, none⟩ = some (.bool x3) := r3
   have f0b : W2.frozen? ⟨gh, i * 4, none⟩ = false := f0
   have c3 := HS7.out.c3
   have d0 : W2.cell? ⟨D, 0, none⟩ = some (.int .i64 kd) := by simp [World.cell?, hdb]
   have d1 : W2.cell? ⟨D, 1, none⟩ = some (.int .i64 zn) := by simp [World.cell?, hdb]
   have d2 : W2.cell? ⟨D, 2, none⟩ = some (.int .i64 tr) := by simp [World.cell?, hdb]
   have d3 : W2.cell? ⟨D, 3, none⟩ = some (.bool nn) := by simp [World.cell?, hdb]
   clear hW2 hD hfo hf2 hdb hch hx hll
   clear r0 r1 r2 r3 f0
   obtain ⟨W3, hW3⟩ : ∃ W3, ((((W2.setCell ⟨gh, i * 4, none⟩ (.int .i64 kd)).setCell ⟨gh, i * 4 + 1, none⟩ (.int .i64 zn)).setCell ⟨gh, i * 4 + 2, none⟩ (.int .i64 tr)).setCell ⟨gh, i * 4 + 3, none⟩ (.bool nn)) = W3 := ⟨_, rfl⟩
   obtain ⟨hh3, hf3⟩ := OwnH.store (o := ⟨kd, zn, tr, nn⟩) (i := i) HH7.out rfl (by rw [List.length_append, List.length_map, HP.out.2.1, List.length_drop, HHL.out]; have := HIL.out; omega) hW3
   have hng : ¬ gh = sp ∧ ¬ gh = D := ⟨fun e => HN1.out (.inr (by rw [← e]; simp [InBlk, Value.ownBlock])), fun e => by have h1 := HDN.out; have h2 := (HI.out.2.2.2.elem gh (by simp [InBlk, Value.ownBlock])); have h3 := HF6.out.size; obtain ⟨_, h2⟩ := h2; have h4 := (Array.getElem?_eq_some_iff.1 h2).1; omega⟩
   have s3 : W3.cell? ⟨sp, 3, none⟩ = some (.slice (some ⟨gh, 0, none⟩) M.length chp) := hf3.cell c3 (fun e => hng.1 e.symm)
   have d0' := hf3.cell d0 (fun e => hng.2 e.symm)
   have d1' := hf3.cell d1 (fun e => hng.2 e.symm)
   have d2' := hf3.cell d2 (fun e => hng.2 e.symm)
   have d3' := hf3.cell d3 (fun e => hng.2 e.symm)
   have HK3 : Hid (W3.cell? ⟨sp, 3, none⟩ = some (.slice (some ⟨gh, 0, none⟩) M.length chp) ∧ W3.cell? ⟨D, 0, none⟩ = some (.int .i64 kd) ∧ W3.cell? ⟨D, 1, none⟩ = some (.int .i64 zn) ∧ W3.cell? ⟨D, 2, none⟩ = some (.int .i64 tr) ∧ W3.cell? ⟨D, 3, none⟩ = some (.bool nn)) := Lib.hid ⟨s3, d0', d1', d2', d3'⟩
   have HW3 := Lib.hid hW3
   have HH3 := Lib.hid hh3
   have HF3 := Lib.hid hf3
   have HNG := Lib.hid hng
   clear hW3 hh3 hf3 s3 d0' d1' d2' d3' hng
   go_region_held3 (fun w' => w'.cell? ⟨sp, 3, none⟩ = some (.slice (some ⟨gh, 0, none⟩) M.length chp) ∧ w'.cell? ⟨D, 0, none⟩ = some (.int .i64 kd) ∧ w'.cell? ⟨D, 1, none⟩ = some (.int .i64 zn) ∧ w'.cell? ⟨D, 2, none⟩ = some (.int .i64 tr) ∧ w'.cell? ⟨D, 3, none⟩ = some (.bool nn)) (first | exact ⟨c3, d0, d1, d2, d3⟩ | (rw [HW3.out]; exact HK3.out)) (fail)
   rw [HW3.out]
   have HT8 : Hid (TA 112 W3 p va ws' size xv ys') := Lib.hid ⟨HT7.out.ar.keep HF3.out (fun e => (HN3.out gh (by simp [InBlk, Value.ownBlock])).2 e.symm) (fun k hk e => (HN3.out gh (by simp [InBlk, Value.ownBlock])).1 (.inl (e ▸ hk))), HT7.out.own.keep HF3.out (fun k hk e => (HN3.out gh (by simp [InBlk, Value.ownBlock])).1 (.inr (e ▸ hk))), HT7.out.ap, HT7.out.okr, HT7.out.lenr⟩
   have HD3 : Hid (W3.heap[D]? = some (.cells #[.int .i64 kd, .int .i64 zn, .int .i64 tr, .bool nn] 88 (0, 0))) := Lib.hid (HF3.out.blk HDB.out (fun e => HNG.out.2 e.symm))
   have HS8 := Lib.hid (HS7.out.keep HF3.out (fun e => HNG.out.1 e.symm))
   have d0' := HK3.out.2.1
   have d1' := HK3.out.2.2.1
   have d2' := HK3.out.2.2.2.1
   have d3' := HK3.out.2.2.2.2
   have HHL2 : Hid (i < h0s.length) := Lib.hid (by rw [HHL.out]; exact HIL.out)
   clear c3 d0 d1 d2 d3 t0 t1 t2 t3 f0b f1 f2 f3 hghb
   go_upto_region 8 with (first | (go_at_call 42; (with_reducible refine (Wd.fields_c kd zn tr nn (fn : Int) _ HFD.out).mono ?_); rintro e wa ⟨rfl, hb⟩; have HFB := Lib.hid (((Fr.refl W3 (fun _ => False)).drew).trans (Fr.of_below hb (fun _ => False))); clear hb))
   clear d0' d1' d2' d3'
   have HT9 : Hid (TA 112 wa p va ws' size xv ys') := Lib.hid (HT8.out.fr HFB.out)
   have HS9 := Lib.hid (HS8.out.keep HFB.out (fun h => h))
   have HD9 : Hid (wa.heap[D]? = some (.cells #[.int .i64 kd, .int .i64 zn, .int .i64 tr, .bool nn] 88 (0, 0))) := Lib.hid (HFB.out.blk HD3.out (fun h => h))
   have HH9 : Hid (OwnH wa (.slice (some ⟨gh, 0, none⟩) M.length chp) ((P ++ [(a : Int)]).map (obj0 l) ++ h0s.drop (i + 1))) := Lib.hid (by
    have h1 := HH3.out.keep HFB.out (fun _ _ h => h)
    rw [set_mid (by rw [List.length_map]; exact HP.out.2.1) HHL2.out] at h1
    rw [List.map_append, List.map_singleton, HO0.out]
    exact h1)
   have HFA : Hid (Fr wr wa (fun i => UO va xv i ∨ InBlk (.slice (some ⟨gh, 0, none⟩) M.length chp) i)) := Lib.hid (((HF7.out.mono (S1 := fun i => UO va xv i ∨ InBlk (.slice (some ⟨gh, 0, none⟩) M.length chp) i) (fun _ h _ => .inl h)).trans (HF3.out.mono (S1 := fun i => UO va xv i ∨ InBlk (.slice (some ⟨gh, 0, none⟩) M.length chp) i) (fun j h _ => .inr (by rw [h]; simp [InBlk, Value.ownBlock])))).trans (HFB.out.mono (fun _ h _ => h.elim)))
   have HND : Hid (¬ UO va xv D) := Lib.hid (fun e => by
    have h1 := HDN.out
    rcases e with e | e
    ·obtain ⟨_, h2⟩ := HT6.out.ar.own.elem D e; have := (Array.getElem?_eq_some_iff.1 h2).1; omega
    ·obtain ⟨_, h2⟩ := HT6.out.own.elem D e; have := (Array.getElem?_eq_some_iff.1 h2).1; omega)
   have HNU : Hid (¬ UO va xv sp) := Lib.hid (fun e => HN1.out (.inl e))
   have HNH : Hid (∀ j, InBlk (.slice (some ⟨gh, 0, none⟩) M.length chp) j → ¬ UO va xv j) := Lib.hid (fun j hj => (HN3.out j hj).1)
   have HU9 : Hid (Us l rs L M (a + 1) (a + 1) rs.length ws' ys') := Lib.hid (HU2.out.skip HSC.out (Nat.le_succ _) (Nat.le_refl _) (fun j h1 h2 => noFld_of HSC.out (HSC.out.snd.fld_not HAL.out (by omega) (by have := HZ.out; rw [HO0.out]; simp only; omega) (.inl (by omega)))) (fun c _ hh => by omega))
   go_loopg [7, 47] fn (fun g a7 a47 wr2 => ∃ (k : Nat) (ws ys : List Int), a47 = .int .i64 k ∧ g + k = fn ∧ Hid (TA 112 wr2 p va ws size xv ys ∧ Fr wa wr2 (UO va xv) ∧ Us l rs L M (a + 1 + k) (a + 1) rs.length ws ys))
   case atStart => exact ⟨0, _, _, rfl, rfl, Lib.hid ⟨HT9.out, Fr.refl _ _, HU9.out⟩⟩
   case round =>
    clear HT9 HU9
    obtain ⟨k, ws2, ys2, rfl, hgk, HJ⟩ := hrel
    have HGK := Lib.hid hgk
    clear hgk
    have hS := HS9.out.keep HJ.out.2.1 HNU.out
    have c0 := hS.c0
    have c1 := hS.c1
    have HSx := Lib.hid hS
    clear hS
    by_cases hk : k < fn
    ·have HKL := Lib.hid hk
     have qk : (k : Int) < fn := by omega
     have hfl : fldB l M (a + 1 + k) = true := fldB_iff.2 ⟨(a : Int), HAM.out, by omega, by rw [HO0.out, HFD.out]; omega⟩
     have hcs := HJ.out.2.2.fld HSC.out hfl (by omega)
     have hea : ((a + 1 + k : Nat) : Int) = (a : Int) + 1 + k := by omega
     rw [hea] at hcs
     have HTd := Lib.hid (HJ.out.1.fr ((Fr.refl wr (fun _ => False)).drew))
     clear hk hfl hea
     rcases hcs with ⟨hn, hu⟩ | ⟨ws3, ys3, hn, hu⟩
     ·have HNO := Lib.hid hn
      have HU3 := Lib.hid hu
      clear hn hu
      go_upto_region 10 with (fail)
      have hw1 : IntKind.i64.wrap ((a : Int) + 1) = a + 1 := IntWalk.i64_in _ (by omega)
      have hw2 : IntKind.i64.wrap ((a : Int) + 1 + k) = a + 1 + k := IntWalk.i64_in _ (by clear hw1; omega)
      go_region_held3 (fun w' => w'.cell? ⟨sp, 0, none⟩ = some (.pointer (some ⟨p, 0, none⟩)) ∧ w'.cell? ⟨sp, 1, none⟩ = some xv) (first | exact ⟨g0, g1⟩ | exact ⟨c0, c1⟩)
       (first
        | (go_at_call 52; (with_reducible refine (thread_no p va xv ws2 ys2 size ((a : Int) + 1 + k) false _ HTd.out HNO.out).mono ?_); rintro e w8 ⟨rfl, hf8⟩; have HF8 := Lib.hid ((((Fr.refl wr (fun _ => False)).drew)).trans hf8); have g0 := (HSx.out.keep HF8.out (fun h => h)).c0; have g1 := (HSx.out.keep HF8.out (fun h => h)).c1; clear hf8))
      clear g0 g1 c0 c1 hw1 hw2
      have HT8b := Lib.hid (HJ.out.1.fr HF8.out)
      go_wp2
      go_roundg (gk - 1)
      case measure => have := HGK.out; have := HKL.out; omega
      case rel => exact ⟨k + 1, ws2, ys2, by first | rfl | go_num, by have := HGK.out; have := HKL.out; omega, Lib.hid ⟨HT8b.out, HJ.out.2.1.trans (HF8.out.mono (fun _ h _ => h.elim)), HU3.out⟩⟩
     ·have HYE := Lib.hid hn
      have HU3 := Lib.hid hu
      clear hn hu
      go_upto_region 10 with (fail)
      have hw1 : IntKind.i64.wrap ((a : Int) + 1) = a + 1 := IntWalk.i64_in _ (by omega)
      have hw2 : IntKind.i64.wrap ((a : Int) + 1 + k) = a + 1 + k := IntWalk.i64_in _ (by clear hw1; omega)
      go_region_held3 (fun w' => w'.cell? ⟨sp, 0, none⟩ = some (.pointer (some ⟨p, 0, none⟩)) ∧ w'.cell? ⟨sp, 1, none⟩ = some xv) (first | exact ⟨g0, g1⟩ | exact ⟨c0, c1⟩)
       (first
        | (go_at_call 52; (with_reducible refine (thread_yes p va xv ws2 ys2 ws3 ys3 size ((a : Int) + 1 + k) false _ HTd.out HYE.out).mono ?_); rintro e w8 ⟨rfl, ht8, hf8⟩; have HF8 := Lib.hid ((((Fr.refl wr (UO va xv)).drew)).trans hf8); have HT8b := Lib.hid ht8; have g0 := (HSx.out.keep HF8.out HNU.out).c0; have g1 := (HSx.out.keep HF8.out HNU.out).c1; clear ht8 hf8))
      clear g0 g1 c0 c1 hw1 hw2
      go_wp2
      go_roundg (gk - 1)
      case measure => have := HGK.out; have := HKL.out; omega
      case rel => exact ⟨k + 1, ws3, ys3, by first | rfl | go_num, by have := HGK.out; have := HKL.out; omega, Lib.hid ⟨HT8b.out, HJ.out.2.1.trans HF8.out, HU3.out⟩⟩
    ·have b47 : decide (k < fn) = false := decide_eq_false hk
     have HKE : Hid (k = fn) := Lib.hid (by have := HGK.out; omega)
     have e1 : wr.cell? ⟨D, 1, none⟩ = some (.int .i64 zn) := by
      have := HJ.out.2.1.blk HD9.out HND.out
      simp [World.cell?, this]
     clear hk c0 c1
     go_wp2
     go_roundg (G - 1)
     case measure => have := HGI.out; have := HIL.out; omega
     case rel =>
      have hp := HP.out
      have hu := HJ.out.2.2
      rw [HKE.out] at hu
      have hz : (obj0 l (a : Int)).size = zn := by rw [HO0.out]
      have hfz := HZ.out
      refine ⟨t + (1 + (zn : Int)), i + 1, P ++ [(a : Int)], Q2, a + 1 + zn, ws2, ys2, by first | rfl | go_num, by first | rfl | go_num, by have := HGI.out; have := HIL.out; omega, Lib.hid ⟨HJ.out.1, HI.out.2.1.trans (HFA.out.trans (HJ.out.2.1.mono (fun _ h _ => .inl h))), ?_, HH9.out.keep HJ.out.2.1 HNH.out⟩, Lib.hid ⟨hp.1.next HSC.out hz hfz.1, by rw [List.length_append, hp.2.1]; rfl, ?_, by omega⟩⟩
      ·exact hu.skip HSC.out (by omega) (by omega) (fun j h1 h2 => noFld_of HSC.out (HSC.out.snd.fld_not HAL.out (by omega) (by rw [hz]; omega) (.inr (by rw [HO0.out, HFD.out]; omega)))) (hp.1.noObj HSC.out hz)
      ·have e : wordsM l (P ++ [(a : Int)]) = wordsM l P + (1 + (obj0 l a).size) := by simp [wordsM]
       rw [e, hz, ← hp.2.2.1]
  ·have hPM : P = M ∧ Q = [] := by
    have h1 := HP.out.1.eq
    have h2 := HP.out.2.1
    have h3 := congrArg List.length h1
    rw [List.length_append] at h3
    have h4 : Q = [] := List.eq_nil_of_length_eq_zero (by omega)
    rw [h4, List.append_nil] at h1
    exact ⟨h1.symm, h4⟩
   obtain ⟨rfl, rfl⟩ := hPM
   have b2 : decide (i < P.length) = false := decide_eq_false hi
   have HIE : Hid (i = P.length) := Lib.hid HP.out.2.1.symm
   clear hi c0 c1
   go_wp2
   go_end0
   refine ⟨rfl, ws, ys, HI.out.1, HP.out.1.fin HSC.out HI.out.2.2.1, ?_, HI.out.2.1⟩
   have h1 := HI.out.2.2.2
   rw [HIE.out, ← HHL.out, List.drop_length, List.append_nil] at h1
   rw [HHL.out] at h1
   exact h1
end Go.Proofs.YtjiaaefpepdoeaaDoor
namespace Go.Proofs.YtjiaaefpepdoeaaDoor
open Go.RowKit Md
set_option linter.unusedVariables false
theorem Own.pop {W : World} {e : TypeId} {g n c : Nat} {xs : List Value} {x : Value} (h : Own W e (.slice (some ⟨g, 0, none⟩) (n + 1) c) (xs ++ [x])) (hn : xs.length = n) : Own W e (.slice (some ⟨g, 0, none⟩) n c) xs := by
 rcases h.2 with ⟨hv, _⟩ | ⟨g', cap', cur, hv, hb, hg, hl, hm, hs, ht⟩
 ·cases hv
 ·injection hv with h1 h2 h3
  injection h1 with h1
  injection h1 with h1
  subst h1
  subst h3
  have hl2 : (xs ++ [x]).length = n + 1 := by simp [hn]
  rw [hl2] at hl ht
  refine ⟨by omega, .inr ⟨g, c, cur, by rw [hn], Nat.zero_le _, hg, by omega, hm, hs, ?_⟩⟩
  have h4 := congrArg (List.take n) ht
  rw [List.take_take] at h4
  rw [hn, Nat.mul_one]
  have h5 : min n ((n + 1) * 1) = n := by omega
  rw [h5] at h4
  rw [h4, List.take_append_of_le_length (by omega), ← hn, List.take_length]
def unseen (s : List Bool) : Nat := (s.filter (fun b => !b)).length
theorem unseen_set : ∀ (s : List Bool) (k : Nat), k < s.length → s.getD k false = false → unseen (s.set k true) + 1 = unseen s := by
 intro s
 induction s with
 | nil => intro k h; simp at h
 | cons b s ih =>
  intro k hk hs
  cases k with
  | zero => simp at hs; subst hs; simp [unseen]
  | succ k =>
   have := ih k (by simp at hk; omega) (by simpa using hs)
   unfold unseen at this ⊢
   cases b <;> simp at this ⊢ <;> omega
theorem unseen_new (n : Nat) : unseen (List.replicate n false) = n := by simp [unseen]
def mu (ws : List Int) (seen : List Bool) (todo : List Int) : Nat := todo.length + unseen seen * ws.length
structure LV (w W : World) (p : Nat) (v : Value) (ws rs : List Int) (size : Int) (sv tv : Value) (seen : List Bool) (todo : List Int) : Prop where
 ar : Ar 112 W p v ws size
 fr : Fr w W fun _ => False
 so : Own W 4 sv (bw seen)
 own : Own W 39 tv (uw todo)
 ins : ∀ k, InBlk sv k → w.heap.size ≤ k
 int : ∀ k, InBlk tv k → w.heap.size ≤ k
 vlt : ∀ k, InBlk v k → k < w.heap.size
 plt : p < w.heap.size
 okt : okWs todo
 sl : seen.length = ws.length
 back : ∀ r, Lv ws seen todo r → Lv ws (List.replicate ws.length false) rs r
section
variable {w W W1 : World} {p : Nat} {v : Value} {ws rs : List Int} {size : Int} {sv tv : Value} {seen : List Bool} {todo : List Int}
theorem LV.frm (h : LV w W p v ws rs size sv tv seen todo) (hf : Fr W W1 fun _ => False) : LV w W1 p v ws rs size sv tv seen todo :=
 ⟨h.ar.fr hf, h.fr.trans hf, h.so.keep hf (fun _ _ h => h), h.own.keep hf (fun _ _ h => h), h.ins, h.int, h.vlt, h.plt, h.okt, h.sl, h.back⟩
theorem LV.pop {g c n : Nat} {x : Int} {rest : List Int} (h : LV w W p v ws rs size sv (.slice (some ⟨g, 0, none⟩) (n + 1) c) seen (rest ++ [x])) (hn : rest.length = n) (hb : ∀ r, Lv ws seen rest r → Lv ws seen (rest ++ [x]) r) :
  LV w W p v ws rs size sv (.slice (some ⟨g, 0, none⟩) n c) seen rest :=
 ⟨h.ar, h.fr, h.so, Own.pop (x := .int .u64 x) (by have := h.own; rw [uw_append] at this; exact this) (by rw [uw_length]; exact hn), h.ins, fun k hk => h.int k (by simpa [InBlk, Value.ownBlock] using hk), h.vlt, h.plt, fun y hy => h.okt y (by simp [hy]), h.sl, fun r hr => h.back r (hb r hr)⟩
structure LW (w W : World) (p : Nat) (v : Value) (ws : List Int) (size : Int) (sv tv : Value) (seen : List Bool) (todo : List Int) : Prop where
 ar : Ar 112 W p v ws size
 fr : Fr w W fun _ => False
 so : Own W 4 sv (bw seen)
 own : Own W 39 tv (uw todo)
 ins : ∀ k, InBlk sv k → w.heap.size ≤ k
 int : ∀ k, InBlk tv k → w.heap.size ≤ k
 vlt : ∀ k, InBlk v k → k < w.heap.size
 plt : p < w.heap.size
 okt : okWs todo
 sl : seen.length = ws.length
theorem LV.lw (h : LV w W p v ws rs size sv tv seen todo) : LW w W p v ws size sv tv seen todo := ⟨h.ar, h.fr, h.so, h.own, h.ins, h.int, h.vlt, h.plt, h.okt, h.sl⟩
theorem LW.lv (h : LW w W p v ws size sv tv seen todo) (hb : ∀ r, Lv ws seen todo r → Lv ws (List.replicate ws.length false) rs r) : LV w W p v ws rs size sv tv seen todo := ⟨h.ar, h.fr, h.so, h.own, h.ins, h.int, h.vlt, h.plt, h.okt, h.sl, hb⟩
theorem LW.frm (h : LW w W p v ws size sv tv seen todo) (hf : Fr W W1 fun _ => False) : LW w W1 p v ws size sv tv seen todo :=
 ⟨h.ar.fr hf, h.fr.trans hf, h.so.keep hf (fun _ _ h => h), h.own.keep hf (fun _ _ h => h), h.ins, h.int, h.vlt, h.plt, h.okt, h.sl⟩
theorem LW.see {g k cb nb : Nat} (h : LW w W p v ws size (.slice (some ⟨g, 0, none⟩) nb cb) tv seen todo) (hnb : seen.length = nb) (hk : k < seen.length) :
  LW w (W.setCell ⟨g, k, none⟩ (.bool true)) p v ws size (.slice (some ⟨g, 0, none⟩) nb cb) tv (seen.set k true) todo := by
 subst hnb
 have hin : InBlk (.slice (some ⟨g, 0, none⟩) seen.length cb) g := by simp [InBlk, Value.ownBlock]
 have hs := Own.setAt (cap := cb) (g := g) (k := k) (u := .bool true) (xs := bw seen) (e := 4) (W := W) (by rw [bw_length]; exact h.so) (by rw [bw_length]; exact hk)
 have hf := hs.2
 have hs1 := hs.1
 rw [bw_length] at hs1
 have e1 : (bw seen).set k (.bool true) = bw (seen.set k true) := by unfold bw; rw [List.map_set]
 rw [e1] at hs1
 have hgw := h.ins g hin
 exact ⟨h.ar.keep hf (by have := h.plt; omega) (fun i hi e => by have := h.vlt i hi; omega), h.fr.setCell (S := fun _ => False) (a := ⟨g, k, none⟩) (fun (hlt : g < w.heap.size) => by omega) _, hs1, h.own.keep hf (fun i hi e => h.own.apart h.so (by decide) i hi (by rw [e]; exact hin)), h.ins, h.int, h.vlt, h.plt, h.okt, by rw [List.length_set]; exact h.sl⟩
theorem LW.push (x : Int) (h : LW w W p v ws size sv tv seen todo) (hx : okW x) (hlen : todo.length ≤ 1073741823) :
  ∃ v' w1, (Builtin.append_ #[44, 44] 44 #[tv, .slice (some ⟨W.heap.size, 0, none⟩) 1 1]).run Tryd.prog (W.alloc (.cells #[.int .u64 x] 39)) = .ok v' w1 ∧ LW w w1 p v ws size sv v' seen (todo ++ [x]) ∧ Fr W w1 (fun i => InBlk tv i) := by
 obtain ⟨i0, hi, hz0, hz1, hzb⟩ := info_parts wordInfo
 have hf3 : Fr W (W.alloc (.cells #[.int .u64 x] 39)) (fun _ => False) := (Fr.refl _ _).alloc _
 have hone : Rd (W.alloc (.cells #[.int .u64 x] 39)) (.slice (some ⟨W.heap.size, 0, none⟩) 1 1) (uw [x]) := .inr ⟨W.heap.size, 0, 1, rfl, by simp [uw], by simp [uw], by decide, by simp, fun i hi => by
  have : i = 0 := by simp [uw] at hi; exact hi
  subst this
  simp only [World.cell?, blk_new]; rfl⟩
 obtain ⟨v', w1, hr, ho, hg, hn⟩ := run_append_rd (P := Tryd.prog) _ 44 44 39 i0 (.int .u64 0) Tryd.underlying44 hi hz0 hz1 (by omega) rfl _ _ (uw todo) (uw [x]) (h.own.keep hf3 (fun _ _ h => h)) hone (uw_one [x]) (by rw [uw_length, uw_length]; simp; omega)
 rw [← uw_append] at ho
 have hf4 : Fr W w1 (fun i => InBlk tv i) := (hf3.mono fun _ h _ => h.elim).grown hg (fun k hk _ => hk)
 refine ⟨v', w1, hr, ⟨h.ar.keep hf4 (fun e => by have := h.int p e; have := h.plt; omega) (fun i hi e => by have := h.vlt i hi; have := h.int i e; omega), h.fr.then_ hf4 (fun k hk hlt => by have := h.int k hk; omega), h.so.keep hf4 (fun i hi e => h.so.apart h.own (by decide) i hi e), ho, h.ins, fun k hk => ?_, h.vlt, h.plt, okWs_append h.okt (fun y hy => by simp at hy; rw [hy]; exact hx), h.sl⟩, hf4⟩
 rcases hn k hk with h1 | h1
 ·exact h.int k h1
 ·have h2 := h.fr.size
  have h3 : (W.alloc (.cells #[.int .u64 x] 39)).heap.size = W.heap.size + 1 := Array.size_push _
  omega
end
theorem mu_new {ws : List Int} {seen : List Bool} {rest : List Int} {x : Int} {k n : Nat} (hk : k < seen.length) (hs : seen.getD k false = false) (hn : n < ws.length) : mu ws (seen.set k true) (rest ++ fieldsAt ws x n) < mu ws seen (rest ++ [x]) := by
 have h1 := unseen_set seen k hk hs
 unfold mu
 have h2 : (fieldsAt ws x n).length = n := by simp [fieldsAt]
 rw [← h1, List.length_append, List.length_append, h2, Nat.add_mul]
 simp only [List.length_cons, List.length_nil]
 omega
theorem fieldsAt_succ (ws : List Int) (a : Int) (n : Nat) : fieldsAt ws a (n + 1) = fieldsAt ws a n ++ [rd0 ws (a + 1 + n)] := by simp [fieldsAt, List.range_succ]
theorem ints_push {W : World} {u : Value} {acc : List Int} (x : Int) (h : Own W 3 u (iw acc)) (hlen : acc.length ≤ 1073741823) :
  ∃ v' w1, (Builtin.append_ #[55, 55] 55 #[u, .slice (some ⟨W.heap.size, 0, none⟩) 1 1]).run Tryd.prog (W.alloc (.cells #[.int .i64 x] 3)) = .ok v' w1 ∧ Own w1 3 v' (iw (acc ++ [x])) ∧ Fr W w1 (fun i => InBlk u i) ∧ ∀ k, InBlk v' k → InBlk u k ∨ W.heap.size ≤ k := by
 obtain ⟨i0, hi, hz0, hz1, hzb⟩ := info_parts intInfo
 have hf3 : Fr W (W.alloc (.cells #[.int .i64 x] 3)) (fun _ => False) := (Fr.refl _ _).alloc _
 have hone : Rd (W.alloc (.cells #[.int .i64 x] 3)) (.slice (some ⟨W.heap.size, 0, none⟩) 1 1) (iw [x]) := .inr ⟨W.heap.size, 0, 1, rfl, by simp [iw], by simp [iw], by decide, by simp, fun i hi => by
  have : i = 0 := by simp [iw] at hi; exact hi
  subst this
  simp only [World.cell?, blk_new]; rfl⟩
 obtain ⟨v', w1, hr, ho, hg, hn⟩ := run_append_rd (P := Tryd.prog) _ 55 55 3 i0 (.int .i64 0) Tryd.underlying55 hi hz0 hz1 (by omega) rfl _ _ (iw acc) (iw [x]) (h.keep hf3 (fun _ _ h => h)) hone (oneCell_all [x]) (by rw [iw_length, iw_length]; simp; omega)
 rw [← iw_append] at ho
 have hf4 : Fr W w1 (fun i => InBlk u i) := (hf3.mono fun _ h _ => h.elim).grown hg (fun k hk _ => hk)
 refine ⟨v', w1, hr, ho, hf4, fun k hk => ?_⟩
 rcases hn k hk with h1 | h1
 ·exact .inl h1
 ·right
  have h3 : (W.alloc (.cells #[.int .i64 x] 3)).heap.size = W.heap.size + 1 := Array.size_push _
  omega
def upTo (s : List Bool) (i : Nat) : List Int := ((List.range i).filter fun (j : Nat) => s.getD j false).map fun (j : Nat) => (j : Int)
theorem upTo_succ (s : List Bool) (i : Nat) : upTo s (i + 1) = if s.getD i false = true then upTo s i ++ [(i : Int)] else upTo s i := by
 unfold upTo
 rw [List.range_succ, List.filter_append]
 split
 ·rename_i h; simp [-List.getD_eq_getElem?_getD, h]
 ·rename_i h; simp [-List.getD_eq_getElem?_getD, h]
theorem upTo_len (s : List Bool) (i : Nat) : (upTo s i).length ≤ i := by
 unfold upTo
 rw [List.length_map]
 exact Nat.le_trans (List.length_filter_le _ _) (by simp)
theorem upTo_all (s : List Bool) : upTo s s.length = seenList s := rfl
def LvA (w w' : World) (ws rs : List Int) (e : Ending) : Prop :=
 ∃ (r : Option (List Bool)) (u : Value), Lv ws (List.replicate ws.length false) rs r ∧ e = .returned (.tuple #[u, .bool r.isSome]) ∧ New w w' 3 u (iw ((r.map seenList).getD []))
end Go.Proofs.YtjiaaefpepdoeaaDoor
