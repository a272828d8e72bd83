/-
  TEXTS JOINED FOR A CLAIM (MarkTerms): Bits Fr Pure Cls Ar Zer Ar2 Mem Rd Cpy Fill Aw8 Two Uni Obj Obs Thr Lnk Thd Lse Ints Sn0 Mov Dwn. Conditions: none beyond those that each theorem states.
-/
import Derived.Laws.BitsLemmas
import Derived.Laws.Bits64
import Derived.RowKit
import Derived.Test.YtjiaaefpepdoeaaDoorZ00MarkTerms
import Derived.Test.YtjiaaefpepdoeaaDoorRows
import Derived.WalkKit
import Derived.Lib.Hide
import Derived.WalkSpells
import Derived.Deep.Draws
import Derived.Test.YtjiaaefpepdoeaaDoorZ29MarkTerms
import Derived.Deep.QuietTactic
import Derived.BigQuiet
import Derived.Outline
import Derived.Lib.AppendZerosOnto
import Derived.Deep.AppendSrc
import Derived.LoopTactic
import Derived.Deep.DeepCutAuto
import Derived.Deep.LoopGhost
import Derived.Deep.RegionHeld3
import Derived.Laws.OwnMore
import Derived.Lib.AppendZeros
import Derived.IntWalk
namespace Go.Proofs.YtjiaaefpepdoeaaDoor.Md
open Go Go.RowKit
set_option linter.unusedVariables false
theorem wraps_u64 (n : Int) (h₀ : 0 ≤ n) (h₁ : n < 2 ^ 64) : IntKind.u64.wrap n = n := by rw [IntKind.wrap_u64]; omega
theorem wraps_i64 (n : Int) (h₀ : 0 ≤ n) (h₁ : n < 2 ^ 63) : IntKind.i64.wrap n = n := by rw [IntKind.wrap_i64]; omega
theorem u64_and15 {x : Int} (h : okW x) : bits .and .u64 x 15 = x % 16 := bits_mask .u64 64 (by decide) wraps_u64 4 (by decide) x h.1 (by have := h.2; omega)
theorem i64_and {x : Int} (i : Nat) (hi : i ≤ 63) (h0 : 0 ≤ x) (h1 : x < 2 ^ 63) : bits .and .i64 x (2 ^ i - 1) = x % 2 ^ i := bits_mask .i64 63 (by decide) wraps_i64 i hi x h0 h1
theorem i64_and1 {x : Int} (h0 : 0 ≤ x) (h1 : x < 2 ^ 63) : bits .and .i64 x 1 = x % 2 := i64_and 1 (by decide) h0 h1
theorem i64_and3 {x : Int} (h0 : 0 ≤ x) (h1 : x < 2 ^ 63) : bits .and .i64 x 3 = x % 4 := i64_and 2 (by decide) h0 h1
theorem i64_and1048575 {x : Int} (h0 : 0 ≤ x) (h1 : x < 2 ^ 63) : bits .and .i64 x 1048575 = x % 1048576 := i64_and 20 (by decide) h0 h1
theorem i64_or {x y : Int} (i : Nat) (hx₀ : 0 ≤ x) (hx : x % 2 ^ i = 0) (hx₁ : x < 2 ^ 63) (hy₀ : 0 ≤ y) (hy : y < 2 ^ i) (hi : i ≤ 63) : bits .or .i64 x y = x + y :=
 bits_join .i64 63 (by decide) wraps_i64 i x y hx₀ hx hx₁ hy₀ hy (Int.lt_of_lt_of_le hy (by exact_mod_cast Nat.pow_le_pow_right (by decide : 0 < 2) hi))
theorem bits_or_comm (k : IntKind) (x y : Int) : bits .or k x y = bits .or k y x := by
 simp only [bits, BitVec.or_comm]
theorem of_bits {t n : Int} (h0 : 0 ≤ t) (h7 : t ≤ 7) (hf : fitsW n = true) :
  bits .or .u64 (IntKind.u64.wrap (IntKind.u64.wrap n * 16)) (IntKind.u64.wrap t) = ofW t n := by
 have e0 : ofW t n = n % 1152921504606846976 * 16 + t := by unfold ofW; exact if_pos ⟨h0, h7, hf⟩
 have e1 : IntKind.u64.wrap (IntKind.u64.wrap n * 16) = n % 1152921504606846976 * 16 := by
  rw [IntKind.wrap_u64, IntKind.wrap_u64]; omega
 have e2 : IntKind.u64.wrap t = t := wraps_u64 t h0 (by omega)
 rw [e0, e1, e2]
 exact bits_join .u64 64 (by decide) wraps_u64 4 _ t (by omega) (by omega) (by omega) h0 (by omega) (by omega)
theorem tag_bits {w : Int} (h : okW w) : wrap64 (bits .and .u64 w 15) = tagW w := by
 rw [u64_and15 h]; unfold wrap64 tagW; omega
theorem val_bits {w : Int} (h : okW w) : wrap64 w / 16 = valW w := by
 unfold wrap64 valW; unfold okW at h; split <;> omega
theorem fitsW_bits (n : Int) : (if n ≥ (-576460752303423488) then some (decide (n ≤ 576460752303423487)) else some false) = some (fitsW n) := by
 unfold fitsW
 by_cases h : n ≥ -576460752303423488
 ·rw [if_pos h]; simp [show -576460752303423488 ≤ n from h]
 ·rw [if_neg h]; simp [show ¬ (-576460752303423488 ≤ n) from h]
end Go.Proofs.YtjiaaefpepdoeaaDoor.Md
namespace Go.Proofs.YtjiaaefpepdoeaaDoor
open Go.RowKit
set_option linter.unusedVariables false
structure Fr (w w' : World) (S : Nat → Prop) : Prop where
 os : w'.os = w.os
 tape : w'.tape = w.tape
 output : w'.output = w.output
 size : w.heap.size ≤ w'.heap.size
 block : ∀ i, i < w.heap.size → ¬ S i → w'.heap[i]? = w.heap[i]?
section
variable {w w1 w2 : World} {S S1 S2 : Nat → Prop}
theorem Fr.refl (w : World) (S : Nat → Prop) : Fr w w S := ⟨rfl, rfl, rfl, Nat.le_refl _, fun _ _ _ => rfl⟩
theorem Fr.mono (h : Fr w w1 S) (k : ∀ i, S i → i < w.heap.size → S1 i) : Fr w w1 S1 := ⟨h.os, h.tape, h.output, h.size, fun i hi hn => h.block i hi fun hs => hn (k i hs hi)⟩
theorem Fr.trans (h : Fr w w1 S) (k : Fr w1 w2 S) : Fr w w2 S :=
 ⟨k.os.trans h.os, k.tape.trans h.tape, k.output.trans h.output, Nat.le_trans h.size k.size, fun i hi hn => (k.block i (Nat.lt_of_lt_of_le hi h.size) hn).trans (h.block i hi hn)⟩
theorem Fr.then_ (h : Fr w w1 S) (k : Fr w1 w2 S1) (hs : ∀ i, S1 i → i < w.heap.size → S i) : Fr w w2 S :=
 ⟨k.os.trans h.os, k.tape.trans h.tape, k.output.trans h.output, Nat.le_trans h.size k.size, fun i hi hn => (k.block i (Nat.lt_of_lt_of_le hi h.size) fun h1 => hn (hs i h1 hi)).trans (h.block i hi hn)⟩
theorem Fr.alloc (h : Fr w w1 S) (o : Obj) : Fr w (w1.alloc o) S :=
 ⟨h.os, h.tape, h.output, by simp; exact Nat.le_succ_of_le h.size, fun i hi hn => (heap_alloc_old w1 o (Nat.lt_of_lt_of_le hi h.size)).trans (h.block i hi hn)⟩
theorem Fr.drew (h : Fr w w1 S) : Fr w w1.drew S := ⟨h.os, h.tape, h.output, h.size, h.block⟩
theorem Fr.drewN (h : Fr w w1 S) (n : Nat) : Fr w (w1.drewN n) S := ⟨h.os, h.tape, h.output, h.size, h.block⟩
theorem Fr.setCell (h : Fr w w1 S) {a : Addr} (ha : a.block < w.heap.size → S a.block) (u : Value) : Fr w (w1.setCell a u) S :=
 ⟨h.os, h.tape, h.output, by simpa [World.setCell] using h.size, fun i hi hn => (Below.heap_setCell w1 a u i (fun e => hn (by subst e; exact ha hi))).trans (h.block i hi hn)⟩
theorem Fr.grown (h : Fr w w1 S) {row : Option Nat} (hg : w1.grownBy w2 row) (hr : ∀ k, row = some k → k < w.heap.size → S k) : Fr w w2 S :=
 ⟨hg.os.trans h.os, hg.tape.trans h.tape, hg.output.trans h.output, Nat.le_trans h.size hg.size, fun i hi hn => (hg.block i (Nat.lt_of_lt_of_le hi h.size) fun e => hn (hr i e.symm hi)).trans (h.block i hi hn)⟩
theorem Fr.of_below (h : Below w.heap.size w w1) (S : Nat → Prop) : Fr w w1 S := ⟨h.os, h.tape, h.output, h.size, fun i hi _ => h.block i hi⟩
theorem Fr.below (h : Fr w w1 fun _ => False) : Below w.heap.size w w1 := ⟨h.os, h.tape, h.output, h.size, fun i hi => h.block i hi fun h => h⟩
theorem Fr.cell (h : Fr w w1 S) {a : Addr} {u : Value} (hc : w.cell? a = some u) (hn : ¬ S a.block) : w1.cell? a = some u :=
 (World.cell?_of_block (h.block a.block (World.block_lt_of_cell? w a hc) hn)).trans hc
theorem Fr.blk (h : Fr w w1 S) {g : Nat} {o : Obj} (hc : w.heap[g]? = some o) (hn : ¬ S g) : w1.heap[g]? = some o :=
 (h.block g (Array.getElem?_eq_some_iff.1 hc).1 hn).trans hc
end
def uw (ws : List Int) : List Value := ws.map (Value.int .u64)
theorem uw_length (ws : List Int) : (uw ws).length = ws.length := by simp [uw]
def Own (w : World) (e : TypeId) (v : Value) (xs : List Value) : Prop := w.ownsRow 0 e 1 v xs.length xs
def InBlk (v : Value) (i : Nat) : Prop := v.ownBlock = some i
section
variable {w w1 : World} {e : TypeId} {v : Value} {xs : List Value} {S : Nat → Prop}
theorem Own.nil (w : World) (e : TypeId) : Own w e (.slice none 0 0) [] := World.ownsRow_nil w 0 e 1
theorem Own.keep (h : Own w e v xs) (hf : Fr w w1 S) (hn : ∀ i, InBlk v i → ¬ S i) : Own w1 e v xs := by
 refine ⟨h.1, ?_⟩
 rcases h.2 with h0 | ⟨g, cap, cur, rfl, hb, hg, rest⟩
 ·exact .inl h0
 ·exact .inr ⟨g, cap, cur, rfl, hb, hf.blk hg (hn g (by simp [InBlk, Value.ownBlock])), rest⟩
theorem Own.form (h : Own w e v xs) : (v = .slice none 0 0 ∧ xs = []) ∨ ∃ g cap, v = .slice (some ⟨g, 0, none⟩) xs.length cap ∧ xs.length ≤ cap ∧ cap ≤ maxLen ∧ g < w.heap.size ∧ (∀ i, i < xs.length → w.cell? ⟨g, i, none⟩ = xs[i]?) ∧ ∀ i, w.frozen? ⟨g, i, none⟩ = false := by
 rcases h.2 with ⟨rfl, h0⟩ | ⟨g, cap, cur, rfl, hb, hg, hl, hm, hs, ht⟩
 ·exact .inl ⟨rfl, List.eq_nil_of_length_eq_zero h0⟩
 ·refine .inr ⟨g, cap, rfl, hl, hm, (Array.getElem?_eq_some_iff.1 hg).1, fun i hi => ?_, fun i => by simp [World.frozen?, hg]⟩
  rw [cell_of_row w g i cur e (0, 0) hg]
  rw [Nat.mul_one] at ht
  have h2 : xs[i]? = (cur.toList.take xs.length)[i]? := by rw [ht]
  rw [h2, List.getElem?_take, if_pos hi]
  simp
theorem Own.lt (h : Own w e v xs) : ∀ i, InBlk v i → i < w.heap.size := fun i hi => (World.ownsRow.lt h i hi).2
theorem Own.elem (h : Own w e v xs) : ∀ i, InBlk v i → ∃ cur, w.heap[i]? = some (.cells cur e (0, 0)) := by
 intro i hi
 rcases h.2 with ⟨rfl, _⟩ | ⟨g, cap, cur, rfl, hb, hg, _⟩
 ·simp [InBlk, Value.ownBlock] at hi
 ·simp [InBlk, Value.ownBlock] at hi; subst hi; exact ⟨cur, hg⟩
end
end Go.Proofs.YtjiaaefpepdoeaaDoor
namespace Go.Proofs.YtjiaaefpepdoeaaDoor.Wd
open Go.RowKit Go.Proofs.YtjiaaefpepdoeaaDoor.PSlideMeans Go.Proofs.YtjiaaefpepdoeaaDoorW.PrintWords Go.Proofs.YtjiaaefpepdoeaaDoorW.PrintLast
open Go.Proofs.YtjiaaefpepdoeaaDoor.Md
set_option linter.unusedVariables false
theorem none_eq : word_none.f = some 4 := rfl
theorem fits_eq (n : Int) : word_Fits.f n = some (fitsW n) := fitsW_bits n
theorem rfits_eq (n : Int) : tenementref1_Fits.f n = some (fitsW n) := fitsW_bits n
theorem of_eq (t n : Int) : word_Of.f t n = some (ofW t n) := by
 unfold word_Of.f
 rw [none_eq, fits_eq]
 simp only [Option.bind_some]
 by_cases h0 : t < 0
 ·rw [if_pos h0]; unfold ofW; rw [if_neg (by omega)]
 rw [if_neg h0]
 by_cases h7 : t > 7
 ·rw [if_pos h7]; unfold ofW; rw [if_neg (by omega)]
 rw [if_neg h7]
 by_cases hf : fitsW n = true
 ·rw [if_pos hf, of_bits (by omega) (by omega) hf]
 ·rw [if_neg hf]; unfold ofW; rw [if_neg (fun h => hf h.2.2)]
theorem rof_eq (t n : Int) : tenementref1_Of.f t n = some (ofW t n) := by
 unfold tenementref1_Of.f
 rw [rfits_eq]
 simp only [Option.bind_some]
 by_cases h0 : t < 0
 ·rw [if_pos h0]; unfold ofW; rw [if_neg (by omega)]
 rw [if_neg h0]
 by_cases h7 : t > 7
 ·rw [if_pos h7]; unfold ofW; rw [if_neg (by omega)]
 rw [if_neg h7]
 by_cases hf : fitsW n = true
 ·rw [if_pos hf, of_bits (by omega) (by omega) hf]
 ·rw [if_neg hf]; unfold ofW; rw [if_neg (fun h => hf h.2.2)]
theorem tag_eq {w : Int} (h : okW w) : word_Tag.f w = some (tagW w) := by unfold word_Tag.f; rw [tag_bits h]
theorem val_eq {w : Int} (h : okW w) : word_Value.f w = some (valW w) := by unfold word_Value.f; rw [val_bits h]
theorem tag_c (x r : Int) (w : World) (hx : okW x) (h : tagW x = r) : Calls Tryd.prog 60 #[.int .u64 x] w fun e w' => e = .returned (.int .i64 r) ∧ Drawn0 w w' := word_Tag.calls x r w (by rw [tag_eq hx, h])
theorem val_c (x r : Int) (w : World) (hx : okW x) (h : valW x = r) : Calls Tryd.prog 61 #[.int .u64 x] w fun e w' => e = .returned (.int .i64 r) ∧ Drawn0 w w' := word_Value.calls x r w (by rw [val_eq hx, h])
theorem rof_c (t n r : Int) (w : World) (h : ofW t n = r) : Calls Tryd.prog 27 #[.int .i64 t, .int .i64 n] w fun e w' => e = .returned (.int .u64 r) ∧ Drawn0 w w' := tenementref1_Of.calls t n r w (by rw [rof_eq, h])
theorem pack_bits (h : Hdr) (hm : mayH h = true) :
  (if h.neg = true then bits .or .i64 (bits .or .i64 (bits .or .i64 h.kind (wrap64 (h.size * 8))) (wrap64 (h.tree * 8388608))) 4 else bits .or .i64 (bits .or .i64 h.kind (wrap64 (h.size * 8))) (wrap64 (h.tree * 8388608))) = packH h := by
 rw [mayH_iff] at hm
 have e1 : wrap64 (h.size * 8) = h.size * 8 := by unfold wrap64; omega
 have e2 : wrap64 (h.tree * 8388608) = h.tree * 8388608 := by unfold wrap64; omega
 have e3 : bits .or .i64 h.kind (h.size * 8) = h.size * 8 + h.kind := by
  rw [bits_or_comm]; exact i64_or 3 (by omega) (by omega) (by omega) (by omega) (by omega) (by omega)
 have e4 : bits .or .i64 (h.size * 8 + h.kind) (h.tree * 8388608) = h.tree * 8388608 + (h.size * 8 + h.kind) := by
  rw [bits_or_comm]; exact i64_or 23 (by omega) (by omega) (by omega) (by omega) (by omega) (by omega)
 rw [e1, e2, e3, e4]
 unfold packH
 cases hn : h.neg with
 | false => simp only [Bool.false_eq_true, if_false]; omega
 | true =>
  simp only [if_true]
  obtain ⟨a, ha⟩ : ∃ a, a = h.tree * 8388608 + (h.size * 8 + h.kind) := ⟨_, rfl⟩
  have k0 : 0 ≤ a := by omega
  have k1 : a < 8796093022208 := by omega
  have k2 : a % 8 = h.kind := by omega
  rw [← ha]
  -- the bit of worth 4 is not set: kind takes the two lowest, size begins at the fourth
  have e5 : bits .or .i64 a 4 = a + 4 := by
   have hsplit : a = (a / 8) * 8 + h.kind := by omega
   have s1 : bits .or .i64 ((a / 8) * 8) (4 + h.kind) = (a / 8) * 8 + (4 + h.kind) := i64_or 3 (by omega) (by omega) (by omega) (by omega) (by omega) (by omega)
   have s2 : bits .or .i64 ((a / 8) * 8) h.kind = (a / 8) * 8 + h.kind := i64_or 3 (by omega) (by omega) (by omega) (by omega) (by omega) (by omega)
   have s3 : bits .or .i64 4 h.kind = 4 + h.kind := i64_or 2 (by omega) (by omega) (by omega) (by omega) (by omega) (by omega)
   have s4 : bits .or .i64 (bits .or .i64 ((a / 8) * 8) h.kind) 4 = bits .or .i64 ((a / 8) * 8) (bits .or .i64 4 h.kind) := by
    rw [s2, s3]
    obtain ⟨x, hx⟩ := Int.eq_ofNat_of_zero_le (show 0 ≤ a / 8 * 8 by omega)
    obtain ⟨y, hy⟩ := Int.eq_ofNat_of_zero_le (show 0 ≤ h.kind by omega)
    have p63 : (2 : Nat) ^ 63 = 9223372036854775808 := by decide
    have b1 := (bits_nat .i64 63 (by decide) wraps_i64 x y (by omega) (by omega)).2
    have b2 := (bits_nat .i64 63 (by decide) wraps_i64 (x ||| y) 4 (Nat.or_lt_two_pow (by omega) (by omega)) (by decide)).2
    have b3 := (bits_nat .i64 63 (by decide) wraps_i64 4 y (by decide) (by omega)).2
    have b4 := (bits_nat .i64 63 (by decide) wraps_i64 x (4 ||| y) (by omega) (Nat.or_lt_two_pow (by decide) (by omega))).2
    rw [← hx, ← hy] at b1
    rw [← hy] at b3
    rw [← hx] at b4
    rw [s2] at b1
    rw [show ((4 : Nat) : Int) = 4 from rfl] at b2 b3
    rw [s3] at b3
    rw [← b1] at b2
    rw [← b3] at b4
    rw [b2, b4]
    congr 1
    rw [Nat.or_assoc, Nat.or_comm y 4]
   rw [s2, s3, s1, ← hsplit] at s4
   omega
  omega
theorem rmake_eq (h : Hdr) : tenementref1_Make.f 2 h.kind h.size h.tree h.neg = some (makeH h) := by
 have hno : mayH h = false → tenementref1_Make.j0 2 true h.kind h.size h.tree h.neg = some (makeH h) := fun hm => by
  rw [tenementref1_Make.j0, if_pos rfl]; unfold makeH; rw [hm]; rfl
 have hno' : ¬ mayH h = true → tenementref1_Make.j0 2 true h.kind h.size h.tree h.neg = some (makeH h) := fun hm => hno (by simpa using hm)
 unfold tenementref1_Make.f
 by_cases k0 : h.kind < 0
 ·rw [if_pos k0]; exact hno' (fun hm => by rw [mayH_iff] at hm; omega)
 rw [if_neg k0]
 by_cases k3 : h.kind > 3
 ·rw [if_pos k3]; exact hno' (fun hm => by rw [mayH_iff] at hm; omega)
 rw [if_neg k3]
 by_cases z0 : h.size < 0
 ·rw [if_pos z0]; exact hno' (fun hm => by rw [mayH_iff] at hm; omega)
 rw [if_neg z0]
 by_cases z3 : h.size ≥ 1048576
 ·rw [if_pos z3]; exact hno' (fun hm => by rw [mayH_iff] at hm; omega)
 rw [if_neg z3]
 by_cases t0 : h.tree < 0
 ·rw [if_pos t0]; exact hno' (fun hm => by rw [mayH_iff] at hm; omega)
 rw [if_neg t0]
 by_cases t3 : h.tree ≥ 1048576
 ·rw [decide_eq_true t3]; exact hno' (fun hm => by rw [mayH_iff] at hm; omega)
 rw [decide_eq_false t3]
 have hm : mayH h = true := by rw [mayH_iff]; omega
 rw [tenementref1_Make.j0, if_neg (by decide)]
 have hp := pack_bits h hm
 have hmk : makeH h = ofW 6 (packH h) := by unfold makeH; rw [if_pos hm]
 cases hn : h.neg with
 | true =>
  rw [hn, if_pos rfl] at hp
  rw [if_pos rfl, hp, rof_eq, hmk]; rfl
 | false =>
  rw [hn, if_neg (by decide)] at hp
  rw [if_neg (by decide), hp, rof_eq, hmk]; rfl
def readP (w : Int) : Int × Int × Int × Bool × Bool := match readH w with
 | some h => (h.kind, h.size, h.tree, h.neg, true)
 | none => (0, 0, 0, false, false)
theorem val_lt {w : Int} (h : okW w) : valW w < 576460752303423488 := by unfold valW; unfold okW at h; split <;> omega
theorem read_eq {w : Int} (hw : okW w) : word_Read.f w = some (readP w) := by
 unfold word_Read.f readP
 rw [val_eq hw, tag_eq hw]
 simp only [Option.bind_some]
 have hlt := val_lt hw
 by_cases ht : tagW w = 6
 ·rw [if_pos ht]
  by_cases h0 : valW w < 0
  ·rw [if_pos h0, show readH w = none from by unfold readH; rw [if_neg (by omega)]]
  rw [if_neg h0]
  by_cases h1 : valW w / 8796093022208 = 0
  ·have hr : readH w = some (unpackH (valW w)) := by unfold readH; rw [if_pos (by omega)]
   rw [if_pos h1, hr, i64_and3 (by omega) (by omega), i64_and1048575 (by omega) (by omega), i64_and1048575 (by omega) (by omega), i64_and1 (by omega) (by omega)]
   have e3 : valW w / 8388608 % 1048576 = valW w / 8388608 := by omega
   rw [e3]
   unfold unpackH
   by_cases hb : valW w / 4 % 2 = 1
   ·simp [hb]
   ·simp [hb]
  ·rw [if_neg h1, show readH w = none from by unfold readH; rw [if_neg (by omega)]]
 ·rw [if_neg ht, show readH w = none from by unfold readH; rw [if_neg (by omega)]]
theorem fields_eq (h : Hdr) : word_Fields.f h.kind h.size h.tree h.neg = some (fieldsH h) := by
 unfold word_Fields.f fieldsH
 split <;> first | rfl | (split <;> rfl)
theorem rmake_c (k z t : Int) (n : Bool) (r : Int) (w : World) (h : makeH ⟨k, z, t, n⟩ = r) : Calls Tryd.prog 26 #[.agg #[.int .i64 k, .int .i64 z, .int .i64 t, .bool n]] w fun e w' => e = .returned (.int .u64 r) ∧ Below w.heap.size w w' := tenementref1_Make.calls 2 k z t n r w (by rw [← h]; exact rmake_eq ⟨k, z, t, n⟩)
theorem read_c (x k z t : Int) (n ok : Bool) (w : World) (hx : okW x) (h : readP x = (k, z, t, n, ok)) : Calls Tryd.prog 69 #[.int .u64 x] w fun e w' => e = .returned (.tuple #[.agg #[.int .i64 k, .int .i64 z, .int .i64 t, .bool n], .bool ok]) ∧ Below w.heap.size w w' := word_Read.calls x k z t n ok w (by rw [read_eq hx, h])
theorem fields_c (k z t : Int) (n : Bool) (r : Int) (w : World) (h : fieldsH ⟨k, z, t, n⟩ = r) : Calls Tryd.prog 42 #[.agg #[.int .i64 k, .int .i64 z, .int .i64 t, .bool n]] w fun e w' => e = .returned (.int .i64 r) ∧ Below w.heap.size w w' := word_Fields.calls k z t n r w (by rw [← h]; exact fields_eq ⟨k, z, t, n⟩)
end Go.Proofs.YtjiaaefpepdoeaaDoor.Wd
namespace Go.Proofs.YtjiaaefpepdoeaaDoor
structure Cw (S : World → Prop) where
 val : World
 prop : S val
theorem wp_region_cls {P : Program} {S : World → Prop} {id : Nat} {Q : Exit → Act → World → Prop} {a : Act} {w : World} {l : List Oper} (hm : P.follows .mixedOrders = true) (hB : Region.lexB .any l.toArray = true) (hS : S { w with drawn := w.drawn + 1 })
  (h : Nonempty (Cw S) → wpQuiet P l.toArray (fun w' => ∃ x : Cw S, w' = x.val) (fun a' => ∀ w', (∃ x : Cw S, w' = x.val) → Q .normal a' w') l a) : (Code.region id l.toArray true).wp P Q a w :=
 wp_region_quiet (C := fun w' => ∃ x : Cw S, w' = x.val) hm hB ⟨⟨_, hS⟩, rfl⟩ (by simpa using h ⟨⟨_, hS⟩⟩)
theorem Cw.call {P : Program} {S : World → Prop} {f : FuncId} {args : Array Value} {v : Value} {w : World} {R : World → Prop} (h : Calls P f args w fun e w' => e = .returned v ∧ R w') (k : ∀ w', R w' → S w') :
 Calls P f args w fun e w' => e = .returned v ∧ ∃ x : Cw S, w' = x.val := h.mono fun _ w' ⟨he, hr⟩ => ⟨he, ⟨w', k w' hr⟩, rfl⟩
end Go.Proofs.YtjiaaefpepdoeaaDoor
namespace Go.Proofs.YtjiaaefpepdoeaaDoor
open Go.RowKit Md
set_option linter.unusedVariables false
structure Ar (T : TypeId) (w : World) (p : Nat) (v : Value) (ws : List Int) (size : Int) : Prop where
 blk : w.heap[p]? = some (.cells #[v, .int .i64 size] T (0, 0))
 own : Own w 39 v (uw ws)
 le : (ws.length : Int) ≤ size
 mx : size ≤ 1048576
 ok : okWs ws
 ty : T ≠ 39
section
variable {T : TypeId} {w w1 : World} {p : Nat} {v : Value} {ws : List Int} {size : Int} {S : Nat → Prop}
theorem Ar.lt (h : Ar T w p v ws size) : p < w.heap.size := (Array.getElem?_eq_some_iff.1 h.blk).1
theorem Ar.c0 (h : Ar T w p v ws size) : w.cell? ⟨p, 0, none⟩ = some v := by simp [World.cell?, h.blk]
theorem Ar.c1 (h : Ar T w p v ws size) : w.cell? ⟨p, 1, none⟩ = some (.int .i64 size) := by simp [World.cell?, h.blk]
theorem Ar.fz (h : Ar T w p v ws size) (i : Nat) : w.frozen? ⟨p, i, none⟩ = false := by simp [World.frozen?, h.blk]
theorem Ar.ne (h : Ar T w p v ws size) : ∀ i, InBlk v i → i ≠ p := by
 intro i hi e
 obtain ⟨cur, hc⟩ := h.own.elem i hi
 rw [e, h.blk] at hc
 simp at hc
 exact h.ty hc.2
theorem Ar.keep (h : Ar T w p v ws size) (hf : Fr w w1 S) (hp : ¬ S p) (hn : ∀ i, InBlk v i → ¬ S i) : Ar T w1 p v ws size :=
 ⟨hf.blk h.blk hp, h.own.keep hf hn, h.le, h.mx, h.ok, h.ty⟩
theorem Ar.form (h : Ar T w p v ws size) : (v = .slice none 0 0 ∧ ws = []) ∨ ∃ g cap, v = .slice (some ⟨g, 0, none⟩) ws.length cap ∧ ws.length ≤ cap ∧ cap ≤ maxLen ∧ g < w.heap.size ∧ g ≠ p ∧ (∀ i, i < ws.length → w.cell? ⟨g, i, none⟩ = some (.int .u64 (ws.getD i 0))) ∧ ∀ i, w.frozen? ⟨g, i, none⟩ = false := by
 rcases h.own.form with ⟨hv, hx⟩ | ⟨g, cap, hv, hl, hm, hg, hc, hf⟩
 ·refine .inl ⟨hv, ?_⟩
  have : (uw ws).length = 0 := by rw [hx]; rfl
  rw [uw_length] at this
  exact List.eq_nil_of_length_eq_zero this
 ·rw [uw_length] at hv hl hc
  refine .inr ⟨g, cap, hv, hl, hm, hg, h.ne g (by rw [hv]; simp [InBlk, Value.ownBlock]), fun i hi => ?_, hf⟩
  rw [hc i hi]
  simp [uw, List.getD, hi]
theorem Ar.val (h : Ar T w p v ws size) : ∃ A cap, v = .slice A ws.length cap := by
 rcases h.form with ⟨rfl, rfl⟩ | ⟨g, cap, rfl, _⟩
 ·exact ⟨none, 0, rfl⟩
 ·exact ⟨_, _, rfl⟩
end
theorem in_c (p : Nat) (v : Value) (ws : List Int) (size i : Int) (w : World) (b : Bool) (h : Ar 112 w p v ws size) (hb : decide (0 ≤ i ∧ i < ws.length) = b) :
  Calls Tryd.prog 68 #[.pointer (some ⟨p, 0, none⟩), .int .i64 i] w fun e w' => e = .returned (.bool b) ∧ w = w' := by
 obtain ⟨A, cap, rfl⟩ := h.val
 have c0 := h.c0
 by_cases h0 : i < 0
 ·have e : b = false := by rw [← hb]; simp; omega
  subst e
  clear hb h
  go_enter Tryd.func68, Tryd.ntmps68
  go_wp2
  go_ret
  exact ⟨rfl, rfl⟩
 by_cases h1 : i < ws.length
 ·have e : b = true := by rw [← hb]; simp; omega
  subst e
  clear hb h
  have h0' : 0 ≤ i := by omega
  have d1 : decide (i < (ws.length : Int)) = true := by simpa using h1
  go_enter Tryd.func68, Tryd.ntmps68
  go_wp2
  go_ret
  exact ⟨by first | rfl | simp [h1], rfl⟩
 ·have e : b = false := by rw [← hb]; simp; omega
  subst e
  clear hb h
  have h0' : 0 ≤ i := by omega
  have d1 : decide (i < (ws.length : Int)) = false := by simpa using h1
  go_enter Tryd.func68, Tryd.ntmps68
  go_wp2
  go_ret
  exact ⟨by first | rfl | simp [h1], rfl⟩
theorem rdAt_some {xs : List Int} {i r : Int} (h : rdAt xs i = some r) : ∃ k : Nat, i = k ∧ k < xs.length ∧ xs.getD k 0 = r := by
 unfold rdAt at h
 split at h
 ·rename_i hc
  obtain ⟨k, rfl⟩ := Int.eq_ofNat_of_zero_le hc.1
  exact ⟨k, rfl, by omega, by simpa using h⟩
 ·cases h
theorem rdAt_none {xs : List Int} {i : Int} (h : rdAt xs i = none) : ¬ (0 ≤ i ∧ i < xs.length) := by
 unfold rdAt at h
 split at h
 ·cases h
 ·assumption
theorem get_c (p : Nat) (v : Value) (ws : List Int) (size i r : Int) (w : World) (h : Ar 112 w p v ws size) (hr : rdAt ws i = some r) :
  Calls Tryd.prog 43 #[.pointer (some ⟨p, 0, none⟩), .int .i64 i] w fun e w' => e = .returned (.tuple #[.int .u64 r, .bool true]) ∧ w = w' := by
 obtain ⟨k, rfl, hk, hkr⟩ := rdAt_some hr
 rcases h.form with ⟨_, rfl⟩ | ⟨g, cap, rfl, hl, hm, hg, hgp, hc, hf⟩
 ·simp at hk
 have c0 := h.c0
 have ck := hc k hk
 rw [hkr] at ck
 have H := Lib.hid h
 clear h hc hf hkr hr hgp hg hm
 go_enter Tryd.func43, Tryd.ntmps43
 go_wp2_with (first | (go_at_call 68; (with_reducible refine (in_c p _ ws size k _ true H.out (by simp; omega)).mono ?_); rintro e w' ⟨rfl, rfl⟩))
 go_ret2
 exact ⟨rfl, rfl⟩
theorem used_c (p : Nat) (v : Value) (ws : List Int) (size : Int) (w : World) (h : Ar 112 w p v ws size) :
  Calls Tryd.prog 21 #[.pointer (some ⟨p, 0, none⟩)] w fun e w' => e = .returned (.int .i64 ws.length) ∧ w = w' := by
 obtain ⟨A, cap, rfl⟩ := h.val
 have c0 := h.c0
 clear h
 go_enter Tryd.func21, Tryd.ntmps21
 go_wp2
 go_ret
 exact ⟨rfl, rfl⟩
theorem okWs_set {ws : List Int} {k : Nat} {x : Int} (h : okWs ws) (hx : okW x) : okWs (ws.set k x) := by
 intro y hy
 rcases List.mem_or_eq_of_mem_set hy with h1 | h1
 ·exact h y h1
 ·rw [h1]; exact hx
theorem Ar.set {T : TypeId} {w : World} {p g cap : Nat} {ws : List Int} {size x : Int} {k : Nat} (h : Ar T w p (.slice (some ⟨g, 0, none⟩) ws.length cap) ws size) (hk : k < ws.length) (hx : okW x) :
  Ar T (w.setCell ⟨g, k, none⟩ (.int .u64 x)) p (.slice (some ⟨g, 0, none⟩) ws.length cap) (ws.set k x) size ∧ Fr w (w.setCell ⟨g, k, none⟩ (.int .u64 x)) (fun i => i = g) := by
 have hgp : g ≠ p := h.ne g (by simp [InBlk, Value.ownBlock])
 have hfr : Fr w (w.setCell ⟨g, k, none⟩ (.int .u64 x)) (fun i => i = g) := Fr.setCell (S := fun i => i = g) (a := ⟨g, k, none⟩) (Fr.refl w _) (fun _ => rfl) _
 refine ⟨⟨hfr.blk h.blk (fun e => hgp e.symm), ?_, by simpa using h.le, h.mx, okWs_set h.ok hx, h.ty⟩, hfr⟩
 have ho := h.own
 rcases ho.2 with ⟨hv, _⟩ | ⟨g', cap', cur, hv, hb, hg, hl, hm, hs, ht⟩
 ·cases hv
 ·injection hv with h1 h2 h3
  injection h1 with h1
  injection h1 with h1
  subst h1
  subst h3
  refine ⟨by simp [uw], .inr ⟨g, cap, cur.setIfInBounds k (.int .u64 x), by simp [uw], Nat.zero_le _, ?_, by simpa [uw] using hl, hm, by simpa using hs, ?_⟩⟩
  ·simp [World.setCell, Array.getElem?_modify, hg]
  ·have e1 : (uw (ws.set k x)).length = (uw ws).length := by simp [uw]
   rw [e1]
   rw [Array.toList_setIfInBounds, List.take_set, ht]
   simp [uw, List.map_set]
theorem set_c (p : Nat) (v : Value) (ws : List Int) (size i x : Int) (w : World) (h : Ar 112 w p v ws size) (hx : okW x) (hi : 0 ≤ i ∧ i < ws.length) :
  Calls Tryd.prog 38 #[.pointer (some ⟨p, 0, none⟩), .int .i64 i, .int .u64 x] w fun e w' => e = .returned (.bool true) ∧ Ar 112 w' p v (wrAt ws i x) size ∧ Fr w w' (InBlk v) := by
 obtain ⟨k, rfl⟩ := Int.eq_ofNat_of_zero_le hi.1
 have hk : k < ws.length := by omega
 have e0 : wrAt ws k x = ws.set k x := by unfold wrAt; rw [if_pos hi]; simp
 rw [e0]
 rcases h.form with ⟨_, rfl⟩ | ⟨g, cap, rfl, hl, hm, hg, hgp, hc, hf⟩
 ·simp at hk
 have hs := h.set hk hx
 have c0 := h.c0
 have fk := hf k
 have ck := hc k hk
 have H := Lib.hid h
 have HS := Lib.hid hs
 clear h hc hf hgp hg hm hs hi e0 hx
 go_enter Tryd.func38, Tryd.ntmps38
 go_wp2_with (first | (go_at_call 68; (with_reducible refine (in_c p _ ws size k _ true H.out (by simp; omega)).mono ?_); rintro e w' ⟨rfl, rfl⟩))
 go_ret
 exact ⟨rfl, HS.out.1, HS.out.2.mono fun i hi _ => by simp [InBlk, Value.ownBlock, hi]⟩
def newSize (n : Int) : Int := if n < 0 ∨ n > 1048576 then 0 else n
theorem new_c (n : Int) (w : World) : Calls Tryd.prog 36 #[.int .i64 n] w fun e w' => e = .returned (.pointer (some ⟨w.heap.size, 0, none⟩)) ∧ Ar 112 w' w.heap.size (.slice none 0 0) [] (newSize n) ∧ Fr w w' (fun _ => False) := by
 have key : ∀ m : Int, 0 ≤ m → m ≤ 1048576 → Ar 112 (w.alloc (.cells #[.slice none 0 0, .int .i64 m] 112)) w.heap.size (.slice none 0 0) [] m ∧ Fr w (w.alloc (.cells #[.slice none 0 0, .int .i64 m] 112)) (fun _ => False) := fun m h0 h1 =>
  ⟨⟨heap_alloc_new w _, Own.nil _ _, by simpa using h0, h1, (fun _ h => by cases h), by decide⟩, (Fr.refl w _).alloc _⟩
 by_cases h0 : n < 0
 ·have K := Lib.hid (key 0 (by omega) (by omega))
  have e : newSize n = 0 := by unfold newSize; rw [if_pos (.inl h0)]
  rw [e]; clear e key
  go_enter Tryd.func36, Tryd.ntmps36
  go_wp2
  go_ret
  exact ⟨rfl, K.out⟩
 by_cases h1 : n > 1048576
 ·have K := Lib.hid (key 0 (by omega) (by omega))
  have e : newSize n = 0 := by unfold newSize; rw [if_pos (.inr h1)]
  rw [e]; clear e key
  go_enter Tryd.func36, Tryd.ntmps36
  go_wp2
  go_ret
  exact ⟨rfl, K.out⟩
 ·have K := Lib.hid (key n (by omega) (by omega))
  have e : newSize n = n := by unfold newSize; rw [if_neg (by omega)]
  rw [e]; clear e key
  have d1 : decide (1048576 < n) = false := by simp; omega
  go_enter Tryd.func36, Tryd.ntmps36
  go_wp2
  go_ret
  exact ⟨rfl, K.out⟩
end Go.Proofs.YtjiaaefpepdoeaaDoor
namespace Go.Proofs.YtjiaaefpepdoeaaDoor
open Go.RowKit
set_option linter.unusedVariables false
theorem zeroCells_one (z : Value) (n : Nat) : (Builtin.zeroCells #[z] n).toList = List.replicate n z := by
 simp only [Builtin.zeroCells]
 apply List.ext_getElem
 ·simp
 ·intro i h1 h2
  simp [Nat.mod_one]
theorem run_append_zeros {P : Program} (w : World) (t tn ty e : TypeId) (i : TypeInfo) (z : Value) (kn kq : IntKind) (ht : P.underlying t = some (.slice e)) (htn : P.underlying tn = some (.int kn)) (hi : P.info? e = some i) (hz : i.zero = some z)
  (hsz : i.size = 1) (hby : i.bytes ≤ 8) (hz1 : z.cells = #[z]) (hone : z.oneCell' = true) (v : Value) (xs : List Value) (hown : Own w e v xs) (n : Nat) (hb : xs.length + n ≤ 1073741824) :
  ∃ v' w', (Builtin.append_ #[t, tn] ty #[v, .int kq n]).run P w = .ok v' w' ∧ Own w' e v' (xs ++ List.replicate n z) ∧ w.grownBy w' v.ownBlock ∧ ∀ k, InBlk v' k → InBlk v k ∨ w.heap.size ≤ k := by
 have hlen : (xs ++ List.replicate n z).length = (xs ++ List.replicate n z).length * 1 := by omega
 have hl2 : (xs ++ List.replicate n z).length = xs.length + n := by simp
 have hw : IntKind.i64.wrap (n : Int) = n := by rw [IntKind.wrap_i64]; omega
 have hneg : ¬ ((n : Int) < 0) := by omega
 have h48i : ¬ (281474976710656 < (n : Int) * (i.bytes : Int)) := by
  rw [← Int.natCast_mul]
  have : n * i.bytes ≤ n * 8 := Nat.mul_le_mul_left n hby
  omega
 by_cases hn : n = 0
 ·subst hn
  refine ⟨v, w, ?_, by simpa using hown, World.grownBy.refl _ _, fun k hk => .inl hk⟩
  rcases hown.2 with ⟨rfl, _⟩ | ⟨g, cap, cur, rfl, _, hg, hl, _⟩
  ·simp [Builtin.append_, run_underlying ht, run_underlying htn, sizeOf, typeInfo, hi, asInt, asIntOf, IntKind.wrap_i64]
  ·have hst := run_storeCells_at P g (xs.length * i.size) e [] 0 cur w hg (by simp [hsz]; omega) (by simp)
   simp [Builtin.append_, run_underlying ht, run_underlying htn, sizeOf, typeInfo, hi, asInt, asIntOf, IntKind.wrap_i64, hl, Addr.add_lit, storeCells]
 have hpos : 0 < n := by omega
 have hns : ¬ (n * i.size = 0) := by rw [hsz]; omega
 have hk48 : n * i.bytes ≤ 281474976710656 := by
  have : n * i.bytes ≤ n * 8 := Nat.mul_le_mul_left n hby
  omega
 have grown : ∀ (old : Nat) (row : Option Nat), old < xs.length + n →
   Own (w.drew.alloc (.cells (xs.toArray ++ Builtin.zeroCells z.cells n ++ Builtin.zeroCells z.cells (grownCap w (xs.length + n) old e - (xs.length + n))) e)) e
    (.slice (some ⟨w.heap.size, 0, none⟩) (xs.length + n) (grownCap w (xs.length + n) old e)) (xs ++ List.replicate n z) ∧
   w.grownBy (w.drew.alloc (.cells (xs.toArray ++ Builtin.zeroCells z.cells n ++ Builtin.zeroCells z.cells (grownCap w (xs.length + n) old e - (xs.length + n))) e)) row := by
  intro old row ho
  have hge := grownCap_ge w (xs.length + n) old e
  have hcm : grownCap w (xs.length + n) old e ≤ maxLen := grownCap_le_maxLen w (xs.length + n) old e (by simp only [maxLen]; omega)
  refine ⟨⟨hlen, .inr ⟨w.heap.size, _, _, by rw [hl2], Nat.zero_le _, heap_alloc_new w.drew _, by rw [hl2]; exact hge, hcm, ?_, ?_⟩⟩, ⟨rfl, rfl, rfl, by simp, fun k hk _ => heap_alloc_old w.drew _ hk⟩⟩
  ·simp only [Array.size_append, List.size_toArray, size_zeroCells, hz1]
   simp
   omega
  ·rw [hz1, Nat.mul_one]
   simp only [Array.toList_append, zeroCells_one]
   exact List.take_left
 rcases hown.2 with ⟨rfl, h0⟩ | ⟨g, cap, cur, rfl, hb0, hg, hnc, hcm, hcs, htake⟩
 ·have hx : xs = [] := List.eq_nil_of_length_eq_zero h0
  subst hx
  have hr := Lib.run_append_nil_zeros (P := P) w t tn ty e i z kq kn ht htn hi hz n hpos (by omega) (by omega) hk48
  have hgr := grown 0 (Value.ownBlock (.slice none 0 0)) (by simp; omega)
  simp only [List.length_nil, Nat.zero_add, List.nil_append, Array.empty_append] at hgr ⊢
  exact ⟨_, _, hr, hgr.1, hgr.2, fun k hk => .inr (by simp [InBlk, Value.ownBlock] at hk; omega)⟩
 ·by_cases hroom : xs.length + n ≤ cap
  ·have hst := run_storeCells_at P g (xs.length * i.size) e (List.replicate n z) 0 cur w hg (by simp [hsz]; omega) (by simp [hone])
   simp only [hsz, Nat.mul_one, Nat.add_zero, List.length_replicate] at hst htake hcs
   have hlt : (cur.toList.take xs.length).length = xs.length := by simp; omega
   have hown2 : Own (w.setRow g (cur.toList.take xs.length ++ List.replicate n z ++ cur.toList.drop (xs.length + n)).toArray) e (.slice (some ⟨g, 0, none⟩) (xs.length + n) cap) (xs ++ List.replicate n z) := by
    refine ⟨hlen, .inr ⟨g, cap, _, by rw [hl2], Nat.zero_le _, setRow_heap w g cur _ e _ hg, by rw [hl2]; exact hroom, hcm, ?_, ?_⟩⟩
    ·simp; omega
    ·rw [Nat.mul_one, hl2, htake]
     have h3 : (xs ++ List.replicate n z).length = xs.length + n := hl2
     rw [← h3]
     exact List.take_left
   refine ⟨.slice (some ⟨g, 0, none⟩) (xs.length + n) cap, w.setRow g (cur.toList.take xs.length ++ List.replicate n z ++ cur.toList.drop (xs.length + n)).toArray, ?_, hown2,
    ⟨rfl, rfl, rfl, by simp, fun k _ hk => setRow_other w g k _ (fun e => hk (by simp [Value.ownBlock, e]))⟩, fun k hk => .inl (by simpa [InBlk, Value.ownBlock] using hk)⟩
   have hz2 : (Builtin.zeroCells #[z] n).toList = List.replicate n z := zeroCells_one z n
   simp [Builtin.append_, run_underlying ht, run_underlying htn, sizeOf, typeInfo, zeroValue, hi, hz, hsz, asInt, asIntOf, hw, hn, hneg, h48i, hroom, Addr.add_lit, hz1, hz2, hst]
  ·have holds : ∀ j u, xs[j]? = some u → w.cell? ((⟨g, 0, none⟩ : Addr).add j) = some u := World.ownsRow.cells hown (g := g) rfl
   have hf := run_firstCells_some (P := P) w.drew i.size xs.length ⟨g, 0, none⟩ xs.length cap xs (by rw [hsz]; omega) (fun j u hj => holds j u hj)
   have hr := Lib.run_append_grow_zeros (P := P) w t tn ty e i z kq kn ht htn hi hz (some ⟨g, 0, none⟩) xs.length cap xs hf n hpos (by omega) (by omega) (by omega) hk48 (growslice_fits (by omega) (by
    have : (xs.length + n) * i.bytes ≤ (xs.length + n) * 8 := Nat.mul_le_mul_left _ hby
    omega))
   have hgr := grown cap (Value.ownBlock (.slice (some ⟨g, 0, none⟩) xs.length cap)) (by omega)
   exact ⟨_, _, hr, hgr.1, hgr.2, fun k hk => .inr (by simp [InBlk, Value.ownBlock] at hk; omega)⟩
end Go.Proofs.YtjiaaefpepdoeaaDoor
namespace Go.Proofs.YtjiaaefpepdoeaaDoor
open Go.RowKit Md
set_option linter.unusedVariables false
def Drawn (w w' : World) : Prop := ∃ n, w' = w.drewN n
theorem wordInfo : (Tryd.prog.info? 39).map (fun i => (i.zero, i.size, i.bytes)) = some (some (.int .u64 0), 1, 8) := by kernel_rfl
theorem uw_append (a b : List Int) : uw (a ++ b) = uw a ++ uw b := by simp [uw]
theorem uw_replicate (n : Nat) : uw (List.replicate n 0) = List.replicate n (.int .u64 0) := by simp [uw]
theorem okWs_append {a b : List Int} (ha : okWs a) (hb : okWs b) : okWs (a ++ b) := fun x hx => (List.mem_append.1 hx).elim (ha x) (hb x)
theorem okWs_zeros (n : Nat) : okWs (List.replicate n 0) := fun x hx => by
 have := (List.mem_replicate.1 hx).2
 subst this
 unfold okW
 omega
theorem Ar.store {T : TypeId} {w w1 : World} {p : Nat} {v v' : Value} {ws ws' : List Int} {size : Int} (h : Ar T w p v ws size) (hg : w.grownBy w1 v.ownBlock) (ho : Own w1 39 v' (uw ws')) (hl : (ws'.length : Int) ≤ size) (hk : okWs ws') (hn : ∀ k, InBlk v' k → InBlk v k ∨ w.heap.size ≤ k) :
  Ar T (w1.setCell ⟨p, 0, none⟩ v') p v' ws' size ∧ Fr w (w1.setCell ⟨p, 0, none⟩ v') (fun i => i = p ∨ InBlk v i) ∧ ∀ k, InBlk v' k → InBlk v k ∨ w.heap.size ≤ k := by
 have hpv : some p ≠ v.ownBlock := fun e => h.ne p e.symm rfl
 have hb1 : w1.heap[p]? = some (.cells #[v, .int .i64 size] T (0, 0)) := (hg.block p h.lt hpv).trans h.blk
 have hp1 : ∀ k, InBlk v' k → k ≠ p := fun k hk e => by
  obtain ⟨cur, hc⟩ := ho.elem k hk
  rw [e, hb1] at hc
  simp at hc
  exact h.ty hc.2
 refine ⟨⟨?_, ?_, hl, h.mx, hk, h.ty⟩, ?_, hn⟩
 ·simp [World.setCell, Array.getElem?_modify, hb1]
 ·refine ho.keep (S := fun i => i = p) (Fr.setCell (S := fun i => i = p) (a := ⟨p, 0, none⟩) (Fr.refl w1 _) (fun _ => rfl) _) (fun i hi => hp1 i hi)
 ·exact Fr.setCell (S := fun i => i = p ∨ InBlk v i) (a := ⟨p, 0, none⟩) (Fr.grown (Fr.refl w _) hg (fun k hk _ => .inr hk)) (fun _ => .inl rfl) _
theorem take_c (p : Nat) (v : Value) (ws : List Int) (size : Int) (n : Nat) (w : World) (h : Ar 112 w p v ws size) (hn : (n : Int) ≤ size - ws.length) :
  Calls Tryd.prog 37 #[.pointer (some ⟨p, 0, none⟩), .int .i64 n] w fun e w' => e = .returned (.tuple #[.int .i64 ws.length, .bool true]) ∧
   ∃ v', Ar 112 w' p v' (ws ++ List.replicate n 0) size ∧ Fr w w' (fun i => i = p ∨ InBlk v i) ∧ ∀ k, InBlk v' k → InBlk v k ∨ w.heap.size ≤ k := by
 obtain ⟨A, cap, rfl⟩ := h.val
 have c0 := h.c0
 have c1 := h.c1
 have hle := h.le
 have hmx := h.mx
 have d0 : decide ((n : Int) < 0) = false := decide_eq_false (by omega)
 have d1 : decide (size - (ws.length : Int) < (n : Int)) = false := decide_eq_false (by omega)
 have hw1 : wrap64 (size - (ws.length : Int)) = size - ws.length := by unfold wrap64; omega
 have hw2 : IntKind.i64.wrap (size - (ws.length : Int)) = size - ws.length := by rw [IntKind.wrap_i64]; omega
 have H := Lib.hid h
 clear h hle
 have HN := Lib.hid hn
 clear hn
 go_enter Tryd.func37, Tryd.ntmps37
 go_wp2
 go_quiet (fail)
 obtain ⟨i0, hi, hz0, hz1, hz2⟩ := info_parts wordInfo
 have hd : Ar 112 (w.drewN nq) p (.slice A ws.length cap) ws size := ⟨H.out.blk, H.out.own, H.out.le, H.out.mx, H.out.ok, H.out.ty⟩
 obtain ⟨v', w1, hr, ho, hg, hnn⟩ := run_append_zeros (P := Tryd.prog) (w.drewN nq) 44 3 44 39 i0 (.int .u64 0) .i64 .i64 Tryd.underlying44 Tryd.underlying3 hi hz0 hz1 (by omega) rfl rfl (.slice A ws.length cap) (uw ws) hd.own n (by have := HN.out; have := hd.mx; rw [uw_length]; omega)
 rw [← uw_replicate, ← uw_append] at ho
 have hst := hd.store hg ho (by have := HN.out; simp; omega) (okWs_append hd.ok (okWs_zeros n)) hnn
 have k0 : w1.cell? ⟨p, 0, none⟩ = some (.slice A ws.length cap) := hg.cell hd.c0 (fun e => hd.ne p e.symm rfl)
 have kf : w1.frozen? ⟨p, 0, none⟩ = false := (World.frozen?_of_block (hg.block p hd.lt (fun e => hd.ne p e.symm rfl))).trans (hd.fz 0)
 have HR := Lib.hid hr
 have HS := Lib.hid hst
 have hform := ho.form
 clear hr hst hg hnn hi hz0 hz1 hz2 ho hd c1 hw1 hw2 d0 d1 hmx
 rcases hform with ⟨rfl, _⟩ | ⟨g, cp, rfl, _⟩
 all_goals
  go_wp2_with (at_builtin; refine Lib.wpList_append_run _ rfl _ _ _ _ rfl _ _ rfl rfl _ w1 HR.out ?_)
  go_ret2
  exact ⟨rfl, _, HS.out.1, ((Fr.refl w _).drewN nq).trans HS.out.2.1, HS.out.2.2⟩
theorem take_len {α : Type} (l : List α) (n : Nat) (h : n ≤ l.length) : (l.take n).length = n := by simp; omega
end Go.Proofs.YtjiaaefpepdoeaaDoor
namespace Go.Proofs.YtjiaaefpepdoeaaDoor
open Go.RowKit Md
set_option linter.unusedVariables false
theorem mnew_c (n : Int) (w : World) : Calls Tryd.prog 8 #[.int .i64 n] w fun e w' => e = .returned (.pointer (some ⟨w.heap.size, 0, none⟩)) ∧ Ar 46 w' w.heap.size (.slice none 0 0) [] (newSize n) ∧ Fr w w' (fun _ => False) := by
 have key : ∀ m : Int, 0 ≤ m → m ≤ 1048576 → Ar 46 (w.alloc (.cells #[.slice none 0 0, .int .i64 m] 46)) w.heap.size (.slice none 0 0) [] m ∧ Fr w (w.alloc (.cells #[.slice none 0 0, .int .i64 m] 46)) (fun _ => False) := fun m h0 h1 =>
  ⟨⟨heap_alloc_new w _, Own.nil _ _, by simpa using h0, h1, (fun _ h => by cases h), by decide⟩, (Fr.refl w _).alloc _⟩
 by_cases h0 : n < 0
 ·have K := Lib.hid (key 0 (by omega) (by omega))
  have e : newSize n = 0 := by unfold newSize; rw [if_pos (.inl h0)]
  rw [e]; clear e key
  go_enter Tryd.func8, Tryd.ntmps8
  go_wp2
  go_ret
  exact ⟨rfl, K.out⟩
 by_cases h1 : n > 1048576
 ·have K := Lib.hid (key 0 (by omega) (by omega))
  have e : newSize n = 0 := by unfold newSize; rw [if_pos (.inr h1)]
  rw [e]; clear e key
  go_enter Tryd.func8, Tryd.ntmps8
  go_wp2
  go_ret
  exact ⟨rfl, K.out⟩
 ·have K := Lib.hid (key n (by omega) (by omega))
  have e : newSize n = n := by unfold newSize; rw [if_neg (by omega)]
  rw [e]; clear e key
  have d1 : decide (1048576 < n) = false := by simp; omega
  go_enter Tryd.func8, Tryd.ntmps8
  go_wp2
  go_ret
  exact ⟨rfl, K.out⟩
end Go.Proofs.YtjiaaefpepdoeaaDoor
namespace Go.Proofs.YtjiaaefpepdoeaaDoor
open Go.RowKit
set_option linter.unusedVariables false
def Rd (w : World) (v : Value) (xs : List Value) : Prop :=
 (xs = [] ∧ ∃ A cap, v = .slice A 0 cap ∧ (A = none → cap = 0)) ∨
 ∃ b off cap, v = .slice (some ⟨b, off, none⟩) xs.length cap ∧ 0 < xs.length ∧ xs.length ≤ cap ∧ cap ≤ maxLen ∧ b < w.heap.size ∧ ∀ i, i < xs.length → w.cell? ⟨b, off + i, none⟩ = xs[i]?
section
variable {w w1 : World} {e : TypeId} {v : Value} {xs ys : List Value} {S : Nat → Prop}
theorem Rd.keep (h : Rd w v xs) (hf : Fr w w1 S) (hn : ∀ i, InBlk v i → ¬ S i) : Rd w1 v xs := by
 rcases h with h | ⟨b, off, cap, rfl, h0, hl, hm, hb, hc⟩
 ·exact .inl h
 ·refine .inr ⟨b, off, cap, rfl, h0, hl, hm, Nat.lt_of_lt_of_le hb hf.size, fun i hi => ?_⟩
  have := hc i hi
  rw [List.getElem?_eq_getElem hi] at this ⊢
  exact hf.cell this (hn b (by simp [InBlk, Value.ownBlock]))
theorem Own.rd (h : Own w e v xs) : Rd w v xs := by
 rcases h.form with ⟨rfl, rfl⟩ | ⟨g, cap, rfl, hl, hm, hg, hc, hf⟩
 ·exact .inl ⟨rfl, none, 0, rfl, fun _ => rfl⟩
 ·by_cases h0 : xs.length = 0
  ·have hx : xs = [] := List.eq_nil_of_length_eq_zero h0
   exact .inl ⟨hx, some ⟨g, 0, none⟩, cap, by rw [h0], fun e => by cases e⟩
  ·exact .inr ⟨g, 0, cap, rfl, by omega, hl, hm, hg, fun i hi => by rw [Nat.zero_add]; exact hc i hi⟩
theorem Rd.len (h : Rd w v xs) : ∃ A cap, v = .slice A xs.length cap := by
 rcases h with ⟨rfl, A, cap, rfl, _⟩ | ⟨b, off, cap, rfl, _⟩
 ·exact ⟨A, cap, rfl⟩
 ·exact ⟨_, _, rfl⟩
theorem Rd.lt (h : Rd w v xs) (h0 : 0 < xs.length) : ∀ i, InBlk v i → i < w.heap.size := by
 rcases h with ⟨rfl, _⟩ | ⟨b, off, cap, rfl, _, _, _, hb, _⟩
 ·simp at h0
 ·intro i hi; simp [InBlk, Value.ownBlock] at hi; omega
end
theorem oneCell_all {k : IntKind} (zs : List Int) : ∀ u ∈ zs.map (Value.int k), u.oneCell' = true := ints_oneCell k zs
theorem run_append_rd {P : Program} (w : World) (t ty e : TypeId) (i : TypeInfo) (z : Value) (ht : P.underlying t = some (.slice e)) (hi : P.info? e = some i) (hz : i.zero = some z)
  (hsz : i.size = 1) (hby : i.bytes ≤ 64) (hz1 : z.cells.size = 1) (s v : Value) (ys xs : List Value) (hs : Own w e s ys) (hv : Rd w v xs) (h1 : ∀ u ∈ xs, u.oneCell' = true) (hb : ys.length + xs.length ≤ 1073741824) :
  ∃ v' w', (Builtin.append_ #[t, t] ty #[s, v]).run P w = .ok v' w' ∧ Own w' e v' (ys ++ xs) ∧ w.grownBy w' s.ownBlock ∧ (∀ k, InBlk v' k → InBlk s k ∨ w.heap.size ≤ k) := by
 have hlen : (ys ++ xs).length = (ys ++ xs).length * 1 := by omega
 have hl2 : (ys ++ xs).length = ys.length + xs.length := by simp
 rcases hv with ⟨rfl, A, cap, rfl, hA⟩ | ⟨b, off, cap, rfl, h0, hl, hm, hbb, hc⟩
 ·refine ⟨s, w, ?_, by simpa using hs, World.grownBy.refl _ _, fun k hk => .inl hk⟩
  rcases hs.2 with ⟨rfl, _⟩ | ⟨g, cp, cur, rfl, _, hg, hlc, _⟩
  ·cases A with
   | none => simp [Builtin.append_, run_underlying ht, sizeOf, typeInfo, hi, Builtin.lenOf, Builtin.firstCells]
   | some a => simp [Builtin.append_, run_underlying ht, sizeOf, typeInfo, hi, Builtin.lenOf, Builtin.firstCells, loadCells, loadCellsFrom]
  ·cases A with
   | none => simp [Builtin.append_, run_underlying ht, sizeOf, typeInfo, hi, Builtin.lenOf, Builtin.firstCells, hlc, storeCells]
   | some a => simp [Builtin.append_, run_underlying ht, sizeOf, typeInfo, hi, Builtin.lenOf, Builtin.firstCells, hlc, storeCells, loadCells, loadCellsFrom]
 have hnews : ∀ j u, xs[j]? = some u → w.cell? ((⟨b, off, none⟩ : Addr).add j) = some u := fun j u hj => by
  have hjl : j < xs.length := (List.getElem?_eq_some_iff.1 hj).1
  rw [Addr.add_lit, hc j hjl, hj]
 have hxl : xs.length = xs.length * i.size := by rw [hsz]; omega
 have hfit : (ys.length + xs.length) * i.bytes ≤ 140737488355328 := by
  have : (ys.length + xs.length) * i.bytes ≤ (ys.length + xs.length) * 64 := Nat.mul_le_mul_left _ hby
  omega
 have grown : ∀ (old : Nat) (row : Option Nat), old < ys.length + xs.length →
   Own (w.drew.alloc (.cells (ys.toArray ++ xs.toArray ++ Builtin.zeroCells z.cells (grownCap w (ys.length + xs.length) old e - (ys.length + xs.length))) e)) e
    (.slice (some ⟨w.heap.size, 0, none⟩) (ys.length + xs.length) (grownCap w (ys.length + xs.length) old e)) (ys ++ xs) ∧
   w.grownBy (w.drew.alloc (.cells (ys.toArray ++ xs.toArray ++ Builtin.zeroCells z.cells (grownCap w (ys.length + xs.length) old e - (ys.length + xs.length))) e)) row := by
  intro old row ho
  have hge := grownCap_ge w (ys.length + xs.length) old e
  have hcm : grownCap w (ys.length + xs.length) old e ≤ maxLen := grownCap_le_maxLen w (ys.length + xs.length) old e (by simp only [maxLen]; omega)
  refine ⟨⟨hlen, .inr ⟨w.heap.size, _, _, by rw [hl2], Nat.zero_le _, heap_alloc_new w.drew _, by rw [hl2]; exact hge, hcm, ?_, ?_⟩⟩, ⟨rfl, rfl, rfl, by simp, fun k hk _ => heap_alloc_old w.drew _ hk⟩⟩
  ·simp only [Array.size_append, List.size_toArray, size_zeroCells, hz1]
   omega
  ·rw [Nat.mul_one]
   simp only [Array.toList_append]
   exact List.take_left
 rcases hs.2 with ⟨rfl, hy0⟩ | ⟨g, cp, cur, rfl, _, hg, hlc, hcm, hcs, htk⟩
 ·have hy : ys = [] := List.eq_nil_of_length_eq_zero hy0
  subst hy
  have hr := run_append_nil (P := P) w t ty e i z ht hi hz ⟨b, off, none⟩ xs.length cap xs hxl hnews h0 (by omega) (by simp only [List.length_nil, Nat.zero_add] at hfit; omega)
  have hgr := grown 0 (Value.ownBlock (.slice none 0 0)) (by simp; omega)
  simp only [List.length_nil, Nat.zero_add, List.nil_append, Array.empty_append] at hgr ⊢
  exact ⟨_, _, hr, hgr.1, hgr.2, fun k hk => .inr (by simp [InBlk, Value.ownBlock] at hk; omega)⟩
 ·have hcs' : cur.size = cp := by rw [hcs]; omega
  by_cases hroom : ys.length + xs.length ≤ cp
  ·have hr := run_append_room (P := P) w t ty e i ht hi g ys.length cp cur hg ⟨b, off, none⟩ xs.length cap xs hxl hnews h1 hroom (by rw [hsz]; omega)
   refine ⟨_, _, hr, ⟨hlen, .inr ⟨g, cp, _, by rw [hl2], Nat.zero_le _, setRow_heap w g cur _ e _ hg, by rw [hl2]; exact hroom, hcm, ?_, ?_⟩⟩,
    ⟨rfl, rfl, rfl, by simp, fun k _ hk => setRow_other w g k _ (fun e => hk (by simp [Value.ownBlock, e]))⟩, fun k hk => .inl (by simpa [InBlk, Value.ownBlock] using hk)⟩
   ·simp [hsz]; omega
   ·rw [Nat.mul_one] at htk
    rw [Nat.mul_one, hl2, hsz, Nat.mul_one, htk, ← hl2]
    exact List.take_left
  ·have holds : ∀ j u, ys[j]? = some u → w.cell? ((⟨g, 0, none⟩ : Addr).add j) = some u := World.ownsRow.cells hs (g := g) rfl
   have hr := run_append_grow (P := P) w t ty e i z ht hi hz ⟨g, 0, none⟩ ys.length cp ys (by rw [hsz]; omega) holds ⟨b, off, none⟩ xs.length cap xs hxl hnews (by omega) (by omega) (growslice_fits (by omega) hfit)
   have hgr := grown cp (Value.ownBlock (.slice (some ⟨g, 0, none⟩) ys.length cp)) (by omega)
   exact ⟨_, _, hr, hgr.1, hgr.2, fun k hk => .inr (by simp [InBlk, Value.ownBlock] at hk; omega)⟩
end Go.Proofs.YtjiaaefpepdoeaaDoor
namespace Go.Proofs.YtjiaaefpepdoeaaDoor
open Go.RowKit Md
set_option linter.unusedVariables false
def New (w w' : World) (e : TypeId) (v : Value) (xs : List Value) : Prop := Own w' e v xs ∧ Fr w w' (fun _ => False) ∧ ∀ k, InBlk v k → w.heap.size ≤ k
theorem uw_one (ws : List Int) : ∀ u ∈ uw ws, u.oneCell' = true := oneCell_all ws
set_option maxRecDepth 100000 in
set_option maxHeartbeats 1000000 in
theorem clone_c (v : Value) (ws : List Int) (w : World) (h : Rd w v (uw ws)) (hb : ws.length ≤ 1073741824) :
  Calls Tryd.prog 56 #[v] w fun e w' => ∃ v', e = .returned v' ∧ New w w' 39 v' (uw ws) := by
 have key : ∀ v, Rd w v (uw ws) → ∃ v' w1, (Builtin.append_ #[44, 44] 44 #[.slice (some ⟨w.heap.size, 0, none⟩) 0 0, v]).run Tryd.prog (w.alloc (.cells #[] 39)) = .ok v' w1 ∧ New w w1 39 v' (uw ws) := by
  intro v h
  obtain ⟨i0, hi, hz0, hz1, hz2⟩ := info_parts wordInfo
  have hs : Own (w.alloc (.cells #[] 39)) 39 (.slice (some ⟨w.heap.size, 0, none⟩) 0 0) [] := World.ownsRow_made w #[] 0 (Nat.zero_le _) (Nat.zero_le _) rfl
  have hv : Rd (w.alloc (.cells #[] 39)) v (uw ws) := h.keep ((Fr.refl w (fun _ => False)).alloc _) (fun _ _ h => h)
  obtain ⟨v', w1, hr, ho, hg, hn⟩ := run_append_rd (P := Tryd.prog) _ 44 44 39 i0 (.int .u64 0) Tryd.underlying44 hi hz0 hz1 (by omega) rfl _ v [] (uw ws) hs hv (uw_one ws) (by rw [uw_length]; simp; omega)
  refine ⟨v', w1, hr, ho, ?_, fun k hk => ?_⟩
  ·exact ((Fr.refl w _).alloc _).grown hg (fun k hk hlt => by simp [Value.ownBlock] at hk; omega)
  ·rcases hn k hk with h1 | h1
   ·simp [InBlk, Value.ownBlock] at h1; omega
   ·simp at h1; omega
 have h2 := h
 rcases h with ⟨hx, A, cap, rfl, hA⟩ | ⟨b, off, cap, rfl, h0, hl, hm, hbb, hc⟩
 ·cases A with
  | none =>
   have hcap := hA rfl
   subst hcap
   clear key hA
   have HX := Lib.hid hx
   clear hx h2
   have hq : (binOp .eql 44 (.slice none 0 0) (.slice none 0 0)).run Tryd.prog w = .ok (.bool true) w := Lib.run_eql_slice_nil (P := Tryd.prog) w 44 39 (none) (0) (0) 0 0 Tryd.underlying44
   go_enter Tryd.func56, Tryd.ntmps56
   go_wp2
   go_ret
   exact ⟨_, rfl, by rw [HX.out]; exact Own.nil _ _, Fr.refl _ _, fun k hk => by simp [InBlk, Value.ownBlock] at hk⟩
  | some a =>
   obtain ⟨v', w1, hr, hnew⟩ := key _ h2
   have HR := Lib.hid hr
   have HN := Lib.hid hnew
   clear key hA hr hnew hx h2
   have hq : (binOp .eql 44 (.slice (some a) 0 cap) (.slice none 0 0)).run Tryd.prog w = .ok (.bool false) w := Lib.run_eql_slice_nil (P := Tryd.prog) w 44 39 ((some a)) (0) (cap) 0 0 Tryd.underlying44
   go_enter Tryd.func56, Tryd.ntmps56
   go_wp2_with (at_builtin; refine Lib.wpList_append_run _ rfl _ _ _ _ rfl _ _ rfl rfl _ w1 HR.out ?_)
   go_ret
   exact ⟨_, rfl, HN.out⟩
 ·obtain ⟨v', w1, hr, hnew⟩ := key _ h2
  have HR := Lib.hid hr
  have HN := Lib.hid hnew
  clear key hr hnew h2 hc hm
  have hq : (binOp .eql 44 (.slice (some ⟨b, off, none⟩) (uw ws).length cap) (.slice none 0 0)).run Tryd.prog w = .ok (.bool false) w := Lib.run_eql_slice_nil (P := Tryd.prog) w 44 39 ((some ⟨b, off, none⟩)) ((uw ws).length) (cap) 0 0 Tryd.underlying44
  go_enter Tryd.func56, Tryd.ntmps56
  go_wp2_with (at_builtin; refine Lib.wpList_append_run _ rfl _ _ _ _ rfl _ _ rfl rfl _ w1 HR.out ?_)
  go_ret
  exact ⟨_, rfl, HN.out⟩
theorem Drawn.refl (w : World) : Drawn w w := ⟨0, rfl⟩
theorem Drawn.step {w w' : World} (h : Drawn w w') (n : Nat) : Drawn w (w'.drewN n) := by
 obtain ⟨m, rfl⟩ := h
 exact ⟨m + n, World.drewN_drewN ..⟩
theorem Drawn.fr {w w' : World} (h : Drawn w w') (S : Nat → Prop) : Fr w w' S := by
 obtain ⟨m, rfl⟩ := h
 exact (Fr.refl w S).drewN m
theorem uw_get {ws : List Int} {k : Nat} (h : k < ws.length) : (uw ws)[k]? = some (.int .u64 (ws.getD k 0)) := by simp [uw, List.getD, h]
theorem take_eq_succ {xs ys : List Int} {k : Nat} (hx : k < xs.length) (hy : k < ys.length) (h : xs.take k = ys.take k) (e : xs.getD k 0 = ys.getD k 0) : xs.take (k + 1) = ys.take (k + 1) := by
 rw [List.take_succ_eq_append_getElem hx, List.take_succ_eq_append_getElem hy, h]
 simp [List.getD, hx, hy] at e
 rw [e]
end Go.Proofs.YtjiaaefpepdoeaaDoor
namespace Go.Proofs.YtjiaaefpepdoeaaDoor
open Go.RowKit Md
set_option linter.unusedVariables false
theorem take_i (p : Nat) (v : Value) (ws : List Int) (size n : Int) (w : World) (h : Ar 112 w p v ws size) (h0 : 0 ≤ n) (hn : n ≤ size - ws.length) :
  Calls Tryd.prog 37 #[.pointer (some ⟨p, 0, none⟩), .int .i64 n] w fun e w' => e = .returned (.tuple #[.int .i64 ws.length, .bool true]) ∧
   ∃ v', Ar 112 w' p v' (ws ++ List.replicate n.toNat 0) size ∧ Fr w w' (fun i => i = p ∨ InBlk v i) ∧ ∀ k, InBlk v' k → InBlk v k ∨ w.heap.size ≤ k := by
 obtain ⟨k, rfl⟩ := Int.eq_ofNat_of_zero_le h0
 exact take_c p v ws size k w h hn
def NewAr (T : TypeId) (w w' : World) (p : Nat) (v : Value) (ws : List Int) (size : Int) : Prop := Ar T w' p v ws size ∧ Fr w w' (fun _ => False) ∧ w.heap.size ≤ p ∧ ∀ k, InBlk v k → w.heap.size ≤ k
theorem newSize_of {n : Int} (h0 : 0 ≤ n) (h1 : n ≤ 1048576) : newSize n = n := by unfold newSize; rw [if_neg (by omega)]
theorem filled_step {l : List Int} {k : Nat} (h : k < l.length) : wrAt (l.take k ++ List.replicate (l.length - k) 0) k (l.getD k 0) = l.take (k + 1) ++ List.replicate (l.length - (k + 1)) 0 := by
 have hl : (l.take k ++ List.replicate (l.length - k) 0).length = l.length := by simp; omega
 unfold wrAt
 rw [if_pos ⟨by omega, by rw [hl]; omega⟩, Int.toNat_natCast]
 have hk : (l.take k).length = k := by simp; omega
 rw [List.set_append, if_neg (by omega), hk, Nat.sub_self]
 have e : l.length - k = (l.length - (k + 1)) + 1 := by omega
 rw [e, List.replicate_succ, List.set_cons_zero, List.take_succ_eq_append_getElem h, List.append_assoc]
 simp [List.getD, h]
theorem okWs_getD {l : List Int} (h : okWs l) (k : Nat) (hk : k < l.length) : okW (l.getD k 0) := by
 simp only [List.getD, List.getElem?_eq_getElem hk, Option.getD_some]
 exact h _ (List.getElem_mem hk)
set_option maxHeartbeats 1000000 in
theorem fill_c (v : Value) (l : List Int) (more : Int) (w : World) (h : Rd w v (uw l)) (hok : okWs l) (h0 : 0 ≤ more) (h1 : l.length + more ≤ 1048576) :
  Calls Tryd.prog 11 #[v, .int .i64 more] w fun e w' => ∃ p v', e = .returned (.pointer (some ⟨p, 0, none⟩)) ∧ NewAr 112 w w' p v' l (l.length + more) := by
 have hlt := fun h0 => h.lt h0
 have hsz : newSize (l.length + more) = l.length + more := newSize_of (by omega) h1
 have hsum : IntKind.i64.wrap ((l.length : Int) + more) = l.length + more := by rw [IntKind.wrap_i64]; omega
 have hsum2 : wrap64 ((l.length : Int) + more) = l.length + more := by unfold wrap64; omega
 have HSZ := Lib.hid hsz
 have HOK := Lib.hid hok
 have HR := Lib.hid h
 have HLT := Lib.hid hlt
 clear hsz hok hlt
 obtain ⟨A, cap, rfl⟩ := h.len
 clear h
 rw [uw_length]
 have hA : 0 < l.length → ∃ b off, A = some ⟨b, off, none⟩ ∧ ∀ i, i < l.length → w.cell? ⟨b, off + i, none⟩ = some (.int .u64 (l.getD i 0)) := by
  intro hp
  rcases HR.out with ⟨hx, _⟩ | ⟨b, off, c, e, _, _, _, _, hc⟩
  ·have := congrArg List.length hx; rw [uw_length] at this; simp at this; subst this; simp at hp
  ·injection e with e1 e2 e3
   exact ⟨b, off, e1, fun i hi => by rw [hc i (by rw [uw_length]; exact hi), uw_get hi]⟩
 by_cases hp : 0 < l.length
 ·obtain ⟨b, off, rfl, hc⟩ := hA hp
  have HC := Lib.hid hc
  have hbw : b < w.heap.size := HLT.out (by rw [uw_length]; exact hp) b (by simp [InBlk, Value.ownBlock])
  clear hA hc
  go_enter Tryd.func11, Tryd.ntmps11
  go_wp2_with (first | (go_at_call 36; (with_reducible refine (new_c _ _).mono ?_); rintro e w1 ⟨rfl, ha, hf⟩))
  rw [HSZ.out] at ha
  have HA := Lib.hid ha
  have HF := Lib.hid hf
  clear ha hf
  have htk : ((l.length : Nat) : Int) ≤ (l.length + more) - (([] : List Int).length : Int) := by simp; omega
  have HTK := Lib.hid htk
  clear htk
  go_wp2_with (first | (go_at_call 37; (with_reducible refine (take_c _ _ [] (l.length + more) l.length _ HA.out HTK.out).mono ?_); rintro e w2 ⟨rfl, v2, ha2, hf2, hn2⟩))
  simp only [List.nil_append] at ha2
  have hf02 : Fr w w2 (fun _ => False) := HF.out.then_ hf2 (fun i hi hlt => hi.elim (fun e => by omega) (fun e => by simp [InBlk, Value.ownBlock] at e))
  have hin2 : ∀ k, InBlk v2 k → w.heap.size ≤ k := fun k hk => (hn2 k hk).elim (fun e => by simp [InBlk, Value.ownBlock] at e) (fun e => Nat.le_trans HF.out.size e)
  have HA2 := Lib.hid ha2
  have HF2 := Lib.hid hf02
  have HI2 := Lib.hid hin2
  clear ha2 hf2 hn2 hf02 hin2 HA HF hsum hsum2
  have hlen : l.length ≤ 1048576 := by omega
  go_wp2
  go_loopw [6] (fun i wr => ∃ k : Nat, k ≤ l.length ∧ i = .int .i64 k ∧ Hid (Ar 112 wr w.heap.size v2 (l.take k ++ List.replicate (l.length - k) 0) (l.length + more)) ∧ Hid (Fr w wr (fun _ => False))) (fun i _ => l.length - (intOf i).toNat)
  case atStart => exact ⟨0, Nat.zero_le _, rfl, Lib.hid (by simpa using HA2.out), HF2⟩
  case round =>
   obtain ⟨k, hk, rfl, HAr, HFr⟩ := hrel
   by_cases hkl : k < l.length
   ·have hcell : wr.cell? ⟨b, off + k, none⟩ = some (.int .u64 (l.getD k 0)) := HFr.out.cell (HC.out k hkl) (fun h => h)
    have hx := okWs_getD HOK.out k hkl
    have HX := Lib.hid hx
    have hst := filled_step hkl
    obtain ⟨x, hxe⟩ : ∃ x, l.getD k 0 = x := ⟨_, rfl⟩
    rw [hxe] at hcell hst
    have HST := Lib.hid hst
    have HXE := Lib.hid hxe
    have hlk : ((l.take k ++ List.replicate (l.length - k) 0).length : Int) = l.length := by simp; omega
    have HLK := Lib.hid hlk
    clear hst hxe hx hlk
    have q1 : (0 : Int) ≤ k := by omega
    have q2 : (k : Int) < l.length := by omega
    go_wp2_with (first | (go_at_call 38; (with_reducible refine (set_c _ _ _ _ _ _ _ HAr.out (HXE.out ▸ HX.out) ⟨q1, by rw [HLK.out]; exact q2⟩).mono ?_); rintro e w3 ⟨rfl, ha3, hf3⟩))
    rw [HST.out] at ha3
    have hf4 : Fr w w3 (fun _ => False) := HFr.out.then_ hf3 (fun i hi hlt => by have := HI2.out i hi; omega)
    have HA3 := Lib.hid ha3
    have HF3 := Lib.hid hf4
    clear ha3 hf3 hf4 HAr HFr
    go_wp2
    go_roundw
    case rel => exact ⟨k + 1, by omega, by go_num, HA3, HF3⟩
    case measure => simp [intOf]; omega
   ·have hke : k = l.length := by omega
    have hfin : l.take k ++ List.replicate (l.length - k) 0 = l := by rw [hke]; simp
    have HFIN := Lib.hid hfin
    clear hfin
    go_wp2
    go_ret
    refine ⟨_, v2, rfl, ?_, HFr.out, Nat.le_refl _, HI2.out⟩
    have := HAr.out
    rw [HFIN.out] at this
    exact this
 ·have hl0 : l = [] := List.eq_nil_of_length_eq_zero (by omega)
  subst hl0
  clear hA HLT
  simp only [List.length_nil] at *
  go_enter Tryd.func11, Tryd.ntmps11
  go_wp2_with (first | (go_at_call 36; (with_reducible refine (new_c _ _).mono ?_); rintro e w1 ⟨rfl, ha, hf⟩))
  have hsz2 : newSize more = ((0 : Nat) : Int) + more := by have := HSZ.out; simpa using this
  rw [hsz2] at ha
  have htk : (0 : Int) ≤ (((0 : Nat) : Int) + more) - (([] : List Int).length : Int) := by simp; omega
  have HA := Lib.hid ha
  have HF := Lib.hid hf
  have HTK := Lib.hid htk
  clear ha hf htk hsz2
  go_wp2_with (first | (go_at_call 37; (with_reducible refine (take_i _ _ [] _ 0 _ HA.out (Int.le_refl 0) HTK.out).mono ?_); rintro e w2 ⟨rfl, v2, ha2, hf2, hn2⟩))
  simp only [List.nil_append, Int.toNat_zero, List.replicate_zero] at ha2
  have hf02 : Fr w w2 (fun _ => False) := HF.out.then_ hf2 (fun i hi hlt => hi.elim (fun e => by omega) (fun e => by simp [InBlk, Value.ownBlock] at e))
  have hin2 : ∀ k, InBlk v2 k → w.heap.size ≤ k := fun k hk => (hn2 k hk).elim (fun e => by simp [InBlk, Value.ownBlock] at e) (fun e => Nat.le_trans HF.out.size e)
  have HA2 := Lib.hid ha2
  have HF2 := Lib.hid hf02
  have HI2 := Lib.hid hin2
  clear ha2 hf2 hn2 hf02 hin2 HA HF hsum hsum2
  go_wp2
  refine wp_loop_rounds 1 ?_
  rw [rounds_succ]
  go_wp2
  go_ret
  exact ⟨_, v2, rfl, HA2.out, HF2.out, Nat.le_refl _, HI2.out⟩
end Go.Proofs.YtjiaaefpepdoeaaDoor
namespace Go.Proofs.YtjiaaefpepdoeaaDoor
open Go.RowKit Md
set_option linter.unusedVariables false
end Go.Proofs.YtjiaaefpepdoeaaDoor
namespace Go.Proofs.YtjiaaefpepdoeaaDoor
open Go.RowKit Md
set_option linter.unusedVariables false
def Chg (T : TypeId) (w w' : World) (p : Nat) (v v' : Value) (ws' : List Int) (size' : Int) : Prop :=
 Ar T w' p v' ws' size' ∧ Fr w w' (fun i => i = p ∨ InBlk v i) ∧ ∀ k, InBlk v' k → InBlk v k ∨ w.heap.size ≤ k
def Apt (v u : Value) : Prop := ∀ k, InBlk v k → ¬ InBlk u k
section
variable {T T' : TypeId} {w w1 : World} {p q : Nat} {v v' u : Value} {ws ws' ws2 : List Int} {s s' s2 : Int} {S : Nat → Prop}
theorem Ar.row_ne (ha : Ar T w p v ws s) (hm : Ar T' w q u ws2 s2) : ∀ k, InBlk u k → k ≠ p := by
 intro k hk e
 obtain ⟨cur, hc⟩ := hm.own.elem k hk
 rw [e, ha.blk] at hc
 simp at hc
 exact ha.ty hc.2
theorem Ar.ptr_ne (ha : Ar T w p v ws s) (hm : Ar T' w q u ws2 s2) (ht : T ≠ T') : q ≠ p := by
 intro e
 have h1 := ha.blk
 rw [← e, hm.blk] at h1
 simp at h1
 exact ht h1.2.symm
theorem Apt.symm (h : Apt v u) : Apt u v := fun k h1 h2 => h k h2 h1
theorem Chg.other (h : Chg T w w1 p v v' ws' s') (ha : Ar T w p v ws s) (hm : Ar T' w q u ws2 s2) (ht : T ≠ T') (hd : Apt v u) : Ar T' w1 q u ws2 s2 ∧ Apt v' u := by
 have hne : InBlk v q → False := fun e => by
  obtain ⟨cur, hc⟩ := ha.own.elem q e
  rw [hm.blk] at hc
  simp at hc
  exact hm.ty hc.2
 refine ⟨hm.keep h.2.1 (fun e => e.elim (ha.ptr_ne hm ht) hne) (fun i hi e => e.elim (fun e => ha.row_ne hm i hi e) (fun e => hd i e hi)), fun k h1 h2 => ?_⟩
 ·rcases h.2.2 k h1 with h3 | h3
  ·exact hd k h3 h2
  ·have := hm.own.lt k h2; omega
theorem Chg.same (h : Ar T w p v ws s) : Chg T w w p v v ws s := ⟨h, Fr.refl _ _, fun k h => .inl h⟩
theorem Ar.drew (h : Ar T w p v ws s) : Ar T w.drew p v ws s := ⟨h.blk, h.own, h.le, h.mx, h.ok, h.ty⟩
theorem Ar.drewN (h : Ar T w p v ws s) (n : Nat) : Ar T (w.drewN n) p v ws s := h.keep ((Fr.refl w (fun _ => False)).drewN n) (fun h => h) (fun _ _ h => h)
theorem Ar.alloc (h : Ar T w p v ws s) (o : Obj) : Ar T (w.alloc o) p v ws s := h.keep ((Fr.refl w (fun _ => False)).alloc o) (fun h => h) (fun _ _ h => h)
theorem Ar.fr (h : Ar T w p v ws s) (hf : Fr w w1 (fun _ => False)) : Ar T w1 p v ws s := h.keep hf (fun h => h) (fun _ _ h => h)
end
end Go.Proofs.YtjiaaefpepdoeaaDoor
namespace Go.Proofs.YtjiaaefpepdoeaaDoor
open Go.RowKit Md
set_option linter.unusedVariables false
end Go.Proofs.YtjiaaefpepdoeaaDoor
namespace Go.Proofs.YtjiaaefpepdoeaaDoor
open Go.RowKit Md Go.Proofs.YtjiaaefpepdoeaaDoorW.PrintWords
set_option linter.unusedVariables false
theorem objAt_some {ws : List Int} {i : Int} {h : Hdr} (hh : objAt ws i = some h) : ∃ k : Nat, i = k ∧ k < ws.length ∧ readH (ws.getD k 0) = some h ∧ h.size < ws.length - k := by
 unfold objAt at hh
 cases hr : rdAt ws i with
 | none => rw [hr] at hh; cases hh
 | some x =>
  obtain ⟨k, rfl, hk, hx⟩ := rdAt_some hr
  rw [hr] at hh
  simp only at hh
  cases hq : readH x with
  | none => rw [hq] at hh; cases hh
  | some h' =>
   rw [hq] at hh
   simp only at hh
   split at hh
   ·rename_i hs; cases hh; exact ⟨k, rfl, hk, by rw [hx, hq], hs⟩
   ·cases hh
theorem objAt_none {ws : List Int} {i : Int} (hh : objAt ws i = none) : ¬ (0 ≤ i ∧ i < ws.length) ∨ ∃ k : Nat, i = k ∧ k < ws.length ∧ (readH (ws.getD k 0) = none ∨ ∃ h, readH (ws.getD k 0) = some h ∧ (ws.length : Int) - k ≤ h.size) := by
 unfold objAt at hh
 cases hr : rdAt ws i with
 | none => exact .inl (rdAt_none hr)
 | some x =>
  obtain ⟨k, rfl, hk, hx⟩ := rdAt_some hr
  rw [hr] at hh
  simp only at hh
  refine .inr ⟨k, rfl, hk, ?_⟩
  rw [hx]
  cases hq : readH x with
  | none => exact .inl rfl
  | some h' =>
   rw [hq] at hh
   simp only at hh
   split at hh
   ·cases hh
   ·rename_i hs; exact .inr ⟨h', rfl, by omega⟩
theorem readH_size {x : Int} {h : Hdr} (hr : readH x = some h) : 0 ≤ h.size ∧ h.size < 1048576 := by
 obtain ⟨h1, h2, h3, h4⟩ := read_some hr
 rw [h4]; unfold unpackH; simp only; omega
set_option maxHeartbeats 1000000 in
theorem obj_some (p : Nat) (v : Value) (ws : List Int) (size i : Int) (h : Hdr) (w : World) (ha : Ar 112 w p v ws size) (hh : objAt ws i = some h) :
  Calls Tryd.prog 39 #[.pointer (some ⟨p, 0, none⟩), .int .i64 i] w fun e w' => e = .returned (.tuple #[.agg #[.int .i64 h.kind, .int .i64 h.size, .int .i64 h.tree, .bool h.neg], .bool true]) ∧ Fr w w' (fun _ => False) := by
 obtain ⟨k, rfl, hk, hr, hs⟩ := objAt_some hh
 clear hh
 rcases ha.form with ⟨_, rfl⟩ | ⟨g, cap, rfl, hl, hm, hg, hgp, hc, hf⟩
 ·simp at hk
 have c0 := ha.c0
 have ck := hc k hk
 have hx := okWs_getD ha.ok k hk
 obtain ⟨x, hxe⟩ : ∃ x, ws.getD k 0 = x := ⟨_, rfl⟩
 rw [hxe] at ck hr hx
 have hrp : Wd.readP x = (h.kind, h.size, h.tree, h.neg, true) := by unfold Wd.readP; rw [hr]
 obtain ⟨hz0, hz1⟩ := readH_size hr
 obtain ⟨hkd, hsz, htr, hng⟩ := h
 simp only at hrp hz0 hz1 hs ⊢
 have HRP := Lib.hid hrp
 have hle := ha.le
 have hmx := ha.mx
 have hpw := ha.lt
 have HX := Lib.hid hx
 have d1 : decide ((k : Int) < 0) = false := decide_eq_false (by omega)
 have d2 : decide ((ws.length : Int) ≤ (k : Int)) = false := decide_eq_false (by omega)
 have d2' : decide (ws.length ≤ k) = false := decide_eq_false (by omega)
 have d3 : decide ((ws.length : Int) - (k : Int) ≤ hsz) = false := decide_eq_false (by omega)
 have hw1 : IntKind.i64.wrap ((ws.length : Int) - (k : Int)) = ws.length - k := by rw [IntKind.wrap_i64]; omega
 have hw3 : wrap64 ((ws.length : Int) - (k : Int)) = ws.length - k := by unfold wrap64; omega
 clear ha hc hf hgp hm hx hrp hr hxe hle
 go_enter Tryd.func39, Tryd.ntmps39
 go_wp2_with (first | (go_at_call 69; (with_reducible refine (Wd.read_c x hkd hsz htr hng true _ HX.out HRP.out).mono ?_); rintro e w1 ⟨rfl, hb⟩))
 have c0w := pw_cell_below hb ((World.cell?_alloc_past _ _ _ hpw).trans c0)
 have hpw1 : p < w1.heap.size := World.block_lt_of_cell? w1 _ c0w
 have HB := Lib.hid hb
 clear hb ck c0
 have hbk : w1.heap[w.heap.size]? = some (.cells #[.int .i64 0, .int .i64 0, .int .i64 0, .bool false] 88 (0, 0)) := (HB.out.block w.heap.size (by simp)).trans (by show (w.heap.push _)[w.heap.size]? = _; exact Array.getElem?_push_size)
 have gw1 : w.heap.size < w1.heap.size := (Array.getElem?_eq_some_iff.1 hbk).1
 have fz : ∀ i, w1.frozen? ⟨w.heap.size, i, none⟩ = false := fun i => by simp [World.frozen?, hbk]
 have e0 : w1.cell? ⟨w.heap.size, 0, none⟩ = some (.int .i64 0) := by simp [World.cell?, hbk]
 have e1 : w1.cell? ⟨w.heap.size, 1, none⟩ = some (.int .i64 0) := by simp [World.cell?, hbk]
 have e2 : w1.cell? ⟨w.heap.size, 2, none⟩ = some (.int .i64 0) := by simp [World.cell?, hbk]
 have e3 : w1.cell? ⟨w.heap.size, 3, none⟩ = some (.bool false) := by simp [World.cell?, hbk]
 have HBK := Lib.hid hbk
 clear hbk
 go_quiet (fail)
 go_wp2
 refine bodyPost_ret (results_ct rfl _ _ w.heap.size 88 #[.int .i64 hkd, .int .i64 hsz, .int .i64 htr, .bool hng] (0, 0) _ rfl (by
  refine blk_put (cs := #[.int .i64 hkd, .int .i64 hsz, .int .i64 htr, .bool false]) ?_ 3 _ rfl
  refine blk_put (cs := #[.int .i64 hkd, .int .i64 hsz, .int .i64 0, .bool false]) ?_ 2 _ rfl
  refine blk_put (cs := #[.int .i64 hkd, .int .i64 0, .int .i64 0, .bool false]) ?_ 1 _ rfl
  refine blk_put (cs := #[.int .i64 0, .int .i64 0, .int .i64 0, .bool false]) ?_ 0 _ rfl
  refine blk_drewN ?_ _
  refine blk_alloc ?_ _
  exact HBK.out) Tryd.underlying88 rfl (by kernel_rfl)) rfl ?_
 exact ⟨rfl, (((((((((Fr.refl w _).alloc _).trans (Fr.of_below HB.out _)).alloc _).drewN _).setCell (fun h => absurd h (Nat.lt_irrefl _)) _).setCell (fun h => absurd h (Nat.lt_irrefl _)) _).setCell (fun h => absurd h (Nat.lt_irrefl _)) _).setCell (fun h => absurd h (Nat.lt_irrefl _)) _)⟩
set_option maxHeartbeats 1000000 in
theorem obj_far (p : Nat) (v : Value) (ws : List Int) (size i : Int) (w : World) (ha : Ar 112 w p v ws size) (hh : ¬ (0 ≤ i ∧ i < ws.length)) :
  Calls Tryd.prog 39 #[.pointer (some ⟨p, 0, none⟩), .int .i64 i] w fun e w' => e = .returned (.tuple #[.agg #[.int .i64 0, .int .i64 0, .int .i64 0, .bool false], .bool false]) ∧ Fr w w' (fun _ => False) := by
 obtain ⟨A, cap, rfl⟩ := ha.val
 have c0 := ha.c0
 have hpw := ha.lt
 clear ha
 have key : decide (i < 0) = true ∨ (decide (i < 0) = false ∧ decide ((ws.length : Int) ≤ i) = true) := by
  by_cases h0 : i < 0
  ·exact .inl (decide_eq_true h0)
  ·exact .inr ⟨decide_eq_false h0, decide_eq_true (by omega)⟩
 clear hh
 have hbk : (w.alloc (.cells #[.int .i64 0, .int .i64 0, .int .i64 0, .bool false] 88)).heap[w.heap.size]? = some (.cells #[.int .i64 0, .int .i64 0, .int .i64 0, .bool false] 88 (0, 0)) := by show (w.heap.push _)[w.heap.size]? = _; exact Array.getElem?_push_size
 have HBK := Lib.hid hbk
 clear hbk
 rcases key with d1 | ⟨d1, d2⟩
 ·go_enter Tryd.func39, Tryd.ntmps39
  go_wp2
  refine bodyPost_ret (results_ct rfl _ _ w.heap.size 88 #[.int .i64 0, .int .i64 0, .int .i64 0, .bool false] (0, 0) _ rfl HBK.out Tryd.underlying88 rfl (by kernel_rfl)) rfl ?_
  exact ⟨rfl, (Fr.refl w _).alloc _⟩
 ·go_enter Tryd.func39, Tryd.ntmps39
  go_wp2
  refine bodyPost_ret (results_ct rfl _ _ w.heap.size 88 #[.int .i64 0, .int .i64 0, .int .i64 0, .bool false] (0, 0) _ rfl HBK.out Tryd.underlying88 rfl (by kernel_rfl)) rfl ?_
  exact ⟨rfl, (Fr.refl w _).alloc _⟩
set_option maxHeartbeats 1000000 in
theorem obj_bad (p : Nat) (v : Value) (ws : List Int) (size : Int) (k : Nat) (w : World) (ha : Ar 112 w p v ws size) (hk : k < ws.length) (hr : readH (ws.getD k 0) = none) :
  Calls Tryd.prog 39 #[.pointer (some ⟨p, 0, none⟩), .int .i64 k] w fun e w' => e = .returned (.tuple #[.agg #[.int .i64 0, .int .i64 0, .int .i64 0, .bool false], .bool false]) ∧ Fr w w' (fun _ => False) := by
 rcases ha.form with ⟨_, rfl⟩ | ⟨g, cap, rfl, hl, hm, hg, hgp, hc, hf⟩
 ·simp at hk
 have c0 := ha.c0
 have ck := hc k hk
 have hx := okWs_getD ha.ok k hk
 obtain ⟨x, hxe⟩ : ∃ x, ws.getD k 0 = x := ⟨_, rfl⟩
 rw [hxe] at ck hr hx
 have hrp : Wd.readP x = (0, 0, 0, false, false) := by unfold Wd.readP; rw [hr]
 have HRP := Lib.hid hrp
 have hle := ha.le
 have hmx := ha.mx
 have hpw := ha.lt
 have HX := Lib.hid hx
 have d1 : decide ((k : Int) < 0) = false := decide_eq_false (by omega)
 have d2 : decide ((ws.length : Int) ≤ (k : Int)) = false := decide_eq_false (by omega)
 have d2' : decide (ws.length ≤ k) = false := decide_eq_false (by omega)
 clear ha hc hf hgp hm hx hrp hr hxe hle
 go_enter Tryd.func39, Tryd.ntmps39
 go_wp2_with (first | (go_at_call 69; (with_reducible refine (Wd.read_c x 0 0 0 false false _ HX.out HRP.out).mono ?_); rintro e w1 ⟨rfl, hb⟩))
 have c0w := pw_cell_below hb ((World.cell?_alloc_past _ _ _ hpw).trans c0)
 have hpw1 : p < w1.heap.size := World.block_lt_of_cell? w1 _ c0w
 have HB := Lib.hid hb
 clear hb ck c0
 have hbk : w1.heap[w.heap.size]? = some (.cells #[.int .i64 0, .int .i64 0, .int .i64 0, .bool false] 88 (0, 0)) := (HB.out.block w.heap.size (by simp)).trans (by show (w.heap.push _)[w.heap.size]? = _; exact Array.getElem?_push_size)
 have gw1 : w.heap.size < w1.heap.size := (Array.getElem?_eq_some_iff.1 hbk).1
 have fz : ∀ i, w1.frozen? ⟨w.heap.size, i, none⟩ = false := fun i => by simp [World.frozen?, hbk]
 have e0 : w1.cell? ⟨w.heap.size, 0, none⟩ = some (.int .i64 0) := by simp [World.cell?, hbk]
 have e1 : w1.cell? ⟨w.heap.size, 1, none⟩ = some (.int .i64 0) := by simp [World.cell?, hbk]
 have e2 : w1.cell? ⟨w.heap.size, 2, none⟩ = some (.int .i64 0) := by simp [World.cell?, hbk]
 have e3 : w1.cell? ⟨w.heap.size, 3, none⟩ = some (.bool false) := by simp [World.cell?, hbk]
 have HBK := Lib.hid hbk
 clear hbk
 go_quiet (fail)
 go_wp2
 refine bodyPost_ret (results_ct rfl _ _ w.heap.size 88 #[.int .i64 0, .int .i64 0, .int .i64 0, .bool false] (0, 0) _ rfl (by
  refine blk_put (cs := #[.int .i64 0, .int .i64 0, .int .i64 0, .bool false]) ?_ 3 _ rfl
  refine blk_put (cs := #[.int .i64 0, .int .i64 0, .int .i64 0, .bool false]) ?_ 2 _ rfl
  refine blk_put (cs := #[.int .i64 0, .int .i64 0, .int .i64 0, .bool false]) ?_ 1 _ rfl
  refine blk_put (cs := #[.int .i64 0, .int .i64 0, .int .i64 0, .bool false]) ?_ 0 _ rfl
  refine blk_drewN ?_ _
  refine blk_alloc ?_ _
  exact HBK.out) Tryd.underlying88 rfl (by kernel_rfl)) rfl ?_
 exact ⟨rfl, (((((((((Fr.refl w _).alloc _).trans (Fr.of_below HB.out _)).alloc _).drewN _).setCell (fun h => absurd h (Nat.lt_irrefl _)) _).setCell (fun h => absurd h (Nat.lt_irrefl _)) _).setCell (fun h => absurd h (Nat.lt_irrefl _)) _).setCell (fun h => absurd h (Nat.lt_irrefl _)) _)⟩
set_option maxHeartbeats 1000000 in
theorem obj_long (p : Nat) (v : Value) (ws : List Int) (size : Int) (k : Nat) (h : Hdr) (w : World) (ha : Ar 112 w p v ws size) (hk : k < ws.length) (hr : readH (ws.getD k 0) = some h) (hs : (ws.length : Int) - k ≤ h.size) :
  Calls Tryd.prog 39 #[.pointer (some ⟨p, 0, none⟩), .int .i64 k] w fun e w' => e = .returned (.tuple #[.agg #[.int .i64 0, .int .i64 0, .int .i64 0, .bool false], .bool false]) ∧ Fr w w' (fun _ => False) := by
 rcases ha.form with ⟨_, rfl⟩ | ⟨g, cap, rfl, hl, hm, hg, hgp, hc, hf⟩
 ·simp at hk
 have c0 := ha.c0
 have ck := hc k hk
 have hx := okWs_getD ha.ok k hk
 obtain ⟨x, hxe⟩ : ∃ x, ws.getD k 0 = x := ⟨_, rfl⟩
 rw [hxe] at ck hr hx
 have hrp : Wd.readP x = (h.kind, h.size, h.tree, h.neg, true) := by unfold Wd.readP; rw [hr]
 obtain ⟨hz0, hz1⟩ := readH_size hr
 obtain ⟨hkd, hsz, htr, hng⟩ := h
 simp only at hrp hz0 hz1 hs ⊢
 have HRP := Lib.hid hrp
 have hle := ha.le
 have hmx := ha.mx
 have hpw := ha.lt
 have HX := Lib.hid hx
 have d1 : decide ((k : Int) < 0) = false := decide_eq_false (by omega)
 have d2 : decide ((ws.length : Int) ≤ (k : Int)) = false := decide_eq_false (by omega)
 have d2' : decide (ws.length ≤ k) = false := decide_eq_false (by omega)
 have d3 : decide ((ws.length : Int) - (k : Int) ≤ hsz) = true := decide_eq_true (by omega)
 have hw1 : IntKind.i64.wrap ((ws.length : Int) - (k : Int)) = ws.length - k := by rw [IntKind.wrap_i64]; omega
 have hw3 : wrap64 ((ws.length : Int) - (k : Int)) = ws.length - k := by unfold wrap64; omega
 clear ha hc hf hgp hm hx hrp hr hxe hle
 go_enter Tryd.func39, Tryd.ntmps39
 go_wp2_with (first | (go_at_call 69; (with_reducible refine (Wd.read_c x hkd hsz htr hng true _ HX.out HRP.out).mono ?_); rintro e w1 ⟨rfl, hb⟩))
 have c0w := pw_cell_below hb ((World.cell?_alloc_past _ _ _ hpw).trans c0)
 have hpw1 : p < w1.heap.size := World.block_lt_of_cell? w1 _ c0w
 have HB := Lib.hid hb
 clear hb ck c0
 have hbk : w1.heap[w.heap.size]? = some (.cells #[.int .i64 0, .int .i64 0, .int .i64 0, .bool false] 88 (0, 0)) := (HB.out.block w.heap.size (by simp)).trans (by show (w.heap.push _)[w.heap.size]? = _; exact Array.getElem?_push_size)
 have gw1 : w.heap.size < w1.heap.size := (Array.getElem?_eq_some_iff.1 hbk).1
 have fz : ∀ i, w1.frozen? ⟨w.heap.size, i, none⟩ = false := fun i => by simp [World.frozen?, hbk]
 have e0 : w1.cell? ⟨w.heap.size, 0, none⟩ = some (.int .i64 0) := by simp [World.cell?, hbk]
 have e1 : w1.cell? ⟨w.heap.size, 1, none⟩ = some (.int .i64 0) := by simp [World.cell?, hbk]
 have e2 : w1.cell? ⟨w.heap.size, 2, none⟩ = some (.int .i64 0) := by simp [World.cell?, hbk]
 have e3 : w1.cell? ⟨w.heap.size, 3, none⟩ = some (.bool false) := by simp [World.cell?, hbk]
 have HBK := Lib.hid hbk
 clear hbk
 go_quiet (fail)
 go_wp2
 refine bodyPost_ret (results_ct rfl _ _ w.heap.size 88 #[.int .i64 0, .int .i64 0, .int .i64 0, .bool false] (0, 0) _ rfl (by
  refine blk_put (cs := #[.int .i64 0, .int .i64 0, .int .i64 0, .bool false]) ?_ 3 _ rfl
  refine blk_put (cs := #[.int .i64 0, .int .i64 0, .int .i64 0, .bool false]) ?_ 2 _ rfl
  refine blk_put (cs := #[.int .i64 0, .int .i64 0, .int .i64 0, .bool false]) ?_ 1 _ rfl
  refine blk_put (cs := #[.int .i64 0, .int .i64 0, .int .i64 0, .bool false]) ?_ 0 _ rfl
  refine blk_drewN ?_ _
  refine blk_alloc ?_ _
  exact HBK.out) Tryd.underlying88 rfl (by kernel_rfl)) rfl ?_
 exact ⟨rfl, (((((((((Fr.refl w _).alloc _).trans (Fr.of_below HB.out _)).alloc _).drewN _).setCell (fun h => absurd h (Nat.lt_irrefl _)) _).setCell (fun h => absurd h (Nat.lt_irrefl _)) _).setCell (fun h => absurd h (Nat.lt_irrefl _)) _).setCell (fun h => absurd h (Nat.lt_irrefl _)) _)⟩
theorem obj_none (p : Nat) (v : Value) (ws : List Int) (size i : Int) (w : World) (ha : Ar 112 w p v ws size) (hh : objAt ws i = none) :
  Calls Tryd.prog 39 #[.pointer (some ⟨p, 0, none⟩), .int .i64 i] w fun e w' => e = .returned (.tuple #[.agg #[.int .i64 0, .int .i64 0, .int .i64 0, .bool false], .bool false]) ∧ Fr w w' (fun _ => False) := by
 rcases objAt_none hh with h | ⟨k, rfl, hk, h | ⟨hd, h, hs⟩⟩
 ·exact obj_far p v ws size i w ha h
 ·exact obj_bad p v ws size k w ha hk h
 ·exact obj_long p v ws size k hd w ha hk h hs
end Go.Proofs.YtjiaaefpepdoeaaDoor
namespace Go.Proofs.YtjiaaefpepdoeaaDoor
open Go.RowKit Md Go.Proofs.YtjiaaefpepdoeaaDoorW.PrintWords
set_option linter.unusedVariables false
theorem blk_new (w : World) (c : Array Value) (T : TypeId) : (w.alloc (.cells c T)).heap[w.heap.size]? = some (.cells c T (0, 0)) := by
 show (w.heap.push _)[w.heap.size]? = _
 exact Array.getElem?_push_size
def iw (l : List Int) : List Value := l.map (Value.int .i64)
theorem intInfo : (Tryd.prog.info? 3).map (fun i => (i.zero, i.size, i.bytes)) = some (some (.int .i64 0), 1, 8) := by kernel_rfl
structure OI (T : TypeId) (w W : World) (p : Nat) (v : Value) (ws : List Int) (size : Int) (g : Nat) (u : Value) (acc : List Int) (a : Int) : Prop where
 ar : Ar T W p v ws size
 fr : Fr w W (fun _ => False)
 own : Own W 3 u (iw acc)
 inn : ∀ k, InBlk u k → w.heap.size ≤ k
 eq : objs ws = (objsFrom ws g a).map (acc ++ ·)
 le : 0 ≤ a
 le2 : a ≤ ws.length
 ac : (acc.length : Int) ≤ a
 ag : (ws.length : Int) ≤ a + g
theorem objsFrom_end {ws : List Int} {g : Nat} {a : Int} (h : ¬ a < ws.length) : objsFrom ws g a = some [] := by
 cases g <;> simp [objsFrom, h]
theorem objsFrom_none {ws : List Int} {g : Nat} {a : Int} (h : a < ws.length) (ho : objAt ws a = none) : objsFrom ws g a = none := by
 cases g <;> simp [objsFrom, h, ho]
theorem objsFrom_step {ws : List Int} {g : Nat} {a : Int} {h : Hdr} (hl : a < ws.length) (ho : objAt ws a = some h) : objsFrom ws (g + 1) a = (objsFrom ws g (a + 1 + h.size)).map (a :: ·) := by
 simp [objsFrom, hl, ho]
theorem objsFrom_step2 {ws : List Int} {g : Nat} {a k z t : Int} {n : Bool} (hl : a < ws.length) (ho : objAt ws a = some ⟨k, z, t, n⟩) (acc : List Int) : (objsFrom ws (g + 1) a).map (acc ++ ·) = (objsFrom ws g (a + (1 + z))).map ((acc ++ [a]) ++ ·) := by
 rw [objsFrom_step hl ho, Option.map_map, ← Int.add_assoc]
 congr 1
 funext x
 simp
theorem iw_append (a b : List Int) : iw (a ++ b) = iw a ++ iw b := by simp [iw]
theorem OI.frm {T : TypeId} {w W W1 : World} {p : Nat} {v : Value} {ws : List Int} {size : Int} {g : Nat} {u : Value} {acc : List Int} {a : Int} (h : OI T w W p v ws size g u acc a) (hf : Fr W W1 fun _ => False) : OI T w W1 p v ws size g u acc a :=
 ⟨h.ar.fr hf, h.fr.trans hf, h.own.keep hf (fun _ _ h => h), h.inn, h.eq, h.le, h.le2, h.ac, h.ag⟩
theorem OI.step {T TH : TypeId} {w W2 : World} {p D gk : Nat} {v u : Value} {ws acc : List Int} {size a kd z t : Int} {n : Bool} (hI2 : OI T w W2 p v ws size gk u acc a) (hT : T ≠ 3) (hTH : TH ≠ 3)
  (hal : a < ws.length) (hob : objAt ws a = some ⟨kd, z, t, n⟩)
  (hdb : W2.heap[D]? = some (.cells #[.int .i64 kd, .int .i64 z, .int .i64 t, .bool n] TH (0, 0))) :
  ∃ v' w1, (Builtin.append_ #[55, 55] 55 #[u, .slice (some ⟨W2.heap.size, 0, none⟩) 1 1]).run Tryd.prog (W2.alloc (.cells #[.int .i64 a] 3)) = .ok v' w1 ∧
   OI T w w1 p v ws size (gk - 1) v' (acc ++ [a]) (a + (1 + z)) ∧ w1.cell? ⟨D, 1, none⟩ = some (.int .i64 z) ∧ gk - 1 < gk := by
 have hmx := hI2.ar.mx
 have hle := hI2.ar.le
 have h2z : 0 ≤ z ∧ a + 1 + z ≤ ws.length := by
  obtain ⟨k, rfl, hk, hr, hz⟩ := objAt_some hob
  have := readH_size hr
  simp only at this hz
  omega
 obtain ⟨i0, hi, hz0, hz1, hzb⟩ := info_parts intInfo
 have hf3 : Fr W2 (W2.alloc (.cells #[.int .i64 a] 3)) (fun _ => False) := (Fr.refl _ _).alloc _
 have hone : Rd (W2.alloc (.cells #[.int .i64 a] 3)) (.slice (some ⟨W2.heap.size, 0, none⟩) 1 1) (iw [a]) := .inr ⟨W2.heap.size, 0, 1, rfl, by simp [iw], by simp [iw], by decide, by simp, fun i hi => by
  have : i = 0 := by simp [iw] at hi; exact hi
  subst this
  simp only [World.cell?, blk_new]; rfl⟩
 have h2a := hI2.ac
 obtain ⟨v', w1, hr, ho, hg, hn⟩ := run_append_rd (P := Tryd.prog) _ 55 55 3 i0 (.int .i64 0) Tryd.underlying55 hi hz0 hz1 (by omega) rfl _ _ (iw acc) (iw [a]) (hI2.own.keep hf3 (fun _ _ h => h)) hone (oneCell_all [a]) (by simp [iw]; omega)
 rw [← iw_append] at ho
 have hne : some D ≠ u.ownBlock := fun e => by
  obtain ⟨cur, hc⟩ := hI2.own.elem D e.symm
  rw [hdb] at hc
  simp at hc
  exact hTH hc.2
 have hfw : Fr w w1 (fun _ => False) := (hI2.fr.trans hf3).grown hg (fun k hk hlt => by have := hI2.inn k hk; omega)
 have hf4 : Fr W2 w1 (fun i => InBlk u i) := (hf3.mono fun _ h _ => h.elim).grown hg (fun k hk _ => hk)
 have hne2 : ∀ k, InBlk u k → ¬ (InBlk v k) ∧ k ≠ p := fun k hk => by
  obtain ⟨cur, hc⟩ := hI2.own.elem k hk
  refine ⟨fun e => ?_, fun e => ?_⟩
  ·obtain ⟨cur2, hc2⟩ := hI2.ar.own.elem k e
   rw [hc] at hc2; simp at hc2
  ·rw [e, hI2.ar.blk] at hc; simp at hc; exact hT hc.2
 have hdb1 := hf4.blk hdb (fun e => hne e.symm)
 obtain ⟨g', rfl⟩ : ∃ g', gk = g' + 1 := ⟨gk - 1, by have := hI2.ag; omega⟩
 refine ⟨v', w1, hr, ⟨hI2.ar.keep hf4 (fun e => (hne2 p e).2 rfl) (fun i hi e => (hne2 i e).1 hi), hfw, ho, fun k hk => ?_, ?_, by have := hI2.le; omega, by omega, by simp; omega, by have := hI2.ag; omega⟩, by simp only [World.cell?, hdb1]; rfl, by have := hI2.ag; omega⟩
 ·rcases hn k hk with h1 | h1
  ·exact hI2.inn k h1
  ·have h2 := hI2.fr.size
   have h3 : (W2.alloc (.cells #[.int .i64 a] 3)).heap.size = W2.heap.size + 1 := Array.size_push _
   omega
 ·rw [hI2.eq, Nat.add_sub_cancel]
  exact objsFrom_step2 hal hob acc
set_option maxRecDepth 100000 in
set_option maxHeartbeats 4000000 in
theorem objects_c (p : Nat) (v : Value) (ws : List Int) (size : Int) (w : World) (h : Ar 112 w p v ws size) :
  Calls Tryd.prog 40 #[.pointer (some ⟨p, 0, none⟩)] w fun e w' => ∃ u, e = .returned (.tuple #[u, .bool (objs ws).isSome]) ∧ New w w' 3 u (iw ((objs ws).getD [])) := by
 have hmx := h.mx
 have hle := h.le
 have HL : Hid ((ws.length : Int) ≤ 1048576) := Lib.hid (by omega)
 have H0 : Hid (OI 112 w w p v ws size ws.length (.slice none 0 0) [] 0) := Lib.hid ⟨h, Fr.refl _ _, Own.nil _ _, (fun k hk => by simp [InBlk, Value.ownBlock] at hk), by simp [objs], Int.le_refl 0, by omega, by simp, by omega⟩
 clear h hmx hle
 go_enter Tryd.func40, Tryd.ntmps40
 go_wp2
 go_loopg [4, 5] ws.length (fun g lv av wr => ∃ (u : Value) (acc : List Int) (a : Int), lv = u ∧ av = .int .i64 a ∧ Hid (OI 112 w wr p v ws size g u acc a))
 case atStart => exact ⟨_, [], 0, rfl, rfl, H0⟩
 case round =>
  clear H0
  obtain ⟨u, acc, a, rfl, rfl, HI⟩ := hrel
  by_cases hal : a < ws.length
  ·have hle := HI.out.le
   have HA : Hid (a < ws.length) := Lib.hid hal
   cases hob : objAt ws a with
   | none =>
    have HO := Lib.hid hob
    clear hob hle
    go_wp2_with (first | (go_at_call 21; (with_reducible refine (used_c p v ws size _ HI.out.ar).mono ?_); rintro e wa ⟨rfl, rfl⟩) | (go_at_call 39; (with_reducible refine (obj_none p v ws size a _ HI.out.ar HO.out).mono ?_); rintro e wb ⟨rfl, hf⟩; have HF := Lib.hid hf; clear hf))
    go_ret2
    have hn : objs ws = none := by rw [HI.out.eq, objsFrom_none HA.out HO.out]; rfl
    rw [hn]
    exact ⟨_, rfl, Own.nil _ _, (HI.out.fr.trans HF.out).alloc _, (fun k hk => by simp [InBlk, Value.ownBlock] at hk)⟩
   | some hd =>
    have HO := Lib.hid hob
    have hs := objAt_some hob
    have HZ : Hid (0 ≤ hd.size ∧ a + 1 + hd.size ≤ ws.length ∧ 0 ≤ a) := by
     obtain ⟨k, rfl, hk, hr, hz⟩ := hs
     have := readH_size hr
     exact Lib.hid (by omega)
    obtain ⟨kd, z, t, n⟩ := hd
    have hz2 := HZ.out
    have hl2 := HL.out
    simp only at hz2
    have hw1 : wrap64 (1 + z) = 1 + z := by unfold wrap64; omega
    have hw2 : wrap64 (a + (1 + z)) = a + (1 + z) := by clear hw1; unfold wrap64; omega
    have HW2 := Lib.hid hw2
    clear hob hs hz2 hl2 hle hw2
    go_upto_region 5 with (first | (go_at_call 21; (with_reducible refine (used_c p v ws size _ HI.out.ar).mono ?_); rintro e wa ⟨rfl, rfl⟩) | (go_at_call 39; (with_reducible refine (obj_some p v ws size a _ _ HI.out.ar HO.out).mono ?_); rintro e wo ⟨rfl, hf⟩))
    obtain ⟨W2, hW2⟩ : ∃ W2, wo.alloc (.cells #[.int .i64 kd, .int .i64 z, .int .i64 t, .bool n] 88) = W2 := ⟨_, rfl⟩
    obtain ⟨D, hD⟩ : ∃ D, wo.heap.size = D := ⟨_, rfl⟩
    have hf2 : Fr wr W2 (fun _ => False) := by rw [← hW2]; exact hf.alloc _
    have hdb : W2.heap[D]? = some (.cells #[.int .i64 kd, .int .i64 z, .int .i64 t, .bool n] 88 (0, 0)) := by rw [← hW2, ← hD]; exact blk_new _ _ _
    have hI2 := HI.out.frm hf2
    rw [hW2, hD]
    clear hW2 hD hf hf2 HI
    obtain ⟨v', w1, hr, hI3, kz, hgk⟩ := hI2.step (by decide) (by decide) HA.out HO.out hdb
    have HI3 := Lib.hid hI3
    have HR := Lib.hid hr
    have HGK := Lib.hid hgk
    clear hdb hI2 hr hI3 hgk
    go_wp2_with (at_builtin; refine Lib.wpList_append_run _ rfl _ _ _ _ rfl _ _ rfl rfl _ w1 HR.out ?_)
    go_roundg (gk - 1)
    case measure => exact HGK.out
    case rel => exact ⟨_, acc ++ [a], a + (1 + z), rfl, by rw [HW2.out], HI3⟩
  ·have HA : Hid (¬ a < ws.length) := Lib.hid hal
   go_wp2_with (first | (go_at_call 21; (with_reducible refine (used_c p v ws size _ HI.out.ar).mono ?_); rintro e wa ⟨rfl, rfl⟩))
   go_ret2
   have hn : objs ws = some acc := by rw [HI.out.eq, objsFrom_end (by have := HA.out; omega)]; simp
   rw [hn]
   exact ⟨_, rfl, HI.out.own, HI.out.fr, HI.out.inn⟩
end Go.Proofs.YtjiaaefpepdoeaaDoor
namespace Go.Proofs.YtjiaaefpepdoeaaDoor
open Go.RowKit Md
set_option linter.unusedVariables false
structure TA (T : TypeId) (W : World) (p : Nat) (v : Value) (ws : List Int) (size : Int) (r : Value) (rs : List Int) : Prop where
 ar : Ar T W p v ws size
 own : Own W 39 r (uw rs)
 ap : Apt v r
 okr : okWs rs
 lenr : rs.length ≤ 1048576
section
variable {T : TypeId} {W W1 : World} {p : Nat} {v v' : Value} {ws ws' rs : List Int} {size s' : Int} {r : Value} {S : Nat → Prop}
theorem TA.fr (h : TA T W p v ws size r rs) (hf : Fr W W1 fun _ => False) : TA T W1 p v ws size r rs := ⟨h.ar.fr hf, h.own.keep hf (fun _ _ h => h), h.ap, h.okr, h.lenr⟩
end
end Go.Proofs.YtjiaaefpepdoeaaDoor
namespace Go.Proofs.YtjiaaefpepdoeaaDoor.Wd
open Go.RowKit Go.Proofs.YtjiaaefpepdoeaaDoor.PSlideMeans Go.Proofs.YtjiaaefpepdoeaaDoorW.PrintWords Go.Proofs.YtjiaaefpepdoeaaDoorW.PrintLast
open Go.Proofs.YtjiaaefpepdoeaaDoor.Md
set_option linter.unusedVariables false
end Go.Proofs.YtjiaaefpepdoeaaDoor.Wd
namespace Go.Proofs.YtjiaaefpepdoeaaDoor
open Go.RowKit Md
set_option linter.unusedVariables false
def UO (v r : Value) (i : Nat) : Prop := InBlk v i ∨ InBlk r i
theorem fGet_ok {ws rs : List Int} {f : Fld} {x : Int} (hw : okWs ws) (hr : okWs rs) (h : fGet ws rs f = some x) : okW x := by
 unfold fGet at h
 split at h
 ·obtain ⟨k, _, hk, rfl⟩ := rdAt_some h; exact okWs_getD hr k hk
 ·obtain ⟨k, _, hk, rfl⟩ := rdAt_some h; exact okWs_getD hw k hk
end Go.Proofs.YtjiaaefpepdoeaaDoor
namespace Go.Proofs.YtjiaaefpepdoeaaDoor
open Go.RowKit Md
set_option linter.unusedVariables false
structure LI (T : TypeId) (w W : World) (p : Nat) (v r : Value) (ws0 rs0 : List Int) (size at_ dst : Int) (g n : Nat) (ws rs : List Int) : Prop where
 ta : TA T W p v ws size r rs
 fr : Fr w W (UO v r)
 eq : looseM (ws0.length + rs0.length) ws0 rs0 at_ dst = ⟨n + (looseM g ws rs at_ dst).n, (looseM g ws rs at_ dst).ok, (looseM g ws rs at_ dst).ws, (looseM g ws rs at_ dst).rs⟩
 gn : n + g = ws0.length + rs0.length
 l1 : ws.length = ws0.length
 l2 : rs.length = rs0.length
theorem loose_step {g : Nat} {ws rs : List Int} {a t x y : Int} (h : rdAt ws a = some x) (h7 : tagW x = 7) (hf : fGet ws rs (Md.linked x) = some y) :
  looseM (g + 1) ws rs a t = ⟨(looseM g (fSetW (wrAt ws a y) (Md.linked x) (ofW 5 t)) (fSetR rs (Md.linked x) (ofW 5 t)) a t).n + 1, (looseM g (fSetW (wrAt ws a y) (Md.linked x) (ofW 5 t)) (fSetR rs (Md.linked x) (ofW 5 t)) a t).ok, (looseM g (fSetW (wrAt ws a y) (Md.linked x) (ofW 5 t)) (fSetR rs (Md.linked x) (ofW 5 t)) a t).ws, (looseM g (fSetW (wrAt ws a y) (Md.linked x) (ofW 5 t)) (fSetR rs (Md.linked x) (ofW 5 t)) a t).rs⟩ := by
 simp [looseM, h, h7, hf]
end Go.Proofs.YtjiaaefpepdoeaaDoor
namespace Go.Proofs.YtjiaaefpepdoeaaDoor
open Go.RowKit Md
set_option linter.unusedVariables false
theorem iw_length (l : List Int) : (iw l).length = l.length := by simp [iw]
theorem iw_get {ws : List Int} {k : Nat} (h : k < ws.length) : (iw ws)[k]? = some (.int .i64 (ws.getD k 0)) := by simp [iw, List.getD, h]
theorem ints_c (va vb : Value) (xs ys : List Int) (w : World) (ha : Rd w va (iw xs)) (hb : Rd w vb (iw ys)) (hl : xs.length ≤ 1073741824) :
  Calls Tryd.prog 29 #[va, vb] w fun e w' => e = .returned (.bool (decide (xs = ys))) ∧ Drawn w w' := by
 obtain ⟨A, ca, rfl⟩ := ha.len
 obtain ⟨B, cb, rfl⟩ := hb.len
 rw [iw_length] at *
 rw [iw_length] at *
 by_cases hlen : xs.length = ys.length
 ·by_cases h0 : xs.length = 0
  ·have e1 : xs = [] := List.eq_nil_of_length_eq_zero h0
   have e2 : ys = [] := List.eq_nil_of_length_eq_zero (by omega)
   subst e1
   subst e2
   clear ha hb hlen h0
   go_enter Tryd.func29, Tryd.ntmps29
   go_wp2
   refine wp_loop_rounds 1 ?_
   rw [rounds_succ]
   go_wp2
   go_ret
   exact ⟨rfl, Drawn.refl _⟩
  ·rcases ha with ⟨hx, _⟩ | ⟨b1, o1, c1, e1, _, hl1, hm1, hb1, hc1⟩
   ·have := congrArg List.length hx; rw [iw_length] at this; exact absurd this h0
   rcases hb with ⟨hx, _⟩ | ⟨b2, o2, c2, e2, _, hl2, hm2, hb2, hc2⟩
   ·have := congrArg List.length hx; rw [iw_length] at this; exact absurd (hlen.trans this) h0
   injection e1 with e1 _ e3
   injection e2 with e2 _ e4
   subst e1; subst e2; subst e3; subst e4
   have HC1 := Lib.hid hc1
   have HC2 := Lib.hid hc2
   have HL := Lib.hid hlen
   have d0 : (((xs.length : Int)) != (ys.length : Int)) = false := by rw [hlen]; simp
   have d0' : (xs.length != ys.length) = false := by rw [hlen]; simp
   clear hc1 hc2 hl1 hl2 hm1 hm2 hb1 hb2 hlen
   go_enter Tryd.func29, Tryd.ntmps29
   go_wp2
   go_loopw [5] (fun i wr => ∃ k : Nat, k ≤ xs.length ∧ i = .int .i64 k ∧ xs.take k = ys.take k ∧ Drawn w wr) (fun i _ => xs.length - (intOf i).toNat)
   case atStart => exact ⟨0, Nat.zero_le _, rfl, rfl, Drawn.refl _⟩
   case round =>
    obtain ⟨k, hk, rfl, ht, nq, rfl⟩ := hrel
    have HT := Lib.hid ht
    clear ht d0 d0'
    by_cases hlt : k < xs.length
    ·have hlt2 : k < ys.length := by have := HL.out; omega
     have g1 : w.cell? ⟨b1, o1 + k, none⟩ = some (.int .i64 (xs.getD k 0)) := by rw [HC1.out k (by rw [iw_length]; exact hlt), iw_get hlt]
     have g2 : w.cell? ⟨b2, o2 + k, none⟩ = some (.int .i64 (ys.getD k 0)) := by rw [HC2.out k (by rw [iw_length]; exact hlt2), iw_get hlt2]
     obtain ⟨x, hx⟩ : ∃ x, xs.getD k 0 = x := ⟨_, rfl⟩
     obtain ⟨y, hy⟩ : ∃ y, ys.getD k 0 = y := ⟨_, rfl⟩
     rw [hx] at g1
     rw [hy] at g2
     have HX := Lib.hid hx
     have HY := Lib.hid hy
     clear hx hy
     have q1 : (0 : Int) ≤ k := by omega
     have q2 : (k : Int) < xs.length := by omega
     have q3 : (k : Int) < ys.length := by omega
     by_cases hxy : x = y
     ·have dn : (x != y) = false := by simp [hxy]
      have HXY := Lib.hid hxy
      clear hxy
      go_wp2
      go_quiet (fail)
      go_wp2
      go_roundw
      case rel => exact ⟨k + 1, by omega, by go_num, take_eq_succ hlt hlt2 HT.out (by rw [HX.out, HY.out]; exact HXY.out), ⟨_, rfl⟩⟩
      case measure => simp [intOf]; omega
     ·have dn : (x != y) = true := by simpa using hxy
      have HXY := Lib.hid hxy
      clear hxy
      go_wp2
      go_quiet (fail)
      go_wp2
      go_ret
      refine ⟨?_, Drawn.step ⟨_, rfl⟩ _⟩
      have : ¬ xs = ys := fun e => HXY.out (by rw [← HX.out, ← HY.out, e])
      simp [this]
    ·have hk2 : k = xs.length := by omega
     go_wp2
     go_ret
     refine ⟨?_, nq, rfl⟩
     have h3 := HT.out
     rw [List.take_of_length_le (by omega), List.take_of_length_le (by have := HL.out; omega)] at h3
     simp [h3]
 ·have d0 : (((xs.length : Int)) != (ys.length : Int)) = true := by simp; omega
  have d0' : (xs.length != ys.length) = true := by simp; omega
  have hne : decide (xs = ys) = false := decide_eq_false (fun e => hlen (by rw [e]))
  rw [hne]
  clear ha hb hlen
  go_enter Tryd.func29, Tryd.ntmps29
  go_wp2
  go_ret
  exact ⟨rfl, Drawn.refl _⟩
end Go.Proofs.YtjiaaefpepdoeaaDoor
namespace Go.Proofs.YtjiaaefpepdoeaaDoor
open Go.RowKit Md
set_option linter.unusedVariables false
def bw (l : List Bool) : List Value := l.map Value.bool
theorem bw_length (l : List Bool) : (bw l).length = l.length := by simp [bw]
theorem bw_get {l : List Bool} {k : Nat} (h : k < l.length) : (bw l)[k]? = some (.bool (l.getD k false)) := by simp [bw, List.getD, h]
theorem boolInfo : (Tryd.prog.info? 4).map (fun i => (i.zero, i.size, i.bytes)) = some (some (.bool false), 1, 1) := by kernel_rfl
theorem Rd.keep2 {w w1 : World} {v : Value} {xs : List Value} {S : Nat → Prop} (h : Rd w v xs) (hf : Fr w w1 S) (hn : 0 < xs.length → ∀ i, InBlk v i → ¬ S i) : Rd w1 v xs := by
 by_cases h0 : 0 < xs.length
 ·exact h.keep hf (hn h0)
 ·rcases h with h | ⟨b, off, cap, rfl, hx, _⟩
  ·exact .inl h
  ·omega
theorem Rd.cellAt {w : World} {A : Option Addr} {n cap : Nat} {xs : List Value} (h : Rd w (.slice A n cap) xs) (h0 : 0 < xs.length) : ∃ b off, A = some ⟨b, off, none⟩ ∧ ∀ i, i < xs.length → w.cell? ⟨b, off + i, none⟩ = xs[i]? := by
 rcases h with ⟨rfl, _⟩ | ⟨b, off, cap', e, _, _, _, _, hc⟩
 ·simp at h0
 ·injection e with e1 e2 e3; exact ⟨b, off, e1, hc⟩
theorem Own.cellAt {w : World} {e : TypeId} {A : Option Addr} {n cap : Nat} {xs : List Value} (h : Own w e (.slice A n cap) xs) (h0 : 0 < xs.length) : ∃ b, A = some ⟨b, 0, none⟩ ∧ b < w.heap.size ∧ ∀ i, i < xs.length → w.cell? ⟨b, i, none⟩ = xs[i]? ∧ w.frozen? ⟨b, i, none⟩ = false := by
 rcases h.form with ⟨e, rfl⟩ | ⟨b, cap', e, hl, hm, hg, hc, hf⟩
 ·simp at h0
 ·injection e with e1 e2 e3; exact ⟨b, e1, hg, fun i hi => ⟨hc i hi, hf i⟩⟩
theorem Apt.new {W : World} {e : TypeId} {v u : Value} {xs : List Value} (h : Own W e v xs) (hu : ∀ k, InBlk u k → W.heap.size ≤ k) : Apt v u := fun k hk h2 => by
 have := h.lt k hk; have := hu k h2; omega
section
variable {w W W1 : World} {e : TypeId} {v u : Value} {xs : List Value} {S : Nat → Prop} {T : TypeId} {p q : Nat} {ws : List Int} {size : Int}
theorem Own.setAt {g cap k : Nat} (h : Own W e (.slice (some ⟨g, 0, none⟩) xs.length cap) xs) (hk : k < xs.length) :
  Own (W.setCell ⟨g, k, none⟩ u) e (.slice (some ⟨g, 0, none⟩) xs.length cap) (xs.set k u) ∧ Fr W (W.setCell ⟨g, k, none⟩ u) (fun i => i = g) := by
 refine ⟨?_, Fr.setCell (S := fun i => i = g) (a := ⟨g, k, none⟩) (Fr.refl W _) (fun _ => rfl) _⟩
 rcases h.2 with ⟨hv, _⟩ | ⟨g', cap', cur, hv, hb, hg, hl, hm, hs, ht⟩
 ·cases hv
 ·injection hv with h1 h2 h3
  injection h1 with h1
  injection h1 with h1
  subst h1
  subst h3
  refine ⟨by simp, .inr ⟨g, cap, cur.setIfInBounds k u, by simp, Nat.zero_le _, ?_, by simpa using hl, hm, by simpa using hs, ?_⟩⟩
  ·simp [World.setCell, Array.getElem?_modify, hg]
  ·rw [List.length_set, Array.toList_setIfInBounds, List.take_set, ht]
theorem Own.apart {e2 : TypeId} {ys : List Value} (h : Own W e v xs) (k : Own W e2 u ys) (ne : e ≠ e2) : Apt v u := fun i h1 h2 => by
 obtain ⟨c1, b1⟩ := h.elem i h1
 obtain ⟨c2, b2⟩ := k.elem i h2
 rw [b1] at b2
 simp at b2
 exact ne b2.2
theorem Own.not_ptr (h : Own W e u xs) (ha : Ar T W p v ws size) (ne : T ≠ e) : ∀ i, InBlk u i → i ≠ p := fun i hi ei => by
 obtain ⟨c, b⟩ := h.elem i hi
 rw [ei, ha.blk] at b
 simp at b
 exact ne b.2
theorem Own.not_box {D : Nat} {c : Array Value} {T2 : TypeId} (h : Own W e u xs) (hb : W.heap[D]? = some (.cells c T2 (0, 0))) (ne : T2 ≠ e) : ¬ InBlk u D := fun hi => by
 obtain ⟨c2, b⟩ := h.elem D hi
 rw [hb] at b
 simp at b
 exact ne b.2
end
theorem step_append_run {P : Program} (w : World) {ops : Array Oper} {o : Oper} {a : Act} {K : Act → World → Prop} {Q : Exit → Act → World → Prop} {E : Prop} (hgd : o.guard = none) (s x : Operand) (t tn : TypeId)
  (ho : o.op = .call { callee := .builtin .append, args := #[s, x], argTypes := #[t, tn] }) (vs vx : Value) (hs : a.eval s = vs) (hx : a.eval x = vx)
  (v' : Value) (w' : World) (hr : (Builtin.append_ #[t, tn] o.type #[vs, vx]).run P w = .ok v' w') (h : K (a.put o.dst v') w') :
  if Region.wanted o (yielded ops a.tmps) = true then Oper.wp P o a w K Q else E := by
 have hw : Region.wanted o (yielded ops a.tmps) = true := by simp [Region.wanted, hgd]
 rw [if_pos hw]
 exact Lib.wp_append_run w s x t tn ho vs vx hs hx v' w' hr h
theorem mk_bools (n : Nat) (w : World) (hn : n ≤ 1048576) : ∃ w', (Instr.makeSlice 92 (.int .i64 (n : Int)) (.int .i64 (n : Int))).run Tryd.prog w = .ok (.slice (some ⟨w.heap.size, 0, none⟩) n n) w' ∧ Own w' 4 (.slice (some ⟨w.heap.size, 0, none⟩) n n) (bw (List.replicate n false)) ∧ Fr w w' (fun _ => False) := by
 obtain ⟨i0, hi, hz0, hz1, hz2⟩ := info_parts boolInfo
 obtain ⟨w', hr, ho, hg⟩ := run_make_full (P := Tryd.prog) w 0 92 4 i0 (.bool false) 1 Tryd.underlying92 hi hz0 hz1 .i64 .i64 n (by rw [hz2]; omega) (by unfold maxLen; omega) (Nat.zero_le _)
 refine ⟨w', hr, ?_, (Fr.refl w _).grown hg (fun k hk => by cases hk)⟩
 have e : (madeCells (Value.cells (.bool false)) (n * 1)).toList = bw (List.replicate n false) := by
  rw [Nat.mul_one]
  exact (toList_madeCells_one (.bool false) n).trans (by simp [bw])
 rw [e] at ho
 unfold Own
 rw [bw_length, List.length_replicate]
 exact ho
theorem fieldsH_nonneg {h : Hdr} (hz : 0 ≤ h.size) : 0 ≤ fieldsH h := by unfold fieldsH; split <;> first | decide | (split <;> first | exact hz | decide)
def fitA (ws : List Int) (a : Int) : Bool := decide (fieldsH (obj0 ws a) ≤ (obj0 ws a).size)
theorem soundB_none {ws rs : List Int} (h : objs ws = none) : soundB ws rs = false := by unfold soundB; rw [h]
theorem soundB_far {ws rs L : List Int} {a : Int} (h : objs ws = some L) (ha : a ∈ L) (hf : fitA ws a = false) : soundB ws rs = false := by
 unfold soundB
 rw [h]
 simp only [Bool.and_eq_false_iff, List.all_eq_false]
 right
 refine ⟨a, ha, ?_⟩
 unfold soundAt
 unfold fitA at hf
 simp only [hf, Bool.false_and, Bool.false_eq_true, not_false_eq_true]
theorem isList_nil (n : Nat) : isList n [] = List.replicate n false := by
 unfold isList
 apply List.ext_getElem
 ·simp
 ·intro i h1 h2; simp
theorem isList_snoc {n k : Nat} {P : List Int} (hk : k < n) : (isList n P).set k true = isList n (P ++ [(k : Int)]) := by
 apply List.ext_getElem
 ·simp [isList]
 ·intro i h1 h2
  simp only [List.length_set, isList_len] at h1
  rw [List.getElem_set]
  by_cases h : k = i
  ·subst h; simp [isList]
  ·rw [if_neg h]
   have : ¬ ((i : Int) = k) := by omega
   simp [isList, this]
end Go.Proofs.YtjiaaefpepdoeaaDoor
namespace Go.Proofs.YtjiaaefpepdoeaaDoor
open Go.RowKit Md
set_option linter.unusedVariables false
def Sld (W : World) (sp p : Nat) (xv lv hv : Value) : Prop := W.heap[sp]? = some (.cells #[.pointer (some ⟨p, 0, none⟩), xv, lv, hv] 105 (0, 0))
section
variable {W W1 : World} {sp p : Nat} {xv lv hv : Value} {S : Nat → Prop}
theorem Sld.c0 (h : Sld W sp p xv lv hv) : W.cell? ⟨sp, 0, none⟩ = some (.pointer (some ⟨p, 0, none⟩)) := by unfold Sld at h; simp [World.cell?, h]
theorem Sld.c1 (h : Sld W sp p xv lv hv) : W.cell? ⟨sp, 1, none⟩ = some xv := by unfold Sld at h; simp [World.cell?, h]
theorem Sld.keep (h : Sld W sp p xv lv hv) (hf : Fr W W1 S) (hn : ¬ S sp) : Sld W1 sp p xv lv hv := hf.blk h hn
end
end Go.Proofs.YtjiaaefpepdoeaaDoor
namespace Go.Proofs.YtjiaaefpepdoeaaDoor
open Go.RowKit Md
set_option linter.unusedVariables false
def hcs (h : Hdr) : List Value := [.int .i64 h.kind, .int .i64 h.size, .int .i64 h.tree, .bool h.neg]
def hws (hs : List Hdr) : List Value := hs.flatMap hcs
theorem hws_length (hs : List Hdr) : (hws hs).length = hs.length * 4 := by
 unfold hws
 induction hs with
 | nil => rfl
 | cons f l ih => simp only [List.flatMap_cons, List.length_append, List.length_cons, hcs, List.length_nil, ih]; omega
theorem hws_get : ∀ {hs : List Hdr} {k : Nat} (h : k < hs.length) (c : Nat), c < 4 → (hws hs)[k * 4 + c]? = (hcs (hs.getD k hdr0))[c]? := by
 intro hs
 induction hs with
 | nil => intro k h; simp at h
 | cons f l ih =>
  intro k h c hc
  have e : hws (f :: l) = hcs f ++ hws l := by simp [hws]
  have e4 : (hcs f).length = 4 := rfl
  rw [e]
  cases k with
  | zero => rw [List.getElem?_append_left (by rw [e4]; omega)]; simp
  | succ k =>
   rw [List.getElem?_append_right (by rw [e4]; omega), e4]
   have e5 : (k + 1) * 4 + c - 4 = k * 4 + c := by omega
   rw [e5, ih (by simp at h; omega) c hc]
   simp
def OwnH (w : World) (v : Value) (hs : List Hdr) : Prop := w.ownsRow 0 88 4 v hs.length (hws hs)
section
variable {w w1 : World} {v u : Value} {hs : List Hdr} {S : Nat → Prop}
theorem OwnH.keep (h : OwnH w v hs) (hf : Fr w w1 S) (hn : ∀ i, InBlk v i → ¬ S i) : OwnH w1 v hs := by
 refine ⟨h.1, ?_⟩
 rcases h.2 with h0 | ⟨g, cap, cur, rfl, hb, hg, rest⟩
 ·exact .inl h0
 ·exact .inr ⟨g, cap, cur, rfl, hb, hf.blk hg (hn g (by simp [InBlk, Value.ownBlock])), rest⟩
theorem OwnH.elem (h : OwnH w v hs) : ∀ i, InBlk v i → ∃ cur, w.heap[i]? = some (.cells cur 88 (0, 0)) := by
 intro i hi
 rcases h.2 with ⟨rfl, _⟩ | ⟨g, cap, cur, rfl, hb, hg, _⟩
 ·simp [InBlk, Value.ownBlock] at hi
 ·simp [InBlk, Value.ownBlock] at hi; subst hi; exact ⟨cur, hg⟩
theorem OwnH.len (h : OwnH w v hs) : ∃ A cap, v = .slice A hs.length cap := by
 rcases h.2 with ⟨rfl, h0⟩ | ⟨g, cap, cur, rfl, _⟩
 ·exact ⟨none, 0, by rw [h0]⟩
 ·exact ⟨_, cap, rfl⟩
theorem OwnH.apart {e2 : TypeId} {ys : List Value} (h : OwnH w v hs) (k : Own w e2 u ys) (ne : 88 ≠ e2) : Apt v u := fun i h1 h2 => by
 obtain ⟨c1, b1⟩ := h.elem i h1
 obtain ⟨c2, b2⟩ := k.elem i h2
 rw [b1] at b2
 simp at b2
 exact ne b2.2
theorem OwnH.cellAt {A : Option Addr} {n cap : Nat} (h : OwnH w (.slice A n cap) hs) (h0 : 0 < hs.length) : ∃ b, A = some ⟨b, 0, none⟩ ∧ b < w.heap.size ∧ ∀ i c, i < hs.length → c < 4 → w.cell? ⟨b, i * 4 + c, none⟩ = (hcs (hs.getD i hdr0))[c]? ∧ w.frozen? ⟨b, i * 4 + c, none⟩ = false := by
 rcases h.2 with ⟨_, h1⟩ | ⟨g, cap', cur, e1, hb, hg, hl, hm, hs2, ht⟩
 ·omega
 ·injection e1 with e1 e2 e3
  refine ⟨g, e1, (Array.getElem?_eq_some_iff.1 hg).1, fun i c hi hc => ⟨?_, by simp [World.frozen?, hg]⟩⟩
  rw [← hws_get hi c hc, cell_of_row w g (i * 4 + c) cur 88 (0, 0) hg, ← ht, List.getElem?_take, if_pos (by omega)]
  simp
end
end Go.Proofs.YtjiaaefpepdoeaaDoor
