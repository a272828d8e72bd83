/-
  PLAIN LAW: the bit operations and wraps that words and headers need, as sums, quotients and remainders. Conditions: the ranges named in each.
-/
import Derived.Laws.BitsLemmas
import Derived.Laws.Bits64
import Derived.RowKit
import Derived.Test.YtjiaaefpepdoeaaEnc
namespace Go.Proofs.Ytjiaaefpepdoeaa.Md
open Go Go.RowKit
set_option linter.unusedVariables false

theorem wraps_u64 (n : Int) (h₀ : 0 ≤ n) (h₁ : n < 2 ^ 64) : IntKind.u64.wrap n = n := by rw [IntKind.wrap_u64]; omega
theorem wraps_i64 (n : Int) (h₀ : 0 ≤ n) (h₁ : n < 2 ^ 63) : IntKind.i64.wrap n = n := by rw [IntKind.wrap_i64]; omega
theorem u64_and15 {x : Int} (h : okW x) : bits .and .u64 x 15 = x % 16 := bits_mask .u64 64 (by decide) wraps_u64 4 (by decide) x h.1 (by have := h.2; omega)
theorem i64_and {x : Int} (i : Nat) (hi : i ≤ 63) (h0 : 0 ≤ x) (h1 : x < 2 ^ 63) : bits .and .i64 x (2 ^ i - 1) = x % 2 ^ i := bits_mask .i64 63 (by decide) wraps_i64 i hi x h0 h1
theorem i64_and1 {x : Int} (h0 : 0 ≤ x) (h1 : x < 2 ^ 63) : bits .and .i64 x 1 = x % 2 := i64_and 1 (by decide) h0 h1
theorem i64_and3 {x : Int} (h0 : 0 ≤ x) (h1 : x < 2 ^ 63) : bits .and .i64 x 3 = x % 4 := i64_and 2 (by decide) h0 h1
theorem i64_and1048575 {x : Int} (h0 : 0 ≤ x) (h1 : x < 2 ^ 63) : bits .and .i64 x 1048575 = x % 1048576 := i64_and 20 (by decide) h0 h1
/-- the one bit of worth 2^i -/
theorem i64_bit {x : Int} (h0 : 0 ≤ x) (h1 : x < 2 ^ 63) : bits .and .i64 x 4 = (x / 4 % 2) * 4 := by
  obtain ⟨a, rfl⟩ := Int.eq_ofNat_of_zero_le h0
  have ha : a < 2 ^ 63 := by exact_mod_cast h1
  have e := (bits_nat .i64 63 (by decide) wraps_i64 a 4 ha (by decide)).1
  have e2 : a &&& 4 = (a / 4 % 2) * 4 := by
    have h7 : a &&& 7 = a % 8 := Nat.and_two_pow_sub_one_eq_mod a 3
    have h4 : a &&& 4 = (a % 8) &&& 4 := by rw [← h7, Nat.and_assoc]; rfl
    have h8 : a / 4 % 2 = (a % 8) / 4 % 2 := by omega
    rw [h4, h8]
    have hlt : a % 8 < 8 := Nat.mod_lt _ (by decide)
    generalize a % 8 = m at hlt
    match m, hlt with
    | 0, _ => rfl
    | 1, _ => rfl
    | 2, _ => rfl
    | 3, _ => rfl
    | 4, _ => rfl
    | 5, _ => rfl
    | 6, _ => rfl
    | 7, _ => rfl
    | n + 8, h => omega
  have e3 : ((4 : Nat) : Int) = 4 := rfl
  rw [e3] at e
  rw [e, e2]
  omega
theorem i64_or {x y : Int} (i : Nat) (hx₀ : 0 ≤ x) (hx : x % 2 ^ i = 0) (hx₁ : x < 2 ^ 63) (hy₀ : 0 ≤ y) (hy : y < 2 ^ i) (hi : i ≤ 63) : bits .or .i64 x y = x + y :=
  bits_join .i64 63 (by decide) wraps_i64 i x y hx₀ hx hx₁ hy₀ hy (Int.lt_of_lt_of_le hy (by exact_mod_cast Nat.pow_le_pow_right (by decide : 0 < 2) hi))
theorem bits_or_comm (k : IntKind) (x y : Int) : bits .or k x y = bits .or k y x := by
  simp only [bits, BitVec.or_comm]
/-- a word: its value's sixteenfold and its tag -/
theorem of_bits {t n : Int} (h0 : 0 ≤ t) (h7 : t ≤ 7) (hf : fitsW n = true) :
    bits .or .u64 (IntKind.u64.wrap (IntKind.u64.wrap n * 16)) (IntKind.u64.wrap t) = ofW t n := by
  have e0 : ofW t n = n % 1152921504606846976 * 16 + t := by unfold ofW; exact if_pos ⟨h0, h7, hf⟩
  have e1 : IntKind.u64.wrap (IntKind.u64.wrap n * 16) = n % 1152921504606846976 * 16 := by
    rw [IntKind.wrap_u64, IntKind.wrap_u64]; omega
  have e2 : IntKind.u64.wrap t = t := wraps_u64 t h0 (by omega)
  rw [e0, e1, e2]
  exact bits_join .u64 64 (by decide) wraps_u64 4 _ t (by omega) (by omega) (by omega) h0 (by omega) (by omega)
theorem tag_bits {w : Int} (h : okW w) : wrap64 (bits .and .u64 w 15) = tagW w := by
  rw [u64_and15 h]; unfold wrap64 tagW; omega
theorem val_bits {w : Int} (h : okW w) : wrap64 w / 16 = valW w := by
  unfold wrap64 valW; unfold okW at h; split <;> omega
theorem fitsW_bits (n : Int) : (if n ≥ (-576460752303423488) then some (decide (n ≤ 576460752303423487)) else some false) = some (fitsW n) := by
  unfold fitsW
  by_cases h : n ≥ -576460752303423488
  · rw [if_pos h]; simp [show -576460752303423488 ≤ n from h]
  · rw [if_neg h]; simp [show ¬ (-576460752303423488 ≤ n) from h]
end Go.Proofs.Ytjiaaefpepdoeaa.Md
