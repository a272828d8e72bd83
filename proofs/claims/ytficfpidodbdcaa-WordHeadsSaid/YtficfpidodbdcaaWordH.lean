/-
  CONTRACTS of the functions on headers, out of the printed ones, as plain functions. Conditions: each number is of its kind.
-/
import Derived.Test.YtficfpidodbdcaaWord
import Derived.Test.YtficfpidodbdcaaHead
namespace Go.Proofs.Ytficfpidodbdcaa.Wd
open Go.RowKit Go.Proofs.Ytficfpidodbdcaa.PWordHeads Go.Proofs.YtficfpidodbdcaaW.PrintWords Go.Proofs.YtficfpidodbdcaaW.PrintLast
open Go.Proofs.Ytficfpidodbdcaa.Md
set_option linter.unusedVariables false

def i64s (n : Int) : Prop := -9223372036854775808 ≤ n ∧ n ≤ 9223372036854775807
theorem within_eq (n : Int) : word_within.f n 20 = some (decide (0 ≤ n) && decide (n < 1048576)) := by
  unfold word_within.f
  have e : shl .i64 1 20 = 1048576 := by unfold shl; rw [IntKind.wrap_i64]; decide
  by_cases h : n ≥ 0
  · rw [if_pos h, if_pos (by omega), e]; simp [show 0 ≤ n from h]
  · rw [if_neg h]; simp [show ¬ 0 ≤ n from h]
theorem pack_bits (h : Hdr) (hm : mayH h = true) :
    (if h.neg = true then bits .or .i64 (bits .or .i64 (bits .or .i64 h.kind (wrap64 (h.size * 8))) (wrap64 (h.tree * 8388608))) 4 else bits .or .i64 (bits .or .i64 h.kind (wrap64 (h.size * 8))) (wrap64 (h.tree * 8388608))) = packH h := by
  rw [mayH_iff] at hm
  have e1 : wrap64 (h.size * 8) = h.size * 8 := by unfold wrap64; omega
  have e2 : wrap64 (h.tree * 8388608) = h.tree * 8388608 := by unfold wrap64; omega
  have e3 : bits .or .i64 h.kind (h.size * 8) = h.size * 8 + h.kind := by
    rw [bits_or_comm]; exact i64_or 3 (by omega) (by omega) (by omega) (by omega) (by omega) (by omega)
  have e4 : bits .or .i64 (h.size * 8 + h.kind) (h.tree * 8388608) = h.tree * 8388608 + (h.size * 8 + h.kind) := by
    rw [bits_or_comm]; exact i64_or 23 (by omega) (by omega) (by omega) (by omega) (by omega) (by omega)
  rw [e1, e2, e3, e4]
  unfold packH
  cases hn : h.neg with
  | false => simp only [Bool.false_eq_true, if_false]; omega
  | true =>
    simp only [if_true]
    obtain ⟨a, ha⟩ : ∃ a, a = h.tree * 8388608 + (h.size * 8 + h.kind) := ⟨_, rfl⟩
    have k0 : 0 ≤ a := by omega
    have k1 : a < 8796093022208 := by omega
    have k2 : a % 8 = h.kind := by omega
    rw [← ha]
    -- the bit of worth 4 is not set: kind takes the two lowest, size begins at the fourth
    have e5 : bits .or .i64 a 4 = a + 4 := by
      have hsplit : a = (a / 8) * 8 + h.kind := by omega
      have s1 : bits .or .i64 ((a / 8) * 8) (4 + h.kind) = (a / 8) * 8 + (4 + h.kind) := i64_or 3 (by omega) (by omega) (by omega) (by omega) (by omega) (by omega)
      have s2 : bits .or .i64 ((a / 8) * 8) h.kind = (a / 8) * 8 + h.kind := i64_or 3 (by omega) (by omega) (by omega) (by omega) (by omega) (by omega)
      have s3 : bits .or .i64 4 h.kind = 4 + h.kind := i64_or 2 (by omega) (by omega) (by omega) (by omega) (by omega) (by omega)
      have s4 : bits .or .i64 (bits .or .i64 ((a / 8) * 8) h.kind) 4 = bits .or .i64 ((a / 8) * 8) (bits .or .i64 4 h.kind) := by
        rw [s2, s3]
        obtain ⟨x, hx⟩ := Int.eq_ofNat_of_zero_le (show 0 ≤ a / 8 * 8 by omega)
        obtain ⟨y, hy⟩ := Int.eq_ofNat_of_zero_le (show 0 ≤ h.kind by omega)
        have p63 : (2 : Nat) ^ 63 = 9223372036854775808 := by decide
        have b1 := (bits_nat .i64 63 (by decide) wraps_i64 x y (by omega) (by omega)).2
        have b2 := (bits_nat .i64 63 (by decide) wraps_i64 (x ||| y) 4 (Nat.or_lt_two_pow (by omega) (by omega)) (by decide)).2
        have b3 := (bits_nat .i64 63 (by decide) wraps_i64 4 y (by decide) (by omega)).2
        have b4 := (bits_nat .i64 63 (by decide) wraps_i64 x (4 ||| y) (by omega) (Nat.or_lt_two_pow (by decide) (by omega))).2
        rw [← hx, ← hy] at b1
        rw [← hy] at b3
        rw [← hx] at b4
        rw [s2] at b1
        rw [show ((4 : Nat) : Int) = 4 from rfl] at b2 b3
        rw [s3] at b3
        rw [← b1] at b2
        rw [← b3] at b4
        rw [b2, b4]
        congr 1
        rw [Nat.or_assoc, Nat.or_comm y 4]
      rw [s2, s3, s1, ← hsplit] at s4
      omega
    omega
theorem make_eq (h : Hdr) : word_Make.f 2 h.kind h.size h.tree h.neg = some (makeH h) := by
  have hno : mayH h = false → word_Make.j0 2 true h.kind h.size h.tree h.neg = some (makeH h) := fun hm => by
    rw [word_Make.j0, if_pos rfl, none_eq]; unfold makeH; rw [hm]; rfl
  unfold word_Make.f
  rw [within_eq, within_eq]
  by_cases k0 : h.kind < 0
  · rw [if_pos k0]; exact hno (by unfold mayH; simp [show ¬ 0 ≤ h.kind by omega])
  rw [if_neg k0]
  by_cases k3 : h.kind > 3
  · rw [if_pos k3]; exact hno (by unfold mayH; simp [show ¬ h.kind ≤ 3 by omega])
  rw [if_neg k3]
  simp only [Option.bind_some]
  by_cases hz : (decide (0 ≤ h.size) && decide (h.size < 1048576)) = true
  · rw [if_pos hz]
    cases ht : (decide (0 ≤ h.tree) && decide (h.tree < 1048576)) with
    | false => exact hno (by unfold mayH; rw [Bool.and_assoc _ _ (decide (h.tree < 1048576)), ht, Bool.and_false])
    | true =>
      have hm : mayH h = true := by
        simp at hz ht; rw [mayH_iff]; omega
      rw [word_Make.j0, if_neg (by decide)]
      have hp := pack_bits h hm
      have hmk : makeH h = ofW 6 (packH h) := by unfold makeH; rw [if_pos hm]
      cases hn : h.neg with
      | true =>
        rw [hn, if_pos rfl] at hp
        rw [if_pos rfl, hp, of_eq, hmk]; rfl
      | false =>
        rw [hn, if_neg (by decide)] at hp
        rw [if_neg (by decide), hp, of_eq, hmk]; rfl
  · rw [if_neg hz]
    refine hno ?_
    by_cases hm : mayH h = true
    · rw [mayH_iff] at hm; simp at hz; omega
    · simpa using hm
theorem header_c (k z t : Int) (n : Bool) (w : World) : Calls Try.prog 17 #[.agg #[.int .i64 k, .int .i64 z, .int .i64 t, .bool n]] w fun e w' => e = .returned (.agg #[.int .i64 k, .int .i64 z, .int .i64 t, .bool n]) ∧ Below w.heap.size w w' := tenementlaw1_header.calls k z t n k z t n w rfl
theorem make_c (k z t : Int) (n : Bool) (r : Int) (w : World) (h : makeH ⟨k, z, t, n⟩ = r) : Calls Try.prog 16 #[.agg #[.int .i64 k, .int .i64 z, .int .i64 t, .bool n]] w fun e w' => e = .returned (.int .u64 r) ∧ Below w.heap.size w w' := word_Make.calls 2 k z t n r w (by rw [← h]; exact make_eq ⟨k, z, t, n⟩)
end Go.Proofs.Ytficfpidodbdcaa.Wd
