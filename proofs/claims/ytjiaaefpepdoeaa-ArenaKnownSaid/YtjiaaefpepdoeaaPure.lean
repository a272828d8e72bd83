/-
  CONTRACTS of the functions on words and headers, out of the printed ones, as plain functions. Conditions: each number is of its kind.
-/
import Derived.Test.YtjiaaefpepdoeaaPrt
import Derived.Test.YtjiaaefpepdoeaaBits
import Derived.Test.YtjiaaefpepdoeaaHead
import Derived.Test.YtjiaaefpepdoeaaFr
namespace Go.Proofs.Ytjiaaefpepdoeaa.Wd
open Go.RowKit Go.Proofs.Ytjiaaefpepdoeaa.PSlideRoots Go.Proofs.YtjiaaefpepdoeaaW.PrintWords Go.Proofs.YtjiaaefpepdoeaaW.PrintLast
open Go.Proofs.Ytjiaaefpepdoeaa.Md
set_option linter.unusedVariables false

theorem wf_u64 {n : Int} (h : (Lit.int .u64 n).wf = true) : okW n := by
  simp [Lit.wf, IntKind.min, IntKind.max, IntKind.bits, IntKind.signed] at h
  unfold okW; omega
theorem wf_i64 {n : Int} (h : (Lit.int .i64 n).wf = true) : -9223372036854775808 ≤ n ∧ n ≤ 9223372036854775807 := by
  simp [Lit.wf, IntKind.min, IntKind.max, IntKind.bits, IntKind.signed] at h
  omega
theorem none_eq : word_none.f = some 4 := rfl
theorem fits_eq (n : Int) : word_Fits.f n = some (fitsW n) := fitsW_bits n
theorem rfits_eq (n : Int) : tenementref1_Fits.f n = some (fitsW n) := fitsW_bits n
theorem of_eq (t n : Int) : word_Of.f t n = some (ofW t n) := by
  unfold word_Of.f
  rw [none_eq, fits_eq]
  simp only [Option.bind_some]
  by_cases h0 : t < 0
  · rw [if_pos h0]; unfold ofW; rw [if_neg (by omega)]
  rw [if_neg h0]
  by_cases h7 : t > 7
  · rw [if_pos h7]; unfold ofW; rw [if_neg (by omega)]
  rw [if_neg h7]
  by_cases hf : fitsW n = true
  · rw [if_pos hf, of_bits (by omega) (by omega) hf]
  · rw [if_neg hf]; unfold ofW; rw [if_neg (fun h => hf h.2.2)]
theorem rof_eq (t n : Int) : tenementref1_Of.f t n = some (ofW t n) := by
  unfold tenementref1_Of.f
  rw [rfits_eq]
  simp only [Option.bind_some]
  by_cases h0 : t < 0
  · rw [if_pos h0]; unfold ofW; rw [if_neg (by omega)]
  rw [if_neg h0]
  by_cases h7 : t > 7
  · rw [if_pos h7]; unfold ofW; rw [if_neg (by omega)]
  rw [if_neg h7]
  by_cases hf : fitsW n = true
  · rw [if_pos hf, of_bits (by omega) (by omega) hf]
  · rw [if_neg hf]; unfold ofW; rw [if_neg (fun h => hf h.2.2)]
theorem tag_eq {w : Int} (h : okW w) : word_Tag.f w = some (tagW w) := by unfold word_Tag.f; rw [tag_bits h]
theorem rtag_eq {w : Int} (h : okW w) : tenementref1_Tag.f w = some (tagW w) := by unfold tenementref1_Tag.f; rw [tag_bits h]
theorem val_eq {w : Int} (h : okW w) : word_Value.f w = some (valW w) := by unfold word_Value.f; rw [val_bits h]
theorem rval_eq {w : Int} (h : okW w) : tenementref1_Value.f w = some (valW w) := by unfold tenementref1_Value.f; rw [val_bits h]
/-! ### the contracts -/
theorem fits_c (n : Int) (b : Bool) (w : World) (h : fitsW n = b) : Calls Try.prog 83 #[.int .i64 n] w fun e w' => e = .returned (.bool b) ∧ Drawn0 w w' := word_Fits.calls n b w (by rw [fits_eq, h])
theorem of_c (t n r : Int) (w : World) (h : ofW t n = r) : Calls Try.prog 71 #[.int .i64 t, .int .i64 n] w fun e w' => e = .returned (.int .u64 r) ∧ Drawn0 w w' := word_Of.calls t n r w (by rw [of_eq, h])
theorem tag_c (x r : Int) (w : World) (hx : okW x) (h : tagW x = r) : Calls Try.prog 66 #[.int .u64 x] w fun e w' => e = .returned (.int .i64 r) ∧ Drawn0 w w' := word_Tag.calls x r w (by rw [tag_eq hx, h])
theorem val_c (x r : Int) (w : World) (hx : okW x) (h : valW x = r) : Calls Try.prog 67 #[.int .u64 x] w fun e w' => e = .returned (.int .i64 r) ∧ Drawn0 w w' := word_Value.calls x r w (by rw [val_eq hx, h])
theorem rof_c (t n r : Int) (w : World) (h : ofW t n = r) : Calls Try.prog 46 #[.int .i64 t, .int .i64 n] w fun e w' => e = .returned (.int .u64 r) ∧ Drawn0 w w' := tenementref1_Of.calls t n r w (by rw [rof_eq, h])
theorem rtag_c (x r : Int) (w : World) (hx : okW x) (h : tagW x = r) : Calls Try.prog 43 #[.int .u64 x] w fun e w' => e = .returned (.int .i64 r) ∧ Drawn0 w w' := tenementref1_Tag.calls x r w (by rw [rtag_eq hx, h])
theorem rval_c (x r : Int) (w : World) (hx : okW x) (h : valW x = r) : Calls Try.prog 64 #[.int .u64 x] w fun e w' => e = .returned (.int .i64 r) ∧ Drawn0 w w' := tenementref1_Value.calls x r w (by rw [rval_eq hx, h])
theorem rfits_c (n : Int) (b : Bool) (w : World) (h : fitsW n = b) : Calls Try.prog 72 #[.int .i64 n] w fun e w' => e = .returned (.bool b) ∧ Drawn0 w w' := tenementref1_Fits.calls n b w (by rw [rfits_eq, h])
def i64s (n : Int) : Prop := -9223372036854775808 ≤ n ∧ n ≤ 9223372036854775807
theorem pack_bits (h : Hdr) (hm : mayH h = true) :
    (if h.neg = true then bits .or .i64 (bits .or .i64 (bits .or .i64 h.kind (wrap64 (h.size * 8))) (wrap64 (h.tree * 8388608))) 4 else bits .or .i64 (bits .or .i64 h.kind (wrap64 (h.size * 8))) (wrap64 (h.tree * 8388608))) = packH h := by
  rw [mayH_iff] at hm
  have e1 : wrap64 (h.size * 8) = h.size * 8 := by unfold wrap64; omega
  have e2 : wrap64 (h.tree * 8388608) = h.tree * 8388608 := by unfold wrap64; omega
  have e3 : bits .or .i64 h.kind (h.size * 8) = h.size * 8 + h.kind := by
    rw [bits_or_comm]; exact i64_or 3 (by omega) (by omega) (by omega) (by omega) (by omega) (by omega)
  have e4 : bits .or .i64 (h.size * 8 + h.kind) (h.tree * 8388608) = h.tree * 8388608 + (h.size * 8 + h.kind) := by
    rw [bits_or_comm]; exact i64_or 23 (by omega) (by omega) (by omega) (by omega) (by omega) (by omega)
  rw [e1, e2, e3, e4]
  unfold packH
  cases hn : h.neg with
  | false => simp only [Bool.false_eq_true, if_false]; omega
  | true =>
    simp only [if_true]
    obtain ⟨a, ha⟩ : ∃ a, a = h.tree * 8388608 + (h.size * 8 + h.kind) := ⟨_, rfl⟩
    have k0 : 0 ≤ a := by omega
    have k1 : a < 8796093022208 := by omega
    have k2 : a % 8 = h.kind := by omega
    rw [← ha]
    -- the bit of worth 4 is not set: kind takes the two lowest, size begins at the fourth
    have e5 : bits .or .i64 a 4 = a + 4 := by
      have hsplit : a = (a / 8) * 8 + h.kind := by omega
      have s1 : bits .or .i64 ((a / 8) * 8) (4 + h.kind) = (a / 8) * 8 + (4 + h.kind) := i64_or 3 (by omega) (by omega) (by omega) (by omega) (by omega) (by omega)
      have s2 : bits .or .i64 ((a / 8) * 8) h.kind = (a / 8) * 8 + h.kind := i64_or 3 (by omega) (by omega) (by omega) (by omega) (by omega) (by omega)
      have s3 : bits .or .i64 4 h.kind = 4 + h.kind := i64_or 2 (by omega) (by omega) (by omega) (by omega) (by omega) (by omega)
      have s4 : bits .or .i64 (bits .or .i64 ((a / 8) * 8) h.kind) 4 = bits .or .i64 ((a / 8) * 8) (bits .or .i64 4 h.kind) := by
        rw [s2, s3]
        obtain ⟨x, hx⟩ := Int.eq_ofNat_of_zero_le (show 0 ≤ a / 8 * 8 by omega)
        obtain ⟨y, hy⟩ := Int.eq_ofNat_of_zero_le (show 0 ≤ h.kind by omega)
        have p63 : (2 : Nat) ^ 63 = 9223372036854775808 := by decide
        have b1 := (bits_nat .i64 63 (by decide) wraps_i64 x y (by omega) (by omega)).2
        have b2 := (bits_nat .i64 63 (by decide) wraps_i64 (x ||| y) 4 (Nat.or_lt_two_pow (by omega) (by omega)) (by decide)).2
        have b3 := (bits_nat .i64 63 (by decide) wraps_i64 4 y (by decide) (by omega)).2
        have b4 := (bits_nat .i64 63 (by decide) wraps_i64 x (4 ||| y) (by omega) (Nat.or_lt_two_pow (by decide) (by omega))).2
        rw [← hx, ← hy] at b1
        rw [← hy] at b3
        rw [← hx] at b4
        rw [s2] at b1
        rw [show ((4 : Nat) : Int) = 4 from rfl] at b2 b3
        rw [s3] at b3
        rw [← b1] at b2
        rw [← b3] at b4
        rw [b2, b4]
        congr 1
        rw [Nat.or_assoc, Nat.or_comm y 4]
      rw [s2, s3, s1, ← hsplit] at s4
      omega
    omega
theorem rmake_eq (h : Hdr) : tenementref1_Make.f 2 h.kind h.size h.tree h.neg = some (makeH h) := by
  have hno : mayH h = false → tenementref1_Make.j0 2 true h.kind h.size h.tree h.neg = some (makeH h) := fun hm => by
    rw [tenementref1_Make.j0, if_pos rfl]; unfold makeH; rw [hm]; rfl
  have hno' : ¬ mayH h = true → tenementref1_Make.j0 2 true h.kind h.size h.tree h.neg = some (makeH h) := fun hm => hno (by simpa using hm)
  unfold tenementref1_Make.f
  by_cases k0 : h.kind < 0
  · rw [if_pos k0]; exact hno' (fun hm => by rw [mayH_iff] at hm; omega)
  rw [if_neg k0]
  by_cases k3 : h.kind > 3
  · rw [if_pos k3]; exact hno' (fun hm => by rw [mayH_iff] at hm; omega)
  rw [if_neg k3]
  by_cases z0 : h.size < 0
  · rw [if_pos z0]; exact hno' (fun hm => by rw [mayH_iff] at hm; omega)
  rw [if_neg z0]
  by_cases z3 : h.size ≥ 1048576
  · rw [if_pos z3]; exact hno' (fun hm => by rw [mayH_iff] at hm; omega)
  rw [if_neg z3]
  by_cases t0 : h.tree < 0
  · rw [if_pos t0]; exact hno' (fun hm => by rw [mayH_iff] at hm; omega)
  rw [if_neg t0]
  by_cases t3 : h.tree ≥ 1048576
  · rw [decide_eq_true t3]; exact hno' (fun hm => by rw [mayH_iff] at hm; omega)
  rw [decide_eq_false t3]
  have hm : mayH h = true := by rw [mayH_iff]; omega
  rw [tenementref1_Make.j0, if_neg (by decide)]
  have hp := pack_bits h hm
  have hmk : makeH h = ofW 6 (packH h) := by unfold makeH; rw [if_pos hm]
  cases hn : h.neg with
  | true =>
    rw [hn, if_pos rfl] at hp
    rw [if_pos rfl, hp, rof_eq, hmk]; rfl
  | false =>
    rw [hn, if_neg (by decide)] at hp
    rw [if_neg (by decide), hp, rof_eq, hmk]; rfl
/-- what reading tells: the header (or the zero one), and whether it is one -/
def readP (w : Int) : Int × Int × Int × Bool × Bool := match readH w with
  | some h => (h.kind, h.size, h.tree, h.neg, true)
  | none => (0, 0, 0, false, false)
theorem val_lt {w : Int} (h : okW w) : valW w < 576460752303423488 := by unfold valW; unfold okW at h; split <;> omega
theorem read_eq {w : Int} (hw : okW w) : word_Read.f w = some (readP w) := by
  unfold word_Read.f readP
  rw [val_eq hw, tag_eq hw]
  simp only [Option.bind_some]
  have hlt := val_lt hw
  by_cases ht : tagW w = 6
  · rw [if_pos ht]
    by_cases h0 : valW w < 0
    · rw [if_pos h0, show readH w = none from by unfold readH; rw [if_neg (by omega)]]
    rw [if_neg h0]
    by_cases h1 : valW w / 8796093022208 = 0
    · have hr : readH w = some (unpackH (valW w)) := by unfold readH; rw [if_pos (by omega)]
      rw [if_pos h1, hr, i64_and3 (by omega) (by omega), i64_and1048575 (by omega) (by omega), i64_and1048575 (by omega) (by omega), i64_and1 (by omega) (by omega)]
      have e3 : valW w / 8388608 % 1048576 = valW w / 8388608 := by omega
      rw [e3]
      unfold unpackH
      by_cases hb : valW w / 4 % 2 = 1
      · simp [hb]
      · simp [hb]
    · rw [if_neg h1, show readH w = none from by unfold readH; rw [if_neg (by omega)]]
  · rw [if_neg ht, show readH w = none from by unfold readH; rw [if_neg (by omega)]]
theorem rread_eq {w : Int} (hw : okW w) : tenementref1_Read.f w = some (readP w) := by
  unfold tenementref1_Read.f readP
  rw [rval_eq hw, rtag_eq hw]
  simp only [Option.bind_some]
  have hlt := val_lt hw
  by_cases ht : tagW w = 6
  · rw [if_pos ht]
    by_cases h0 : valW w < 0
    · rw [if_pos h0, show readH w = none from by unfold readH; rw [if_neg (by omega)]]
    rw [if_neg h0]
    by_cases h1 : valW w ≥ 8796093022208
    · rw [if_pos h1, show readH w = none from by unfold readH; rw [if_neg (by omega)]]
    · have hr : readH w = some (unpackH (valW w)) := by unfold readH; rw [if_pos (by omega)]
      rw [if_neg h1, hr, i64_and3 (by omega) (by omega), i64_and1048575 (by omega) (by omega), i64_bit (by omega) (by omega)]
      unfold unpackH
      by_cases hb : valW w / 4 % 2 = 1
      · simp [hb]
      · have hb0 : valW w / 4 % 2 = 0 := by omega
        simp [hb0]
  · rw [if_neg ht, show readH w = none from by unfold readH; rw [if_neg (by omega)]]
theorem fields_eq (h : Hdr) : word_Fields.f h.kind h.size h.tree h.neg = some (fieldsH h) := by
  unfold word_Fields.f fieldsH
  split <;> first | rfl | (split <;> rfl)
theorem rfields_eq (h : Hdr) : tenementref1_Fields.f h.kind h.size h.tree h.neg = some (fieldsH h) := by
  unfold tenementref1_Fields.f fieldsH
  split <;> first | rfl | (split <;> rfl)
theorem rmake_c (k z t : Int) (n : Bool) (r : Int) (w : World) (h : makeH ⟨k, z, t, n⟩ = r) : Calls Try.prog 32 #[.agg #[.int .i64 k, .int .i64 z, .int .i64 t, .bool n]] w fun e w' => e = .returned (.int .u64 r) ∧ Below w.heap.size w w' := tenementref1_Make.calls 2 k z t n r w (by rw [← h]; exact rmake_eq ⟨k, z, t, n⟩)
theorem read_c (x k z t : Int) (n ok : Bool) (w : World) (hx : okW x) (h : readP x = (k, z, t, n, ok)) : Calls Try.prog 82 #[.int .u64 x] w fun e w' => e = .returned (.tuple #[.agg #[.int .i64 k, .int .i64 z, .int .i64 t, .bool n], .bool ok]) ∧ Below w.heap.size w w' := word_Read.calls x k z t n ok w (by rw [read_eq hx, h])
theorem rread_c (x k z t : Int) (n ok : Bool) (w : World) (hx : okW x) (h : readP x = (k, z, t, n, ok)) : Calls Try.prog 63 #[.int .u64 x] w fun e w' => e = .returned (.tuple #[.agg #[.int .i64 k, .int .i64 z, .int .i64 t, .bool n], .bool ok]) ∧ Below w.heap.size w w' := tenementref1_Read.calls x k z t n ok w (by rw [rread_eq hx, h])
theorem fields_c (k z t : Int) (n : Bool) (r : Int) (w : World) (h : fieldsH ⟨k, z, t, n⟩ = r) : Calls Try.prog 73 #[.agg #[.int .i64 k, .int .i64 z, .int .i64 t, .bool n]] w fun e w' => e = .returned (.int .i64 r) ∧ Below w.heap.size w w' := word_Fields.calls k z t n r w (by rw [← h]; exact fields_eq ⟨k, z, t, n⟩)
theorem rfields_c (k z t : Int) (n : Bool) (r : Int) (w : World) (h : fieldsH ⟨k, z, t, n⟩ = r) : Calls Try.prog 42 #[.agg #[.int .i64 k, .int .i64 z, .int .i64 t, .bool n]] w fun e w' => e = .returned (.int .i64 r) ∧ Below w.heap.size w w' := tenementref1_Fields.calls k z t n r w (by rw [← h]; exact rfields_eq ⟨k, z, t, n⟩)
end Go.Proofs.Ytjiaaefpepdoeaa.Wd
