/-
  CONTRACTS of package word's and of the reference's functions on words and headers, out of the printed ones: what each answers, as a plain function of numbers. Conditions: each number is of its kind.
-/
import Derived.Test.YtficfpidodbdcaaPWordHeadsx2
import Derived.Test.YtficfpidodbdcaaBits
namespace Go.Proofs.Ytficfpidodbdcaa.Wd
open Go.RowKit Go.Proofs.Ytficfpidodbdcaa.PWordHeads Go.Proofs.YtficfpidodbdcaaW.PrintWords Go.Proofs.YtficfpidodbdcaaW.PrintLast
open Go.Proofs.Ytficfpidodbdcaa.Md

theorem wf_u64 {n : Int} (h : (Lit.int .u64 n).wf = true) : okW n := by
  simp [Lit.wf, IntKind.min, IntKind.max, IntKind.bits, IntKind.signed] at h
  unfold okW; omega
theorem wf_i64 {n : Int} (h : (Lit.int .i64 n).wf = true) : -9223372036854775808 ≤ n ∧ n ≤ 9223372036854775807 := by
  simp [Lit.wf, IntKind.min, IntKind.max, IntKind.bits, IntKind.signed] at h
  omega
theorem none_eq : word_none.f = some 4 := rfl
theorem fits_eq (n : Int) : word_Fits.f n = some (fitsW n) := fitsW_bits n
theorem rfits_eq (n : Int) : tenementref1_Fits.f n = some (fitsW n) := fitsW_bits n
theorem of_eq (t n : Int) : word_Of.f t n = some (ofW t n) := by
  unfold word_Of.f
  rw [none_eq, fits_eq]
  simp only [Option.bind_some]
  by_cases h0 : t < 0
  · rw [if_pos h0]; unfold ofW; rw [if_neg (by omega)]
  rw [if_neg h0]
  by_cases h7 : t > 7
  · rw [if_pos h7]; unfold ofW; rw [if_neg (by omega)]
  rw [if_neg h7]
  by_cases hf : fitsW n = true
  · rw [if_pos hf, of_bits (by omega) (by omega) hf]
  · rw [if_neg hf]; unfold ofW; rw [if_neg (fun h => hf h.2.2)]
theorem rof_eq (t n : Int) : tenementref1_Of.f t n = some (ofW t n) := by
  unfold tenementref1_Of.f
  rw [rfits_eq]
  simp only [Option.bind_some]
  by_cases h0 : t < 0
  · rw [if_pos h0]; unfold ofW; rw [if_neg (by omega)]
  rw [if_neg h0]
  by_cases h7 : t > 7
  · rw [if_pos h7]; unfold ofW; rw [if_neg (by omega)]
  rw [if_neg h7]
  by_cases hf : fitsW n = true
  · rw [if_pos hf, of_bits (by omega) (by omega) hf]
  · rw [if_neg hf]; unfold ofW; rw [if_neg (fun h => hf h.2.2)]
theorem tag_eq {w : Int} (h : okW w) : word_Tag.f w = some (tagW w) := by unfold word_Tag.f; rw [tag_bits h]
theorem rtag_eq {w : Int} (h : okW w) : tenementref1_Tag.f w = some (tagW w) := by unfold tenementref1_Tag.f; rw [tag_bits h]
theorem val_eq {w : Int} (h : okW w) : word_Value.f w = some (valW w) := by unfold word_Value.f; rw [val_bits h]
theorem rval_eq {w : Int} (h : okW w) : tenementref1_Value.f w = some (valW w) := by unfold tenementref1_Value.f; rw [val_bits h]
theorem of_m1 : ofW 0 (-1) = 18446744073709551600 := by
  have hf : fitsW (-1) = true := fitsW_iff.2 ⟨by omega, by omega⟩
  unfold ofW
  rw [if_pos ⟨by omega, by omega, hf⟩]
  omega
theorem ok_m1 : okW 18446744073709551600 := by unfold okW; omega
theorem tag_m1 : tagW 18446744073709551600 = 0 := by unfold tagW; omega
theorem val_m1 : valW 18446744073709551600 = -1 := by unfold valW; rw [if_neg (by omega)]; omega
theorem awake_aux (x : Int) (h : x = 18446744073709551600) : (if x = 18446744073709551600 then ((word_Tag.f x).bind fun t106 => (if t106 = 0 then ((word_Value.f x).bind fun t107 => (some (t107 == (-1)))) else (some false))) else (some false)) = some true := by
  rw [if_pos h, tag_eq (by rw [h]; exact ok_m1), val_eq (by rw [h]; exact ok_m1)]
  have e1 : tagW x = 0 := by rw [h]; exact tag_m1
  have e2 : valW x = -1 := by rw [h]; exact val_m1
  rw [e1, e2]
  simp only [Option.bind_some, if_true, beq_self_eq_true]
theorem of_m1' : word_Of.f 0 (-1) = some 18446744073709551600 := (of_eq 0 (-1)).trans (congrArg some of_m1)
theorem awake_bind (o : Option Int) (h : o = some 18446744073709551600) : (o.bind fun t105 => (if t105 = 18446744073709551600 then ((word_Tag.f t105).bind fun t106 => (if t106 = 0 then ((word_Value.f t105).bind fun t107 => (some (t107 == (-1)))) else (some false))) else (some false))) = some true := by
  cases o with
  | none => cases h
  | some x => exact awake_aux x (Option.some.inj h)
theorem awake_eq : tenementlaw1_awake.f = some true := by
  unfold tenementlaw1_awake.f
  exact awake_bind _ of_m1'

/-! ### the contracts -/
theorem awake_c (w : World) : Calls Try.prog 7 #[] w fun e w' => e = .returned (.bool true) ∧ Drawn0 w w' := tenementlaw1_awake.calls true w awake_eq
theorem fits_c (n : Int) (b : Bool) (w : World) (h : fitsW n = b) : Calls Try.prog 9 #[.int .i64 n] w fun e w' => e = .returned (.bool b) ∧ Drawn0 w w' := word_Fits.calls n b w (by rw [fits_eq, h])
theorem of_c (t n r : Int) (w : World) (h : ofW t n = r) : Calls Try.prog 8 #[.int .i64 t, .int .i64 n] w fun e w' => e = .returned (.int .u64 r) ∧ Drawn0 w w' := word_Of.calls t n r w (by rw [of_eq, h])
theorem tag_c (x r : Int) (w : World) (hx : okW x) (h : tagW x = r) : Calls Try.prog 10 #[.int .u64 x] w fun e w' => e = .returned (.int .i64 r) ∧ Drawn0 w w' := word_Tag.calls x r w (by rw [tag_eq hx, h])
theorem val_c (x r : Int) (w : World) (hx : okW x) (h : valW x = r) : Calls Try.prog 11 #[.int .u64 x] w fun e w' => e = .returned (.int .i64 r) ∧ Drawn0 w w' := word_Value.calls x r w (by rw [val_eq hx, h])
theorem rof_c (t n r : Int) (w : World) (h : ofW t n = r) : Calls Try.prog 12 #[.int .i64 t, .int .i64 n] w fun e w' => e = .returned (.int .u64 r) ∧ Drawn0 w w' := tenementref1_Of.calls t n r w (by rw [rof_eq, h])
theorem rtag_c (x r : Int) (w : World) (hx : okW x) (h : tagW x = r) : Calls Try.prog 13 #[.int .u64 x] w fun e w' => e = .returned (.int .i64 r) ∧ Drawn0 w w' := tenementref1_Tag.calls x r w (by rw [rtag_eq hx, h])
theorem rval_c (x r : Int) (w : World) (hx : okW x) (h : valW x = r) : Calls Try.prog 14 #[.int .u64 x] w fun e w' => e = .returned (.int .i64 r) ∧ Drawn0 w w' := tenementref1_Value.calls x r w (by rw [rval_eq hx, h])
theorem rfits_c (n : Int) (b : Bool) (w : World) (h : fitsW n = b) : Calls Try.prog 15 #[.int .i64 n] w fun e w' => e = .returned (.bool b) ∧ Drawn0 w w' := tenementref1_Fits.calls n b w (by rw [rfits_eq, h])
end Go.Proofs.Ytficfpidodbdcaa.Wd
