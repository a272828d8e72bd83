import Derived.Test.YtjiaaefpepdoeaaMdl
namespace Go.Proofs.Ytjiaaefpepdoeaa.Md
set_option linter.unusedVariables false

theorem fitsW_iff {n : Int} : fitsW n = true ↔ -576460752303423488 ≤ n ∧ n ≤ 576460752303423487 := by
  simp [fitsW]
theorem tag_ofW {t n : Int} (h0 : 0 ≤ t) (h7 : t ≤ 7) (hf : fitsW n = true) : tagW (ofW t n) = t := by
  unfold tagW ofW
  rw [if_pos (show 0 ≤ t ∧ t ≤ 7 ∧ fitsW n = true from ⟨h0, h7, hf⟩)]
  omega
theorem val_ofW {t n : Int} (h0 : 0 ≤ t) (h7 : t ≤ 7) (hf : fitsW n = true) : valW (ofW t n) = n := by
  have e0 : ofW t n = n % 1152921504606846976 * 16 + t := by unfold ofW; exact if_pos ⟨h0, h7, hf⟩
  rw [e0]; unfold valW
  rw [fitsW_iff] at hf
  by_cases hn : 0 ≤ n
  · have e : n % 1152921504606846976 = n := Int.emod_eq_of_lt hn (by omega)
    rw [e, if_pos (by omega)]
    omega
  · have e : n % 1152921504606846976 = n + 1152921504606846976 := by omega
    rw [e, if_neg (by omega)]
    omega
theorem okW_ofW (t n : Int) : okW (ofW t n) := by
  unfold okW ofW
  split
  · rename_i h
    have := Int.emod_nonneg n (show (1152921504606846976 : Int) ≠ 0 by decide)
    have := Int.emod_lt_of_pos n (show (0 : Int) < 1152921504606846976 by decide)
    omega
  · omega
theorem tag_range (w : Int) : 0 ≤ tagW w ∧ tagW w ≤ 15 := by unfold tagW; omega
theorem fits_valW {w : Int} (h : okW w) : fitsW (valW w) = true := by
  rw [fitsW_iff]; unfold valW; unfold okW at h; split <;> omega
theorem ofW_tag_val {w : Int} (h : okW w) (ht : tagW w ≤ 7) : ofW (tagW w) (valW w) = w := by
  have hf := fits_valW h
  unfold ofW
  rw [if_pos ⟨(tag_range w).1, ht, hf⟩]
  unfold tagW valW at *
  unfold okW at h
  split <;> omega
theorem okW_ext {u v : Int} (hu : okW u) (hv : okW v) (ht : tagW u = tagW v) (hn : valW u = valW v) : u = v := by
  unfold tagW at ht; unfold valW at hn; unfold okW at hu hv
  split at hn <;> split at hn <;> omega
end Go.Proofs.Ytjiaaefpepdoeaa.Md
