/-
  PLAIN LAW: headers: what is made is read as it was; what is read is made again; a header's word is that of no other header. Conditions: those named in each.
-/
import Derived.Test.YtjiaaefpepdoeaaEnc
namespace Go.Proofs.Ytjiaaefpepdoeaa.Md
set_option linter.unusedVariables false

theorem mayH_iff {h : Hdr} : mayH h = true ↔ 0 ≤ h.kind ∧ h.kind ≤ 3 ∧ 0 ≤ h.size ∧ h.size < 1048576 ∧ 0 ≤ h.tree ∧ h.tree < 1048576 := by
  simp [mayH, and_assoc]
theorem packH_range {h : Hdr} (hm : mayH h = true) : 0 ≤ packH h ∧ packH h < 8796093022208 := by
  rw [mayH_iff] at hm; unfold packH; split <;> omega
theorem fits_packH {h : Hdr} (hm : mayH h = true) : fitsW (packH h) = true := by
  rw [fitsW_iff]; have := packH_range hm; omega
theorem unpack_pack {h : Hdr} (hm : mayH h = true) : unpackH (packH h) = h := by
  rw [mayH_iff] at hm
  obtain ⟨k, z, t, n⟩ := h
  simp only at hm
  unfold unpackH packH
  cases n with
  | false =>
    simp only [Bool.false_eq_true, if_false, Hdr.mk.injEq, decide_eq_false_iff_not]
    exact ⟨by omega, by omega, by omega, by omega⟩
  | true =>
    simp only [if_true, Hdr.mk.injEq, decide_eq_true_eq]
    exact ⟨by omega, by omega, by omega, by omega⟩
theorem pack_unpack {v : Int} (h0 : 0 ≤ v) (h1 : v < 8796093022208) : packH (unpackH v) = v := by
  unfold packH unpackH
  by_cases h : v / 4 % 2 = 1
  · simp only [h, decide_true, if_true]; omega
  · simp only [h, decide_false, Bool.false_eq_true, if_false]; omega
theorem may_unpack {v : Int} (h0 : 0 ≤ v) (h1 : v < 8796093022208) : mayH (unpackH v) = true := by
  rw [mayH_iff]; unfold unpackH; simp only; omega
theorem tag_makeH {h : Hdr} (hm : mayH h = true) : tagW (makeH h) = 6 := by
  unfold makeH; rw [if_pos hm]; exact tag_ofW (by omega) (by omega) (fits_packH hm)
theorem val_makeH {h : Hdr} (hm : mayH h = true) : valW (makeH h) = packH h := by
  unfold makeH; rw [if_pos hm]; exact val_ofW (by omega) (by omega) (fits_packH hm)
theorem tag_4 : tagW 4 = 4 := by unfold tagW; omega
theorem may_of_tag {h : Hdr} (ht : tagW (makeH h) = 6) : mayH h = true := by
  by_cases hm : mayH h = true
  · exact hm
  · unfold makeH at ht; rw [if_neg hm, tag_4] at ht; omega
theorem okW_makeH (h : Hdr) : okW (makeH h) := by
  unfold makeH; split
  · exact okW_ofW _ _
  · unfold okW; omega
theorem read_makeH {h : Hdr} (hm : mayH h = true) : readH (makeH h) = some h := by
  have := packH_range hm
  unfold readH
  rw [if_pos ⟨tag_makeH hm, by rw [val_makeH hm]; exact this.1, by rw [val_makeH hm]; exact this.2⟩, val_makeH hm, unpack_pack hm]
theorem read_makeH_none {h : Hdr} (hm : mayH h = false) : readH (makeH h) = none := by
  have e : makeH h = 4 := by unfold makeH; rw [hm]; rfl
  have ht : ¬ (tagW 4 = 6 ∧ 0 ≤ valW 4 ∧ valW 4 < 8796093022208) := by rw [tag_4]; omega
  rw [e]; unfold readH; rw [if_neg ht]
theorem make_inj {g h : Hdr} (hg : mayH g = true) (hh : mayH h = true) (e : makeH g = makeH h) : g = h := by
  have h1 := read_makeH hg
  rw [e, read_makeH hh] at h1
  exact (Option.some.inj h1).symm
theorem read_some {w : Int} {h : Hdr} (hr : readH w = some h) : tagW w = 6 ∧ 0 ≤ valW w ∧ valW w < 8796093022208 ∧ h = unpackH (valW w) := by
  unfold readH at hr
  split at hr
  · rename_i hc; exact ⟨hc.1, hc.2.1, hc.2.2, (Option.some.inj hr).symm⟩
  · cases hr
theorem make_readH {w : Int} {h : Hdr} (hw : okW w) (hr : readH w = some h) : mayH h = true ∧ makeH h = w := by
  obtain ⟨ht, h0, h1, rfl⟩ := read_some hr
  have hm := may_unpack h0 h1
  refine ⟨hm, ?_⟩
  unfold makeH
  rw [if_pos hm, pack_unpack h0 h1, ← ht]
  exact ofW_tag_val hw (by rw [ht]; omega)
end Go.Proofs.Ytjiaaefpepdoeaa.Md
