/-
  LAW: WordHeads: for every header and every word the law's call returns true and leaves what was there. Conditions: the word is one of 64 bits.
-/
import Derived.Test.YtficfpidodbdcaaHd1
import Derived.Test.YtficfpidodbdcaaHd2
import Derived.Test.YtficfpidodbdcaaHd3
import Derived.Test.YtficfpidodbdcaaHd4
namespace Go.Proofs.Ytficfpidodbdcaa.Wd
open Go.RowKit Go.Proofs.Ytficfpidodbdcaa.Md
set_option linter.unusedVariables false

theorem readP_some {x : Int} {h : Hdr} (hr : readH x = some h) : readP x = (h.kind, h.size, h.tree, h.neg, true) := by unfold readP; rw [hr]
theorem readP_none {x : Int} (hr : readH x = none) : readP x = (0, 0, 0, false, false) := by unfold readP; rw [hr]
theorem heads (k z t : Int) (n : Bool) (x : Int) (w : World) (hx : okW x) :
    Calls Try.prog 6 #[.agg #[.int .i64 k, .int .i64 z, .int .i64 t, .bool n], .int .u64 x] w (HdEnds w) := by
  have hu := okW_makeH ⟨k, z, t, n⟩
  by_cases hm : mayH ⟨k, z, t, n⟩ = true
  · have hru : readP (makeH ⟨k, z, t, n⟩) = (k, z, t, n, true) := readP_some (read_makeH hm)
    have hm' := mayH_iff.1 hm
    simp only at hm'
    obtain ⟨h1, h2, h3, h4, h5, h6⟩ := hm'
    cases hr : readH x with
    | none => exact heads_may_no k z t n x w _ _ h1 h2 h3 h4 h5 h6 hx rfl hu (readP_none hr) hru rfl
    | some h => exact heads_may_ok k z t n x w h.kind h.size h.tree h.neg _ _ h1 h2 h3 h4 h5 h6 hx rfl hu (readP_some hr) hru rfl (make_readH hx hr).2
  · have hru : readP (makeH ⟨k, z, t, n⟩) = (0, 0, 0, false, false) := readP_none (read_makeH_none (by simpa using hm))
    have hm' : ¬ (0 ≤ k ∧ k ≤ 3 ∧ 0 ≤ z ∧ z < 1048576 ∧ 0 ≤ t ∧ t < 1048576) := fun h => hm (mayH_iff.2 h)
    cases hr : readH x with
    | none =>
      have hp := readP_none hr
      by_cases h1 : k < 0
      · exact heads_c1_no k z t n x w _ _ h1 hx rfl hu hp hru rfl
      by_cases h2 : 3 < k
      · exact heads_c2_no k z t n x w _ _ (by omega) h2 hx rfl hu hp hru rfl
      by_cases h3 : z < 0
      · exact heads_c3_no k z t n x w _ _ (by omega) (by omega) h3 hx rfl hu hp hru rfl
      by_cases h4 : 1048576 ≤ z
      · exact heads_c4_no k z t n x w _ _ (by omega) (by omega) (by omega) h4 hx rfl hu hp hru rfl
      by_cases h5 : t < 0
      · exact heads_c5_no k z t n x w _ _ (by omega) (by omega) (by omega) (by omega) h5 hx rfl hu hp hru rfl
      · exact heads_c6_no k z t n x w _ _ (by omega) (by omega) (by omega) (by omega) (by omega) (by omega) (by simp; omega) hx rfl hu hp hru rfl
    | some h =>
      have hp := readP_some hr
      have hmx := (make_readH hx hr).2
      by_cases h1 : k < 0
      · exact heads_c1_ok k z t n x w _ _ _ _ _ _ h1 hx rfl hu hp hru rfl hmx
      by_cases h2 : 3 < k
      · exact heads_c2_ok k z t n x w _ _ _ _ _ _ (by omega) h2 hx rfl hu hp hru rfl hmx
      by_cases h3 : z < 0
      · exact heads_c3_ok k z t n x w _ _ _ _ _ _ (by omega) (by omega) h3 hx rfl hu hp hru rfl hmx
      by_cases h4 : 1048576 ≤ z
      · exact heads_c4_ok k z t n x w _ _ _ _ _ _ (by omega) (by omega) (by omega) h4 hx rfl hu hp hru rfl hmx
      by_cases h5 : t < 0
      · exact heads_c5_ok k z t n x w _ _ _ _ _ _ (by omega) (by omega) (by omega) (by omega) h5 hx rfl hu hp hru rfl hmx
      · exact heads_c6_ok k z t n x w _ _ _ _ _ _ (by omega) (by omega) (by omega) (by omega) (by omega) (by omega) (by simp; omega) hx rfl hu hp hru rfl hmx
end Go.Proofs.Ytficfpidodbdcaa.Wd
