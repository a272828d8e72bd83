/-
  CONTRACTS, more: reading headers, the reference's making and reading, how many fields: as plain functions. Conditions: each number is of its kind.
-/
import Derived.Test.YtficfpidodbdcaaWordH
namespace Go.Proofs.Ytficfpidodbdcaa.Wd
open Go.RowKit Go.Proofs.Ytficfpidodbdcaa.PWordHeads Go.Proofs.YtficfpidodbdcaaW.PrintWords Go.Proofs.YtficfpidodbdcaaW.PrintLast
open Go.Proofs.Ytficfpidodbdcaa.Md
set_option linter.unusedVariables false

theorem rmake_eq (h : Hdr) : tenementref1_Make.f 2 h.kind h.size h.tree h.neg = some (makeH h) := by
  have hno : mayH h = false → tenementref1_Make.j0 2 true h.kind h.size h.tree h.neg = some (makeH h) := fun hm => by
    rw [tenementref1_Make.j0, if_pos rfl]; unfold makeH; rw [hm]; rfl
  have hno' : ¬ mayH h = true → tenementref1_Make.j0 2 true h.kind h.size h.tree h.neg = some (makeH h) := fun hm => hno (by simpa using hm)
  unfold tenementref1_Make.f
  by_cases k0 : h.kind < 0
  · rw [if_pos k0]; exact hno' (fun hm => by rw [mayH_iff] at hm; omega)
  rw [if_neg k0]
  by_cases k3 : h.kind > 3
  · rw [if_pos k3]; exact hno' (fun hm => by rw [mayH_iff] at hm; omega)
  rw [if_neg k3]
  by_cases z0 : h.size < 0
  · rw [if_pos z0]; exact hno' (fun hm => by rw [mayH_iff] at hm; omega)
  rw [if_neg z0]
  by_cases z3 : h.size ≥ 1048576
  · rw [if_pos z3]; exact hno' (fun hm => by rw [mayH_iff] at hm; omega)
  rw [if_neg z3]
  by_cases t0 : h.tree < 0
  · rw [if_pos t0]; exact hno' (fun hm => by rw [mayH_iff] at hm; omega)
  rw [if_neg t0]
  by_cases t3 : h.tree ≥ 1048576
  · rw [decide_eq_true t3]; exact hno' (fun hm => by rw [mayH_iff] at hm; omega)
  rw [decide_eq_false t3]
  have hm : mayH h = true := by rw [mayH_iff]; omega
  rw [tenementref1_Make.j0, if_neg (by decide)]
  have hp := pack_bits h hm
  have hmk : makeH h = ofW 6 (packH h) := by unfold makeH; rw [if_pos hm]
  cases hn : h.neg with
  | true =>
    rw [hn, if_pos rfl] at hp
    rw [if_pos rfl, hp, rof_eq, hmk]; rfl
  | false =>
    rw [hn, if_neg (by decide)] at hp
    rw [if_neg (by decide), hp, rof_eq, hmk]; rfl
/-- what reading tells: the header (or the zero one), and whether it is one -/
def readP (w : Int) : Int × Int × Int × Bool × Bool := match readH w with
  | some h => (h.kind, h.size, h.tree, h.neg, true)
  | none => (0, 0, 0, false, false)
theorem val_lt {w : Int} (h : okW w) : valW w < 576460752303423488 := by unfold valW; unfold okW at h; split <;> omega
theorem read_eq {w : Int} (hw : okW w) : word_Read.f w = some (readP w) := by
  unfold word_Read.f readP
  rw [val_eq hw, tag_eq hw]
  simp only [Option.bind_some]
  have hlt := val_lt hw
  by_cases ht : tagW w = 6
  · rw [if_pos ht]
    by_cases h0 : valW w < 0
    · rw [if_pos h0, show readH w = none from by unfold readH; rw [if_neg (by omega)]]
    rw [if_neg h0]
    by_cases h1 : valW w / 8796093022208 = 0
    · have hr : readH w = some (unpackH (valW w)) := by unfold readH; rw [if_pos (by omega)]
      rw [if_pos h1, hr, i64_and3 (by omega) (by omega), i64_and1048575 (by omega) (by omega), i64_and1048575 (by omega) (by omega), i64_and1 (by omega) (by omega)]
      have e3 : valW w / 8388608 % 1048576 = valW w / 8388608 := by omega
      rw [e3]
      unfold unpackH
      by_cases hb : valW w / 4 % 2 = 1
      · simp [hb]
      · simp [hb]
    · rw [if_neg h1, show readH w = none from by unfold readH; rw [if_neg (by omega)]]
  · rw [if_neg ht, show readH w = none from by unfold readH; rw [if_neg (by omega)]]
theorem rread_eq {w : Int} (hw : okW w) : tenementref1_Read.f w = some (readP w) := by
  unfold tenementref1_Read.f readP
  rw [rval_eq hw, rtag_eq hw]
  simp only [Option.bind_some]
  have hlt := val_lt hw
  by_cases ht : tagW w = 6
  · rw [if_pos ht]
    by_cases h0 : valW w < 0
    · rw [if_pos h0, show readH w = none from by unfold readH; rw [if_neg (by omega)]]
    rw [if_neg h0]
    by_cases h1 : valW w ≥ 8796093022208
    · rw [if_pos h1, show readH w = none from by unfold readH; rw [if_neg (by omega)]]
    · have hr : readH w = some (unpackH (valW w)) := by unfold readH; rw [if_pos (by omega)]
      rw [if_neg h1, hr, i64_and3 (by omega) (by omega), i64_and1048575 (by omega) (by omega), i64_bit (by omega) (by omega)]
      unfold unpackH
      by_cases hb : valW w / 4 % 2 = 1
      · simp [hb]
      · have hb0 : valW w / 4 % 2 = 0 := by omega
        simp [hb0]
  · rw [if_neg ht, show readH w = none from by unfold readH; rw [if_neg (by omega)]]
theorem fields_eq (h : Hdr) : word_Fields.f h.kind h.size h.tree h.neg = some (fieldsH h) := by
  unfold word_Fields.f fieldsH
  split <;> first | rfl | (split <;> rfl)
theorem rfields_eq (h : Hdr) : tenementref1_Fields.f h.kind h.size h.tree h.neg = some (fieldsH h) := by
  unfold tenementref1_Fields.f fieldsH
  split <;> first | rfl | (split <;> rfl)
theorem rmake_c (k z t : Int) (n : Bool) (r : Int) (w : World) (h : makeH ⟨k, z, t, n⟩ = r) : Calls Try.prog 20 #[.agg #[.int .i64 k, .int .i64 z, .int .i64 t, .bool n]] w fun e w' => e = .returned (.int .u64 r) ∧ Below w.heap.size w w' := tenementref1_Make.calls 2 k z t n r w (by rw [← h]; exact rmake_eq ⟨k, z, t, n⟩)
theorem read_c (x k z t : Int) (n ok : Bool) (w : World) (hx : okW x) (h : readP x = (k, z, t, n, ok)) : Calls Try.prog 18 #[.int .u64 x] w fun e w' => e = .returned (.tuple #[.agg #[.int .i64 k, .int .i64 z, .int .i64 t, .bool n], .bool ok]) ∧ Below w.heap.size w w' := word_Read.calls x k z t n ok w (by rw [read_eq hx, h])
theorem rread_c (x k z t : Int) (n ok : Bool) (w : World) (hx : okW x) (h : readP x = (k, z, t, n, ok)) : Calls Try.prog 21 #[.int .u64 x] w fun e w' => e = .returned (.tuple #[.agg #[.int .i64 k, .int .i64 z, .int .i64 t, .bool n], .bool ok]) ∧ Below w.heap.size w w' := tenementref1_Read.calls x k z t n ok w (by rw [rread_eq hx, h])
theorem fields_c (k z t : Int) (n : Bool) (r : Int) (w : World) (h : fieldsH ⟨k, z, t, n⟩ = r) : Calls Try.prog 19 #[.agg #[.int .i64 k, .int .i64 z, .int .i64 t, .bool n]] w fun e w' => e = .returned (.int .i64 r) ∧ Below w.heap.size w w' := word_Fields.calls k z t n r w (by rw [← h]; exact fields_eq ⟨k, z, t, n⟩)
theorem rfields_c (k z t : Int) (n : Bool) (r : Int) (w : World) (h : fieldsH ⟨k, z, t, n⟩ = r) : Calls Try.prog 22 #[.agg #[.int .i64 k, .int .i64 z, .int .i64 t, .bool n]] w fun e w' => e = .returned (.int .i64 r) ∧ Below w.heap.size w w' := tenementref1_Fields.calls k z t n r w (by rw [← h]; exact rfields_eq ⟨k, z, t, n⟩)
end Go.Proofs.Ytficfpidodbdcaa.Wd
