/-
  READING ARGUMENTS: arrays of two whole numbers, structs of a header's form, arrays of two of these, by value: what their cells hold. Conditions: the types' own rows.
-/
import Derived.ProofKit
import Derived.OpenShut
import Derived.Lib.SmallJoins
namespace Go.Proofs.Ytficfpidodbdcaa.Open
open Go.ChangeShapes Go.WideShapes Go.ChangeAt Go.RowKit Go.Joins
set_option linter.unusedVariables false

section
variable {H : Type} {enc : TypeId × Value → H} {P : Program} {w : World} {base : Nat} {spare : Nat → Bool} {held : Bool} {r : Reach} {b0 : Nat} {t : TypeId} {v : Value} {d : DataW H} {p : List MemPlace}
theorem okWide_array {n : Nat} {e : TypeId} (ht : P.underlying t = some (.array n e)) (h : Value.okWide P w r b0 t v) : ∃ cs, v = .agg cs ∧ cs.size = P.cellsOf t := by
  simp only [Value.okWide, ht] at h
  obtain ⟨cs, h1, h2, _⟩ := h
  exact ⟨cs, h1, h2⟩
theorem array8 {α : Type} {cs : Array α} (h : cs.size = 8) : ∃ c0 c1 c2 c3 c4 c5 c6 c7, cs = #[c0, c1, c2, c3, c4, c5, c6, c7] := by
  obtain ⟨l⟩ := cs
  match l, h with
  | [c0, c1, c2, c3, c4, c5, c6, c7], _ => exact ⟨c0, c1, c2, c3, c4, c5, c6, c7, rfl⟩
theorem open_arr2 {e : TypeId} {k : IntKind} (ht : P.underlying t = some (.array 2 e)) (he : P.underlying e = some (.int k)) (hC : P.cellsOf t = 2) (hE : P.cellsOf e = 1)
    (hv : Value.okWide P w r b0 t v) (h : DataW.Trod enc P w base spare held t v d p) : ∃ x y : Int, v = .agg #[.int k x, .int k y] ∧ (Lit.int k x).wf = true ∧ (Lit.int k y).wf = true := by
  obtain ⟨cs, rfl, hsz⟩ := okWide_array ht hv
  obtain ⟨c0, c1, rfl⟩ := array2 (hsz.trans hC)
  obtain ⟨fuel, hf⟩ := h
  obtain ⟨xs, m, _, _, _, hl, hx⟩ := DataW.trod_array ht hf
  rw [hE] at hx
  have h0 := hx 0 (by decide)
  have h1 := hx 1 (by decide)
  rw [List.getElem?_eq_getElem (by omega)] at h0 h1
  obtain ⟨x, e0, _, w0⟩ := DataW.trod_int he h0
  obtain ⟨y, e1, _, w1⟩ := DataW.trod_int he h1
  simp [Value.cells] at e0 e1
  exact ⟨x, y, by rw [e0, e1], w0, w1⟩
theorem read_hdr {f0 f1 f2 f3 : Field} {ti tb : TypeId} {fuel : Nat} {c0 c1 c2 c3 : Value} {x : DataW H × List MemPlace} (ht : P.underlying t = some (.struct #[f0, f1, f2, f3])) (hone : Deep.oneCellFields P #[f0, f1, f2, f3] = true)
    (h0 : f0.type = ti) (h1 : f1.type = ti) (h2 : f2.type = ti) (h3 : f3.type = tb) (hi : P.underlying ti = some (.int .i64)) (hb : P.underlying tb = some .bool)
    (h : DataW.trod enc P w base spare held fuel t [c0, c1, c2, c3] = some x) : ∃ (k z s : Int) (n : Bool), c0 = .int .i64 k ∧ c1 = .int .i64 z ∧ c2 = .int .i64 s ∧ c3 = .bool n ∧ (Lit.int .i64 k).wf = true ∧ (Lit.int .i64 z).wf = true ∧ (Lit.int .i64 s).wf = true := by
  obtain ⟨y0, y1, y2, y3, n, _, _, g0, g1, g2, g3⟩ := trod_struct4 ht h
  obtain ⟨o0, k0⟩ := Deep.hone_of hone 0 f0 rfl
  obtain ⟨o1, k1⟩ := Deep.hone_of hone 1 f1 rfl
  obtain ⟨o2, k2⟩ := Deep.hone_of hone 2 f2 rfl
  obtain ⟨o3, k3⟩ := Deep.hone_of hone 3 f3 rfl
  rw [o0, k0, h0] at g0
  rw [o1, k1, h1] at g1
  rw [o2, k2, h2] at g2
  rw [o3, k3, h3] at g3
  obtain ⟨x0, e0, _, w0⟩ := DataW.trod_int hi g0
  obtain ⟨x1, e1, _, w1⟩ := DataW.trod_int hi g1
  obtain ⟨x2, e2, _, w2⟩ := DataW.trod_int hi g2
  obtain ⟨x3, e3, _⟩ := DataW.trod_bool hb g3
  simp at e0 e1 e2 e3
  exact ⟨x0, x1, x2, x3, e0, e1, e2, e3, w0, w1, w2⟩
theorem open_hdr {f0 f1 f2 f3 : Field} {ti tb : TypeId} (ht : P.underlying t = some (.struct #[f0, f1, f2, f3])) (hone : Deep.oneCellFields P #[f0, f1, f2, f3] = true) (hC : P.cellsOf t = 4)
    (h0 : f0.type = ti) (h1 : f1.type = ti) (h2 : f2.type = ti) (h3 : f3.type = tb) (hi : P.underlying ti = some (.int .i64)) (hb : P.underlying tb = some .bool)
    (hv : Value.okWide P w r b0 t v) (h : DataW.Trod enc P w base spare held t v d p) : ∃ (k z s : Int) (n : Bool), v = .agg #[.int .i64 k, .int .i64 z, .int .i64 s, .bool n] ∧ (Lit.int .i64 k).wf = true ∧ (Lit.int .i64 z).wf = true ∧ (Lit.int .i64 s).wf = true := by
  obtain ⟨cs, rfl, hsz⟩ := okWide_struct ht hv
  obtain ⟨c0, c1, c2, c3, rfl⟩ := array4 (hsz.trans hC)
  obtain ⟨fuel, hf⟩ := h
  obtain ⟨k, z, s, n, rfl, rfl, rfl, rfl, w0, w1, w2⟩ := read_hdr ht hone h0 h1 h2 h3 hi hb hf
  exact ⟨k, z, s, n, rfl, w0, w1, w2⟩
theorem open_hdrs {e : TypeId} {f0 f1 f2 f3 : Field} {ti tb : TypeId} (hta : P.underlying t = some (.array 2 e)) (ht : P.underlying e = some (.struct #[f0, f1, f2, f3])) (hone : Deep.oneCellFields P #[f0, f1, f2, f3] = true) (hC : P.cellsOf t = 8) (hE : P.cellsOf e = 4)
    (h0 : f0.type = ti) (h1 : f1.type = ti) (h2 : f2.type = ti) (h3 : f3.type = tb) (hi : P.underlying ti = some (.int .i64)) (hb : P.underlying tb = some .bool)
    (hv : Value.okWide P w r b0 t v) (h : DataW.Trod enc P w base spare held t v d p) : ∃ (k z s : Int) (n : Bool) (k' z' s' : Int) (n' : Bool), v = .agg #[.int .i64 k, .int .i64 z, .int .i64 s, .bool n, .int .i64 k', .int .i64 z', .int .i64 s', .bool n'] := by
  obtain ⟨cs, rfl, hsz⟩ := okWide_array hta hv
  obtain ⟨c0, c1, c2, c3, c4, c5, c6, c7, rfl⟩ := array8 (hsz.trans hC)
  obtain ⟨fuel, hf⟩ := h
  obtain ⟨xs, m, _, _, _, hl, hx⟩ := DataW.trod_array hta hf
  rw [hE] at hx
  have g0 := hx 0 (by decide)
  have g1 := hx 1 (by decide)
  rw [List.getElem?_eq_getElem (by omega)] at g0 g1
  obtain ⟨k, z, s, n, rfl, rfl, rfl, rfl, _⟩ := read_hdr ht hone h0 h1 h2 h3 hi hb (show DataW.trod enc P w base spare held m e [c0, c1, c2, c3] = _ from g0)
  obtain ⟨k', z', s', n', rfl, rfl, rfl, rfl, _⟩ := read_hdr ht hone h0 h1 h2 h3 hi hb (show DataW.trod enc P w base spare held m e [c4, c5, c6, c7] = _ from g1)
  exact ⟨k, z, s, n, k', z', s', n', rfl⟩
end
end Go.Proofs.Ytficfpidodbdcaa.Open
