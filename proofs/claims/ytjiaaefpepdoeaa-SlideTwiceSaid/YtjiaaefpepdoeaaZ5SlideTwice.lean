/-
  TEXTS JOINED FOR A CLAIM (SlideTwice): Opn RowStc. What each proves, and under which conditions, stands at its head. Conditions: none beyond those.
-/
import Derived.Test.YtjiaaefpepdoeaaZ1SlideTwice
import Derived.Test.YtjiaaefpepdoeaaChecked
import Derived.WalkKit
import Derived.ProofKit
import Derived.OpenShut
import Derived.ChangeSlices
import Derived.ChangeOld
import Derived.Test.YtjiaaefpepdoeaaRows
import Derived.Test.YtjiaaefpepdoeaaZ4SlideTwice
import Derived.ShutString
import Derived.Below
import Derived.SizedLaws
import Derived.Test.YtjiaaefpepdoeaaZ0SlideTwice
import Derived.Test.YtjiaaefpepdoeaaZ2SlideTwice
import Derived.Test.YtjiaaefpepdoeaaZ3SlideTwice
/-
  ARGUMENTS OPENED: a slice of numbers that came in reads as a list. Conditions: none.
-/
namespace Go.Proofs.Ytjiaaefpepdoeaa.Opn
open Go.ChangeShapes Go.WideShapes Go.ChangeAt Go.RowKit
set_option linter.unusedVariables false
theorem spot_none {w : World} {a : Addr} {v : Value} (h : w.cell? a = some v) : a.spot = none := by
  unfold World.cell? at h
  split at h
  · split at h
    · cases h
    · rename_i h1; simpa using h1
  · cases h
section
variable {H : Type} {enc : TypeId × Value → H} {P : Program} {w : World} {base : Nat} {held : Bool}
theorem open_row {t e : TypeId} {k : IntKind} {fuel len cap : Nat} {A : Option Addr} {x : DataW H × List MemPlace} (ht : P.underlying t = some (.slice e)) (he : P.underlying e = some (.int k)) (hc : P.cellsOf e = 1)
    (h : DataW.trod enc P w base (fun _ => true) held fuel t [.slice A len cap] = some x) :
    ∃ zs : List Int, zs.length = len ∧ (∀ n ∈ zs, (Lit.int k n).wf = true) ∧ Rd w (.slice A len cap) (zs.map (Value.int k)) := by
  rcases open_ints ht he hc h with ⟨hcs, _⟩ | ⟨a, l, c, zs, hcs, _, hl, hm, hz, _, hcell, hwz⟩
  · simp at hcs
    obtain ⟨rfl, rfl, rfl⟩ := hcs
    exact ⟨[], rfl, (fun n hn => by cases hn), .inl ⟨rfl, none, 0, rfl, fun _ => rfl⟩⟩
  · simp at hcs
    obtain ⟨rfl, rfl, rfl⟩ := hcs
    simp only [if_true] at hz
    have hlz : (zs.take len).length = len := by simp; omega
    refine ⟨zs.take len, hlz, fun n hn => hwz n (List.mem_of_mem_take hn), ?_⟩
    by_cases h0 : len = 0
    · subst h0
      exact .inl ⟨by simp, some a, cap, rfl, fun h => by cases h⟩
    · obtain ⟨b, off, sp⟩ := a
      have h1 := hcell 0 (by omega)
      have h2 := spot_none h1
      simp [Addr.add] at h2
      subst h2
      have ad : ∀ n, (Addr.mk b off none).add n = ⟨b, off + n, none⟩ := fun n => by
        unfold Addr.add; split
        · subst_vars; rfl
        · rfl
      have hb := World.block_lt_of_cell? w _ h1
      rw [ad] at hb
      refine .inr ⟨b, off, cap, by rw [List.length_map, hlz], by rw [List.length_map, hlz]; omega, by rw [List.length_map, hlz]; exact hl, hm, hb, fun i hi => ?_⟩
      have hi' : i < len := by rw [List.length_map, hlz] at hi; exact hi
      have h3 := hcell i (by omega)
      rw [ad] at h3
      rw [h3]
      simp [List.getD, List.getElem?_eq_getElem (show i < zs.length by omega), List.getElem?_take, hi']
end
end Go.Proofs.Ytjiaaefpepdoeaa.Opn

/-
  ROW: SlideTwice: the given statement, from the law's walk. Conditions: none.
-/
namespace Go.Proofs.Ytjiaaefpepdoeaa.slideTwice
open Go.ChangeShapes Go.WideShapes Go.ChangeAt Go.RowKit
open Go.ChangeMaps (open_string shut_string)
set_option linter.unusedVariables false
theorem own : ownKnob Try.prog.godebug = none := by kernel_rfl
theorem laidOut : laidOutB Try.prog = true := by kernel_rfl
set_option maxRecDepth 100000 in
theorem lifted (os : Os) (started : os.Started) (H : Type) (enc : TypeId × Value → H) :
    ReturnsInHanded {} Try.checked os 14 .any (Rows.slideTwiceSpec.pre6 enc Try.prog Try.f14 Rows.slideTwiceRow.domain false) (Rows.slideTwiceSpec.post enc Try.prog Try.f14 false true false false) := by
  refine returnsInHanded_of_change_sized (C := Try.checked) own started (by kernel_rfl) Try.func14
    (ChangeSpec.witness6 (enc := enc) (C := Try.checked) false ⟨#[], #[.slice none 0 0, .slice none 0 0, .int .u8 0], []⟩ 8 (by kernel_rfl) (by kernel_rfl) (by kernel_rfl) (by kernel_rfl)) ?_
  intro W base args ds gs before hval0 hW hcnd hsz0 _
  have hsz : (DataW.weightsEach Try.prog (Try.f14.params.toList ++ Rows.slideTwiceSpec.plain.varTypes Try.prog) (ds ++ gs)).all (· ≤ reachBytes) = true := hsz0
  have hval : ∀ (j : Nat) t v, Try.f14.params[j]? = some t → args[j]? = some v → Value.okWide Try.prog W .any base t v := hval0
  have hW' := hW
  obtain ⟨p, q, hA0, hV, rfl, hfz, hnd⟩ := hW
  have hA : DataW.TrodAll enc Try.prog W 0 (fun _ => true) true Try.f14.params.toList args.toList ds p := hA0
  rw [Try.params14] at hA hval hsz
  obtain ⟨v0, vs0, d0, ds0, p0, q0, hargs, rfl, rfl, h0, r0⟩ := trodAll_cons hA
  obtain ⟨v1, vs1, d1, ds1, p1, q1, rfl, rfl, rfl, h1, r1⟩ := trodAll_cons r0
  obtain ⟨v2, vs2, d2, ds2, p2, q2, rfl, rfl, rfl, h2, r2⟩ := trodAll_cons r1
  obtain ⟨rfl, rfl, rfl⟩ := trodAll_nil r2
  obtain rfl : args = #[v0, v1, v2] := by cases args; simp_all
  obtain ⟨rfl, rfl⟩ := trodVars_none hV
  have k0 := h0
  have lt0 : ∀ x ∈ p0, x.block < W.heap.size := by obtain ⟨m, hm⟩ := k0; exact DataW.trod_lt m _ _ _ hm
  have k1 := h1
  have lt1 : ∀ x ∈ p1, x.block < W.heap.size := by obtain ⟨m, hm⟩ := k1; exact DataW.trod_lt m _ _ _ hm
  have k2 := h2
  have lt2 : ∀ x ∈ p2, x.block < W.heap.size := by obtain ⟨m, hm⟩ := k2; exact DataW.trod_lt m _ _ _ hm
  obtain ⟨A, len, cap, rfl⟩ := okWide_slice Try.underlying39 (hval 0 39 v0 rfl rfl)
  obtain ⟨B, lenb, capb, rfl⟩ := okWide_slice Try.underlying39 (hval 1 39 v1 rfl rfl)
  obtain ⟨l, rfl, hw, hl⟩ : ∃ zs : List Int, zs.length = len ∧ (∀ n ∈ zs, (Lit.int .u64 n).wf = true) ∧ Rd W (.slice A len cap) (zs.map (Value.int .u64)) := by
    obtain ⟨fuel, hf⟩ := h0
    simp only [Value.cells] at hf
    exact Opn.open_row Try.underlying39 Try.underlying29 (by kernel_rfl) hf
  obtain ⟨rs, rfl, hws, hs⟩ : ∃ zs : List Int, zs.length = lenb ∧ (∀ n ∈ zs, (Lit.int .u64 n).wf = true) ∧ Rd W (.slice B lenb capb) (zs.map (Value.int .u64)) := by
    obtain ⟨fuel, hf⟩ := h1
    simp only [Value.cells] at hf
    exact Opn.open_row Try.underlying39 Try.underlying29 (by kernel_rfl) hf
  obtain ⟨x, rfl, _, rfl, wx⟩ := open_int Try.underlying5 (hval 2 5 v2 rfl rfl) h2
  have hok : Md.okWs l := fun n hn => by
    have wf := hw n hn
    simp [Lit.wf, IntKind.min, IntKind.max, IntKind.bits, IntKind.signed] at wf
    unfold Md.okW; omega
  have hor : Md.okWs rs := fun n hn => by
    have wf := hws n hn
    simp [Lit.wf, IntKind.min, IntKind.max, IntKind.bits, IntKind.signed] at wf
    unfold Md.okW; omega
  obtain ⟨a, rfl, ha⟩ : ∃ a : Nat, x = a ∧ a < 256 := by
    simp [Lit.wf, IntKind.min, IntKind.max, IntKind.bits, IntKind.signed] at wx
    exact ⟨x.toNat, by omega, by omega⟩
  clear hA0 hval0 hsz0 hsz
  refine (((twice_c A B cap capb a l rs W ha hl hs hok hor).mono fun _ _ h => ⟨h.1, h.2.below⟩ : Calls Try.prog 14 #[.slice A l.length cap, .slice B rs.length capb, .int .u8 a] W fun e W' => e = .returned (.bool true) ∧ Below W.heap.size W W')).mono fun e W' ⟨he, bel⟩ => ?_
  subst he
  exact ⟨_, rfl, _, _, _, [], _, [], hW', trodAll_mk1 (shut_bool Try.underlying4 _), (trodAll_cons_mk (Below.trod laidOut (by kernel_rfl) (of_decide_eq_true (by kernel_rfl)) k0 bel lt0) (trodAll_cons_mk (Below.trod laidOut (by kernel_rfl) (of_decide_eq_true (by kernel_rfl)) k1 bel lt1) (trodAll_cons_mk (Below.trod laidOut (by kernel_rfl) (of_decide_eq_true (by kernel_rfl)) k2 bel lt2) trodAll_mk0))), rfl, bel.frame _, fun h => by cases h⟩
theorem over : Rows.slideTwiceRow.holds Try.pinned (OpenSpec.ofChange Rows.slideTwiceSpec) :=
  OpenClaim.holds_of_wide 14 Try.f14 rfl rfl rfl rfl rfl rfl rfl ⟨rfl, rfl, rfl, rfl, rfl⟩ rfl rfl rfl rfl rfl (by kernel_rfl) Try.func14 (by kernel_rfl)
    (of_decide_eq_true (by kernel_rfl)) (by unfold Func.isWrapper; first | (rw [if_pos (by decide +kernel)]; kernel_rfl) | (rw [if_neg (by decide +kernel)]; exact ⟨rfl, rfl⟩))
    (fun os started H enc _ => lifted os started H enc)
theorem proved : Rows.SlideTwiceSaid := over
end Go.Proofs.Ytjiaaefpepdoeaa.slideTwice
namespace Go.Proofs.Ytjiaaefpepdoeaa
/-- The row, under a short name, for the claim. -/
theorem slideTwice_holds : Rows.SlideTwiceSaid := slideTwice.proved
#print axioms slideTwice_holds
end Go.Proofs.Ytjiaaefpepdoeaa
