/-
  TEXTS JOINED FOR A CLAIM (SlideKnown): RowKn14. What each proves, and under which conditions, stands at its head. Conditions: none beyond those.
-/
import Derived.Test.YtjiaaefpepdoeaaRows
import Derived.Test.YtjiaaefpepdoeaaZ4SlideKnown
import Derived.WalkKit
import Derived.ProofKit
import Derived.OpenShut
import Derived.ShutString
import Derived.ChangeOld
import Derived.Below
import Derived.SizedLaws
import Derived.Test.YtjiaaefpepdoeaaZ0SlideKnown
import Derived.Test.YtjiaaefpepdoeaaZ1SlideKnown
import Derived.Test.YtjiaaefpepdoeaaZ2SlideKnown
import Derived.Test.YtjiaaefpepdoeaaZ3SlideKnown
/-
  ROW: SlideKnown: the given statement, from the law's walk. Conditions: none.
-/
namespace Go.Proofs.Ytjiaaefpepdoeaa.slideKnown
open Go.ChangeShapes Go.WideShapes Go.ChangeAt Go.RowKit
open Go.ChangeMaps (open_string shut_string)
set_option linter.unusedVariables false
theorem own : ownKnob Try.prog.godebug = none := by kernel_rfl
theorem laidOut : laidOutB Try.prog = true := by kernel_rfl
set_option maxRecDepth 100000 in
theorem lifted (os : Os) (started : os.Started) (H : Type) (enc : TypeId × Value → H) :
    ReturnsInHanded {} Try.checked os 15 .any (Rows.slideKnownSpec.pre6 enc Try.prog Try.f15 Rows.slideKnownRow.domain false) (Rows.slideKnownSpec.post enc Try.prog Try.f15 false true false false) := by
  refine returnsInHanded_of_change_sized (C := Try.checked) own started (by kernel_rfl) Try.func15
    (ChangeSpec.witness6 (enc := enc) (C := Try.checked) false ⟨#[], #[], []⟩ 8 (by kernel_rfl) (by kernel_rfl) (by kernel_rfl) (by kernel_rfl)) ?_
  intro W base args ds gs before hval0 hW hcnd hsz0 _
  have hsz : (DataW.weightsEach Try.prog (Try.f15.params.toList ++ Rows.slideKnownSpec.plain.varTypes Try.prog) (ds ++ gs)).all (· ≤ reachBytes) = true := hsz0
  have hval : ∀ (j : Nat) t v, Try.f15.params[j]? = some t → args[j]? = some v → Value.okWide Try.prog W .any base t v := hval0
  have hW' := hW
  obtain ⟨p, q, hA0, hV, rfl, hfz, hnd⟩ := hW
  have hA : DataW.TrodAll enc Try.prog W 0 (fun _ => true) true Try.f15.params.toList args.toList ds p := hA0
  rw [Try.params15] at hA hval hsz
  obtain ⟨hargs, rfl, rfl⟩ := trodAll_nil hA
  obtain rfl : args = #[] := by cases args; simp_all
  obtain ⟨rfl, rfl⟩ := trodVars_none hV
  refine (((known14_c W).mono fun _ _ h => ⟨h.1, h.2.below⟩ : Calls Try.prog 15 #[] W fun e W' => e = .returned (.bool true) ∧ Below W.heap.size W W')).mono fun e W' ⟨he, bel⟩ => ?_
  subst he
  exact ⟨_, rfl, _, _, _, [], _, [], hW', trodAll_mk1 (shut_bool Try.underlying4 _), trodAll_mk0, rfl, bel.frame _, fun h => by cases h⟩
theorem over : Rows.slideKnownRow.holds Try.pinned (OpenSpec.ofChange Rows.slideKnownSpec) :=
  OpenClaim.holds_of_wide 15 Try.f15 rfl rfl rfl rfl rfl rfl rfl ⟨rfl, rfl, rfl, rfl, rfl⟩ rfl rfl rfl rfl rfl (by kernel_rfl) Try.func15 (by kernel_rfl)
    (of_decide_eq_true (by kernel_rfl)) (by unfold Func.isWrapper; first | (rw [if_pos (by decide +kernel)]; kernel_rfl) | (rw [if_neg (by decide +kernel)]; exact ⟨rfl, rfl⟩))
    (fun os started H enc _ => lifted os started H enc)
theorem proved : Rows.SlideKnownSaid := over
end Go.Proofs.Ytjiaaefpepdoeaa.slideKnown
namespace Go.Proofs.Ytjiaaefpepdoeaa
/-- The row, under a short name, for the claim. -/
theorem slideKnown_holds : Rows.SlideKnownSaid := slideKnown.proved
#print axioms slideKnown_holds
end Go.Proofs.Ytjiaaefpepdoeaa
