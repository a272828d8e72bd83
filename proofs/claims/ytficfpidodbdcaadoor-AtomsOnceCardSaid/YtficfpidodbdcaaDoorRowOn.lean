/-
  ROW: AtomsOnce: the given card, from the law's walk. Conditions: none.
-/
import Derived.Test.YtficfpidodbdcaaDoorRows
import Derived.Test.YtficfpidodbdcaaDoorTie
import Derived.Test.YtficfpidodbdcaaDoorCards
import Derived.Test.YtficfpidodbdcaaDoorOnc
import Derived.Test.YtficfpidodbdcaaDoorOpn
import Derived.PinnedBridge
import Derived.Lib.LaidIn
import Derived.Lib.LaidU8T
import Derived.ProofKit
import Derived.OpenShut
import Derived.LaidMore
import Derived.Lay
import Derived.SevenTiedAt
import Derived.Stop.Joined
import Derived.Below
import Derived.ChangeOld
namespace Go.Proofs.YtficfpidodbdcaaDoor.atomsOnce
open Go.ChangeShapes Go.WideShapes Go.ChangeAt Go.RowKit Go.Lib Go.Proofs
open Go.ChangeMaps (open_string shut_string)
set_option linter.unusedVariables false
theorem own : ownKnob Tryd.prog.godebug = none := by kernel_rfl
theorem laidOut : laidOutB Tryd.prog = true := by kernel_rfl
theorem tabs_of {W : World} (hL : laidMetH Tryd.prog Rows.atomsOnceRow.laid W) : Tabs W := by
  have h1 : VarReads Tryd.prog W "unicode/utf8.first" firstData := by
    have := Lib.laidMet.reads hL (.tail _ (.head _))
    rw [show Rows.laid_unicode_utf8_first = firstData from Pinned.utf8First_eq] at this
    exact this
  have h2 : VarReads Tryd.prog W "unicode/utf8.acceptRanges" acceptData := by
    have := Lib.laidMet.reads hL (.head _)
    rw [show (Rows.laid_unicode_utf8_acceptRanges : DataW Unit) = acceptData by kernel_rfl] at this
    exact this
  exact utf8Tabs_of_readsT (U8Types.of196 Tryd.lays196) ⟨by kernel_rfl, by kernel_rfl, by kernel_rfl, by kernel_rfl, by kernel_rfl, by kernel_rfl, by kernel_rfl⟩ h1 h2
set_option maxRecDepth 100000 in
set_option maxHeartbeats 2000000 in
theorem lifted (os : Os) (started : os.Started) (H : Type) (enc : TypeId × Value → H) :
    ReturnsInHanded {} Tryd.checked os 5 .any (fun w args => (Rows.atomsOnceSpec.pre enc Tryd.prog Tryd.f5 Rows.atomsOnceRow.domain false w args ∧ laidMetH Tryd.prog Rows.atomsOnceRow.laid w) ∧ sizedMet enc Tryd.prog Tryd.f5 (OpenSpec.ofChange Rows.atomsOnceSpec) false w args)
      (Rows.atomsOnceSpec.post enc Tryd.prog Tryd.f5 false true false false) := by
  refine returnsInHanded_of_change_and (C := Tryd.checked) (X := fun w _ => laidMetH Tryd.prog Rows.atomsOnceRow.laid w) (fun _ _ _ hh h => h.of_heap hh) own started (by kernel_rfl) Tryd.func5
    (ChangeSpec.witness_shaped (enc := enc) (C := Tryd.checked) (os := os) (X := fun w _ => laidMetH Tryd.prog Rows.atomsOnceRow.laid w) false (World.laidAll Tryd.prog os Rows.atomsOnceRow.laid) #[.slice none 0 0, .int .u8 0] 8 (World.laidAll_os _ _ _)
      (World.shaped_of_ZipB (by kernel_rfl) (by kernel_rfl)) (by kernel_rfl) (by kernel_rfl) (by kernel_rfl)
      (by rw [MakeChecks.laidMetH_plain _ _ _ (by kernel_rfl)]; exact laidMet_laidAll _ (by kernel_rfl) (by kernel_rfl))) ?_
  intro W base args ds gs before hval0 hW hc hsz0 hL _
  have hval : ∀ (j : Nat) t v, Tryd.f5.params[j]? = some t → args[j]? = some v → Value.okWide Tryd.prog W .any base t v := hval0
  have htab : Tabs W := tabs_of hL
  have hW' := hW
  obtain ⟨p, q, hA0, hV, rfl, hfz, hnd⟩ := hW
  have hA : DataW.TrodAll enc Tryd.prog W 0 (fun _ => true) true Tryd.f5.params.toList args.toList ds p := hA0
  rw [Tryd.params5] at hA hval
  obtain ⟨v0, vs0, d0, ds0, p0, q0, hargs, rfl, rfl, h0, r0⟩ := trodAll_cons hA
  obtain ⟨v1, vs1, d1, ds1, p1, q1, rfl, rfl, rfl, h1, r1⟩ := trodAll_cons r0
  obtain ⟨rfl, rfl, rfl⟩ := trodAll_nil r1
  obtain rfl : args = #[v0, v1] := by cases args; simp_all
  obtain ⟨rfl, rfl⟩ := trodVars_none hV
  have k0 := h0
  have lt0 : ∀ x ∈ p0, x.block < W.heap.size := by obtain ⟨m, hm⟩ := k0; exact DataW.trod_lt m _ _ _ hm
  have k1 := h1
  have lt1 : ∀ x ∈ p1, x.block < W.heap.size := by obtain ⟨m, hm⟩ := k1; exact DataW.trod_lt m _ _ _ hm
  obtain ⟨A, len, cap, rfl⟩ := okWide_slice Tryd.underlying41 (hval 0 41 v0 rfl rfl)
  obtain ⟨zs, rfl, hw, hl⟩ : ∃ zs : List Int, zs.length = len ∧ (∀ n ∈ zs, (Lit.int .u8 n).wf = true) ∧ Rd W (.slice A len cap) (zs.map (Value.int .u8)) := by
    obtain ⟨fuel, hf⟩ := h0
    simp only [Value.cells] at hf
    exact Opn.open_row Tryd.underlying41 Tryd.underlying5 (by kernel_rfl) hf
  obtain ⟨x, rfl, _, rfl, wx⟩ := open_int Tryd.underlying5 (hval 1 5 v1 rfl rfl) h1
  have hz : ∀ z ∈ zs, 0 ≤ z ∧ z < 256 := fun n hn => by
    have wf := hw n hn
    simp [Lit.wf, IntKind.min, IntKind.max, IntKind.bits, IntKind.signed] at wf
    omega
  obtain ⟨a, rfl, ha⟩ : ∃ a : Nat, x = a ∧ a < 256 := by
    simp [Lit.wf, IntKind.min, IntKind.max, IntKind.bits, IntKind.signed] at wx
    exact ⟨x.toNat, by omega, by omega⟩
  clear hA0 hval0
  refine (((once_c A cap a zs W htab hl hz ha).mono fun _ _ h => ⟨h.1, h.2.below⟩ : Calls Tryd.prog 5 #[.slice A zs.length cap, .int .u8 a] W fun e W' => e = .returned (.bool true) ∧ Below W.heap.size W W')).mono fun e W' ⟨he, bel⟩ => ?_
  subst he
  exact ⟨_, rfl, _, _, _, [], _, [], hW', trodAll_mk1 (shut_bool Tryd.underlying4 _), (trodAll_cons_mk (Below.trod laidOut (by kernel_rfl) (of_decide_eq_true (by kernel_rfl)) k0 bel lt0) (trodAll_cons_mk (Below.trod laidOut (by kernel_rfl) (of_decide_eq_true (by kernel_rfl)) k1 bel lt1) trodAll_mk0)), rfl, bel.frame _, fun h => by cases h⟩
theorem over : Rows.AtomsOnceSaid :=
  OpenClaim.holds_of_wide 5 Tryd.f5 rfl rfl rfl rfl rfl rfl rfl ⟨rfl, rfl, rfl, rfl, rfl⟩ rfl rfl rfl rfl rfl (by kernel_rfl) Tryd.func5 (by kernel_rfl)
    (of_decide_eq_true (by kernel_rfl)) (by unfold Func.isWrapper; first | (rw [if_pos (by decide +kernel)]; kernel_rfl) | (rw [if_neg (by decide +kernel)]; exact ⟨rfl, rfl⟩))
    (fun os started H enc _ => lifted os started H enc)
theorem card : Rows.AtomsOnceCardSaid :=
  Claim7.holds_tied_plain_at .later [] [.data, .pinned] true (true, "e8c1bb0c9926fe43621d6dd8c7910d1502a228aec6871035c24f15d08df1227e") false over (fun _ h => by cases h) (by kernel_rfl) (fun _ h => by cases h) atomsOnce_row_tie rfl ⟨rfl, rfl⟩ (by kernel_rfl) rfl
    (fun f fn hf hfn => by
      obtain rfl : f = 5 := Option.some.inj ((show Tryd.prog.funcNamed "tenement/tenementlaw4.AtomsOnce" = some 5 by kernel_rfl).symm.trans hf) |>.symm
      obtain rfl : fn = Tryd.f5 := (Option.some.inj (Tryd.func5.symm.trans hfn)).symm
      exact ⟨by kernel_rfl, fun j t ht => by
        rw [Tryd.params5] at ht
        have hm : t ∈ [41, 5] := by simpa using Array.mem_of_getElem? ht
        have hall : ([41, 5].all fun u => !Tryd.prog.wantsStandIn u) = true := by kernel_rfl
        exact (show Tryd.prog.wantsStandIn t = false by simpa using List.all_eq_true.1 hall t hm)⟩)
    (by kernel_rfl)
end Go.Proofs.YtficfpidodbdcaaDoor.atomsOnce
namespace Go.Proofs.YtficfpidodbdcaaDoor
/-- The card, under a short name, for the claim. -/
theorem atomsOnce_holds : Rows.AtomsOnceCardSaid := atomsOnce.card
#print axioms atomsOnce_holds
end Go.Proofs.YtficfpidodbdcaaDoor
