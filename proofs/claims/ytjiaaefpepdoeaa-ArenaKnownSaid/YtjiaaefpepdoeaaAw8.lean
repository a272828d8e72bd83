/-
  CONTRACTS: law 8's awake (true, and what was there is left), Mem. Conditions: those of each.
-/
import Derived.Test.YtjiaaefpepdoeaaFill
namespace Go.Proofs.Ytjiaaefpepdoeaa
open Go.RowKit Md
set_option linter.unusedVariables false

set_option maxHeartbeats 1000000 in
theorem awake8_c (w : World) : Calls Try.prog 16 #[] w fun e w' => e = .returned (.bool true) ∧ Fr w w' (fun _ => False) := by
  go_enter Try.func16, Try.ntmps16
  go_wp2_with (first | (go_at_call 17; (with_reducible refine (new_c _ _).mono ?_); rintro e w1 ⟨rfl, ha, hf⟩))
  rw [newSize_of (by omega) (by omega)] at ha
  have HA := Lib.hid ha
  have HF := Lib.hid hf
  clear ha hf
  go_wp2_with (first | (go_at_call 19; (with_reducible refine (take_i _ _ [] 4 3 _ HA.out (by omega) (by simp only [List.length_nil]; omega)).mono ?_); rintro e w2 ⟨rfl, v2, ha2, hf2, hn2⟩))
  have hf02 : Fr w w2 (fun _ => False) := HF.out.then_ hf2 (fun i hi hlt => hi.elim (fun e => by omega) (fun e => by simp [InBlk, Value.ownBlock] at e))
  have hin2 : ∀ k, InBlk v2 k → w.heap.size ≤ k := fun k hk => (hn2 k hk).elim (fun e => by simp [InBlk, Value.ownBlock] at e) (fun e => Nat.le_trans HF.out.size e)
  have e3 : ([] : List Int) ++ List.replicate (3 : Int).toNat 0 = [0, 0, 0] := rfl
  rw [e3] at ha2
  have HA2 := Lib.hid ha2
  have HF2 := Lib.hid hf02
  have HI2 := Lib.hid hin2
  clear ha2 hf2 hn2 hf02 hin2 HA HF e3
  go_wp2_with (first | (go_at_call 19; (with_reducible refine (take_no _ _ [0, 0, 0] 4 2 _ HA2.out (by simp only [List.length_cons, List.length_nil]; omega)).mono ?_); rintro e w3 ⟨rfl, nd, rfl⟩))
  have hd : Drawn w2 (w2.drewN nd) := ⟨nd, rfl⟩
  have ha3 : Ar 101 (w2.drewN nd) w.heap.size v2 [0, 0, 0] 4 := HA2.out.keep (hd.fr (fun _ => False)) (fun h => h) (fun _ _ h => h)
  have HA3 := Lib.hid ha3
  clear ha3 hd
  go_wp2_with (first | (go_at_call 21; (with_reducible refine (set_c _ _ [0, 0, 0] 4 2 5 _ HA3.out (by unfold okW; omega) (by simp only [List.length_cons, List.length_nil]; omega)).mono ?_); rintro e w4 ⟨rfl, ha4, hf4⟩))
  have HA4 := Lib.hid ha4
  have hf04 : Fr w w4 (fun _ => False) := (HF2.out.drewN nd).then_ hf4 (fun i hi hlt => by have := HI2.out i hi; omega)
  have HF4 := Lib.hid hf04
  clear ha4 hf4 hf04
  go_wp2_with (first | (go_at_call 27; (with_reducible refine (used_c _ _ _ _ _ HA4.out).mono ?_); rintro e w' ⟨rfl, rfl⟩) | (go_at_call 28; (with_reducible refine (size_c _ _ _ _ _ HA4.out).mono ?_); rintro e w' ⟨rfl, rfl⟩))
  go_ret
  exact ⟨by first | rfl | (simp; done), HF4.out⟩
end Go.Proofs.Ytjiaaefpepdoeaa
