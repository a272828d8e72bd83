/-
  CONTRACT: AtomsOnce for all arguments. Conditions: Go's two tables of unicode/utf8 stand as laid.
-/
import Derived.Test.YtficfpidodbdcaaDoorOn
namespace Go.Proofs.YtficfpidodbdcaaDoor
open Go.RowKit Md Go.Maps
set_option linter.unusedVariables false
set_option maxRecDepth 100000 in
set_option maxHeartbeats 4000000 in
theorem once_far (Al : Option Addr) (nl cl : Nat) (n : Int) (w : World) (hT : Tabs w) (h : 200 < nl) :
    Calls Tryd.prog 5 #[.slice Al nl cl, .int .u8 n] w fun e w' => e = .returned (.bool true) ∧ Fr w w' (fun _ => False) := by
  have d1 : decide ((200 : Int) < nl) = true := decide_eq_true (by omega)
  have HT := Lib.hid hT
  clear h hT
  go_enter Tryd.func5, Tryd.ntmps5
  go_wp2_with (first
    | (go_at_call 6; (with_reducible refine (awake4_c _ HT.out).mono ?_); rintro e w0 ⟨rfl, hf⟩))
  go_ret
  exact ⟨rfl, hf⟩
theorem once_c (Al : Option Addr) (cl lg : Nat) (zs : List Int) (w : World) (hT : Tabs w) (hl : Rd w (.slice Al zs.length cl) (zs.map (Value.int .u8))) (hz : ∀ z ∈ zs, 0 ≤ z ∧ z < 256) (hlg : lg < 256) :
    Calls Tryd.prog 5 #[.slice Al zs.length cl, .int .u8 lg] w fun e w' => e = .returned (.bool true) ∧ Fr w w' (fun _ => False) := by
  have e1 : zs.length = (zs.map Int.toNat).length := by simp
  have e2 : bw8 (zs.map Int.toNat) = zs.map (Value.int .u8) := by
    unfold bw8
    rw [List.map_map]
    refine List.map_congr_left fun z hm => ?_
    show Value.int .u8 ((z.toNat : Nat) : Int) = Value.int .u8 z
    rw [Int.toNat_of_nonneg (hz z hm).1]
  rw [e1] at hl ⊢
  rw [← e2] at hl
  by_cases h : 200 < (zs.map Int.toNat).length
  · exact once_far Al _ cl lg w hT h
  · exact once_in Al cl lg _ w hT hl (fun x hx => by
      obtain ⟨z, hm, rfl⟩ := List.mem_map.1 hx
      have := hz z hm
      omega) (by omega) hlg
end Go.Proofs.YtficfpidodbdcaaDoor
