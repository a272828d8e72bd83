/-
  CONTRACTS: a name's validity and how many signs it has, in the program's words and in the reference's. Conditions: Go's two tables of unicode/utf8 stand as laid.
-/
import Derived.Test.YtficfpidodbdcaaDoorPl
import Derived.Test.YtficfpidodbdcaaDoorShelf
import Derived.Test.YtficfpidodbdcaaDoorRd
import Derived.Laws.RangeString
import Derived.Laws.RangeAny
import Derived.Deep.LoopGhost
namespace Go.Proofs.YtficfpidodbdcaaDoor
open Go.RowKit Md
set_option linter.unusedVariables false
def Tabs (w : World) : Prop := Lib.Utf8Tabs (Tryd.lays196_ren.g 3) (Tryd.lays196_ren.g 4) w
theorem Tabs.below {w w' : World} (h : Tabs w) (hb : Below w.heap.size w w') : Tabs w' := Utf8Tabs_below h hb
/-- how many signs; -1: not well-formed -/
def cntZ (s : ByteArray) : Int := if vld s = true then (cnt s : Int) else -1
theorem vs_c (s : ByteArray) (w : World) (hs : s.size ≤ 9223372036854775807) (hT : Tabs w) :
    Calls Tryd.prog 17 #[.string s] w fun e w' => e = .returned (.bool (vld s)) ∧ Below w.heap.size w w' := Tryd.utf8_ValidString s w hs hT
theorem rc_c (s : ByteArray) (w : World) (hs : s.size < 9223372036854775807) :
    Calls Tryd.prog 19 #[.string s] w fun e w' => e = .returned (.int .i64 (cnt s)) ∧ ∃ pos, w' = w.iter s pos := Tryd.utf8_RuneCountInString s w hs
theorem valid_c (s : ByteArray) (b : Bool) (w : World) (hs : s.size ≤ 9223372036854775807) (hT : Tabs w) (hb : vld s = b) :
    Calls Tryd.prog 14 #[.string s] w fun e w' => e = .returned (.bool b) ∧ Fr w w' (fun _ => False) := by
  subst hb
  have HS := Lib.hid hs
  have HT := Lib.hid hT
  clear hs hT
  go_enter Tryd.func14, Tryd.ntmps14
  go_wp2_with (first | (go_at_call 17; (with_reducible refine (vs_c s _ HS.out HT.out).mono ?_); rintro e w1 ⟨rfl, hb⟩))
  go_ret
  exact ⟨rfl, Fr.of_below hb _⟩
theorem rvalid_c (s : ByteArray) (b : Bool) (w : World) (hs : s.size ≤ 9223372036854775807) (hT : Tabs w) (hb : vld s = b) :
    Calls Tryd.prog 18 #[.string s] w fun e w' => e = .returned (.bool b) ∧ Fr w w' (fun _ => False) := by
  subst hb
  have HS := Lib.hid hs
  have HT := Lib.hid hT
  clear hs hT
  go_enter Tryd.func18, Tryd.ntmps18
  go_wp2_with (first | (go_at_call 17; (with_reducible refine (vs_c s _ HS.out HT.out).mono ?_); rintro e w1 ⟨rfl, hb⟩))
  go_ret
  exact ⟨rfl, Fr.of_below hb _⟩
theorem fr_iter (w : World) (s : ByteArray) (pos : Nat) : Fr w (w.iter s pos) (fun _ => False) := (Fr.refl w _).alloc _
theorem count_c (s : ByteArray) (r : Int) (w : World) (hs : s.size < 9223372036854775807) (hT : Tabs w) (hr : cntZ s = r) :
    Calls Tryd.prog 15 #[.string s] w fun e w' => e = .returned (.int .i64 r) ∧ Fr w w' (fun _ => False) := by
  have HS : Hid (s.size ≤ 9223372036854775807) := Lib.hid (by omega)
  have HS2 := Lib.hid hs
  have HT := Lib.hid hT
  cases hv : vld s with
  | false =>
    have e : r = -1 := by rw [← hr]; unfold cntZ; rw [if_neg (by rw [hv]; decide)]
    subst e
    have HV := Lib.hid hv
    clear hs hT hv hr
    go_enter Tryd.func15, Tryd.ntmps15
    go_wp2_with (first | (go_at_call 18; (with_reducible refine (rvalid_c s false _ HS.out HT.out HV.out).mono ?_); rintro e w1 ⟨rfl, hf⟩))
    go_ret
    exact ⟨rfl, hf⟩
  | true =>
    have e : r = (cnt s : Int) := by rw [← hr]; unfold cntZ; rw [if_pos hv]
    subst e
    have HV := Lib.hid hv
    clear hs hT hv hr
    go_enter Tryd.func15, Tryd.ntmps15
    go_wp2_with (first
      | (go_at_call 18; (with_reducible refine (rvalid_c s true _ HS.out HT.out HV.out).mono ?_); rintro e w1 ⟨rfl, hf⟩)
      | (go_at_call 19; (with_reducible refine (rc_c s _ HS2.out).mono ?_); rintro e w2 ⟨rfl, pos, rfl⟩))
    go_ret
    exact ⟨rfl, hf.trans (fr_iter _ _ _)⟩
set_option maxHeartbeats 4000000 in
theorem mcount_c (s : ByteArray) (r : Int) (w : World) (hs : s.size < 9223372036854775807) (hT : Tabs w) (hr : cntZ s = r) :
    Calls Tryd.prog 16 #[.string s] w fun e w' => e = .returned (.int .i64 r) ∧ Fr w w' (fun _ => False) := by
  have HS : Hid (s.size ≤ 9223372036854775807) := Lib.hid (by omega)
  have HT := Lib.hid hT
  cases hv : vld s with
  | false =>
    have e : r = -1 := by rw [← hr]; unfold cntZ; rw [if_neg (by rw [hv]; decide)]
    subst e
    have HV := Lib.hid hv
    clear hs hT hv hr
    go_enter Tryd.func16, Tryd.ntmps16
    go_wp2_with (first | (go_at_call 14; (with_reducible refine (valid_c s false _ HS.out HT.out HV.out).mono ?_); rintro e w1 ⟨rfl, hf⟩))
    go_ret
    exact ⟨rfl, hf⟩
  | true =>
    have e : r = (cnt s : Int) := by rw [← hr]; unfold cntZ; rw [if_pos hv]
    subst e
    have HV := Lib.hid hv
    clear hT hv hr
    go_enter Tryd.func16, Tryd.ntmps16
    go_upto_region 5 with (first | (go_at_call 14; (with_reducible refine (valid_c s true _ HS.out HT.out HV.out).mono ?_); rintro e w1 ⟨rfl, hf⟩))
    have HF := Lib.hid hf
    clear hf
    go_loopw [3] (fun n w' => ∃ (pos b acc : Nat), w' = w1.iter s pos ∧ n = .int .i64 acc ∧ acc + Lib.runeCountFrom s b pos = Lib.runeCount s ∧ s.size ≤ pos + b ∧ acc ≤ pos) (fun _ w' => s.size - w'.iterPos w1.heap.size)
    case atStart => exact ⟨0, s.size, 0, rfl, rfl, by simp [Lib.runeCount], by omega, Nat.le_refl _⟩
    case round =>
      obtain ⟨pos, b, acc, rfl, rfl, hc, hb, ha⟩ := hrel
      by_cases hp : pos < s.size
      · have hnx : ∀ ty, (Instr.next (.pointer (some ⟨w1.heap.size, 0, none⟩)) true ty).run Tryd.prog (w1.iter s pos) = _ := fun ty => run_next_any w1 s pos ty hp
        have hwd := Lib.decode_width_pos s pos hp
        go_wp2
        go_roundw
        case rel =>
          cases b with
          | zero => omega
          | succ b =>
            refine ⟨pos + (Utf8.decode s pos).2, b, acc + 1, rfl, by go_num, ?_, by omega, by omega⟩
            rw [← hc]
            simp [Lib.runeCountFrom, hp]
            omega
        case measure =>
          simp
          omega
      · have hnx : ∀ ty, (Instr.next (.pointer (some ⟨w1.heap.size, 0, none⟩)) true ty).run Tryd.prog (w1.iter s pos) = _ := fun ty => run_next_end w1 s pos ty hp
        go_wp2
        go_ret
        rw [Lib.runeCountFrom_end s b pos hp, Nat.add_zero] at hc
        subst hc
        exact ⟨rfl, HF.out.trans (fr_iter _ _ _)⟩
end Go.Proofs.YtficfpidodbdcaaDoor
