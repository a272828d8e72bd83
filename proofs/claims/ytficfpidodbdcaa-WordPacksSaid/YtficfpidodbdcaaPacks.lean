/-
  LAW: WordPacks: for every tag, every number and every word the law's call returns true and leaves what was there. Conditions: none.
-/
import Derived.Test.YtficfpidodbdcaaWord
import Derived.Lib.Hide
namespace Go.Proofs.Ytficfpidodbdcaa.Wd
open Go.RowKit Go.Proofs.Ytficfpidodbdcaa.PWordHeads Go.Proofs.YtficfpidodbdcaaW.PrintWords Go.Proofs.YtficfpidodbdcaaW.PrintLast
open Go.Proofs.Ytficfpidodbdcaa.Md
set_option linter.unusedVariables false
set_option maxRecDepth 100000 in
set_option maxHeartbeats 4000000 in
theorem packs (t n x : Int) (w : World) (hx : okW x) : Calls Try.prog 3 #[.int .i64 t, .int .i64 n, .int .u64 x] w fun e w' => e = .returned (.bool true) ∧ Drawn0 w w' := by
  obtain ⟨r, hr⟩ : ∃ r, ofW t n = r := ⟨_, rfl⟩
  have hrk : okW r := hr ▸ okW_ofW t n
  have htr : 0 ≤ t → t ≤ 7 → fitsW n = true → tagW r = t := fun a b c => hr ▸ tag_ofW a b c
  have hvr : 0 ≤ t → t ≤ 7 → fitsW n = true → valW r = n := fun a b c => hr ▸ val_ofW a b c
  have Hr := Lib.hid hr
  obtain ⟨tx, htx⟩ : ∃ y, tagW x = y := ⟨_, rfl⟩
  obtain ⟨vx, hvx⟩ : ∃ y, valW x = y := ⟨_, rfl⟩
  have hfv : fitsW vx = true := hvx ▸ fits_valW hx
  have Htx := Lib.hid htx
  have Hvx := Lib.hid hvx
  have Hfv := Lib.hid hfv
  have Hx := Lib.hid hx
  have Hrk := Lib.hid hrk
  clear hr htx hvx hfv hx hrk
  by_cases h0 : t < 0
  · obtain ⟨b, hb⟩ : ∃ b, fitsW n = b := ⟨_, rfl⟩
    have Hb := Lib.hid hb
    clear hb htr hvr
    have d0 : decide (0 ≤ t) = false := by simp; omega
    go_enter Try.func3, Try.ntmps3
    go_wp2_with (first | (go_at_call 7; (with_reducible refine (awake_c _).mono ?_); rintro e w' ⟨rfl, ⟨nd, rfl⟩⟩) | (go_at_call 8; (with_reducible refine (of_c t n r _ Hr.out).mono ?_); rintro e w' ⟨rfl, ⟨nd, rfl⟩⟩) | (go_at_call 12; (with_reducible refine (rof_c t n r _ Hr.out).mono ?_); rintro e w' ⟨rfl, ⟨nd, rfl⟩⟩) | (go_at_call 13; (with_reducible refine (rtag_c x tx _ Hx.out Htx.out).mono ?_); rintro e w' ⟨rfl, ⟨nd, rfl⟩⟩) | (go_at_call 14; (with_reducible refine (rval_c x vx _ Hx.out Hvx.out).mono ?_); rintro e w' ⟨rfl, ⟨nd, rfl⟩⟩) | (go_at_call 15; (with_reducible refine (rfits_c n b _ Hb.out).mono ?_); rintro e w' ⟨rfl, ⟨nd, rfl⟩⟩) | (go_at_call 9; (with_reducible refine (fits_c vx true _ Hfv.out).mono ?_); rintro e w' ⟨rfl, ⟨nd, rfl⟩⟩) | (go_at_call 9; (with_reducible refine (fits_c n b _ Hb.out).mono ?_); rintro e w' ⟨rfl, ⟨nd, rfl⟩⟩) | (go_at_call 10; (with_reducible refine (tag_c x tx _ Hx.out Htx.out).mono ?_); rintro e w' ⟨rfl, ⟨nd, rfl⟩⟩) | (go_at_call 11; (with_reducible refine (val_c x vx _ Hx.out Hvx.out).mono ?_); rintro e w' ⟨rfl, ⟨nd, rfl⟩⟩))
    go_ret
    exact ⟨by first | rfl | (simp; done), by repeat (first | exact Drawn0.refl _ | apply Drawn0.step)⟩
  by_cases h7 : 7 < t
  · obtain ⟨b, hb⟩ : ∃ b, fitsW n = b := ⟨_, rfl⟩
    have Hb := Lib.hid hb
    clear hb htr hvr
    have d0 : decide (0 ≤ t) = true := by simp; omega
    have d7 : decide (t ≤ 7) = false := by simp; omega
    go_enter Try.func3, Try.ntmps3
    go_wp2_with (first | (go_at_call 7; (with_reducible refine (awake_c _).mono ?_); rintro e w' ⟨rfl, ⟨nd, rfl⟩⟩) | (go_at_call 8; (with_reducible refine (of_c t n r _ Hr.out).mono ?_); rintro e w' ⟨rfl, ⟨nd, rfl⟩⟩) | (go_at_call 12; (with_reducible refine (rof_c t n r _ Hr.out).mono ?_); rintro e w' ⟨rfl, ⟨nd, rfl⟩⟩) | (go_at_call 13; (with_reducible refine (rtag_c x tx _ Hx.out Htx.out).mono ?_); rintro e w' ⟨rfl, ⟨nd, rfl⟩⟩) | (go_at_call 14; (with_reducible refine (rval_c x vx _ Hx.out Hvx.out).mono ?_); rintro e w' ⟨rfl, ⟨nd, rfl⟩⟩) | (go_at_call 15; (with_reducible refine (rfits_c n b _ Hb.out).mono ?_); rintro e w' ⟨rfl, ⟨nd, rfl⟩⟩) | (go_at_call 9; (with_reducible refine (fits_c vx true _ Hfv.out).mono ?_); rintro e w' ⟨rfl, ⟨nd, rfl⟩⟩) | (go_at_call 9; (with_reducible refine (fits_c n b _ Hb.out).mono ?_); rintro e w' ⟨rfl, ⟨nd, rfl⟩⟩) | (go_at_call 10; (with_reducible refine (tag_c x tx _ Hx.out Htx.out).mono ?_); rintro e w' ⟨rfl, ⟨nd, rfl⟩⟩) | (go_at_call 11; (with_reducible refine (val_c x vx _ Hx.out Hvx.out).mono ?_); rintro e w' ⟨rfl, ⟨nd, rfl⟩⟩))
    go_ret
    exact ⟨by first | rfl | (simp; done), by repeat (first | exact Drawn0.refl _ | apply Drawn0.step)⟩
  have d0 : decide (0 ≤ t) = true := by simp; omega
  have d7 : decide (t ≤ 7) = true := by simp; omega
  cases hb : fitsW n with
  | true =>
    have Htr := Lib.hid (htr (by omega) (by omega) hb)
    have Hvr := Lib.hid (hvr (by omega) (by omega) hb)
    have Hb := Lib.hid hb
    clear hb htr hvr
    go_enter Try.func3, Try.ntmps3
    go_wp2_with (first | (go_at_call 7; (with_reducible refine (awake_c _).mono ?_); rintro e w' ⟨rfl, ⟨nd, rfl⟩⟩) | (go_at_call 8; (with_reducible refine (of_c t n r _ Hr.out).mono ?_); rintro e w' ⟨rfl, ⟨nd, rfl⟩⟩) | (go_at_call 12; (with_reducible refine (rof_c t n r _ Hr.out).mono ?_); rintro e w' ⟨rfl, ⟨nd, rfl⟩⟩) | (go_at_call 13; (with_reducible refine (rtag_c x tx _ Hx.out Htx.out).mono ?_); rintro e w' ⟨rfl, ⟨nd, rfl⟩⟩) | (go_at_call 14; (with_reducible refine (rval_c x vx _ Hx.out Hvx.out).mono ?_); rintro e w' ⟨rfl, ⟨nd, rfl⟩⟩) | (go_at_call 15; (with_reducible refine (rfits_c n true _ Hb.out).mono ?_); rintro e w' ⟨rfl, ⟨nd, rfl⟩⟩) | (go_at_call 9; (with_reducible refine (fits_c vx true _ Hfv.out).mono ?_); rintro e w' ⟨rfl, ⟨nd, rfl⟩⟩) | (go_at_call 9; (with_reducible refine (fits_c n true _ Hb.out).mono ?_); rintro e w' ⟨rfl, ⟨nd, rfl⟩⟩) | (go_at_call 10; (with_reducible refine (tag_c r t _ Hrk.out Htr.out).mono ?_); rintro e w' ⟨rfl, ⟨nd, rfl⟩⟩) | (go_at_call 10; (with_reducible refine (tag_c x tx _ Hx.out Htx.out).mono ?_); rintro e w' ⟨rfl, ⟨nd, rfl⟩⟩) | (go_at_call 11; (with_reducible refine (val_c r n _ Hrk.out Hvr.out).mono ?_); rintro e w' ⟨rfl, ⟨nd, rfl⟩⟩) | (go_at_call 11; (with_reducible refine (val_c x vx _ Hx.out Hvx.out).mono ?_); rintro e w' ⟨rfl, ⟨nd, rfl⟩⟩))
    go_ret
    exact ⟨by first | rfl | (simp; done), by repeat (first | exact Drawn0.refl _ | apply Drawn0.step)⟩
  | false =>
    have Hb := Lib.hid hb
    clear hb htr hvr
    go_enter Try.func3, Try.ntmps3
    go_wp2_with (first | (go_at_call 7; (with_reducible refine (awake_c _).mono ?_); rintro e w' ⟨rfl, ⟨nd, rfl⟩⟩) | (go_at_call 8; (with_reducible refine (of_c t n r _ Hr.out).mono ?_); rintro e w' ⟨rfl, ⟨nd, rfl⟩⟩) | (go_at_call 12; (with_reducible refine (rof_c t n r _ Hr.out).mono ?_); rintro e w' ⟨rfl, ⟨nd, rfl⟩⟩) | (go_at_call 13; (with_reducible refine (rtag_c x tx _ Hx.out Htx.out).mono ?_); rintro e w' ⟨rfl, ⟨nd, rfl⟩⟩) | (go_at_call 14; (with_reducible refine (rval_c x vx _ Hx.out Hvx.out).mono ?_); rintro e w' ⟨rfl, ⟨nd, rfl⟩⟩) | (go_at_call 15; (with_reducible refine (rfits_c n false _ Hb.out).mono ?_); rintro e w' ⟨rfl, ⟨nd, rfl⟩⟩) | (go_at_call 9; (with_reducible refine (fits_c vx true _ Hfv.out).mono ?_); rintro e w' ⟨rfl, ⟨nd, rfl⟩⟩) | (go_at_call 9; (with_reducible refine (fits_c n false _ Hb.out).mono ?_); rintro e w' ⟨rfl, ⟨nd, rfl⟩⟩) | (go_at_call 10; (with_reducible refine (tag_c x tx _ Hx.out Htx.out).mono ?_); rintro e w' ⟨rfl, ⟨nd, rfl⟩⟩) | (go_at_call 11; (with_reducible refine (val_c x vx _ Hx.out Hvx.out).mono ?_); rintro e w' ⟨rfl, ⟨nd, rfl⟩⟩))
    go_ret
    exact ⟨by first | rfl | (simp; done), by repeat (first | exact Drawn0.refl _ | apply Drawn0.step)⟩
end Go.Proofs.Ytficfpidodbdcaa.Wd
