/-
  WALK: AtomsKnown. Conditions: Go's two tables of unicode/utf8 stand as laid.
-/
import Derived.Test.YtficfpidodbdcaaDoorTn
namespace Go.Proofs.YtficfpidodbdcaaDoor
open Go.RowKit Md Go.Maps
set_option linter.unusedVariables false
theorem name_at (p : Nat) (v : Value) (b : Nat) (ns : List ByteArray) (n : Int) (k : Nat) (s : ByteArray) (w : World) (h : Tb w p v b ns) (hk : ns[k]? = some s) (hn : n = k) :
    Calls Tryd.prog 9 #[.pointer (some ⟨p, 0, none⟩), .int .i64 n] w fun e w' => e = .returned (.tuple #[.string s, .bool true]) ∧ w = w' := by
  subst hn; exact name_yes p v b ns k s w h hk
set_option maxRecDepth 100000 in
set_option maxHeartbeats 4000000 in
theorem known4_c (w : World) (hT : Tabs w) : Calls Tryd.prog 3 #[] w fun e w' => e = .returned (.bool true) ∧ Fr w w' (fun _ => False) := by
  have hA : putM [] ⟨#[255]⟩ = ⟨0, 4, []⟩ := by unfold putM; rw [if_pos (by decide +kernel)]
  have hB : putM [] ⟨#[195, 169]⟩ = ⟨0, 0, [⟨#[195, 169]⟩]⟩ := put_mk (by decide +kernel) (by decide +kernel) (.inr ⟨rfl, rfl, rfl⟩)
  have hF : fnd [⟨#[195, 169]⟩] ⟨#[195, 169]⟩ = some 0 := by decide +kernel
  have HA := Lib.hid hA
  have HB := Lib.hid hB
  have HFD := Lib.hid hF
  have HT := Lib.hid hT
  have S1 : Hid ((ByteArray.mk #[255]).size ≤ 1000000) := Lib.hid (by decide)
  have S2 : Hid ((ByteArray.mk #[195, 169]).size ≤ 1000000) := Lib.hid (by decide)
  have S3 : Hid ((ByteArray.mk #[195, 169]).size ≤ maxLen) := Lib.hid (by decide)
  clear hA hB hF hT
  go_enter Tryd.func3, Tryd.ntmps3
  go_wp2_with (first
    | (go_at_call 6; (with_reducible refine (awake4_c _ HT.out).mono ?_); rintro e w0 ⟨rfl, hf⟩; have HF0 := Lib.hid hf; have HT0 := Lib.hid (HT.out.below hf.below); clear hf)
    | (go_at_call 7; (with_reducible refine (new_n _).mono ?_); rintro e w1 ⟨p, b, rfl, ht⟩; have H1 := Lib.hid ht; clear ht)
    | (go_at_call 8; (with_reducible refine (put_n ⟨#[255]⟩ 0 4 _ _ H1.out S1.out HT0.out (by decide) HA.out).mono ?_); rintro e w2 ⟨rfl, v2, ht⟩; have H2 := Lib.hid ht; have tok : True := trivial; clear ht)
    | (go_at_call 9; have _t := tok; (with_reducible refine (name_no p v2 b [] 0 _ H2.out.t (.inr (by decide))).mono ?_); rintro e w3 ⟨rfl, rfl⟩; clear tok)
    | (go_at_call 8; (with_reducible refine (put_n ⟨#[195, 169]⟩ 0 0 _ _ H2.out S2.out HT0.out (by decide) HB.out).mono ?_); rintro e w4 ⟨rfl, v4, ht⟩; have H4 := Lib.hid ht; clear ht)
    | (go_at_call 9; (with_reducible refine (name_at p v4 b [⟨#[195, 169]⟩] 0 0 ⟨#[195, 169]⟩ _ H4.out.t rfl rfl).mono ?_); rintro e w5 ⟨rfl, rfl⟩)
    | (go_at_call 10; (with_reducible refine (find_c p v4 b [⟨#[195, 169]⟩] ⟨#[195, 169]⟩ (some 0) _ H4.out.t S3.out HFD.out).mono ?_); rintro e w6 ⟨rfl, rfl⟩))
  go_ret
  exact ⟨rfl, HF0.out.trans H4.out.fr⟩
end Go.Proofs.YtficfpidodbdcaaDoor
