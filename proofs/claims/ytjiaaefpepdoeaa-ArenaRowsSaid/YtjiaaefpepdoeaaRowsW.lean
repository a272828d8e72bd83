/-
  WALK: ArenaRows. Conditions: none but that the argument reads as words.
-/
import Derived.Test.YtjiaaefpepdoeaaInts
import Derived.Deep.DeepCutAuto
namespace Go.Proofs.Ytjiaaefpepdoeaa
open Go.RowKit Md
set_option linter.unusedVariables false
theorem objsFrom_len (ws : List Int) : ∀ (g : Nat) (a : Int) (L : List Int), objsFrom ws g a = some L → L.length ≤ g := by
  intro g
  induction g with
  | zero => intro a L h; unfold objsFrom at h; split at h <;> simp at h; subst h; simp
  | succ g ih =>
    intro a L h
    unfold objsFrom at h
    split at h
    · split at h
      · simp at h
      · rename_i hd _
        cases ho : objsFrom ws g (a + 1 + hd.size) with
        | none => rw [ho] at h; simp at h
        | some L2 => rw [ho] at h; simp at h; subst h; have := ih _ _ ho; simp; omega
    · simp at h; subst h; simp
theorem objs_len (l : List Int) (h : l.length ≤ 500) : ((objs l).getD []).length ≤ 1073741824 := by
  cases ho : objs l with
  | none => simp
  | some L => have := objsFrom_len l _ _ _ ho; simp; omega
set_option maxRecDepth 100000 in
set_option maxHeartbeats 4000000 in
theorem rows_any (A : Option Addr) (ca : Nat) (l : List Int) (w : World) (h500 : l.length ≤ 500) (hl : Rd w (.slice A l.length ca) (uw l)) (hok : okWs l) :
    Calls Try.prog 6 #[.slice A l.length ca] w (fun e w' => e = .returned (.bool true) ∧ Fr w w' (fun _ => False)) := by
  have d500 : decide ((500 : Int) < l.length) = false := decide_eq_false (by omega)
  have HL := Lib.hid hl
  have HOK := Lib.hid hok
  have HM : Hid ((l.length : Int) + 3 ≤ 1048576) := Lib.hid (by omega)
  have HB : Hid (l.length ≤ 1073741824) := Lib.hid (by omega)
  have HZ : Hid ((0 : Int) ≤ 3) := Lib.hid (by decide)
  have HOL : Hid (((objs l).getD []).length ≤ 1073741824) := Lib.hid (objs_len l h500)
  obtain ⟨L, hL⟩ : ∃ L, (objs l).getD [] = L := ⟨_, rfl⟩
  obtain ⟨b, hb⟩ : ∃ b, (objs l).isSome = b := ⟨_, rfl⟩
  rw [hL] at HOL
  have HLL := Lib.hid hL
  have HBB := Lib.hid hb
  clear hl hok hL hb
  go_enter Try.func6, Try.ntmps6
  go_wp2_with (first
    | (go_at_call 16; (with_reducible refine (awake8_c _).mono ?_); rintro e w1 ⟨rfl, hf1⟩; have HL1 := Lib.hid (HL.out.keep hf1 (fun _ _ h => h)); have HF1 := Lib.hid hf1; clear hf1)
    | (go_at_call 31; (with_reducible refine (fill_c _ l 3 _ HL1.out HOK.out HZ.out HM.out).mono ?_); rintro e w2 ⟨p, v2, rfl, hn⟩; have HA2 := Lib.hid hn.1; have HL2 := Lib.hid (HL1.out.keep hn.2.1 (fun _ _ h => h)); have HF2 := Lib.hid (HF1.out.trans hn.2.1); clear hn)
    | (go_at_call 33; (with_reducible refine (objects_c p v2 l _ _ HA2.out).mono ?_); rintro e w3 ⟨u3, rfl, hn⟩; rw [HBB.out]; rw [HLL.out] at hn; have HN3 := Lib.hid hn.1; have HA3 := Lib.hid (HA2.out.fr hn.2.1); have HL3 := Lib.hid (HL2.out.keep hn.2.1 (fun _ _ h => h)); have HF3 := Lib.hid (HF2.out.trans hn.2.1); clear hn)
    | (go_at_call 35; (with_reducible refine (mem_c _ l 3 _ HL3.out HOK.out HZ.out HM.out).mono ?_); rintro e w4 ⟨q, v4, rfl, hn⟩; have HM4 := Lib.hid hn.1; have HA4 := Lib.hid (HA3.out.fr hn.2.1); have HN4 := Lib.hid (HN3.out.keep hn.2.1 (fun _ _ h => h)); have HL4 := Lib.hid (HL3.out.keep hn.2.1 (fun _ _ h => h)); have HF4 := Lib.hid (HF3.out.trans hn.2.1); clear hn)
    | (go_at_call 36; (with_reducible refine (mobjects_c q v4 l _ _ HM4.out).mono ?_); rintro e w5 ⟨u5, rfl, hn⟩; rw [HBB.out]; rw [HLL.out] at hn; have HO5 := Lib.hid hn.1; have HA5 := Lib.hid (HA4.out.fr hn.2.1); have HN5 := Lib.hid (HN4.out.keep hn.2.1 (fun _ _ h => h)); have HL5 := Lib.hid (HL4.out.keep hn.2.1 (fun _ _ h => h)); have HF5 := Lib.hid (HF4.out.trans hn.2.1); clear hn)
    | (go_at_call 34; (with_reducible refine (ints_c _ _ L L _ HN5.out.rd HO5.out.rd HOL.out).mono ?_); rintro e w6 ⟨rfl, hd⟩; have hf := hd.fr (fun _ => False); have HA6 := Lib.hid (HA5.out.fr hf); have HL6 := Lib.hid (HL5.out.keep hf (fun _ _ h => h)); have HF6 := Lib.hid (HF5.out.trans hf); clear hd hf)
    | (go_at_call 30; (with_reducible refine (words_c p _ _ _ _ HA6.out).mono ?_); rintro e w7 ⟨v7, rfl, hn⟩; have HN7 := Lib.hid hn.1; have HL7 := Lib.hid (HL6.out.keep hn.2.1 (fun _ _ h => h)); have HF7 := Lib.hid (HF6.out.trans hn.2.1); clear hn)
    | (go_at_call 29; (with_reducible refine (samew_c _ _ l l _ HN7.out.rd HL7.out HB.out).mono ?_); rintro e w8 ⟨rfl, hd⟩; have HF8 := Lib.hid (HF7.out.trans (hd.fr (fun _ => False))); clear hd))
  go_ret
  exact ⟨by simp, HF8.out⟩
set_option maxRecDepth 100000 in
set_option maxHeartbeats 4000000 in
theorem rows_early (A : Option Addr) (la ca : Nat) (w : World) (h : 500 < la) :
    Calls Try.prog 6 #[.slice A la ca] w (fun e w' => e = .returned (.bool true) ∧ Fr w w' (fun _ => False)) := by
  have d1 : decide ((500 : Int) < la) = true := decide_eq_true (by omega)
  clear h
  go_enter Try.func6, Try.ntmps6
  go_wp2_with (first | (go_at_call 16; (with_reducible refine (awake8_c _).mono ?_); rintro e w1 ⟨rfl, hf1⟩))
  go_ret
  exact ⟨rfl, hf1⟩
theorem rows_c (A : Option Addr) (ca : Nat) (l : List Int) (w : World) (hl : Rd w (.slice A l.length ca) (uw l)) (hok : okWs l) :
    Calls Try.prog 6 #[.slice A l.length ca] w (fun e w' => e = .returned (.bool true) ∧ Fr w w' (fun _ => False)) := by
  by_cases h : 500 < l.length
  · exact rows_early A l.length ca w h
  · exact rows_any A ca l w (by omega) hl hok
end Go.Proofs.Ytjiaaefpepdoeaa
