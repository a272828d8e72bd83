/-
  TEXTS JOINED FOR A CLAIM (MarkTerms): Wds Ant Gr3 Mob Grn Gs Drp Sld. Conditions: none beyond those that each theorem states.
-/
import Derived.Test.YtjiaaefpepdoeaaDoorZ32MarkTerms
import Derived.OrdersHeld
import Derived.RegionTactic
import Derived.KernelRfl
import Derived.Test.YtjiaaefpepdoeaaDoorZ31MarkTerms
import Derived.BigQuiet
import Derived.Deep.QuietTactic
import Derived.Test.YtjiaaefpepdoeaaDoorZ00MarkTerms
import Derived.StillTailTactics
import Derived.Deep.LoopGhost
namespace Go.Proofs.YtjiaaefpepdoeaaDoor
open Go.RowKit Md Go.Proofs.YtjiaaefpepdoeaaDoorW.PrintWords
open Go.Proofs.YtjiaaefpepdoeaaDoor.PSlideMeans (S26 z26 k26)
set_option linter.unusedVariables false
def twM : Nat → S26 → Int
 | 0, _ => 0
 | d + 1, t => if t.f0 = 0 then (if smallB t.f1 t.f2 = true then 0 else 1 + ((normD t.f2).length : Int)) else if t.f0 = 7 then 4 else if t.f0 = 4 ∨ t.f0 = 6 then 1 + (t.f5.length : Int) + (t.f5.map (twM d)).sum else 0
theorem sum_nn : ∀ {l : List Int}, (∀ x ∈ l, 0 ≤ x) → 0 ≤ l.sum
 | [], _ => by simp
 | x :: l, h => by
  have h1 := h x (by simp)
  have h2 : 0 ≤ l.sum := sum_nn (fun y hy => h y (by simp [hy]))
  rw [List.sum_cons]; omega
theorem twM_nn : ∀ (d : Nat) (t : S26), 0 ≤ twM d t
 | 0, _ => by simp [twM]
 | d + 1, t => by
  have h := sum_nn (l := t.f5.map (twM d)) (fun x hx => by obtain ⟨y, _, rfl⟩ := List.mem_map.1 hx; exact twM_nn d y)
  unfold twM
  split
  ·split <;> omega
  ·split
   ·omega
   ·split <;> omega
def tws (d : Nat) (l : List S26) (i : Nat) : Int := ((l.take i).map (twM d)).sum
theorem tws_zero (d : Nat) (l : List S26) : tws d l 0 = 0 := by simp [tws]
theorem tws_succ {d : Nat} {l : List S26} {i : Nat} (h : i < l.length) : tws d l (i + 1) = tws d l i + twM d (l.getD i z26) := by
 unfold tws
 rw [List.take_succ_eq_append_getElem h, List.map_append, List.sum_append, List.getD_eq_getElem?_getD, List.getElem?_eq_getElem h]
 simp
theorem tws_all (d : Nat) (l : List S26) : tws d l l.length = (l.map (twM d)).sum := by simp [tws]
theorem tws_nn (d : Nat) (l : List S26) (i : Nat) : 0 ≤ tws d l i := sum_nn (fun x hx => by obtain ⟨y, _, rfl⟩ := List.mem_map.1 hx; exact twM_nn d y)
theorem tws_le (d : Nat) (l : List S26) (i : Nat) : tws d l i ≤ (l.map (twM d)).sum := by
 unfold tws
 conv => rhs; rw [← List.take_append_drop i l, List.map_append, List.sum_append]
 have := sum_nn (l := (l.drop i).map (twM d)) (fun x hx => by obtain ⟨y, _, rfl⟩ := List.mem_map.1 hx; exact twM_nn d y)
 omega
theorem twM_bd : ∀ {d : Nat} {t : S26}, MayP d t → Dp d t → trT t ≤ 65536 → twM d t ≤ 68 * trT t - 1
 | 0, _, h, _, _ => h.elim
 | d + 1, t, h, hd, hb => by
  obtain ⟨h0, h7, h46⟩ := h
  have h1 := (trT_any hd).1
  unfold twM
  split
  ·next e =>
   split
   ·omega
   ·have := normN_le t.f2 t.f2.length
    have h2 := normD_len t.f2
    have h3 := (h0 e).1
    omega
  ·split
   ·omega
   ·split
    ·next e =>
     have hs := trT_sum hd e hb
     have key : ∀ l : List S26, (∀ x ∈ l, MayP d x ∧ Dp d x ∧ trT x ≤ 65536) → (l.map (twM d)).sum ≤ 68 * sumT l - l.length ∧ (l.length : Int) ≤ sumT l := by
      intro l
      induction l with
      | nil => intro _; simp [sumT]
      | cons x l ih =>
       intro hl
       have h1 := hl x (by simp)
       have h2 := ih (fun y hy => hl y (by simp [hy]))
       have h3 := twM_bd h1.1 h1.2.1 h1.2.2
       have h4 := (trT_any h1.2.1).1
       simp only [sumT, List.map_cons, List.sum_cons, List.length_cons] at h2 ⊢
       push_cast
       omega
     have pos : ∀ l : List S26, (∀ x ∈ l, Dp d x) → ∀ x ∈ l, trT x ≤ sumT l := by
      intro l
      induction l with
      | nil => intro _ x hx; simp at hx
      | cons y l ih =>
       intro hl x hx
       have hy := (trT_any (hl y (by simp))).1
       have hn : 0 ≤ sumT l := sum_nn (fun z hz => by
        obtain ⟨u, hu, rfl⟩ := List.mem_map.1 hz
        have := (trT_any (hl u (by simp [hu]))).1
        omega)
       rw [show sumT (y :: l) = trT y + sumT l by simp [sumT]]
       rcases List.mem_cons.1 hx with rfl | hx
       ·omega
       ·have := ih (fun z hz => hl z (by simp [hz])) x hx; omega
     have hk := key t.f5 (fun x hx => ⟨(h46 e).2.2 x hx, hd x hx, by have := pos t.f5 hd x hx; omega⟩)
     omega
    ·omega
set_option maxRecDepth 10000 in
theorem run_field_num (b : Bool) (A : Option Addr) (n c : Nat) (W : World) : (Instr.field 76 (.agg #[.bool b, .slice A n c]) 1).run Tryd.prog W = .ok (.slice A n c) W := by
 first | rfl | kernel_rfl | (simp [Instr.field, run_underlying Tryd.underlying76, go_sem]; done)
def WdsC (d : Nat) : Prop := ∀ (t : S26) (A2 A5 A6 : Option Addr) (c2 c5 c6 : Nat) (w : World), TR d w t [.int .i64 t.f0, .bool t.f1, .slice A2 t.f2.length c2, .string t.f3, .int .i64 t.f4, .slice A5 t.f5.length c5, .slice A6 t.f6.length c6] → MayP d t → twM d t ≤ 1099511627776 →
 Calls Tryd.prog 7 #[.agg #[.int .i64 t.f0, .bool t.f1, .slice A2 t.f2.length c2, .string t.f3, .int .i64 t.f4, .slice A5 t.f5.length c5, .slice A6 t.f6.length c6]] w fun e w' => e = .returned (.int .i64 (twM d t)) ∧ Fr w w' (fun _ => False)
set_option maxRecDepth 100000 in
set_option maxHeartbeats 4000000 in
theorem mayt_c (d : Nat) (t : S26) (A2 A5 A6 : Option Addr) (c2 c5 c6 : Nat) (w : World) (hT : Tabs w) (ht : TR d w t [.int .i64 t.f0, .bool t.f1, .slice A2 t.f2.length c2, .string t.f3, .int .i64 t.f4, .slice A5 t.f5.length c5, .slice A6 t.f6.length c6]) :
 Calls Tryd.prog 6 #[.agg #[.int .i64 t.f0, .bool t.f1, .slice A2 t.f2.length c2, .string t.f3, .int .i64 t.f4, .slice A5 t.f5.length c5, .slice A6 t.f6.length c6]] w fun e w' => (∃ r, e = .returned (.bool r) ∧ (r = true → MayP d t ∧ trT t ≤ 65536)) ∧ Fr w w' (fun _ => False) := by
 obtain ⟨k, bb, f2, s, nn, f5, f6⟩ := t
 simp only at ht ⊢
 have hb0 : (w.alloc (.cells #[.int .i64 k, .bool bb, .slice A2 f2.length c2, .string s, .int .i64 nn, .slice A5 f5.length c5, .slice A6 f6.length c6] 26)).heap[w.heap.size]? = some (.cells #[.int .i64 k, .bool bb, .slice A2 f2.length c2, .string s, .int .i64 nn, .slice A5 f5.length c5, .slice A6 f6.length c6] 26 (0, 0)) := blk_new _ _ _
 obtain ⟨D, hD⟩ : ∃ D, w.heap.size = D := ⟨_, rfl⟩
 obtain ⟨w1, hw1⟩ : ∃ w1, w.alloc (.cells #[.int .i64 k, .bool bb, .slice A2 f2.length c2, .string s, .int .i64 nn, .slice A5 f5.length c5, .slice A6 f6.length c6] 26) = w1 := ⟨_, rfl⟩
 have hf1 : Fr w w1 (fun _ => False) := by rw [← hw1]; exact (Fr.refl w _).alloc _
 rw [hw1, hD] at hb0
 have HF1 := Lib.hid hf1
 have HB := Lib.hid hb0
 have HT := Lib.hid (hT.below hf1.below)
 have HTR := Lib.hid (ht.fr hf1)
 obtain ⟨r, hr⟩ : ∃ r, trT ⟨k, bb, f2, s, nn, f5, f6⟩ = r := ⟨_, rfl⟩
 have HR := Lib.hid hr
 have HMC : Hid (∀ W, Tabs W → TR d W ⟨k, bb, f2, s, nn, f5, f6⟩ [.int .i64 k, .bool bb, .slice A2 f2.length c2, .string s, .int .i64 nn, .slice A5 f5.length c5, .slice A6 f6.length c6] → Calls Tryd.prog 31 #[.agg #[.int .i64 k, .bool bb, .slice A2 f2.length c2, .string s, .int .i64 nn, .slice A5 f5.length c5, .slice A6 f6.length c6]] W fun e w' => MayA d ⟨k, bb, f2, s, nn, f5, f6⟩ e ∧ Fr W w' (fun _ => False)) := Lib.hid (fun W h1 h2 => may_c d ⟨k, bb, f2, s, nn, f5, f6⟩ A2 A5 A6 c2 c5 c6 W h1 h2)
 have k0 : w1.cell? ⟨D, 0, none⟩ = some (.int .i64 k) := by simp [World.cell?, HB.out]
 have kf0 : w1.frozen? ⟨D, 0, none⟩ = false := by simp [World.frozen?, HB.out]
 have k1 : w1.cell? ⟨D, 1, none⟩ = some (.bool bb) := by simp [World.cell?, HB.out]
 have kf1 : w1.frozen? ⟨D, 1, none⟩ = false := by simp [World.frozen?, HB.out]
 have k2 : w1.cell? ⟨D, 2, none⟩ = some (.slice A2 f2.length c2) := by simp [World.cell?, HB.out]
 have kf2 : w1.frozen? ⟨D, 2, none⟩ = false := by simp [World.frozen?, HB.out]
 have k3 : w1.cell? ⟨D, 3, none⟩ = some (.string s) := by simp [World.cell?, HB.out]
 have kf3 : w1.frozen? ⟨D, 3, none⟩ = false := by simp [World.frozen?, HB.out]
 have k4 : w1.cell? ⟨D, 4, none⟩ = some (.int .i64 nn) := by simp [World.cell?, HB.out]
 have kf4 : w1.frozen? ⟨D, 4, none⟩ = false := by simp [World.frozen?, HB.out]
 have k5 : w1.cell? ⟨D, 5, none⟩ = some (.slice A5 f5.length c5) := by simp [World.cell?, HB.out]
 have kf5 : w1.frozen? ⟨D, 5, none⟩ = false := by simp [World.frozen?, HB.out]
 have k6 : w1.cell? ⟨D, 6, none⟩ = some (.slice A6 f6.length c6) := by simp [World.cell?, HB.out]
 have kf6 : w1.frozen? ⟨D, 6, none⟩ = false := by simp [World.frozen?, HB.out]
 clear hf1 hb0 ht hT hr
 by_cases hle : r ≤ 65536
 ·have d1 : decide (r ≤ 65536) = true := decide_eq_true hle
  have HLE := Lib.hid hle
  clear hle
  go_enter Tryd.func6, Tryd.ntmps6
  go_upto_region 1 with (fail)
  (try simp only [hw1, hD])
  clear hw1 hD
  go_wp2_with (first
   | (go_at_call 30; (with_reducible refine (tree_c _ HTR.out).mono ?_); rintro e w2 ⟨rfl, hf⟩; rw [HR.out]; have HF2 := Lib.hid (HF1.out.trans hf); have HT2 := Lib.hid (HT.out.below hf.below); have HTR2 := Lib.hid (HTR.out.fr hf); have m0 := hf.cell k0 (fun h => h); have m1 := hf.cell k1 (fun h => h); have m2 := hf.cell k2 (fun h => h); have m3 := hf.cell k3 (fun h => h); have m4 := hf.cell k4 (fun h => h); have m5 := hf.cell k5 (fun h => h); have m6 := hf.cell k6 (fun h => h); clear hf)
   | (go_at_call 31; (with_reducible refine (HMC.out _ HT2.out HTR2.out).mono ?_); rintro e w3 ⟨⟨q, rfl, hq⟩, hf⟩; have HQ := Lib.hid hq; have HFE := Lib.hid (HF2.out.trans hf); clear hf hq))
  go_ret
  exact ⟨⟨_, rfl, fun h => ⟨HQ.out h, by rw [HR.out]; exact HLE.out⟩⟩, HFE.out⟩
 ·have d1 : decide (r ≤ 65536) = false := decide_eq_false hle
  clear hle
  go_enter Tryd.func6, Tryd.ntmps6
  go_upto_region 1 with (fail)
  (try simp only [hw1, hD])
  clear hw1 hD
  go_wp2_with (first
   | (go_at_call 30; (with_reducible refine (tree_c _ HTR.out).mono ?_); rintro e w2 ⟨rfl, hf⟩; rw [HR.out]; have HFE := Lib.hid (HF1.out.trans hf); clear hf))
  go_ret
  exact ⟨⟨_, rfl, fun h => by simp at h⟩, HFE.out⟩
set_option maxRecDepth 100000 in
set_option maxHeartbeats 8000000 in
theorem words_of (d : Nat) (ih : WdsC d) : WdsC (d + 1) := by
 intro t A2 A5 A6 c2 c5 c6 w ht hmay htw
 have hnn := twM_nn (d + 1) t
 obtain ⟨k, bb, f2, s, nn, f5, f6⟩ := t
 obtain ⟨hm0, hm7, hm46⟩ := hmay
 simp only at ht hm0 hm7 hm46 ⊢
 obtain ⟨x2, y2, x5, y5, x6, y6, hcs, hr2, hd2, hr6, hb6, hsz, hl5, hm5, hch⟩ := ht
 simp only [List.cons.injEq, Value.slice.injEq, and_true, true_and] at hcs
 obtain ⟨⟨rfl, rfl⟩, ⟨rfl, rfl⟩, rfl, rfl⟩ := hcs
 simp only at hr2 hd2 hch
 have hb0 : (w.alloc (.cells #[.int .i64 k, .bool bb, .slice A2 f2.length c2, .string s, .int .i64 nn, .slice A5 f5.length c5, .slice A6 f6.length c6] 26)).heap[w.heap.size]? = some (.cells #[.int .i64 k, .bool bb, .slice A2 f2.length c2, .string s, .int .i64 nn, .slice A5 f5.length c5, .slice A6 f6.length c6] 26 (0, 0)) := blk_new _ _ _
 obtain ⟨D, hD⟩ : ∃ D, w.heap.size = D := ⟨_, rfl⟩
 obtain ⟨w1, hw1⟩ : ∃ w1, w.alloc (.cells #[.int .i64 k, .bool bb, .slice A2 f2.length c2, .string s, .int .i64 nn, .slice A5 f5.length c5, .slice A6 f6.length c6] 26) = w1 := ⟨_, rfl⟩
 have hf1 : Fr w w1 (fun _ => False) := by rw [← hw1]; exact (Fr.refl w _).alloc _
 rw [hw1, hD] at hb0
 have HF1 := Lib.hid hf1
 have HB := Lib.hid hb0
 have HO2 := Lib.hid (hr2.keep hf1 (fun _ _ h => h))
 have HD2 := Lib.hid hd2
 have HCH := Lib.hid hch
 have HIH := Lib.hid ih
 have HTW := Lib.hid htw
 have HM0 := Lib.hid hm0
 have HM46 := Lib.hid hm46
 have k0 : w1.cell? ⟨D, 0, none⟩ = some (.int .i64 k) := by simp [World.cell?, HB.out]
 have kf0 : w1.frozen? ⟨D, 0, none⟩ = false := by simp [World.frozen?, HB.out]
 have k1 : w1.cell? ⟨D, 1, none⟩ = some (.bool bb) := by simp [World.cell?, HB.out]
 have kf1 : w1.frozen? ⟨D, 1, none⟩ = false := by simp [World.frozen?, HB.out]
 have k2 : w1.cell? ⟨D, 2, none⟩ = some (.slice A2 f2.length c2) := by simp [World.cell?, HB.out]
 have kf2 : w1.frozen? ⟨D, 2, none⟩ = false := by simp [World.frozen?, HB.out]
 have k3 : w1.cell? ⟨D, 3, none⟩ = some (.string s) := by simp [World.cell?, HB.out]
 have kf3 : w1.frozen? ⟨D, 3, none⟩ = false := by simp [World.frozen?, HB.out]
 have k4 : w1.cell? ⟨D, 4, none⟩ = some (.int .i64 nn) := by simp [World.cell?, HB.out]
 have kf4 : w1.frozen? ⟨D, 4, none⟩ = false := by simp [World.frozen?, HB.out]
 have k5 : w1.cell? ⟨D, 5, none⟩ = some (.slice A5 f5.length c5) := by simp [World.cell?, HB.out]
 have kf5 : w1.frozen? ⟨D, 5, none⟩ = false := by simp [World.frozen?, HB.out]
 have k6 : w1.cell? ⟨D, 6, none⟩ = some (.slice A6 f6.length c6) := by simp [World.cell?, HB.out]
 have kf6 : w1.frozen? ⟨D, 6, none⟩ = false := by simp [World.frozen?, HB.out]
 clear hf1 hb0 hr2 hd2 hr6 hb6 hsz hl5 hm5 hch ih htw hnn hm0 hm7 hm46
 go_enter Tryd.func7, Tryd.ntmps7
 go_upto_region 1 with (fail)
 (try simp only [hw1, hD])
 clear hw1 hD
 by_cases e0 : k = 0
 ·subst e0
  have HL2 : Hid (f2.length ≤ 1048576) := Lib.hid (by have := (HM0.out rfl).1; omega)
  have ql : ((normD f2).length : Int) ≤ 64 := by have := normN_le f2 f2.length; have := normD_len f2; have := (HM0.out rfl).1; omega
  cases hs : smallB bb f2 with
  | true =>
   have HSB := Lib.hid hs
   have HE : Hid (twM (d + 1) ⟨0, bb, f2, s, nn, f5, f6⟩ = 0) := Lib.hid (by unfold twM; rw [if_pos rfl, if_pos hs])
   clear hs
   go_wp2_with (first | (go_at_call 32; (with_reducible refine (small_c bb A2 c2 f2 _ HO2.out HL2.out HD2.out).mono ?_); rintro e w2 ⟨v, rfl, hf⟩; rw [HSB.out]; have HF2 := Lib.hid hf; have m1 := hf.cell k1 (fun h => h); have m2 := hf.cell k2 (fun h => h); clear hf))
   go_ret
   exact ⟨by rw [HE.out]; rfl, HF1.out.trans HF2.out⟩
  | false =>
   have HSB := Lib.hid hs
   have HE : Hid (twM (d + 1) ⟨0, bb, f2, s, nn, f5, f6⟩ = 1 + ((normD f2).length : Int)) := Lib.hid (by unfold twM; rw [if_pos rfl]; exact if_neg (by show ¬ smallB bb f2 = true; rw [hs]; decide))
   clear hs
   obtain ⟨L, hL⟩ : ∃ L, normD f2 = L := ⟨_, rfl⟩
   rw [hL] at HE ql
   have HL := Lib.hid hL
   clear hL
   go_wp2_with (first
    | (go_at_call 32; (with_reducible refine (small_c bb A2 c2 f2 _ HO2.out HL2.out HD2.out).mono ?_); rintro e w2 ⟨v, rfl, hf⟩; rw [HSB.out]; have HF2 := Lib.hid hf; have m1 := hf.cell k1 (fun h => h); have m2 := hf.cell k2 (fun h => h); clear hf)
    | (go_at_call 33; (with_reducible refine (norm_c bb A2 c2 f2 _ (HO2.out.keep HF2.out (fun _ _ h => h)) HL2.out).mono ?_); rintro e w6 ⟨v, rfl, hn⟩; rw [HL.out] at hn; obtain ⟨Av, cv, rfl⟩ := hn.1.rd.len; rw [nw_length] at hn ⊢; have hrf := run_field_num (normB bb f2) Av L.length cv w6; have HFE := Lib.hid ((HF1.out.trans HF2.out).trans hn.2.1); clear hn))
   go_ret
   exact ⟨by rw [HE.out]; rfl, HFE.out⟩
 have n0 : (k == 0) = false := by simpa using e0
 by_cases e7 : k = 7
 ·subst e7
  have HE : Hid (twM (d + 1) ⟨7, bb, f2, s, nn, f5, f6⟩ = 4) := Lib.hid (by unfold twM; rw [if_neg (by simp), if_pos rfl])
  go_wp2
  go_ret
  exact ⟨by rw [HE.out]; rfl, HF1.out⟩
 have n7 : (k == 7) = false := by simpa using e7
 by_cases e46 : k = 4 ∨ k = 6
 ·have HE : Hid (twM (d + 1) ⟨k, bb, f2, s, nn, f5, f6⟩ = 1 + (f5.length : Int) + tws d f5 f5.length) := Lib.hid (by unfold twM; rw [if_neg e0, if_neg e7, if_pos e46, tws_all])
  have HTA : Hid (∀ i, 0 ≤ tws d f5 i ∧ 1 + (f5.length : Int) + tws d f5 i ≤ 1099511627776) := Lib.hid (fun i => ⟨tws_nn _ _ _, by have h1 := HE.out; rw [tws_all] at h1; have h2 := tws_le d f5 i; have h3 := HTW.out; omega⟩)
  have q5 : (f5.length : Int) ≤ 255 := by have := (HM46.out e46).1; omega
  have HMX : Hid (∀ x ∈ f5, MayP d x) := Lib.hid (HM46.out e46).2.2
  clear n0 n7 e0 e7 HM0 HM46 HO2 HD2 HTW
  rcases e46 with rfl | rfl
  ·skip
   go_wp2
   go_loopg [5, 6] f5.length (fun g a5 a6 wr => ∃ (i : Nat) (n : Int), a5 = .int .i64 n ∧ a6 = .int .i64 i ∧ g + i = f5.length ∧ Hid (n = 1 + (f5.length : Int) + tws d f5 i) ∧ Hid (Fr w1 wr (fun _ => False)))
   case atStart => exact ⟨0, _, rfl, rfl, by omega, Lib.hid (by rw [tws_zero]; omega), Lib.hid (Fr.refl _ _)⟩
   case round =>
    obtain ⟨i, n, rfl, rfl, hgi, HN, HI⟩ := hrel
    have HGI := Lib.hid hgi
    clear hgi k0 kf0 k1 kf1 k2 kf2 k3 kf3 k4 kf4 k5 kf5 k6 kf6
    have HBr := Lib.hid (HI.out.blk HB.out (fun h => h))
    have k0 : wr.cell? ⟨D, 0, none⟩ = some (.int .i64 4) := by simp [World.cell?, HBr.out]
    have kf0 : wr.frozen? ⟨D, 0, none⟩ = false := by simp [World.frozen?, HBr.out]
    have k1 : wr.cell? ⟨D, 1, none⟩ = some (.bool bb) := by simp [World.cell?, HBr.out]
    have kf1 : wr.frozen? ⟨D, 1, none⟩ = false := by simp [World.frozen?, HBr.out]
    have k2 : wr.cell? ⟨D, 2, none⟩ = some (.slice A2 f2.length c2) := by simp [World.cell?, HBr.out]
    have kf2 : wr.frozen? ⟨D, 2, none⟩ = false := by simp [World.frozen?, HBr.out]
    have k3 : wr.cell? ⟨D, 3, none⟩ = some (.string s) := by simp [World.cell?, HBr.out]
    have kf3 : wr.frozen? ⟨D, 3, none⟩ = false := by simp [World.frozen?, HBr.out]
    have k4 : wr.cell? ⟨D, 4, none⟩ = some (.int .i64 nn) := by simp [World.cell?, HBr.out]
    have kf4 : wr.frozen? ⟨D, 4, none⟩ = false := by simp [World.frozen?, HBr.out]
    have k5 : wr.cell? ⟨D, 5, none⟩ = some (.slice A5 f5.length c5) := by simp [World.cell?, HBr.out]
    have kf5 : wr.frozen? ⟨D, 5, none⟩ = false := by simp [World.frozen?, HBr.out]
    have k6 : wr.cell? ⟨D, 6, none⟩ = some (.slice A6 f6.length c6) := by simp [World.cell?, HBr.out]
    have kf6 : wr.frozen? ⟨D, 6, none⟩ = false := by simp [World.frozen?, HBr.out]
    have qi : (i : Int) ≤ 255 := by have := HGI.out; omega
    by_cases hi : i < f5.length
    ·have p1 : decide (i < f5.length) = true := decide_eq_true hi
     have q1 : (i : Int) < f5.length := by omega
     obtain ⟨b, off, rfl, hel⟩ := HCH.out (by first | omega | (simp only; omega))
     obtain ⟨es, hes, hec, htr⟩ := hel i hi
     obtain ⟨tm, htm⟩ : ∃ tm, f5.getD i z26 = tm := ⟨_, rfl⟩
     rw [htm] at htr
     obtain ⟨U2, u2, U5, u5, U6, u6, p0, p1', p2, p3, p4, p5, p6, htr2⟩ := TR.elem hes (fun j u h => (HF1.out.trans HI.out).cell (hec j u h) (fun h => h)) (htr.fr (HF1.out.trans HI.out))
     have hst := tws_succ (d := d) hi
     rw [htm] at hst
     have hta := HTA.out (i + 1)
     have hta0 := HTA.out i
     have hnn := HN.out
     have htn := twM_nn d tm
     obtain ⟨z, hz⟩ : ∃ z, twM d tm = z := ⟨_, rfl⟩
     rw [hz] at hst htn
     have qz0 : 0 ≤ z := htn
     have qz1 : n + z ≤ 1099511627776 := by omega
     have qn0 : 0 ≤ n := by omega
     have HIL := Lib.hid hi
     have HNS : Hid (n + z = 1 + (f5.length : Int) + tws d f5 (i + 1)) := Lib.hid (by omega)
     have HCX : Hid (Calls Tryd.prog 7 #[.agg #[.int .i64 tm.f0, .bool tm.f1, .slice U2 tm.f2.length u2, .string tm.f3, .int .i64 tm.f4, .slice U5 tm.f5.length u5, .slice U6 tm.f6.length u6]] wr fun e w' => e = .returned (.int .i64 z) ∧ Fr wr w' (fun _ => False)) := Lib.hid (by rw [← hz]; exact HIH.out tm U2 U5 U6 u2 u5 u6 wr htr2 (HMX.out tm (by rw [← htm, List.getD_eq_getElem?_getD, List.getElem?_eq_getElem hi]; exact List.getElem_mem hi)) (by rw [hz]; omega))
     clear hi hel hec htr htr2 htm hst hta hta0 hnn hz htn
     go_wp2_with (first
      | (go_at_call 7; (with_reducible refine HCX.out.mono ?_); rintro e w7 ⟨rfl, hf⟩; have HF7 := Lib.hid (HI.out.trans hf); clear hf))
     go_roundg (gk - 1)
     case measure => have := HGI.out; have := HIL.out; omega
     case rel => exact ⟨i + 1, n + z, by first | rfl | go_num, by first | rfl | go_num, by have := HGI.out; have := HIL.out; omega, HNS, HF7⟩
    ·have p1 : decide (i < f5.length) = false := decide_eq_false hi
     have HIE : Hid (i = f5.length) := Lib.hid (by have := HGI.out; omega)
     clear hi
     go_wp2
     go_ret
     exact ⟨by rw [HE.out]; have h1 := HN.out; rw [HIE.out] at h1; rw [← h1]; rfl, HF1.out.trans HI.out⟩
  ·skip
   go_wp2
   go_loopg [5, 6] f5.length (fun g a5 a6 wr => ∃ (i : Nat) (n : Int), a5 = .int .i64 n ∧ a6 = .int .i64 i ∧ g + i = f5.length ∧ Hid (n = 1 + (f5.length : Int) + tws d f5 i) ∧ Hid (Fr w1 wr (fun _ => False)))
   case atStart => exact ⟨0, _, rfl, rfl, by omega, Lib.hid (by rw [tws_zero]; omega), Lib.hid (Fr.refl _ _)⟩
   case round =>
    obtain ⟨i, n, rfl, rfl, hgi, HN, HI⟩ := hrel
    have HGI := Lib.hid hgi
    clear hgi k0 kf0 k1 kf1 k2 kf2 k3 kf3 k4 kf4 k5 kf5 k6 kf6
    have HBr := Lib.hid (HI.out.blk HB.out (fun h => h))
    have k0 : wr.cell? ⟨D, 0, none⟩ = some (.int .i64 6) := by simp [World.cell?, HBr.out]
    have kf0 : wr.frozen? ⟨D, 0, none⟩ = false := by simp [World.frozen?, HBr.out]
    have k1 : wr.cell? ⟨D, 1, none⟩ = some (.bool bb) := by simp [World.cell?, HBr.out]
    have kf1 : wr.frozen? ⟨D, 1, none⟩ = false := by simp [World.frozen?, HBr.out]
    have k2 : wr.cell? ⟨D, 2, none⟩ = some (.slice A2 f2.length c2) := by simp [World.cell?, HBr.out]
    have kf2 : wr.frozen? ⟨D, 2, none⟩ = false := by simp [World.frozen?, HBr.out]
    have k3 : wr.cell? ⟨D, 3, none⟩ = some (.string s) := by simp [World.cell?, HBr.out]
    have kf3 : wr.frozen? ⟨D, 3, none⟩ = false := by simp [World.frozen?, HBr.out]
    have k4 : wr.cell? ⟨D, 4, none⟩ = some (.int .i64 nn) := by simp [World.cell?, HBr.out]
    have kf4 : wr.frozen? ⟨D, 4, none⟩ = false := by simp [World.frozen?, HBr.out]
    have k5 : wr.cell? ⟨D, 5, none⟩ = some (.slice A5 f5.length c5) := by simp [World.cell?, HBr.out]
    have kf5 : wr.frozen? ⟨D, 5, none⟩ = false := by simp [World.frozen?, HBr.out]
    have k6 : wr.cell? ⟨D, 6, none⟩ = some (.slice A6 f6.length c6) := by simp [World.cell?, HBr.out]
    have kf6 : wr.frozen? ⟨D, 6, none⟩ = false := by simp [World.frozen?, HBr.out]
    have qi : (i : Int) ≤ 255 := by have := HGI.out; omega
    by_cases hi : i < f5.length
    ·have p1 : decide (i < f5.length) = true := decide_eq_true hi
     have q1 : (i : Int) < f5.length := by omega
     obtain ⟨b, off, rfl, hel⟩ := HCH.out (by first | omega | (simp only; omega))
     obtain ⟨es, hes, hec, htr⟩ := hel i hi
     obtain ⟨tm, htm⟩ : ∃ tm, f5.getD i z26 = tm := ⟨_, rfl⟩
     rw [htm] at htr
     obtain ⟨U2, u2, U5, u5, U6, u6, p0, p1', p2, p3, p4, p5, p6, htr2⟩ := TR.elem hes (fun j u h => (HF1.out.trans HI.out).cell (hec j u h) (fun h => h)) (htr.fr (HF1.out.trans HI.out))
     have hst := tws_succ (d := d) hi
     rw [htm] at hst
     have hta := HTA.out (i + 1)
     have hta0 := HTA.out i
     have hnn := HN.out
     have htn := twM_nn d tm
     obtain ⟨z, hz⟩ : ∃ z, twM d tm = z := ⟨_, rfl⟩
     rw [hz] at hst htn
     have qz0 : 0 ≤ z := htn
     have qz1 : n + z ≤ 1099511627776 := by omega
     have qn0 : 0 ≤ n := by omega
     have HIL := Lib.hid hi
     have HNS : Hid (n + z = 1 + (f5.length : Int) + tws d f5 (i + 1)) := Lib.hid (by omega)
     have HCX : Hid (Calls Tryd.prog 7 #[.agg #[.int .i64 tm.f0, .bool tm.f1, .slice U2 tm.f2.length u2, .string tm.f3, .int .i64 tm.f4, .slice U5 tm.f5.length u5, .slice U6 tm.f6.length u6]] wr fun e w' => e = .returned (.int .i64 z) ∧ Fr wr w' (fun _ => False)) := Lib.hid (by rw [← hz]; exact HIH.out tm U2 U5 U6 u2 u5 u6 wr htr2 (HMX.out tm (by rw [← htm, List.getD_eq_getElem?_getD, List.getElem?_eq_getElem hi]; exact List.getElem_mem hi)) (by rw [hz]; omega))
     clear hi hel hec htr htr2 htm hst hta hta0 hnn hz htn
     go_wp2_with (first
      | (go_at_call 7; (with_reducible refine HCX.out.mono ?_); rintro e w7 ⟨rfl, hf⟩; have HF7 := Lib.hid (HI.out.trans hf); clear hf))
     go_roundg (gk - 1)
     case measure => have := HGI.out; have := HIL.out; omega
     case rel => exact ⟨i + 1, n + z, by first | rfl | go_num, by first | rfl | go_num, by have := HGI.out; have := HIL.out; omega, HNS, HF7⟩
    ·have p1 : decide (i < f5.length) = false := decide_eq_false hi
     have HIE : Hid (i = f5.length) := Lib.hid (by have := HGI.out; omega)
     clear hi
     go_wp2
     go_ret
     exact ⟨by rw [HE.out]; have h1 := HN.out; rw [HIE.out] at h1; rw [← h1]; rfl, HF1.out.trans HI.out⟩
 ·have e4 : ¬ k = 4 := fun e => e46 (.inl e)
  have e6 : ¬ k = 6 := fun e => e46 (.inr e)
  have n4 : (k == 4) = false := by simpa using e4
  have n6 : (k == 6) = false := by simpa using e6
  have HE : Hid (twM (d + 1) ⟨k, bb, f2, s, nn, f5, f6⟩ = 0) := Lib.hid (by unfold twM; rw [if_neg e0, if_neg e7, if_neg e46])
  clear HM46
  go_wp2
  go_ret
  exact ⟨by rw [HE.out]; rfl, HF1.out⟩
theorem wdsT_c : ∀ d, WdsC d
 | 0 => fun t _ _ _ _ _ _ _ h => h.elim
 | d + 1 => words_of d (wdsT_c d)
end Go.Proofs.YtjiaaefpepdoeaaDoor
namespace Go.Proofs.YtjiaaefpepdoeaaDoor
section
variable {P : Program} {ops : Array Oper} {Q : Exit → Act → World → Prop} {md : Region.Mode} {S : World → Prop} {T : Array Bool → Bool}
def wpTill (P : Program) (md : Region.Mode) (ops : Array Oper) (Q : Exit → Act → World → Prop) (S : World → Prop) (T : Array Bool → Bool) : Nat → Array Bool → Act → World → Prop
 | 0, listed, a, w => Region.ready md ops listed = [] ∧ Q .normal a w
 | n + 1, listed, a, w => (Region.ready md ops listed = [] → Q .normal a w) ∧
  ∀ i ∈ Region.ready md ops listed, wpOp P ops Q i (fun a' w' => (T (listed.setIfInBounds i true) = false → S w') ∧ wpTill P md ops Q S T n (listed.setIfInBounds i true) a' w') a w
theorem wpAny_of_till : ∀ (n : Nat) (listed : Array Bool) (a : Act) (w : World), wpTill P md ops Q S T n listed a w → wpAny P md ops Q n listed a w
 | 0, _, _, _, h => h
 | n + 1, _, _, _, h => ⟨h.1, fun i hi => wpOp_mono (fun a' w' h' => wpAny_of_till n _ a' w' h'.2) (h.2 i hi)⟩
theorem wpTill_first {R : World → Prop} {C : Array Bool → Prop} {i : Nat} {oi : Oper} {v : Value} (hi : ops[i]? = some oi) (hsel : ∀ (j : Nat) (o : Oper) cs b, ops[j]? = some o → o.op ≠ .select cs b)
  (hQ : ∀ c a w, Q (.panic c) (a.put oi.dst v) w → Q (.panic c) a w) (hTi : ∀ l, T (l.setIfInBounds i true) = T l)
  (hC : ∀ l j, C l → l.getD i true = false → j ∈ Region.ready md ops l → j ≠ i → C (l.setIfInBounds j true)) (hR : ∀ l w', C l → (T l = false → S w') → R w') :
  ∀ (n : Nat) (listed : Array Bool) (a : Act) (w : World),
   (∀ j oj, ops[j]? = some oj → j ≠ i → listed.getD j true = false → (∀ e ∈ oj.after, Region.binds md e = true → e.on ≠ i) → oi.apart ops oj = true) →
   i ∈ Region.ready md ops listed → YieldsIf P ops R oi v a → C listed → (T listed = false → S w) →
   wpTill P md ops Q S T n (listed.setIfInBounds i true) (a.put oi.dst v) w → wpTill P md ops Q S T (n + 1) listed a w := by
 intro n
 induction n with
 | zero =>
  intro listed a w _ hr hy hc hS H
  refine ⟨fun h => absurd hr (by rw [h]; simp), fun j hj => ?_⟩
  by_cases e : j = i
  ·subst e
   exact hy.wpOp hi (hR _ _ hc hS) ⟨fun h => hS (by rw [← hTi]; exact h), H⟩
  ·exact absurd (ready_mono hj e) (by rw [H.1]; simp)
 | succ n ih =>
  intro listed a w hfree hr hy hc hS H
  refine ⟨fun h => absurd hr (by rw [h]; simp), fun j hj => ?_⟩
  by_cases e : j = i
  ·subst e
   exact hy.wpOp hi (hR _ _ hc hS) ⟨fun h => hS (by rw [← hTi]; exact h), H⟩
  ·obtain ⟨hju, oj, hoj, hall⟩ := mem_ready.1 hj
   have hiu := (mem_ready.1 hr).1
   have hnot : ∀ e ∈ oj.after, Region.binds md e = true → e.on ≠ i := fun e he hb heq => by
    have h1 := hall e he hb
    rw [heq] at h1
    by_cases hsz : i < listed.size
    ·simp [hsz] at hiu h1
     rw [hiu] at h1
     cases h1
    ·simp [Array.getElem?_eq_none (Nat.le_of_not_lt hsz)] at h1
   have h2 := wpOp_putIf hoj (hfree j oj hoj e hju hnot) (fun cs b => hsel i oi cs b hi) (fun cs b => hsel j oj cs b hoj) hQ hy (H.2 j (ready_mono hj e))
   have hc2 := hC listed j hc hiu hj e
   have hfree2 : ∀ k ok, ops[k]? = some ok → k ≠ i → (listed.setIfInBounds j true).getD k true = false → (∀ e ∈ ok.after, Region.binds md e = true → e.on ≠ i) → oi.apart ops ok = true := fun k ok hk hki hun hno => by
    refine hfree k ok hk hki ?_ hno
    by_cases hjk : j = k
    ·subst hjk; exact hju
    ·rw [getD_set_ne true hjk] at hun; exact hun
   refine wpOp_mono (fun a' w' h3 => ?_) h2
   obtain ⟨hy3, hs3, h3⟩ := h3
   rw [Array.setIfInBounds_comm _ _ (Ne.symm e)] at hs3 h3
   have hs4 : T (listed.setIfInBounds j true) = false → S w' := fun h => hs3 (by rw [hTi]; exact h)
   exact ⟨hs4, ih _ a' w' hfree2 (ready_mono hr (Ne.symm e)) hy3 hc2 hs4 h3⟩
theorem wpTill_pure {i : Nat} {oi : Oper} {v : Value} {n : Nat} {listed : Array Bool} {a : Act} {w : World} (hi : ops[i]? = some oi) (hs : Region.noSelect ops = true) (hf : Region.free md ops listed i = true)
  (hr : (Region.ready md ops listed).contains i = true) (hQ : ∀ c a w, Q (.panic c) (a.put oi.dst v) w → Q (.panic c) a w) (hTi : ∀ l, T (l.setIfInBounds i true) = T l) (hy : Yields P ops oi v a) (hS : T listed = false → S w)
  (h : wpTill P md ops Q S T n (listed.setIfInBounds i true) (a.put oi.dst v) w) : wpTill P md ops Q S T (n + 1) listed a w :=
 wpTill_first (R := fun _ => True) (C := fun _ => True) hi (Region.noSelect_spec hs) hQ hTi (fun _ _ _ _ _ _ => trivial) (fun _ _ _ _ => trivial) n listed a w (Region.free_spec hi hf) (by simpa using hr) hy.yieldsIf trivial hS h
theorem wpTill_read {i : Nat} {oi : Oper} {v : Value} {n : Nat} {listed : Array Bool} {a : Act} {w : World} (d : Nat) (hi : ops[i]? = some oi) (hs : Region.noSelect ops = true) (hf : Region.free md ops listed i = true)
  (hr : (Region.ready md ops listed).contains i = true) (hQ : ∀ c a w, Q (.panic c) (a.put oi.dst v) w → Q (.panic c) a w) (hTi : ∀ l, T (l.setIfInBounds i true) = T l) (hTd : ∀ l, T l = true → l.getD d true = true)
  (hdi : ((ops[d]?).map fun o => o.after.any fun e => Region.binds md e && e.on == i) = some true) (hd : listed.getD d true = false) (hy : YieldsIf P ops S oi v a) (hS : S w)
  (h : wpTill P md ops Q S T n (listed.setIfInBounds i true) (a.put oi.dst v) w) : wpTill P md ops Q S T (n + 1) listed a w := by
 refine wpTill_first (R := S) (C := fun l => l.getD d true = false) hi (Region.noSelect_spec hs) hQ hTi (fun l j hc hiu hj hji => ?_) (fun l w' hc hs => hs ?_) n listed a w (Region.free_spec hi hf) (by simpa using hr) hy hd (fun _ => hS) h
 ·by_cases e : j = d
  ·subst e
   obtain ⟨_, oj, hoj, hall⟩ := mem_ready.1 hj
   rw [hoj] at hdi
   simp only [Option.map_some, Option.some.injEq, Array.any_eq_true] at hdi
   obtain ⟨k, hk, hb⟩ := hdi
   simp only [Bool.and_eq_true, beq_iff_eq] at hb
   have h1 := hall _ (Array.getElem_mem hk) hb.1
   rw [hb.2] at h1
   by_cases hsz : i < l.size
   ·simp [hsz] at hiu h1
    rw [hiu] at h1
    cases h1
   ·simp [Array.getElem?_eq_none (Nat.le_of_not_lt hsz)] at h1
  ·show (l.setIfInBounds j true).getD d true = false
   rw [getD_set_ne true e]; exact hc
 ·cases ht : T l with
  | false => rfl
  | true => have := hTd l ht; rw [hc] at this; cases this
theorem wpTill_all {rs : List Nat} {n : Nat} {listed : Array Bool} {a : Act} {w : World} (hr : Region.ready md ops listed = rs) (hne : rs ≠ [])
  (h : ∀ i ∈ rs, wpOp P ops Q i (fun a' w' => (T (listed.setIfInBounds i true) = false → S w') ∧ wpTill P md ops Q S T n (listed.setIfInBounds i true) a' w') a w) : wpTill P md ops Q S T (n + 1) listed a w :=
 ⟨fun h0 => absurd (hr ▸ h0) hne, hr ▸ h⟩
theorem wpTill_done {listed : Array Bool} {a : Act} {w : World} (hr : Region.ready md ops listed = []) (h : Q .normal a w) : ∀ n, wpTill P md ops Q S T n listed a w
 | 0 => ⟨hr, h⟩
 | _ + 1 => ⟨fun _ => h, by rw [hr]; simp⟩
theorem wp_region_till {id : Nat} {a : Act} {w : World} (hm : P.follows .mixedOrders = true) (h : wpTill P .any ops Q S T ops.size (Array.replicate ops.size false) a w.drew) : (Code.region id ops true).wp P Q a w :=
 wp_region_any hm (wpAny_of_till _ _ _ _ h)
end
end Go.Proofs.YtjiaaefpepdoeaaDoor
namespace Go.Proofs.YtjiaaefpepdoeaaDoor
open Go.RowKit Md Go.Proofs.YtjiaaefpepdoeaaDoorW.PrintWords
set_option linter.unusedVariables false
structure StG (W : World) (s : Nat) (bv pv zv cv : Value) (most : Int) (B P Z C : List Int) : Prop where
 blk : W.heap[s]? = some (.cells #[bv, .int .i64 most, pv, zv, cv] 79 (0, 0))
 ob : Own W 5 bv (nw .u8 B)
 op : Own W 3 pv (iw P)
 oz : Own W 3 zv (iw Z)
 oc : Own W 3 cv (iw C)
 a1 : ∀ k, InBlk pv k → ¬ InBlk zv k
 a2 : ∀ k, InBlk pv k → ¬ InBlk cv k
 a3 : ∀ k, InBlk zv k → ¬ InBlk cv k
 lp : P.length = C.length
 lz : Z.length = C.length
inductive RS where
 | raw
 | box (b : Nat)
 | app (v : Value)
def RSi (W : World) (u : Value) (xs : List Int) : RS → Prop
 | .raw => Own W 3 u (iw xs)
 | .box b => Own W 3 u (iw xs) ∧ W.heap[b]? = some (.cells #[.int .i64 0] 3 (0, 0)) ∧ ¬ InBlk u b
 | .app v => Own W 3 v (iw (xs ++ [0]))
def BK (u : Value) : RS → Nat → Prop
 | .raw, k => InBlk u k
 | .box b, k => InBlk u k ∨ k = b
 | .app v, k => InBlk v k
section
variable {w W W1 : World} {u u1 u2 u3 v : Value} {xs P Z C : List Int} {s1 s2 s3 st : RS} {S : Nat → Prop}
theorem RSi.lt (h : RSi W u xs st) : ∀ k, BK u st k → k < W.heap.size := by
 cases st with
 | raw => exact fun k hk => Own.lt h k hk
 | box b => exact fun k hk => hk.elim (fun hk => h.1.lt k hk) (fun e => by rw [e]; exact (Array.getElem?_eq_some_iff.1 h.2.1).1)
 | app v => exact fun k hk => Own.lt h k hk
theorem RSi.keep (h : RSi W u xs st) (hf : Fr W W1 S) (hn : ∀ k, BK u st k → ¬ S k) : RSi W1 u xs st := by
 cases st with
 | raw => exact Own.keep h hf hn
 | box b => exact ⟨h.1.keep hf (fun k hk => hn k (.inl hk)), hf.blk h.2.1 (hn b (.inr rfl)), h.2.2⟩
 | app v => exact Own.keep h hf hn
theorem RSi.ty (h : RSi W u xs st) : ∀ k, BK u st k → ∃ c, W.heap[k]? = some (.cells c 3 (0, 0)) := by
 cases st with
 | raw => exact fun k hk => Own.elem h k hk
 | box b => exact fun k hk => hk.elim (fun hk => h.1.elem k hk) (fun e => ⟨#[.int .i64 0], by rw [e]; exact h.2.1⟩)
 | app v => exact fun k hk => Own.elem h k hk
structure G3 (w W : World) (u1 u2 u3 : Value) (P Z C : List Int) (s1 s2 s3 : RS) : Prop where
 i1 : RSi W u1 P s1
 i2 : RSi W u2 Z s2
 i3 : RSi W u3 C s3
 a1 : ∀ k, BK u1 s1 k → ¬ BK u2 s2 k
 a2 : ∀ k, BK u1 s1 k → ¬ BK u3 s3 k
 a3 : ∀ k, BK u2 s2 k → ¬ BK u3 s3 k
 fr : Fr w W (fun k => InBlk u1 k ∨ InBlk u2 k ∨ InBlk u3 k)
 n1 : ∀ k, BK u1 s1 k → InBlk u1 k ∨ w.heap.size ≤ k
 n2 : ∀ k, BK u2 s2 k → InBlk u2 k ∨ w.heap.size ≤ k
 n3 : ∀ k, BK u3 s3 k → InBlk u3 k ∨ w.heap.size ≤ k
theorem G3.rot (h : G3 w W u1 u2 u3 P Z C s1 s2 s3) : G3 w W u2 u3 u1 Z C P s2 s3 s1 :=
 ⟨h.i2, h.i3, h.i1, h.a3, fun k a b => h.a1 k b a, fun k a b => h.a2 k b a, h.fr.mono (fun i hi _ => by rcases hi with h | h | h; exact .inr (.inr h); exact .inl h; exact .inr (.inl h)), h.n2, h.n3, h.n1⟩
theorem G3.drew (h : G3 w W u1 u2 u3 P Z C s1 s2 s3) : G3 w W.drew u1 u2 u3 P Z C s1 s2 s3 :=
 ⟨h.i1.keep ((Fr.refl W (fun _ => False)).drew) (fun _ _ h => h), h.i2.keep ((Fr.refl W (fun _ => False)).drew) (fun _ _ h => h), h.i3.keep ((Fr.refl W (fun _ => False)).drew) (fun _ _ h => h), h.a1, h.a2, h.a3, h.fr.drew, h.n1, h.n2, h.n3⟩
theorem G3.box (h : G3 w W u1 u2 u3 P Z C .raw s2 s3) : G3 w (W.alloc (.cells #[.int .i64 0] 3)) u1 u2 u3 P Z C (.box W.heap.size) s2 s3 := by
 have hf : Fr W (W.alloc (.cells #[.int .i64 0] 3)) (fun _ => False) := (Fr.refl W _).alloc _
 refine ⟨⟨Own.keep h.i1 hf (fun _ _ h => h), blk_new _ _ _, fun e => by have := h.i1.lt _ e; omega⟩, h.i2.keep hf (fun _ _ h => h), h.i3.keep hf (fun _ _ h => h), fun k hk hk2 => ?_, fun k hk hk2 => ?_, h.a3, h.fr.alloc _, fun k hk => ?_, h.n2, h.n3⟩
 ·rcases hk with hk | rfl
  ·exact h.a1 k hk hk2
  ·have := h.i2.lt _ hk2; omega
 ·rcases hk with hk | rfl
  ·exact h.a2 k hk hk2
  ·have := h.i3.lt _ hk2; omega
 ·rcases hk with hk | rfl
  ·exact .inl hk
  ·exact .inr h.fr.size
theorem G3.app {b : Nat} (h : G3 w W u1 u2 u3 P Z C (.box b) s2 s3) (hl : P.length ≤ 1073741823) :
  ∃ v' W1, (Builtin.append_ #[55, 55] 55 #[u1, .slice (some ⟨b, 0, none⟩) 1 1]).run Tryd.prog W = .ok v' W1 ∧ G3 w W1 u1 u2 u3 P Z C (.app v') s2 s3 ∧ Fr W W1 (fun k => InBlk u1 k) := by
 obtain ⟨i0, hi, hz0, hz1, hzb⟩ := info_parts intInfo
 obtain ⟨ho, hb, hnb⟩ := h.i1
 have hone : Rd W (.slice (some ⟨b, 0, none⟩) 1 1) (iw [0]) := .inr ⟨b, 0, 1, rfl, by simp [iw], by simp [iw], by decide, (Array.getElem?_eq_some_iff.1 hb).1, fun i hi => by
  have : i = 0 := by simp [iw] at hi; exact hi
  subst this
  simp [World.cell?, hb]; rfl⟩
 obtain ⟨v', w1, hr, ho', hg, hn⟩ := run_append_rd (P := Tryd.prog) W 55 55 3 i0 (.int .i64 0) Tryd.underlying55 hi hz0 hz1 (by omega) rfl _ _ (iw P) (iw [0]) ho hone (oneCell_all [0]) (by rw [iw_length, iw_length]; simp; omega)
 rw [← iw_append] at ho'
 have hf : Fr W w1 (fun k => InBlk u1 k) := (Fr.refl W _).grown hg (fun k hk _ => hk)
 have sep : ∀ k, InBlk v' k → InBlk u1 k ∨ W.heap.size ≤ k := hn
 refine ⟨v', w1, hr, ⟨ho', h.i2.keep hf (fun k hk hk1 => h.a1 k (.inl hk1) hk), h.i3.keep hf (fun k hk hk1 => h.a2 k (.inl hk1) hk), fun k hk hk2 => ?_, fun k hk hk2 => ?_, h.a3, h.fr.then_ hf (fun k hk _ => .inl hk), fun k hk => ?_, h.n2, h.n3⟩, hf⟩
 ·rcases sep k hk with h1 | h1
  ·exact h.a1 k (.inl h1) hk2
  ·have := h.i2.lt _ hk2; omega
 ·rcases sep k hk with h1 | h1
  ·exact h.a2 k (.inl h1) hk2
  ·have := h.i3.lt _ hk2; omega
 ·rcases sep k hk with h1 | h1
  ·exact .inl h1
  ·exact .inr (Nat.le_trans h.fr.size h1)
theorem G3.box2 (h : G3 w W u1 u2 u3 P Z C s1 .raw s3) : G3 w (W.alloc (.cells #[.int .i64 0] 3)) u1 u2 u3 P Z C s1 (.box W.heap.size) s3 := h.rot.box.rot.rot
theorem G3.box3 (h : G3 w W u1 u2 u3 P Z C s1 s2 .raw) : G3 w (W.alloc (.cells #[.int .i64 0] 3)) u1 u2 u3 P Z C s1 s2 (.box W.heap.size) := h.rot.rot.box.rot
theorem G3.app2 {b : Nat} (h : G3 w W u1 u2 u3 P Z C s1 (.box b) s3) (hl : Z.length ≤ 1073741823) :
  ∃ v' W1, (Builtin.append_ #[55, 55] 55 #[u2, .slice (some ⟨b, 0, none⟩) 1 1]).run Tryd.prog W = .ok v' W1 ∧ G3 w W1 u1 u2 u3 P Z C s1 (.app v') s3 ∧ Fr W W1 (fun k => InBlk u2 k) := by
 obtain ⟨v', W1, hr, hg, hf⟩ := h.rot.app hl
 exact ⟨v', W1, hr, hg.rot.rot, hf⟩
theorem G3.app3 {b : Nat} (h : G3 w W u1 u2 u3 P Z C s1 s2 (.box b)) (hl : C.length ≤ 1073741823) :
  ∃ v' W1, (Builtin.append_ #[55, 55] 55 #[u3, .slice (some ⟨b, 0, none⟩) 1 1]).run Tryd.prog W = .ok v' W1 ∧ G3 w W1 u1 u2 u3 P Z C s1 s2 (.app v') ∧ Fr W W1 (fun k => InBlk u3 k) := by
 obtain ⟨v', W1, hr, hg, hf⟩ := h.rot.rot.app hl
 exact ⟨v', W1, hr, hg.rot, hf⟩
theorem G3.blk (h : G3 w W u1 u2 u3 P Z C s1 s2 s3) {g : Nat} {c : Array Value} {T : TypeId} (hb : w.heap[g]? = some (.cells c T (0, 0))) (o1 : Own w 3 u1 (iw P)) (o2 : Own w 3 u2 (iw Z)) (o3 : Own w 3 u3 (iw C)) (ne : T ≠ 3) : W.heap[g]? = some (.cells c T (0, 0)) := by
 refine h.fr.blk hb (fun e => ?_)
 have no : ∀ {u : Value} {l : List Int}, Own w 3 u (iw l) → InBlk u g → False := fun ho hi => by
  obtain ⟨cur, hc⟩ := ho.elem g hi
  rw [hc] at hb
  simp at hb
  exact ne hb.2.symm
 rcases e with e | e | e
 ·exact no o1 e
 ·exact no o2 e
 ·exact no o3 e
end
end Go.Proofs.YtjiaaefpepdoeaaDoor
namespace Go.Proofs.YtjiaaefpepdoeaaDoor
open Go.RowKit Md Go.Proofs.YtjiaaefpepdoeaaDoorW.PrintWords
set_option linter.unusedVariables false
def T2 (l : Array Bool) : Bool := l.getD 6 false && l.getD 8 false
theorem getD_ft2 {l : Array Bool} {j : Nat} (h : l.getD j false = true) : l.getD j true = true := by
 simp only [Array.getD_eq_getD_getElem?] at h ⊢
 cases hj : l[j]? with
 | none => rw [hj] at h; simp at h
 | some x => rw [hj] at h; simpa using h
theorem T2_set {i : Nat} (h6 : i ≠ 6) (h8 : i ≠ 8) (l : Array Bool) : T2 (l.setIfInBounds i true) = T2 l := by
 have key : ∀ j, i ≠ j → (l.setIfInBounds i true).getD j false = l.getD j false := fun j hj => by
  simp only [Array.getD_eq_getD_getElem?, Array.getElem?_setIfInBounds_ne hj]
 unfold T2
 rw [key 6 h6, key 8 h8]
theorem T2_6 (l : Array Bool) (h : T2 l = true) : l.getD 6 true = true := by
 unfold T2 at h; simp only [Bool.and_eq_true] at h; exact getD_ft2 h.1
theorem T2_8 (l : Array Bool) (h : T2 l = true) : l.getD 8 true = true := by
 unfold T2 at h; simp only [Bool.and_eq_true] at h; exact getD_ft2 h.2
theorem words_app2 {W : World} {u x : Value} {acc xs : List Int} (h : Own W 39 u (uw acc)) (hx : Rd W x (uw xs)) (hlen : acc.length + xs.length ≤ 1073741823) :
  ∃ v' w1, (Builtin.append_ #[44, 44] 44 #[u, x]).run Tryd.prog W = .ok v' w1 ∧ Own w1 39 v' (uw (acc ++ xs)) ∧ Fr W w1 (fun i => InBlk u i) ∧ ∀ k, InBlk v' k → InBlk u k ∨ W.heap.size ≤ k := by
 obtain ⟨i0, hi, hz0, hz1, hzb⟩ := info_parts wordInfo
 obtain ⟨v', w1, hr, ho, hg, hn⟩ := run_append_rd (P := Tryd.prog) _ 44 44 39 i0 (.int .u64 0) Tryd.underlying44 hi hz0 hz1 (by omega) rfl _ _ (uw acc) (uw xs) h hx (uw_one xs) (by rw [uw_length, uw_length]; omega)
 rw [← uw_append] at ho
 exact ⟨v', w1, hr, ho, (Fr.refl W (fun i => InBlk u i)).grown hg (fun k hk _ => hk), hn⟩
theorem rd_one {W : World} {g : Nat} {M : Int} (hb : W.heap[g]? = some (.cells #[.int .u64 M] 39 (0, 0))) : Rd W (.slice (some ⟨g, 0, none⟩) 1 1) (uw [M]) := .inr ⟨g, 0, 1, rfl, by simp [uw], by simp [uw], by decide, (Array.getElem?_eq_some_iff.1 hb).1, fun i hi => by
 have : i = 0 := by simp [uw] at hi; exact hi
 subst this
 simp [World.cell?, hb]; rfl⟩
theorem obj_rows {w : World} {v u : Value} {ws l : List Int} {M : Int} (ho : Own w 39 v (uw ws)) (hu : Rd w u (uw l)) (ha : ∀ k, InBlk u k → ¬ InBlk v k) (hl : ws.length + 1 + l.length ≤ 1048576) :
  ∃ v1 W1 v2 W2, (Builtin.append_ #[44, 44] 44 #[v, .slice (some ⟨w.heap.size, 0, none⟩) 1 1]).run Tryd.prog (w.alloc (.cells #[.int .u64 M] 39)) = .ok v1 W1 ∧
   (Builtin.append_ #[44, 44] 44 #[v1, u]).run Tryd.prog W1 = .ok v2 W2 ∧ Own W2 39 v2 (uw (ws ++ M :: l)) ∧ Fr w W2 (fun k => InBlk v k) ∧ ∀ k, InBlk v2 k → InBlk v k ∨ w.heap.size ≤ k := by
 have f0 : Fr w (w.alloc (.cells #[.int .u64 M] 39)) (fun _ => False) := (Fr.refl w _).alloc _
 have hb : (w.alloc (.cells #[.int .u64 M] 39)).heap[w.heap.size]? = some (.cells #[.int .u64 M] 39 (0, 0)) := blk_new _ _ _
 have h1 := rd_one hb
 obtain ⟨v1, W1, hr1, ho1, hf1, hn1⟩ := words_app2 (ho.keep f0 (fun _ _ h => h)) h1 (by simp; omega)
 have f1 : Fr w W1 (fun k => InBlk v k) := (f0.mono (fun _ h _ => h.elim)).then_ hf1 (fun k hk _ => hk)
 have sz := f0.size
 obtain ⟨v2, W2, hr2, ho2, hf2, hn2⟩ := words_app2 ho1 (hu.keep f1 (fun k hk h => ha k hk h)) (by simp; omega)
 rw [List.append_assoc] at ho2
 have back : ∀ k, InBlk v1 k → InBlk v k ∨ w.heap.size ≤ k := fun k hk => (hn1 k hk).imp id (fun h => Nat.le_trans sz h)
 refine ⟨v1, W1, v2, W2, hr1, hr2, ho2, f1.then_ hf2 (fun k hk hl => (back k hk).elim id (fun h => absurd hl (by omega))), fun k hk => ?_⟩
 rcases hn2 k hk with h | h
 ·exact back k h
 ·exact .inr (Nat.le_trans f1.size h)
def MobA (w w' : World) (q : Nat) (vm : Value) (ws : List Int) (size M : Int) (l : List Int) (e : Ending) : Prop :=
 e = .returned (.int .u64 (ofW 5 ws.length)) ∧ ∃ vm', Ar 46 w' q vm' (ws ++ M :: l) size ∧ Fr w w' (fun k => k = q ∨ InBlk vm k) ∧ ∀ k, InBlk vm' k → InBlk vm k ∨ w.heap.size ≤ k
set_option maxRecDepth 100000 in
set_option maxHeartbeats 8000000 in
theorem mobj_c (q : Nat) (vm : Value) (ws l : List Int) (size kd sz tr M : Int) (ng : Bool) (A : Option Addr) (c : Nat) (w : World) (ha : Ar 46 w q vm ws size) (hr : Rd w (.slice A l.length c) (uw l)) (hok : okWs l) (hM : makeH ⟨kd, sz, tr, ng⟩ = M) (hlen : (ws.length : Int) + 1 + l.length ≤ size)
  (hap : ∀ k, InBlk (.slice A l.length c) k → ¬ InBlk vm k) : Calls Tryd.prog 65 #[.pointer (some ⟨q, 0, none⟩), .agg #[.int .i64 kd, .int .i64 sz, .int .i64 tr, .bool ng], .slice A l.length c] w fun e w' => MobA w w' q vm ws size M l e := by
 obtain ⟨Av, cv, rfl⟩ := ha.val
 have hb0 : (w.alloc (.cells #[.int .i64 kd, .int .i64 sz, .int .i64 tr, .bool ng] 68)).heap[w.heap.size]? = some (.cells #[.int .i64 kd, .int .i64 sz, .int .i64 tr, .bool ng] 68 (0, 0)) := blk_new _ _ _
 obtain ⟨D, hD⟩ : ∃ D, w.heap.size = D := ⟨_, rfl⟩
 obtain ⟨w1, hw1⟩ : ∃ w1, w.alloc (.cells #[.int .i64 kd, .int .i64 sz, .int .i64 tr, .bool ng] 68) = w1 := ⟨_, rfl⟩
 have hf1 : Fr w w1 (fun _ => False) := by rw [← hw1]; exact (Fr.refl w _).alloc _
 rw [hw1, hD] at hb0
 have kq : w1.cell? ⟨q, 0, none⟩ = some (.slice Av ws.length cv) := (ha.fr hf1).c0
 have k0 : w1.cell? ⟨D, 0, none⟩ = some (.int .i64 kd) := by simp [World.cell?, hb0]
 have k1 : w1.cell? ⟨D, 1, none⟩ = some (.int .i64 sz) := by simp [World.cell?, hb0]
 have k2 : w1.cell? ⟨D, 2, none⟩ = some (.int .i64 tr) := by simp [World.cell?, hb0]
 have k3 : w1.cell? ⟨D, 3, none⟩ = some (.bool ng) := by simp [World.cell?, hb0]
 have HA := Lib.hid (ha.fr hf1)
 have HF1 := Lib.hid hf1
 have HR := Lib.hid (hr.keep hf1 (fun _ _ h => h))
 have HM := Lib.hid hM
 have HAP := Lib.hid hap
 have HOK := Lib.hid hok
 have HLS := Lib.hid hlen
 have HLE : Hid (ws.length + 1 + l.length ≤ 1048576) := Lib.hid (by have := ha.mx; omega)
 have ql : (ws.length : Int) ≤ 1048576 := by have := ha.mx; omega
 obtain ⟨r, hrr⟩ : ∃ r, ofW 5 ws.length = r := ⟨_, rfl⟩
 have HRR := Lib.hid hrr
 clear ha hr hok hM hlen hap hb0 hf1 hrr
 go_enter Tryd.func65, Tryd.ntmps65
 go_upto_region 1 with (fail)
 (try simp only [hw1, hD])
 clear hw1 hD
 go_upto_region 2 with (fail)
 refine wp_region_till (S := (fun w' => w'.cell? ⟨q, 0, none⟩ = some (.slice Av ws.length cv) ∧ w'.cell? ⟨D, 0, none⟩ = some (.int .i64 kd) ∧ w'.cell? ⟨D, 1, none⟩ = some (.int .i64 sz) ∧ w'.cell? ⟨D, 2, none⟩ = some (.int .i64 tr) ∧ w'.cell? ⟨D, 3, none⟩ = some (.bool ng))) (T := T2) (by kernel_rfl) ?_
 have hS := And.intro kq (And.intro k0 (And.intro k1 (And.intro k2 k3)))
 obtain ⟨w3, hw3⟩ : ∃ w3, w1.drew = w3 := ⟨_, rfl⟩
 have hS : w3.cell? ⟨q, 0, none⟩ = some (.slice Av ws.length cv) ∧ w3.cell? ⟨D, 0, none⟩ = some (.int .i64 kd) ∧ w3.cell? ⟨D, 1, none⟩ = some (.int .i64 sz) ∧ w3.cell? ⟨D, 2, none⟩ = some (.int .i64 tr) ∧ w3.cell? ⟨D, 3, none⟩ = some (.bool ng) := by rw [← hw3]; exact hS
 have HA3 := Lib.hid (HA.out.fr ((Fr.refl w1 (fun _ => False)).drew))
 have HF3 := Lib.hid (HF1.out.trans ((Fr.refl w1 (fun _ => False)).drew))
 have HR3 := Lib.hid (HR.out.keep ((Fr.refl w1 (fun _ => False)).drew) (fun _ _ h => h))
 rw [hw3] at HA3 HF3 HR3 ⊢
 clear hw3 kq k0 k1 k2 k3
 refine wpTill_pure (i := 0) (v := .pointer (some ⟨q, 0, none⟩)) rfl (by kernel_rfl) (by kernel_rfl) (by kernel_rfl) (fun _ _ _ h => h) (T2_set (by decide) (by decide)) (Or.inl ⟨by rfl, ?_⟩) (fun _ => hS) ?_
 ·intro w; go_simp; try rfl
 (try simp only [Act.put, List.setIfInBounds_toArray, List.set_cons_zero, List.set_cons_succ])
 refine wpTill_pure (i := 1) (v := .pointer (some ⟨q, 0, none⟩)) rfl (by kernel_rfl) (by kernel_rfl) (by kernel_rfl) (fun _ _ _ h => h) (T2_set (by decide) (by decide)) (Or.inl ⟨by rfl, ?_⟩) (fun _ => hS) ?_
 ·intro w; go_simp; try rfl
 (try simp only [Act.put, List.setIfInBounds_toArray, List.set_cons_zero, List.set_cons_succ])
 refine wpTill_pure (i := 2) (v := .pointer (some ⟨q, 0, none⟩)) rfl (by kernel_rfl) (by kernel_rfl) (by kernel_rfl) (fun _ _ _ h => h) (T2_set (by decide) (by decide)) (Or.inl ⟨by rfl, ?_⟩) (fun _ => hS) ?_
 ·intro w; go_simp; try rfl
 (try simp only [Act.put, List.setIfInBounds_toArray, List.set_cons_zero, List.set_cons_succ])
 refine wpTill_pure (i := 3) (v := .pointer (some ⟨q, 0, none⟩)) rfl (by kernel_rfl) (by kernel_rfl) (by kernel_rfl) (fun _ _ _ h => h) (T2_set (by decide) (by decide)) (Or.inl ⟨by rfl, ?_⟩) (fun _ => hS) ?_
 ·intro w; go_simp; try rfl
 (try simp only [Act.put, List.setIfInBounds_toArray, List.set_cons_zero, List.set_cons_succ])
 refine wpTill_read 8 (i := 4) (v := .slice Av ws.length cv) rfl (by kernel_rfl) (by kernel_rfl) (by kernel_rfl) (fun _ _ _ h => h) (T2_set (by decide) (by decide)) T2_8 (by kernel_rfl) (by kernel_rfl) (Or.inl ⟨by rfl, ?_⟩) hS ?_
 ·intro w hSw; obtain ⟨j0, j1, j2, j3, j4⟩ := hSw; go_simp; try rfl
 (try simp only [Act.put, List.setIfInBounds_toArray, List.set_cons_zero, List.set_cons_succ])
 refine wpTill_read 6 (i := 5) (v := .agg #[.int .i64 kd, .int .i64 sz, .int .i64 tr, .bool ng]) rfl (by kernel_rfl) (by kernel_rfl) (by kernel_rfl) (fun _ _ _ h => h) (T2_set (by decide) (by decide)) T2_6 (by kernel_rfl) (by kernel_rfl) (Or.inl ⟨by rfl, ?_⟩) hS ?_
 ·intro w hSw; obtain ⟨j0, j1, j2, j3, j4⟩ := hSw; go_simp; try rfl
 (try simp only [Act.put, List.setIfInBounds_toArray, List.set_cons_zero, List.set_cons_succ])
 refine wpTill_pure (i := 9) (v := .slice A l.length c) rfl (by kernel_rfl) (by kernel_rfl) (by kernel_rfl) (fun _ _ _ h => h) (T2_set (by decide) (by decide)) (Or.inl ⟨by rfl, ?_⟩) (fun _ => hS) ?_
 ·intro w; go_simp; try rfl
 (try simp only [Act.put, List.setIfInBounds_toArray, List.set_cons_zero, List.set_cons_succ])
 refine wpTill_all (rs := [6]) (by kernel_rfl) (by simp) ?_
 intro i hi
 simp only [List.mem_cons, List.not_mem_nil, or_false] at hi
 subst hi
 refine wpOp_step rfl (fun K hK => ?_)
 go_simp
 refine (Wd.rmake_c kd sz tr ng M _ HM.out).mono ?_
 rintro e w4 ⟨rfl, hb⟩
 have hf4 : Fr w3 w4 (fun _ => False) := Fr.of_below hb _
 have HA4 := Lib.hid (HA3.out.fr hf4)
 have HF4 := Lib.hid (HF3.out.trans hf4)
 have HR4 := Lib.hid (HR3.out.keep hf4 (fun _ _ h => h))
 have hS4 := And.intro (hf4.cell hS.1 (fun h => h)) (And.intro (hf4.cell hS.2.1 (fun h => h)) (And.intro (hf4.cell hS.2.2.1 (fun h => h)) (And.intro (hf4.cell hS.2.2.2.1 (fun h => h)) (hf4.cell hS.2.2.2.2 (fun h => h)))))
 clear hb hf4 hS
 refine hK _ _ ⟨fun _ => hS4, ?_⟩
 clear hK K
 (try simp only [Act.put, List.setIfInBounds_toArray, List.set_cons_zero, List.set_cons_succ])
 refine wpTill_all (rs := [7]) (by kernel_rfl) (by simp) ?_
 intro i hi
 simp only [List.mem_cons, List.not_mem_nil, or_false] at hi
 subst hi
 refine wpOp_step rfl (fun K hK => ?_)
 go_simp
 obtain ⟨v1, W1, v2, W2, hr1, hr2, ho2, hf2, hn2⟩ := obj_rows (M := M) HA4.out.own HR4.out HAP.out HLE.out
 have hb5 : Fr w4 (w4.alloc (.cells #[.int .u64 M] 39)) (fun _ => False) := (Fr.refl w4 _).alloc _
 have hS5 := And.intro (hb5.cell hS4.1 (fun h => h)) (And.intro (hb5.cell hS4.2.1 (fun h => h)) (And.intro (hb5.cell hS4.2.2.1 (fun h => h)) (And.intro (hb5.cell hS4.2.2.2.1 (fun h => h)) (hb5.cell hS4.2.2.2.2 (fun h => h)))))
 obtain ⟨A2, n2, c2, e2⟩ : ∃ A2 n2 c2, v2 = .slice A2 n2 c2 := by
  obtain ⟨A2, c2, e⟩ := ho2.rd.len
  exact ⟨A2, _, c2, e⟩
 subst e2
 have HO2 := Lib.hid ho2
 have HF2 := Lib.hid hf2
 have HN2 := Lib.hid hn2
 have HR1 := Lib.hid hr1
 have HR2 := Lib.hid hr2
 obtain ⟨w5, hw5⟩ : ∃ w5, w4.alloc (.cells #[.int .u64 M] 39) = w5 := ⟨_, rfl⟩
 obtain ⟨g5, hg5⟩ : ∃ g, w4.heap.size = g := ⟨_, rfl⟩
 rw [hw5] at HR1 hS5
 rw [hg5] at HR1
 (try simp only [hw5, hg5])
 clear hr1 hr2 ho2 hf2 hn2 hb5 hS4 hw5 hg5
 refine hK _ _ ⟨fun _ => hS5, ?_⟩
 clear hK K
 (try simp only [Act.put, List.setIfInBounds_toArray, List.set_cons_zero, List.set_cons_succ])
 refine wpTill_all (rs := [8]) (by kernel_rfl) (by simp) ?_
 intro i hi
 simp only [List.mem_cons, List.not_mem_nil, or_false] at hi
 subst hi
 refine wpOp_step rfl (fun K hK => ?_)
 refine step_append_run w5 (by rfl) _ _ _ _ (by rfl) _ _ (by rfl) (by rfl) _ _ HR1.out ?_
 refine hK _ _ ⟨(fun h => Bool.noConfusion (h.symm.trans (by kernel_rfl : T2 _ = true))), ?_⟩
 clear hK K hS5
 (try simp only [Act.put, List.setIfInBounds_toArray, List.set_cons_zero, List.set_cons_succ])
 refine wpTill_all (rs := [10]) (by kernel_rfl) (by simp) ?_
 intro i hi
 simp only [List.mem_cons, List.not_mem_nil, or_false] at hi
 subst hi
 refine wpOp_step rfl (fun K hK => ?_)
 refine step_append_run W1 (by rfl) _ _ _ _ (by rfl) _ _ (by rfl) (by rfl) _ _ HR2.out ?_
 refine hK _ _ ⟨(fun h => Bool.noConfusion (h.symm.trans (by kernel_rfl : T2 _ = true))), ?_⟩
 clear hK K
 (try simp only [Act.put, List.setIfInBounds_toArray, List.set_cons_zero, List.set_cons_succ])
 have hq2 : W2.heap[q]? = some (.cells #[.slice Av ws.length cv, .int .i64 size] 46 (0, 0)) := HF2.out.blk HA4.out.blk (fun e => HA4.out.ne q e rfl)
 have kk0 : W2.cell? ⟨q, 0, none⟩ = some (.slice Av ws.length cv) := by simp [World.cell?, hq2]
 have kf0 : W2.frozen? ⟨q, 0, none⟩ = false := by simp [World.frozen?, hq2]
 have HQ2 := Lib.hid hq2
 clear hq2
 refine wpTill_pure (i := 11) (v := .pointer (some ⟨q, 0, none⟩)) rfl (by kernel_rfl) (by kernel_rfl) (by kernel_rfl) (fun _ _ _ h => h) (T2_set (by decide) (by decide)) (Or.inl ⟨by rfl, ?_⟩) (fun h => Bool.noConfusion (h.symm.trans (by kernel_rfl : T2 _ = true))) ?_
 ·intro w; go_simp; try rfl
 (try simp only [Act.put, List.setIfInBounds_toArray, List.set_cons_zero, List.set_cons_succ])
 refine wpTill_pure (i := 12) (v := .pointer (some ⟨q, 0, none⟩)) rfl (by kernel_rfl) (by kernel_rfl) (by kernel_rfl) (fun _ _ _ h => h) (T2_set (by decide) (by decide)) (Or.inl ⟨by rfl, ?_⟩) (fun h => Bool.noConfusion (h.symm.trans (by kernel_rfl : T2 _ = true))) ?_
 ·intro w; go_simp; try rfl
 (try simp only [Act.put, List.setIfInBounds_toArray, List.set_cons_zero, List.set_cons_succ])
 refine wpTill_all (rs := [13]) (by kernel_rfl) (by simp) ?_
 intro i hi
 simp only [List.mem_cons, List.not_mem_nil, or_false] at hi
 subst hi
 refine wpOp_step rfl (fun K hK => ?_)
 go_simp
 refine hK _ _ ⟨(fun h => Bool.noConfusion (h.symm.trans (by kernel_rfl : T2 _ = true))), ?_⟩
 clear hK K
 (try simp only [Act.put, List.setIfInBounds_toArray, List.set_cons_zero, List.set_cons_succ])
 refine wpTill_done (by kernel_rfl) ?_ _
 obtain ⟨W3, hW3⟩ : ∃ W, W2.setCell ⟨q, 0, none⟩ (.slice A2 n2 c2) = W := ⟨_, rfl⟩
 have f3 : Fr W2 W3 (fun k => k = q) := by rw [← hW3]; exact (Fr.refl W2 (fun k => k = q)).setCell (a := ⟨q, 0, none⟩) (fun _ => rfl) _
 have hb3 : W3.heap[q]? = some (.cells #[.slice A2 n2 c2, .int .i64 size] 46 (0, 0)) := by rw [← hW3]; exact blk_put (cs := #[.slice Av ws.length cv, .int .i64 size]) HQ2.out 0 _ rfl
 have nq : ∀ k, InBlk (.slice A2 n2 c2) k → k ≠ q := fun k hk e => by
  obtain ⟨cur, hc⟩ := HO2.out.elem k hk
  rw [e, HQ2.out] at hc
  simp at hc
 have HA5 : Hid (Ar 46 W3 q (.slice A2 n2 c2) (ws ++ M :: l) size) := Lib.hid ⟨hb3, HO2.out.keep f3 nq, by have := HLS.out; simp; omega, HA4.out.mx, fun x hx => by
  rcases List.mem_append.1 hx with hx | hx
  ·exact HA4.out.ok x hx
  ·rcases List.mem_cons.1 hx with rfl | hx
   ·rw [← HM.out]; exact okW_makeH _
   ·exact HOK.out x hx, by decide⟩
 have HF5 : Hid (Fr w W3 (fun k => k = q ∨ InBlk (.slice Av ws.length cv) k)) := Lib.hid ((((HF4.out.mono (fun _ h _ => h.elim)).then_ HF2.out (fun k hk _ => .inr hk))).then_ f3 (fun k hk _ => .inl hk))
 have HN5 : Hid (∀ k, InBlk (.slice A2 n2 c2) k → InBlk (.slice Av ws.length cv) k ∨ w.heap.size ≤ k) := Lib.hid (fun k hk => (HN2.out k hk).imp id (fun h => Nat.le_trans HF4.out.size h))
 rw [hW3]
 clear hW3 f3 hb3 nq kk0 kf0
 go_wp2_with (first | (go_at_call 27; (with_reducible refine (Wd.rof_c 5 _ r _ HRR.out).mono ?_); rintro e w6 ⟨rfl, n6, rfl⟩))
 go_ret
 exact ⟨by rw [HRR.out]; rfl, .slice A2 n2 c2, HA5.out.fr ((Fr.refl W3 _).drewN _), HF5.out.drewN _, HN5.out⟩
end Go.Proofs.YtjiaaefpepdoeaaDoor
namespace Go.Proofs.YtjiaaefpepdoeaaDoor
open Go.RowKit Md Go.Proofs.YtjiaaefpepdoeaaDoorW.PrintWords
set_option linter.unusedVariables false
def liveTo (Z C : List Int) : Nat → Int
 | 0 => 0
 | i + 1 => liveTo Z C i + if 0 < C.getD i 0 then Z.getD i 0 else 0
def smallZ (Z : List Int) : Prop := ∀ z ∈ Z, 0 ≤ z ∧ z ≤ 4096
theorem smallZ_get {Z : List Int} (h : smallZ Z) (i : Nat) : 0 ≤ Z.getD i 0 ∧ Z.getD i 0 ≤ 4096 := by
 rw [List.getD_eq_getElem?_getD]
 cases hk : Z[i]? with
 | none => simp
 | some x => exact h x (List.mem_of_getElem? hk)
theorem liveTo_bd {Z : List Int} (h : smallZ Z) (C : List Int) : ∀ i : Nat, 0 ≤ liveTo Z C i ∧ liveTo Z C i ≤ i * 4096
 | 0 => ⟨Int.le_refl _, by simp [liveTo]⟩
 | i + 1 => by
  have h1 := liveTo_bd h C i
  have h2 := smallZ_get h i
  unfold liveTo
  split
  ·constructor
   ·omega
   ·push_cast; omega
  ·constructor
   ·omega
   ·push_cast; omega
def T3 (l : Array Bool) : Bool := l.getD 8 false && l.getD 14 false && l.getD 20 false
theorem T3_set {i : Nat} (h8 : i ≠ 8) (h14 : i ≠ 14) (h20 : i ≠ 20) (l : Array Bool) : T3 (l.setIfInBounds i true) = T3 l := by
 have key : ∀ j, i ≠ j → (l.setIfInBounds i true).getD j false = l.getD j false := fun j hj => by
  simp only [Array.getD_eq_getD_getElem?, Array.getElem?_setIfInBounds_ne hj]
 unfold T3
 rw [key 8 h8, key 14 h14, key 20 h20]
theorem T3_k {l : Array Bool} (h : T3 l = true) : l.getD 8 false = true ∧ l.getD 14 false = true ∧ l.getD 20 false = true := by
 unfold T3 at h
 simp only [Bool.and_eq_true] at h
 exact ⟨h.1.1, h.1.2, h.2⟩
theorem getD_ft {l : Array Bool} {j : Nat} (h : l.getD j false = true) : l.getD j true = true := by
 simp only [Array.getD_eq_getD_getElem?] at h ⊢
 cases hj : l[j]? with
 | none => rw [hj] at h; simp at h
 | some x => rw [hj] at h; simpa using h
theorem T3_8 (l : Array Bool) (h : T3 l = true) : l.getD 8 true = true := getD_ft (T3_k h).1
theorem T3_14 (l : Array Bool) (h : T3 l = true) : l.getD 14 true = true := getD_ft (T3_k h).2.1
theorem T3_20 (l : Array Bool) (h : T3 l = true) : l.getD 20 true = true := getD_ft (T3_k h).2.2
section
variable {W W1 : World} {s : Nat} {bv pv zv cv : Value} {most : Int} {B P Z C : List Int}
theorem StG.cells (h : StG W s bv pv zv cv most B P Z C) : W.cell? ⟨s, 0, none⟩ = some bv ∧ W.cell? ⟨s, 1, none⟩ = some (.int .i64 most) ∧ W.cell? ⟨s, 2, none⟩ = some pv ∧ W.cell? ⟨s, 3, none⟩ = some zv ∧ W.cell? ⟨s, 4, none⟩ = some cv := by
 simp [World.cell?, h.blk]
theorem StG.fr (h : StG W s bv pv zv cv most B P Z C) (hf : Fr W W1 fun _ => False) : StG W1 s bv pv zv cv most B P Z C :=
 ⟨hf.blk h.blk (fun h => h), h.ob.keep hf (fun _ _ h => h), h.op.keep hf (fun _ _ h => h), h.oz.keep hf (fun _ _ h => h), h.oc.keep hf (fun _ _ h => h), h.a1, h.a2, h.a3, h.lp, h.lz⟩
end
set_option maxRecDepth 100000 in
set_option maxHeartbeats 2000000 in
theorem slive_c (s : Nat) (bv pv zv cv : Value) (most : Int) (B P Z C : List Int) (w : World) (h : StG w s bv pv zv cv most B P Z C) (hz : smallZ Z) (hl : C.length ≤ 1048576) :
  Calls Tryd.prog 44 #[.pointer (some ⟨s, 0, none⟩)] w fun e w' => e = .returned (.int .i64 (liveTo Z C C.length)) ∧ w = w' := by
 obtain ⟨k0, k1, k2, k3, k4⟩ := h.cells
 obtain ⟨Az, cz, rfl⟩ := h.oz.rd.len
 obtain ⟨Ac, cc, rfl⟩ := h.oc.rd.len
 simp only [iw_length] at k3 k4 h
 have HOZ := Lib.hid h.oz
 have HOC := Lib.hid h.oc
 have HZ := Lib.hid hz
 have HL := Lib.hid hl
 have HLZ := Lib.hid h.lz
 have hlz := h.lz
 have qc : (C.length : Int) ≤ 1048576 := by omega
 clear h hz hl hlz
 go_enter Tryd.func44, Tryd.ntmps44
 go_wp2
 go_loopg [3, 4] C.length (fun g a3 a4 wr => ∃ (n : Int) (i : Nat), a3 = .int .i64 n ∧ a4 = .int .i64 i ∧ g + i = C.length ∧ w = wr ∧ Hid (n = liveTo Z C i ∧ 0 ≤ n ∧ n ≤ 4294967296))
 case atStart => exact ⟨0, 0, rfl, rfl, by omega, rfl, Lib.hid ⟨rfl, by omega, by omega⟩⟩
 case round =>
  obtain ⟨n, i, rfl, rfl, hgi, rfl, HI⟩ := hrel
  have HGI := Lib.hid hgi
  clear hgi
  have n0 := HI.out.2.1
  have n1 := HI.out.2.2
  by_cases hi : i < C.length
  ·have HIL := Lib.hid hi
   have d1 : decide (i < C.length) = true := decide_eq_true hi
   have qi : (i : Int) < C.length := by omega
   have qz : (i : Int) < Z.length := by rw [HLZ.out]; exact qi
   obtain ⟨gc, rfl, _, hc⟩ := HOC.out.cellAt (by rw [iw_length]; omega)
   obtain ⟨gz, rfl, _, hc2⟩ := HOZ.out.cellAt (by rw [iw_length, HLZ.out]; omega)
   have ck := (hc i (by rw [iw_length]; exact hi)).1
   have zk := (hc2 i (by rw [iw_length, HLZ.out]; exact hi)).1
   rw [iw_get hi] at ck
   rw [iw_get (by rw [HLZ.out]; exact hi)] at zk
   have zb := smallZ_get HZ.out i
   obtain ⟨c, hcc⟩ : ∃ c, C.getD i 0 = c := ⟨_, rfl⟩
   obtain ⟨z, hzz⟩ : ∃ z, Z.getD i 0 = z := ⟨_, rfl⟩
   rw [hcc] at ck
   rw [hzz] at zk zb
   have zb1 := zb.1
   have zb2 := zb.2
   have HST : Hid (liveTo Z C (i + 1) = n + if 0 < c then z else 0) := Lib.hid (by rw [HI.out.1, ← hcc, ← hzz]; rfl)
   have HBD := Lib.hid (liveTo_bd HZ.out C (i + 1))
   clear hc hc2 hcc hzz hi zb
   by_cases h0 : 0 < c
   ·have d2 : decide (0 < c) = true := decide_eq_true h0
    clear h0
    go_wp2
    go_roundg (gk - 1)
    case measure => have := HGI.out; have := HIL.out; omega
    case rel =>
     have h1 := HST.out
     rw [if_pos (of_decide_eq_true d2)] at h1
     have h2 := HBD.out
     rw [h1] at h2
     exact ⟨n + z, i + 1, by first | rfl | go_num, by first | rfl | go_num, by have := HGI.out; have := HIL.out; omega, rfl, Lib.hid ⟨h1.symm, h2.1, by have := HL.out; have := HIL.out; push_cast at h2; omega⟩⟩
   ·have d2 : decide (0 < c) = false := decide_eq_false h0
    clear h0
    go_wp2
    go_roundg (gk - 1)
    case measure => have := HGI.out; have := HIL.out; omega
    case rel =>
     have h1 := HST.out
     rw [if_neg (of_decide_eq_false d2), Int.add_zero] at h1
     exact ⟨n, i + 1, by first | rfl | go_num, by first | rfl | go_num, by have := HGI.out; have := HIL.out; omega, rfl, Lib.hid ⟨h1.symm, HI.out.2⟩⟩
  ·have d1 : decide (i < C.length) = false := decide_eq_false hi
   have hie : i = C.length := by have := HGI.out; omega
   have HE : Hid (n = liveTo Z C C.length) := Lib.hid (by rw [← hie]; exact HI.out.1)
   clear hi hie
   go_wp2
   go_ret
   exact ⟨by rw [HE.out]; rfl, rfl⟩
theorem kept3 {w : World} {s : Nat} {a b c : Value} (h : w.cell? ⟨s, 2, none⟩ = some a ∧ w.cell? ⟨s, 3, none⟩ = some b ∧ w.cell? ⟨s, 4, none⟩ = some c) (o : Obj) :
  (w.alloc o).cell? ⟨s, 2, none⟩ = some a ∧ (w.alloc o).cell? ⟨s, 3, none⟩ = some b ∧ (w.alloc o).cell? ⟨s, 4, none⟩ = some c :=
 ⟨((Fr.refl w (fun _ => False)).alloc _).cell h.1 (fun h => h), ((Fr.refl w (fun _ => False)).alloc _).cell h.2.1 (fun h => h), ((Fr.refl w (fun _ => False)).alloc _).cell h.2.2 (fun h => h)⟩
theorem kept3f {w W : World} {s : Nat} {u a b c : Value} (h : w.cell? ⟨s, 2, none⟩ = some a ∧ w.cell? ⟨s, 3, none⟩ = some b ∧ w.cell? ⟨s, 4, none⟩ = some c) (hf : Fr w W (fun k => InBlk u k)) (n : ¬ InBlk u s) :
  W.cell? ⟨s, 2, none⟩ = some a ∧ W.cell? ⟨s, 3, none⟩ = some b ∧ W.cell? ⟨s, 4, none⟩ = some c :=
 ⟨hf.cell h.1 n, hf.cell h.2.1 n, hf.cell h.2.2 n⟩
theorem len_app {w : World} {v : Value} {L : List Int} (ho : Own w 3 v (iw (L ++ [0]))) : ∃ A c, v = .slice A (L.length + 1) c := by
 obtain ⟨A, c, e⟩ := ho.rd.len
 rw [iw_length, List.length_append] at e
 exact ⟨A, c, e⟩
structure G3E (w W : World) (s : Nat) (bv v1 v2 v3 pv zv cv : Value) (most : Int) (B P Z C : List Int) : Prop where
 blk : W.heap[s]? = some (.cells #[bv, .int .i64 most, v1, v2, v3] 79 (0, 0))
 ob : Own W 5 bv (nw .u8 B)
 o1 : Own W 3 v1 (iw (P ++ [0]))
 o2 : Own W 3 v2 (iw (Z ++ [0]))
 o3 : Own W 3 v3 (iw (C ++ [0]))
 a1 : ∀ k, InBlk v1 k → ¬ InBlk v2 k
 a2 : ∀ k, InBlk v1 k → ¬ InBlk v3 k
 a3 : ∀ k, InBlk v2 k → ¬ InBlk v3 k
 fr : Fr w W (fun k => k = s ∨ InBlk pv k ∨ InBlk zv k ∨ InBlk cv k)
 n1 : ∀ k, InBlk v1 k → InBlk pv k ∨ w.heap.size ≤ k
 n2 : ∀ k, InBlk v2 k → InBlk zv k ∨ w.heap.size ≤ k
 n3 : ∀ k, InBlk v3 k → InBlk cv k ∨ w.heap.size ≤ k
theorem g3_end {w W : World} {s : Nat} {bv v1 v2 v3 pv zv cv : Value} {most : Int} {B P Z C : List Int} (h0 : StG w s bv pv zv cv most B P Z C) (h : G3 w W pv zv cv P Z C (.app v1) (.app v2) (.app v3)) : G3E w (((W.setCell ⟨s, 2, none⟩ v1).setCell ⟨s, 3, none⟩ v2).setCell ⟨s, 4, none⟩ v3) s bv v1 v2 v3 pv zv cv most B P Z C := by
 have hb := h.blk h0.blk h0.op h0.oz h0.oc (by decide)
 have hf : Fr W (((W.setCell ⟨s, 2, none⟩ v1).setCell ⟨s, 3, none⟩ v2).setCell ⟨s, 4, none⟩ v3) (fun i => i = s) := (((Fr.refl W (fun i => i = s)).setCell (a := ⟨s, 2, none⟩) (fun _ => rfl) _).setCell (a := ⟨s, 3, none⟩) (fun _ => rfl) _).setCell (a := ⟨s, 4, none⟩) (fun _ => rfl) _
 have ob : Own W 5 bv (nw .u8 B) := h0.ob.keep h.fr (fun k hk e => by
  obtain ⟨c, hc⟩ := h0.ob.elem k hk
  rcases e with e | e | e
  ·obtain ⟨c2, hc2⟩ := h0.op.elem k e; rw [hc] at hc2; simp at hc2
  ·obtain ⟨c2, hc2⟩ := h0.oz.elem k e; rw [hc] at hc2; simp at hc2
  ·obtain ⟨c2, hc2⟩ := h0.oc.elem k e; rw [hc] at hc2; simp at hc2)
 have ns : ∀ {e : TypeId} {v : Value} {xs : List Value}, Own W e v xs → e ≠ 79 → ∀ k, InBlk v k → k ≠ s := fun {e v xs} ho ne k hk es => by
  obtain ⟨c, hc⟩ := ho.elem k hk
  rw [es, hb] at hc
  simp at hc
  exact ne hc.2.symm
 refine ⟨?_, ob.keep hf (ns ob (by decide)), Own.keep h.i1 hf (ns h.i1 (by decide)), Own.keep h.i2 hf (ns h.i2 (by decide)), Own.keep h.i3 hf (ns h.i3 (by decide)), h.a1, h.a2, h.a3, (h.fr.mono (fun i hi _ => .inr hi)).then_ hf (fun i hi _ => .inl hi), h.n1, h.n2, h.n3⟩
 refine blk_put (cs := #[bv, .int .i64 most, v1, v2, cv]) ?_ 4 _ rfl
 refine blk_put (cs := #[bv, .int .i64 most, v1, zv, cv]) ?_ 3 _ rfl
 refine blk_put (cs := #[bv, .int .i64 most, pv, zv, cv]) ?_ 2 _ rfl
 exact hb
end Go.Proofs.YtjiaaefpepdoeaaDoor
namespace Go.Proofs.YtjiaaefpepdoeaaDoor
open Go.RowKit Md Go.Proofs.YtjiaaefpepdoeaaDoorW.PrintWords
set_option linter.unusedVariables false
def StB (s : Nat) (bv pv zv cv : Value) (k : Nat) : Prop := k = s ∨ InBlk bv k ∨ InBlk pv k ∨ InBlk zv k ∨ InBlk cv k
theorem only_blk {g m c k : Nat} (h : InBlk (.slice (some ⟨g, 0, none⟩) m c) k) : k = g := by simp [InBlk, Value.ownBlock] at h; exact h.symm
theorem in_blk (g m c : Nat) : InBlk (.slice (some ⟨g, 0, none⟩) m c) g := by simp [InBlk, Value.ownBlock]
section
variable {w W W1 : World} {s : Nat} {bv pv zv cv : Value} {most : Int} {B P Z C : List Int} {S : Nat → Prop}
theorem StG.keepN (h : StG W s bv pv zv cv most B P Z C) (hf : Fr W W1 S) (hn : ∀ k, StB s bv pv zv cv k → ¬ S k) : StG W1 s bv pv zv cv most B P Z C :=
 ⟨hf.blk h.blk (hn s (.inl rfl)), h.ob.keep hf (fun k hk => hn k (.inr (.inl hk))), h.op.keep hf (fun k hk => hn k (.inr (.inr (.inl hk)))), h.oz.keep hf (fun k hk => hn k (.inr (.inr (.inr (.inl hk))))), h.oc.keep hf (fun k hk => hn k (.inr (.inr (.inr (.inr hk))))), h.a1, h.a2, h.a3, h.lp, h.lz⟩
theorem StG.lt (h : StG W s bv pv zv cv most B P Z C) : ∀ k, StB s bv pv zv cv k → k < W.heap.size := fun k hk => by
 rcases hk with rfl | hk | hk | hk | hk
 ·exact (Array.getElem?_eq_some_iff.1 h.blk).1
 ·exact h.ob.lt k hk
 ·exact h.op.lt k hk
 ·exact h.oz.lt k hk
 ·exact h.oc.lt k hk
theorem StG.fz (h : StG W s bv pv zv cv most B P Z C) (i : Nat) : W.frozen? ⟨s, i, none⟩ = false := by simp [World.frozen?, h.blk]
theorem StG.num_ne (h : StG W s bv pv zv cv most B P Z C) {g : Nat} (hg : ∃ c, W.heap[g]? = some (.cells c 3 (0, 0))) : s ≠ g ∧ ¬ InBlk bv g := by
 obtain ⟨c, hc⟩ := hg
 constructor
 ·intro e
  have := h.blk
  rw [e, hc] at this
  simp at this
 ·intro e
  obtain ⟨c2, hc2⟩ := h.ob.elem g e
  rw [hc] at hc2
  simp at hc2
theorem iw_set (l : List Int) (i : Nat) (x : Int) : (iw l).set i (.int .i64 x) = iw (l.set i x) := by
 unfold iw; rw [List.map_set]
theorem StG.setP {g c i n : Nat} (h : StG W s bv (.slice (some ⟨g, 0, none⟩) n c) zv cv most B P Z C) (hi : i < P.length) (x : Int) :
  StG (W.setCell ⟨g, i, none⟩ (.int .i64 x)) s bv (.slice (some ⟨g, 0, none⟩) n c) zv cv most B (P.set i x) Z C ∧ Fr W (W.setCell ⟨g, i, none⟩ (.int .i64 x)) (fun k => k = g) := by
 obtain ⟨A, cap, e⟩ := h.op.rd.len
 injection e with e1 e2 e3
 subst e2
 have ho := h.op
 obtain ⟨t, f⟩ := Own.setAt (k := i) (u := .int .i64 x) ho (by rw [iw_length]; exact hi)
 rw [iw_set] at t
 have hg := h.op.elem g (in_blk _ _ _)
 have ne := h.num_ne hg
 refine ⟨⟨f.blk h.blk ne.1, h.ob.keep f (fun k hk e => ne.2 (by rw [← e]; exact hk)), t, h.oz.keep f (fun k hk e => h.a1 g (in_blk _ _ _) (by rw [← e]; exact hk)), h.oc.keep f (fun k hk e => h.a2 g (in_blk _ _ _) (by rw [← e]; exact hk)), h.a1, h.a2, h.a3, by rw [List.length_set]; exact h.lp, h.lz⟩, f⟩
theorem StG.set3 {g1 g2 g3 c1 c2 c3 n1 n2 n3 i : Nat} (h : StG W s bv (.slice (some ⟨g1, 0, none⟩) n1 c1) (.slice (some ⟨g2, 0, none⟩) n2 c2) (.slice (some ⟨g3, 0, none⟩) n3 c3) most B P Z C) (hi : i < C.length) (x y z : Int) :
  StG ((((W.setCell ⟨g1, i, none⟩ (.int .i64 x)).setCell ⟨g2, i, none⟩ (.int .i64 y)).setCell ⟨g3, i, none⟩ (.int .i64 z)).drew) s bv (.slice (some ⟨g1, 0, none⟩) n1 c1) (.slice (some ⟨g2, 0, none⟩) n2 c2) (.slice (some ⟨g3, 0, none⟩) n3 c3) most B (P.set i x) (Z.set i y) (C.set i z) ∧
  Fr W ((((W.setCell ⟨g1, i, none⟩ (.int .i64 x)).setCell ⟨g2, i, none⟩ (.int .i64 y)).setCell ⟨g3, i, none⟩ (.int .i64 z)).drew) (fun k => k = g1 ∨ k = g2 ∨ k = g3) := by
 obtain ⟨A, cap, e⟩ := h.op.rd.len
 injection e with e1 e2 e3
 subst e2
 obtain ⟨A', cap', e'⟩ := h.oz.rd.len
 injection e' with e1' e2' e3'
 subst e2'
 obtain ⟨A'', cap'', e''⟩ := h.oc.rd.len
 injection e'' with e1'' e2'' e3''
 subst e2''
 have hp := h.lp
 have hz := h.lz
 have n12 : g1 ≠ g2 := fun e => h.a1 g1 (in_blk _ _ _) (by rw [e]; exact in_blk _ _ _)
 have n13 : g1 ≠ g3 := fun e => h.a2 g1 (in_blk _ _ _) (by rw [e]; exact in_blk _ _ _)
 have n23 : g2 ≠ g3 := fun e => h.a3 g2 (in_blk _ _ _) (by rw [e]; exact in_blk _ _ _)
 obtain ⟨t1, f1⟩ := Own.setAt (k := i) (u := .int .i64 x) h.op (by rw [iw_length]; omega)
 obtain ⟨t2, f2⟩ := Own.setAt (k := i) (u := .int .i64 y) (h.oz.keep f1 (fun k hk e => n12 (by rw [← e]; exact only_blk hk))) (by rw [iw_length]; omega)
 obtain ⟨t3, f3⟩ := Own.setAt (k := i) (u := .int .i64 z) ((h.oc.keep f1 (fun k hk e => n13 (by rw [← e]; exact only_blk hk))).keep f2 (fun k hk e => n23 (by rw [← e]; exact only_blk hk))) (by rw [iw_length]; omega)
 rw [iw_set] at t1 t2 t3
 have fd : ∀ V : World, Fr V V.drew (fun _ => False) := fun V => (Fr.refl V _).drew
 have m1 := h.num_ne (h.op.elem g1 (in_blk _ _ _))
 have m2 := h.num_ne (h.oz.elem g2 (in_blk _ _ _))
 have m3 := h.num_ne (h.oc.elem g3 (in_blk _ _ _))
 refine ⟨⟨(fd _).blk (f3.blk (f2.blk (f1.blk h.blk m1.1) m2.1) m3.1) (fun h => h), ((((h.ob.keep f1 (fun k hk e => m1.2 (by rw [← e]; exact hk))).keep f2 (fun k hk e => m2.2 (by rw [← e]; exact hk))).keep f3 (fun k hk e => m3.2 (by rw [← e]; exact hk)))).keep (fd _) (fun _ _ h => h), ?_, ?_, t3.keep (fd _) (fun _ _ h => h), h.a1, h.a2, h.a3, by rw [List.length_set, List.length_set]; exact hp, by rw [List.length_set, List.length_set]; exact hz⟩, ?_⟩
 ·exact ((t1.keep f2 (fun k hk e => n12 (by rw [← only_blk hk]; exact e))).keep f3 (fun k hk e => n13 (by rw [← only_blk hk]; exact e))).keep (fd _) (fun _ _ h => h)
 ·exact (t2.keep f3 (fun k hk e => n23 (by rw [← only_blk hk]; exact e))).keep (fd _) (fun _ _ h => h)
 ·exact (((f1.mono (fun i hi _ => .inl hi)).then_ f2 (fun i hi _ => .inr (.inl hi))).then_ f3 (fun i hi _ => .inr (.inr hi))).drew
end
structure SlW (w wr : World) (s : Nat) (bv pv zv cv : Value) (most : Int) (B Z C : List Int) (bb : Value) (b P : List Int) : Prop where
 st : StG wr s bv pv zv cv most B P Z C
 ob : Own wr 5 bb (nw .u8 b)
 fr : Fr w wr (fun k => InBlk pv k)
 nb : ∀ k, InBlk bb k → w.heap.size ≤ k
 lt : ∀ k, StB s bv pv zv cv k → k < w.heap.size
section
variable {w wr W4 : World} {s : Nat} {bv pv zv cv bb v' : Value} {most : Int} {B Z C b x P : List Int}
theorem SlW.app (h : SlW w wr s bv pv zv cv most B Z C bb b P) (ho : Own W4 5 v' (nw .u8 b ++ nw .u8 x)) (hf : Fr wr W4 (fun k => InBlk bb k)) (hn : ∀ k, InBlk v' k → InBlk bb k ∨ wr.heap.size ≤ k) : SlW w W4 s bv pv zv cv most B Z C v' (b ++ x) P := by
 have e : nw .u8 b ++ nw .u8 x = nw .u8 (b ++ x) := by simp [nw]
 rw [e] at ho
 refine ⟨h.st.keepN hf (fun k hk hb => by have := h.nb k hb; have := h.lt k hk; omega), ho, h.fr.then_ hf (fun k hk hl => by have := h.nb k hk; omega), fun k hk => ?_, h.lt⟩
 have := h.fr.size
 rcases hn k hk with h1 | h1
 ·exact h.nb k h1
 ·omega
theorem SlW.set {g c i n : Nat} (h : SlW w wr s bv (.slice (some ⟨g, 0, none⟩) n c) zv cv most B Z C bb b P) (hi : i < C.length) (y : Int) : SlW w (wr.setCell ⟨g, i, none⟩ (.int .i64 y)) s bv (.slice (some ⟨g, 0, none⟩) n c) zv cv most B Z C bb b (P.set i y) := by
 obtain ⟨h1, h2⟩ := h.st.setP (i := i) (by rw [h.st.lp]; exact hi) y
 exact ⟨h1, h.ob.keep h2 (fun k hk e => by have h3 := h.nb k hk; have h4 := h.lt k (.inr (.inr (.inl (by rw [e]; exact in_blk _ _ _)))); omega), h.fr.then_ h2 (fun k hk _ => by rw [hk]; exact in_blk _ _ _), h.nb, h.lt⟩
theorem SlW.drew (h : SlW w wr s bv pv zv cv most B Z C bb b P) : SlW w wr.drew s bv pv zv cv most B Z C bb b P :=
 ⟨h.st.fr ((Fr.refl wr _).drew), h.ob.keep ((Fr.refl wr (fun _ => False)).drew) (fun _ _ h => h), h.fr.drew, h.nb, h.lt⟩
theorem SlW.fin (h : SlW w wr s bv pv zv cv most B Z C bb b P) : StG (wr.setCell ⟨s, 0, none⟩ bb) s bb pv zv cv most b P Z C ∧ Fr w (wr.setCell ⟨s, 0, none⟩ bb) (fun k => k = s ∨ InBlk pv k) := by
 have f : Fr wr (wr.setCell ⟨s, 0, none⟩ bb) (fun k => k = s) := (Fr.refl wr (fun k => k = s)).setCell (a := ⟨s, 0, none⟩) (fun _ => rfl) _
 have hs := h.lt s (.inl rfl)
 have num : ∀ {v : Value} {l : List Int}, Own wr 3 v (iw l) → ∀ k, InBlk v k → k ≠ s := fun ho k hk e => by
  have := h.st.num_ne (ho.elem k hk)
  exact this.1 e.symm
 refine ⟨⟨blk_put (cs := #[bv, .int .i64 most, pv, zv, cv]) h.st.blk 0 _ rfl, h.ob.keep f (fun k hk e => by have := h.nb k hk; omega), h.st.op.keep f (num h.st.op), h.st.oz.keep f (num h.st.oz), h.st.oc.keep f (num h.st.oc), h.st.a1, h.st.a2, h.st.a3, h.st.lp, h.st.lz⟩, (h.fr.mono (fun k hk _ => .inr hk)).then_ f (fun k hk _ => .inl hk)⟩
end
end Go.Proofs.YtjiaaefpepdoeaaDoor
namespace Go.Proofs.YtjiaaefpepdoeaaDoor
open Go.RowKit Md Go.Proofs.YtjiaaefpepdoeaaDoorW.PrintWords
set_option linter.unusedVariables false
theorem StG.setC {W : World} {s g c i n : Nat} {bv pv zv : Value} {most : Int} {B P Z C : List Int} (h : StG W s bv pv zv (.slice (some ⟨g, 0, none⟩) n c) most B P Z C) (hi : i < C.length) (x : Int) :
  StG (W.setCell ⟨g, i, none⟩ (.int .i64 x)) s bv pv zv (.slice (some ⟨g, 0, none⟩) n c) most B P Z (C.set i x) ∧ Fr W (W.setCell ⟨g, i, none⟩ (.int .i64 x)) (fun k => k = g) := by
 obtain ⟨A, cap, e⟩ := h.oc.rd.len
 injection e with e1 e2 e3
 subst e2
 obtain ⟨t, f⟩ := Own.setAt (k := i) (u := .int .i64 x) h.oc (by rw [iw_length]; exact hi)
 rw [iw_set] at t
 have ne := h.num_ne (h.oc.elem g (in_blk _ _ _))
 exact ⟨⟨f.blk h.blk ne.1, h.ob.keep f (fun k hk e => ne.2 (by rw [← e]; exact hk)), h.op.keep f (fun k hk e => h.a2 k hk (by rw [e]; exact in_blk _ _ _)), h.oz.keep f (fun k hk e => h.a3 k hk (by rw [e]; exact in_blk _ _ _)), t, h.a1, h.a2, h.a3, by rw [List.length_set]; exact h.lp, by rw [List.length_set]; exact h.lz⟩, f⟩
def thr (C : List Int) (h : Int) : Bool := decide (1 ≤ h) && (decide (h ≤ C.length) && decide (0 < C.getD (h - 1).toNat 0))
set_option maxHeartbeats 2000000 in
theorem gthere_c (s : Nat) (bv pv zv cv : Value) (most : Int) (B P Z C : List Int) (h : Int) (w : World) (hs : StG w s bv pv zv cv most B P Z C) (hl : C.length ≤ 1048576) :
  Calls Tryd.prog 67 #[.pointer (some ⟨s, 0, none⟩), .int .i64 h] w fun e w' => e = .returned (.bool (thr C h)) ∧ w' = w := by
 have k4 : w.cell? ⟨s, 4, none⟩ = some cv := by simp [World.cell?, hs.blk]
 obtain ⟨A, c, rfl⟩ := hs.oc.rd.len
 rw [iw_length] at k4 hs
 by_cases h1 : h < 1
 ·have d1 : decide (1 ≤ h) = false := decide_eq_false (by omega)
  have e : thr C h = false := by unfold thr; rw [d1]; rfl
  rw [e]
  clear hs
  go_enter Tryd.func67, Tryd.ntmps67
  go_wp2
  go_ret
  exact ⟨rfl, rfl⟩
 ·have d1 : decide (1 ≤ h) = true := decide_eq_true (by omega)
  by_cases h2 : h ≤ C.length
  ·have d2 : decide (h ≤ (C.length : Int)) = true := decide_eq_true h2
   obtain ⟨i, rfl⟩ : ∃ i : Nat, h = i + 1 := ⟨(h - 1).toNat, by omega⟩
   have hi : i < C.length := by omega
   obtain ⟨g, rfl, _, hc⟩ := hs.oc.cellAt (by rw [iw_length]; omega)
   have ck := (hc i (by rw [iw_length]; exact hi)).1
   rw [iw_get hi] at ck
   have e : thr C ((i : Int) + 1) = decide (0 < C.getD i 0) := by unfold thr; rw [d1, d2]; simp
   rw [e]
   obtain ⟨x, hx⟩ : ∃ x, C.getD i 0 = x := ⟨_, rfl⟩
   rw [hx] at ck ⊢
   have w1 : wrap64 ((i : Int) + 1 - 1) = i := by unfold wrap64; omega
   have qi : (i : Int) < C.length := by omega
   have qi2 : (i : Int) + 1 - 1 = i := by omega
   have qi3 : (i : Int) ≤ 1048576 := by omega
   clear hs hc hx e
   go_enter Tryd.func67, Tryd.ntmps67
   go_wp2
   go_ret
   exact ⟨rfl, rfl⟩
  ·have d2 : decide (h ≤ (C.length : Int)) = false := decide_eq_false h2
   have e : thr C h = false := by unfold thr; rw [d1, d2]; rfl
   rw [e]
   clear hs
   go_enter Tryd.func67, Tryd.ntmps67
   go_wp2
   go_ret
   exact ⟨rfl, rfl⟩
def DrpA (n : Nat) (w w' : World) (s : Nat) (bv pv zv cv : Value) (most : Int) (B P Z : List Int) (e : Ending) : Prop :=
 ∃ r C', e = .returned (.bool r) ∧ StG w' s bv pv zv cv most B P Z C' ∧ StO n B P Z C' ∧ Fr w w' (fun k => InBlk cv k)
set_option maxHeartbeats 2000000 in
theorem sdrop_c (n s : Nat) (bv pv zv cv : Value) (most : Int) (B P Z C : List Int) (h : Int) (w : World) (hs : StG w s bv pv zv cv most B P Z C) (ho : StO n B P Z C) (hl : n ≤ 1000000) :
  Calls Tryd.prog 35 #[.pointer (some ⟨s, 0, none⟩), .int .i64 h] w fun e w' => DrpA n w w' s bv pv zv cv most B P Z e := by
 have HS := Lib.hid hs
 have HO := Lib.hid ho
 have hln := ho.ln
 have HL : Hid (C.length ≤ 1048576) := Lib.hid (by omega)
 obtain ⟨t, ht⟩ : ∃ t, thr C h = t := ⟨_, rfl⟩
 have HT := Lib.hid ht
 cases t with
 | false =>
  clear hs ho ht hln hl
  go_enter Tryd.func35, Tryd.ntmps35
  go_wp2_with (first | (go_at_call 67; (with_reducible refine (gthere_c s bv pv zv cv most B P Z C h _ HS.out HL.out).mono ?_); rintro e w1 ⟨rfl, rfl⟩; rw [HT.out]))
  go_ret
  exact ⟨false, C, rfl, HS.out, HO.out, Fr.refl _ _⟩
 | true =>
  unfold thr at ht
  simp only [Bool.and_eq_true, decide_eq_true_eq] at ht
  obtain ⟨h1, h2, h3⟩ := ht
  obtain ⟨A, c, rfl⟩ := hs.oc.rd.len
  have k4 : w.cell? ⟨s, 4, none⟩ = some (.slice A C.length c) := by have := hs.blk; rw [iw_length] at this; simp [World.cell?, this]
  obtain ⟨i, rfl⟩ : ∃ i : Nat, h = i + 1 := ⟨(h - 1).toNat, by omega⟩
  have e0 : ((i : Int) + 1 - 1).toNat = i := by omega
  rw [e0] at h3
  have hi : i < C.length := by omega
  obtain ⟨g, rfl, _, hc⟩ := hs.oc.cellAt (by rw [iw_length]; omega)
  obtain ⟨ck, cf⟩ := hc i (by rw [iw_length]; exact hi)
  rw [iw_get hi] at ck
  have hcb := ho.c i hi
  have h5 := hs.setC hi (C.getD i 0 - 1)
  have h6 := ho.drop (x := C.getD i 0 - 1) hi (by omega) (by omega)
  obtain ⟨x, hx⟩ : ∃ x, C.getD i 0 = x := ⟨_, rfl⟩
  rw [hx] at ck h3 hcb h5 h6
  have H5 := Lib.hid h5
  have H6 := Lib.hid h6
  have hxb0 := hcb.1
  have hxb1 := hcb.2
  have w1 : wrap64 ((i : Int) + 1 - 1) = i := by unfold wrap64; omega
  have qi : (i : Int) < C.length := by omega
  have qi2 : (i : Int) + 1 - 1 = i := by omega
  have qi3 : (i : Int) ≤ 1048576 := by omega
  rw [iw_length] at HS H5
  clear hs ho hln hl h1 h2 h3 hcb h5 h6 e0 hx hc
  rw [iw_length]
  go_enter Tryd.func35, Tryd.ntmps35
  go_wp2_with (first | (go_at_call 67; (with_reducible refine (gthere_c s bv pv zv _ most B P Z C _ _ HS.out HL.out).mono ?_); rintro e w1 ⟨rfl, rfl⟩; rw [HT.out]))
  go_ret
  exact ⟨true, _, rfl, H5.out.1, H6.out, H5.out.2.mono (fun k hk _ => by rw [hk]; exact in_blk _ _ _)⟩
end Go.Proofs.YtjiaaefpepdoeaaDoor
namespace Go.Proofs.YtjiaaefpepdoeaaDoor
open Go.RowKit Md Go.Proofs.YtjiaaefpepdoeaaDoorW.PrintWords
set_option linter.unusedVariables false
def SldA (n : Nat) (w w' : World) (s : Nat) (pv zv cv : Value) (most : Int) (Z C : List Int) (e : Ending) : Prop :=
 ∃ r bv' B' P', e = .returned (.int .i64 r) ∧ StG w' s bv' pv zv cv most B' P' Z C ∧ StO n B' P' Z C ∧ (B'.length : Int) = tot Z C ∧ Fr w w' (fun k => k = s ∨ InBlk pv k) ∧ ∀ k, InBlk bv' k → w.heap.size ≤ k
set_option maxRecDepth 100000 in
set_option maxHeartbeats 16000000 in
theorem sslide_s (n s : Nat) (Ab Ap Az Ac : Option Addr) (cb cp cz cc : Nat) (most : Int) (B P Z C : List Int) (w : World) (h : StG w s (.slice Ab B.length cb) (.slice Ap C.length cp) (.slice Az C.length cz) (.slice Ac C.length cc) most B P Z C) (ho : StO n B P Z C) (hn : n ≤ 1000000) :
  Calls Tryd.prog 45 #[.pointer (some ⟨s, 0, none⟩)] w fun e w' => SldA n w w' s (.slice Ap C.length cp) (.slice Az C.length cz) (.slice Ac C.length cc) most Z C e := by
 have H := Lib.hid h
 have HO := Lib.hid ho
 have HN := Lib.hid hn
 have lB := ho.lb
 have lC := ho.ln
 have HLZ := Lib.hid ho.lz
 have HSL0 := Lib.hid (SlO.start ho)
 have HSW0 : Hid (SlW w w s (.slice Ab B.length cb) (.slice Ap C.length cp) (.slice Az C.length cz) (.slice Ac C.length cc) most B Z C (.slice none 0 0) [] P) := Lib.hid ⟨h, Own.nil _ _, Fr.refl _ _, fun k hk => by simp [InBlk, Value.ownBlock] at hk, h.lt⟩
 have qB : (B.length : Int) ≤ 8388608 := lB
 have qC : (C.length : Int) ≤ 1000000 := by omega
 have k0 : w.cell? ⟨s, 0, none⟩ = some (.slice Ab B.length cb) := by simp [World.cell?, h.blk]
 have k1 : w.cell? ⟨s, 1, none⟩ = some (.int .i64 most) := by simp [World.cell?, h.blk]
 have k2 : w.cell? ⟨s, 2, none⟩ = some (.slice Ap C.length cp) := by simp [World.cell?, h.blk]
 have k3 : w.cell? ⟨s, 3, none⟩ = some (.slice Az C.length cz) := by simp [World.cell?, h.blk]
 have k4 : w.cell? ⟨s, 4, none⟩ = some (.slice Ac C.length cc) := by simp [World.cell?, h.blk]
 clear h ho lB lC hn
 go_enter Tryd.func45, Tryd.ntmps45
 go_wp2
 go_loopg [4, 5] B.length (fun g a4 a5 wr => ∃ (a : Nat) (Ax : Option Addr) (cx : Nat) (b Q : List Int), a4 = .slice Ax b.length cx ∧ a5 = .int .i64 a ∧ g + a = B.length ∧ Hid (SlO B.length Z C b Q a 0) ∧ Hid (SlW w wr s (.slice Ab B.length cb) (.slice Ap C.length cp) (.slice Az C.length cz) (.slice Ac C.length cc) most B Z C (.slice Ax b.length cx) b Q))
 case atStart => exact ⟨0, none, 0, [], P, rfl, rfl, by omega, HSL0, HSW0⟩
 case round =>
  clear k0 k1 k2 k3 k4 HSL0 HSW0 H
  obtain ⟨a, Ax, cx, b, Q, rfl, rfl, hga, HSL, HSW⟩ := hrel
  have HGA := Lib.hid hga
  clear hga
  obtain ⟨G, hG⟩ : ∃ G, G = gk := ⟨_, rfl⟩
  have HG := Lib.hid hG
  clear hG
  by_cases ha : a < B.length
  ·have HAL := Lib.hid ha
   have d1 : decide (a < B.length) = true := decide_eq_true ha
   have qa : (a : Int) < B.length := by omega
   clear ha
   have k0 : wr.cell? ⟨s, 0, none⟩ = some (.slice Ab B.length cb) := by simp [World.cell?, HSW.out.st.blk]
   have k1 : wr.cell? ⟨s, 1, none⟩ = some (.int .i64 most) := by simp [World.cell?, HSW.out.st.blk]
   have k2 : wr.cell? ⟨s, 2, none⟩ = some (.slice Ap C.length cp) := by simp [World.cell?, HSW.out.st.blk]
   have k3 : wr.cell? ⟨s, 3, none⟩ = some (.slice Az C.length cz) := by simp [World.cell?, HSW.out.st.blk]
   have k4 : wr.cell? ⟨s, 4, none⟩ = some (.slice Ac C.length cc) := by simp [World.cell?, HSW.out.st.blk]
   go_wp2
   go_loopg [4, 6] C.length (fun g a4 a6 wr => ∃ (i : Nat) (Ay : Option Addr) (cy : Nat) (b Q : List Int), a4 = .slice Ay b.length cy ∧ a6 = .int .i64 i ∧ g + i = C.length ∧ Hid (SlO B.length Z C b Q a i) ∧ Hid (SlW w wr s (.slice Ab B.length cb) (.slice Ap C.length cp) (.slice Az C.length cz) (.slice Ac C.length cc) most B Z C (.slice Ay b.length cy) b Q))
   case atStart => exact ⟨0, Ax, cx, b, Q, rfl, rfl, by omega, HSL, HSW⟩
   case round =>
    clear k0 k1 k2 k3 k4 HSL HSW
    obtain ⟨i, Ay, cy, b, Q, rfl, rfl, hgi, HSL, HSW⟩ := hrel
    have HGI := Lib.hid hgi
    clear hgi
    have hlq := HSL.out.lp
    have hlz := HLZ.out
    have k0 : wr.cell? ⟨s, 0, none⟩ = some (.slice Ab B.length cb) := by simp [World.cell?, HSW.out.st.blk]
    have k1 : wr.cell? ⟨s, 1, none⟩ = some (.int .i64 most) := by simp [World.cell?, HSW.out.st.blk]
    have k2 : wr.cell? ⟨s, 2, none⟩ = some (.slice Ap C.length cp) := by simp [World.cell?, HSW.out.st.blk]
    have k3 : wr.cell? ⟨s, 3, none⟩ = some (.slice Az C.length cz) := by simp [World.cell?, HSW.out.st.blk]
    have k4 : wr.cell? ⟨s, 4, none⟩ = some (.slice Ac C.length cc) := by simp [World.cell?, HSW.out.st.blk]
    by_cases hi : i < C.length
    ·have HIL := Lib.hid hi
     have d2 : decide (i < C.length) = true := decide_eq_true hi
     have qi : (i : Int) < C.length := by omega
     obtain ⟨gc, rfl, _, hgc⟩ := HSW.out.st.oc.cellAt (by rw [iw_length]; omega)
     obtain ⟨cc_, cf⟩ := hgc i (by rw [iw_length]; omega)
     rw [iw_get (by omega)] at cc_
     clear hgc
     obtain ⟨gp, rfl, _, hgp⟩ := HSW.out.st.op.cellAt (by rw [iw_length]; omega)
     obtain ⟨pc, pf⟩ := hgp i (by rw [iw_length]; omega)
     rw [iw_get (by omega)] at pc
     clear hgp
     obtain ⟨gz, rfl, _, hgz⟩ := HSW.out.st.oz.cellAt (by rw [iw_length]; omega)
     obtain ⟨zc, zf⟩ := hgz i (by rw [iw_length]; omega)
     rw [iw_get (by omega)] at zc
     clear hgz
     clear hlq hlz
     obtain ⟨c, hc⟩ : ∃ c, C.getD i 0 = c := ⟨_, rfl⟩
     obtain ⟨p, hp⟩ : ∃ p, Q.getD i 0 = p := ⟨_, rfl⟩
     obtain ⟨z, hz⟩ : ∃ z, Z.getD i 0 = z := ⟨_, rfl⟩
     rw [hc] at cc_
     rw [hp] at pc
     rw [hz] at zc
     have HC := Lib.hid hc
     have HP := Lib.hid hp
     have HZ := Lib.hid hz
     clear hc hp hz hi
     by_cases hb : 0 < c ∧ p = a
     ·obtain ⟨h0, rfl⟩ := hb
      have d3 : decide (0 < c) = true := decide_eq_true h0
      have HH0 := Lib.hid h0
      clear h0
      have hbd := HSL.out.bounds HO.out.z HLZ.out HIL.out (by rw [HC.out]; exact HH0.out) HP.out (by omega)
      rw [HZ.out] at hbd
      obtain ⟨zn, rfl⟩ := Int.eq_ofNat_of_zero_le (a := z) (by omega)
      obtain ⟨hi, hhi⟩ : ∃ x, a + zn = x := ⟨_, rfl⟩
      have qhi : hi ≤ B.length := by omega
      have qzn : (zn : Int) ≤ 4096 := by omega
      have qbl : (b.length : Int) + zn ≤ B.length := by omega
      have HQB : Hid ((b.length : Int) + zn ≤ B.length) := Lib.hid qbl
      have HHI := Lib.hid hhi
      clear hbd hhi
      go_upto_region 11 with (fail)
      obtain ⟨u, hsl, hru⟩ := rn_lh undU8 sizeU8 (l := B) (K := .u8) HSW.out.st.ob.rd a hi (by have := HHI.out; omega) qhi
      replace hsl : ∀ W : World, (Instr.slice 24 (.slice Ab B.length cb) (some (.int .i64 (a : Int))) (some (.int .i64 (hi : Int))) none).run Tryd.prog W = .ok u W := hsl
      obtain ⟨X, hX⟩ : ∃ X, (B.drop a).take (hi - a) = X := ⟨_, rfl⟩
      have hXl : X.length = zn := by rw [← hX, List.length_take, List.length_drop]; have := HHI.out; omega
      rw [hX] at hru
      obtain ⟨i0, hi0, hz0, hz1, hzb⟩ := info_parts infoU8
      obtain ⟨v', w4, hrun, ho4, hg4, hn4⟩ := run_append_rd (P := Tryd.prog) wr.drew 24 24 5 i0 (.int .u8 0) Tryd.underlying24 hi0 hz0 hz1 (by omega) rfl _ _ (nw .u8 b) (nw .u8 X) HSW.out.drew.ob (hru.keep ((Fr.refl wr (fun _ => False)).drew) (fun _ _ h => h)) (nw_one .u8 X) (by rw [nw_length, nw_length, hXl]; have := HQB.out; omega)
      have HSW4 := Lib.hid (HSW.out.drew.app ho4 ((Fr.refl wr.drew (fun k => InBlk (.slice Ay b.length cy) k)).grown hg4 (fun k hk _ => hk)) hn4)
      obtain ⟨A4, c4, e4⟩ := HSW4.out.ob.rd.len
      rw [nw_length, List.length_append, hXl] at e4
      subst e4
      have HXL := Lib.hid hXl
      have HRUN := Lib.hid hrun
      have HSL_ := Lib.hid hsl
      have hs1 : IntKind.i64.wrap ((a : Int) + (zn : Int)) = (hi : Int) := by have := HHI.out; rw [IntKind.wrap_i64]; omega
      have hs2 : wrap64 ((a : Int) + (zn : Int)) = (hi : Int) := by have := HHI.out; unfold wrap64; omega
      clear ho4 hg4 hn4 hXl hrun hX hru hi0 hz0 hz1 hzb
      go_still_tail 16, (by kernel_rfl)
      change wpList _ _ _ _ _ wr.drew
      have k2' : w4.cell? ⟨s, 2, none⟩ = some (.slice (some ⟨gp, 0, none⟩) C.length cp) := by simp [World.cell?, HSW4.out.st.blk]
      obtain ⟨gp', hgp', _, hgp⟩ := HSW4.out.st.op.cellAt (by rw [iw_length, HSL.out.lp]; omega)
      injection hgp' with hgp'
      injection hgp' with hgp'
      subst hgp'
      obtain ⟨pc', pf'⟩ := hgp i (by rw [iw_length, HSL.out.lp]; omega)
      rw [iw_get (by rw [HSL.out.lp]; exact HIL.out)] at pc'
      clear hgp hsl hs1 hs2 k0 k1 k2 k3 k4
      go_wp2_with (at_builtin; refine Lib.wpList_append_run _ rfl _ _ _ _ rfl _ _ rfl rfl _ w4 HRUN.out ?_)
      go_roundg (gk - 1)
      case measure => have := HGI.out; have := HIL.out; omega
      case rel => exact ⟨i + 1, A4, c4, b ++ X, Q.set i ((b.length : Int) - B.length - 1), by rw [List.length_append, HXL.out], by first | rfl | go_num, by have := HGI.out; have := HIL.out; omega, Lib.hid (HSL.out.hit HO.out.z HLZ.out (by omega) HIL.out (by rw [HC.out]; exact HH0.out) HP.out (by omega) (by rw [HXL.out]; exact HZ.out.symm)), Lib.hid (by have := HSW4.out.set HIL.out ((b.length : Int) - B.length - 1); rw [List.length_append, HXL.out]; exact this)⟩
     ·have HPS := Lib.hid (HSL.out.pass (i := i) (fun _ hx => hb ⟨by rw [← HC.out]; exact hx.1, by rw [← HP.out]; exact hx.2⟩))
      by_cases h0 : 0 < c
      ·have d3 : decide (0 < c) = true := decide_eq_true h0
       have hpa : ¬ p = (a : Int) := fun e => hb ⟨h0, e⟩
       have d4 : (p == (a : Int)) = false := by simpa using hpa
       clear hb h0
       go_wp2
       go_roundg (gk - 1)
       case measure => have := HGI.out; have := HIL.out; omega
       case rel => exact ⟨i + 1, Ay, cy, b, Q, rfl, by first | rfl | go_num, by have := HGI.out; have := HIL.out; omega, HPS, HSW⟩
      ·have d3 : decide (0 < c) = false := decide_eq_false h0
       clear hb h0
       go_wp2
       go_roundg (gk - 1)
       case measure => have := HGI.out; have := HIL.out; omega
       case rel => exact ⟨i + 1, Ay, cy, b, Q, rfl, by first | rfl | go_num, by have := HGI.out; have := HIL.out; omega, HPS, HSW⟩
    ·have HIE : Hid (C.length ≤ i) := Lib.hid (by omega)
     have d2 : decide (i < C.length) = false := decide_eq_false hi
     clear hi hlq hlz
     go_wp2
     go_roundg (G - 1)
     case measure => have := HGA.out; have := HAL.out; have := HG.out; omega
     case rel => exact ⟨a + 1, Ay, cy, b, Q, rfl, by first | rfl | go_num, by have := HGA.out; have := HAL.out; have := HG.out; omega, Lib.hid (by have := HSL.out.next HIE.out; push_cast; exact this), HSW⟩
  ·have HAE : Hid (B.length ≤ a) := Lib.hid (by omega)
   have d1 : decide (a < B.length) = false := decide_eq_false ha
   clear ha
   have HSE0 := Lib.hid (HSL.out.done HLZ.out HO.out.z (by have := HAE.out; omega))
   have k0 : wr.cell? ⟨s, 0, none⟩ = some (.slice Ab B.length cb) := by simp [World.cell?, HSW.out.st.blk]
   have k1 : wr.cell? ⟨s, 1, none⟩ = some (.int .i64 most) := by simp [World.cell?, HSW.out.st.blk]
   have k2 : wr.cell? ⟨s, 2, none⟩ = some (.slice Ap C.length cp) := by simp [World.cell?, HSW.out.st.blk]
   have k3 : wr.cell? ⟨s, 3, none⟩ = some (.slice Az C.length cz) := by simp [World.cell?, HSW.out.st.blk]
   have k4 : wr.cell? ⟨s, 4, none⟩ = some (.slice Ac C.length cc) := by simp [World.cell?, HSW.out.st.blk]
   obtain ⟨W0, hW0⟩ : ∃ W0, W0 = wr := ⟨_, rfl⟩
   have HSW0 : Hid (SlW w W0 s (.slice Ab B.length cb) (.slice Ap C.length cp) (.slice Az C.length cz) (.slice Ac C.length cc) most B Z C (.slice Ax b.length cx) b Q) := Lib.hid (by rw [hW0]; exact HSW.out)
   clear HSL
   go_wp2
   go_loopg [8] C.length (fun g a8 wr => ∃ (i : Nat) (Q : List Int), a8 = .int .i64 i ∧ g + i = C.length ∧ Hid (SlE B.length Z C b Q i) ∧ Hid (SlW w wr s (.slice Ab B.length cb) (.slice Ap C.length cp) (.slice Az C.length cz) (.slice Ac C.length cc) most B Z C (.slice Ax b.length cx) b Q))
   case atStart => exact ⟨0, Q, rfl, by omega, HSE0, HSW⟩
   case round =>
    clear k0 k1 k2 k3 k4 HSE0 HSW HSW0 hW0
    obtain ⟨i, Q, rfl, hgi, HSE, HSW⟩ := hrel
    have HGI := Lib.hid hgi
    clear hgi
    have hlq := HSE.out.lp
    have k0 : wr.cell? ⟨s, 0, none⟩ = some (.slice Ab B.length cb) := by simp [World.cell?, HSW.out.st.blk]
    have k1 : wr.cell? ⟨s, 1, none⟩ = some (.int .i64 most) := by simp [World.cell?, HSW.out.st.blk]
    have k2 : wr.cell? ⟨s, 2, none⟩ = some (.slice Ap C.length cp) := by simp [World.cell?, HSW.out.st.blk]
    have k3 : wr.cell? ⟨s, 3, none⟩ = some (.slice Az C.length cz) := by simp [World.cell?, HSW.out.st.blk]
    have k4 : wr.cell? ⟨s, 4, none⟩ = some (.slice Ac C.length cc) := by simp [World.cell?, HSW.out.st.blk]
    have k0f : wr.frozen? ⟨s, 0, none⟩ = false := HSW.out.st.fz 0
    by_cases hi : i < C.length
    ·have HIL := Lib.hid hi
     have d2 : decide (i < C.length) = true := decide_eq_true hi
     have qi : (i : Int) < C.length := by omega
     obtain ⟨gc, rfl, _, hgc⟩ := HSW.out.st.oc.cellAt (by rw [iw_length]; omega)
     obtain ⟨cc_, cf⟩ := hgc i (by rw [iw_length]; omega)
     rw [iw_get (by omega)] at cc_
     clear hgc
     obtain ⟨gp, rfl, _, hgp⟩ := HSW.out.st.op.cellAt (by rw [iw_length]; omega)
     obtain ⟨pc, pf⟩ := hgp i (by rw [iw_length]; omega)
     rw [iw_get (by omega)] at pc
     clear hgp
     clear hlq
     obtain ⟨c, hc⟩ : ∃ c, C.getD i 0 = c := ⟨_, rfl⟩
     obtain ⟨p, hp⟩ : ∃ p, Q.getD i 0 = p := ⟨_, rfl⟩
     rw [hc] at cc_
     rw [hp] at pc
     have HC := Lib.hid hc
     have HP := Lib.hid hp
     have hpb := HSE.out.p i hi
     rw [hp] at hpb
     have qp0 := hpb.1
     have qp1 := hpb.2
     clear hc hp hi hpb
     by_cases hb : 0 < c ∧ p < 0
     ·obtain ⟨h0, h1⟩ := hb
      have d3 : decide (0 < c) = true := decide_eq_true h0
      have d4 : decide (p < 0) = true := decide_eq_true h1
      have HSE2 := Lib.hid (HSE.out.hit HIL.out (by rw [HC.out]; exact h0) (by omega) (by rw [HP.out]; exact h1))
      rw [HP.out] at HSE2
      have HSW2 := Lib.hid (HSW.out.drew.set HIL.out (p + B.length + 1))
      clear h0 h1
      go_upto_region 17 with (fail)
      have hs1 : IntKind.i64.wrap (p + (B.length : Int)) = p + B.length := IntWalk.i64_in _ (by omega)
      have hs2 : IntKind.i64.wrap (p + (B.length : Int) + 1) = p + B.length + 1 := IntWalk.i64_in _ (by omega)
      go_still_tail 16, (by kernel_rfl)
      change wpList _ _ _ _ _ wr.drew
      clear hs1 hs2
      go_wp2
      go_roundg (gk - 1)
      case measure => have := HGI.out; have := HIL.out; omega
      case rel => exact ⟨i + 1, Q.set i (p + B.length + 1), by first | rfl | go_num, by have := HGI.out; have := HIL.out; omega, HSE2, HSW2⟩
     ·have HPS := Lib.hid (HSE.out.pass (i := i) (fun _ hx => hb ⟨by rw [← HC.out]; exact hx.1, by rw [← HP.out]; exact hx.2⟩))
      by_cases h0 : 0 < c
      ·have d3 : decide (0 < c) = true := decide_eq_true h0
       have d4 : decide (p < 0) = false := decide_eq_false (fun e => hb ⟨h0, e⟩)
       clear hb h0
       go_wp2
       go_roundg (gk - 1)
       case measure => have := HGI.out; have := HIL.out; omega
       case rel => exact ⟨i + 1, Q, by first | rfl | go_num, by have := HGI.out; have := HIL.out; omega, HPS, HSW⟩
      ·have d3 : decide (0 < c) = false := decide_eq_false h0
       clear hb h0
       go_wp2
       go_roundg (gk - 1)
       case measure => have := HGI.out; have := HIL.out; omega
       case rel => exact ⟨i + 1, Q, by first | rfl | go_num, by have := HGI.out; have := HIL.out; omega, HPS, HSW⟩
    ·have HIE : Hid (i = C.length) := Lib.hid (by have := HGI.out; omega)
     have d2 : decide (i < C.length) = false := decide_eq_false hi
     have HFS := Lib.hid (HSW.out.fin)
     have HSEf := HSE
     rw [HIE.out] at HSEf
     clear hi hlq
     go_wp2
     go_ret
     exact ⟨_, _, b, Q, rfl, HFS.out.1, HSEf.out.fin (Nat.le_trans HO.out.ln (Nat.le_refl _)) (by omega) HO.out.z HO.out.c, HSEf.out.sum, HFS.out.2, HSW.out.nb⟩
theorem sslide_c (n s : Nat) (bv pv zv cv : Value) (most : Int) (B P Z C : List Int) (w : World) (h : StG w s bv pv zv cv most B P Z C) (ho : StO n B P Z C) (hn : n ≤ 1000000) :
  Calls Tryd.prog 45 #[.pointer (some ⟨s, 0, none⟩)] w fun e w' => SldA n w w' s pv zv cv most Z C e := by
 obtain ⟨Ab, cb, rfl⟩ := h.ob.rd.len
 obtain ⟨Ap, cp, rfl⟩ := h.op.rd.len
 obtain ⟨Az, cz, rfl⟩ := h.oz.rd.len
 obtain ⟨Ac, cc, rfl⟩ := h.oc.rd.len
 have hlp := h.lp
 have hlz := h.lz
 simp only [iw_length, nw_length] at h ⊢
 rw [hlp, hlz] at h ⊢
 exact sslide_s n s Ab Ap Az Ac cb cp cz cc most B P Z C w h ho hn
theorem tot_bd : ∀ {Z C : List Int}, (∀ z ∈ Z, 1 ≤ z ∧ z ≤ 4096) → tot Z C ≤ C.length * 4096
 | [], _, _ => by simp only [tot]; omega
 | _ :: _, [], _ => by simp only [tot]; omega
 | z :: Z, c :: C, h => by
  have h1 := h z (by simp)
  have h2 : tot Z C ≤ C.length * 4096 := tot_bd (fun x hx => h x (by simp [hx]))
  simp only [tot, List.length_cons]
  push_cast
  split <;> omega
end Go.Proofs.YtjiaaefpepdoeaaDoor
