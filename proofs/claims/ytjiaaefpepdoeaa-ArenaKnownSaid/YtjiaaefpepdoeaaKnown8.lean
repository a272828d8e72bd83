/-
  WALK: ArenaKnown, a closed statement.
-/
import Derived.Test.YtjiaaefpepdoeaaInts
namespace Go.Proofs.Ytjiaaefpepdoeaa
open Go.RowKit Md
set_option linter.unusedVariables false
set_option linter.unusedSimpArgs false
theorem rd_built (w : World) (T : TypeId) (l : List Value) (h0 : 0 < l.length) (hm : l.length ≤ 1000) : Rd (w.alloc (.cells l.toArray T)) (.slice (some ⟨w.heap.size, 0, none⟩) l.length l.length) l :=
  .inr ⟨w.heap.size, 0, l.length, rfl, h0, Nat.le_refl _, by simp only [maxLen]; omega, by simp, fun i hi => by
    rw [Nat.zero_add]
    simp only [World.cell?, blk_new]
    simp⟩
set_option maxRecDepth 100000 in
set_option maxHeartbeats 4000000 in
theorem known8_c (w : World) : Calls Try.prog 5 #[] w (fun e w' => e = .returned (.bool true) ∧ Fr w w' (fun _ => False)) := by
  obtain ⟨H, T, hH, hT, okH, okT, o1, o2⟩ : ∃ H T, makeH ⟨0, 2, 3, false⟩ = H ∧ makeH ⟨1, 0, 1, false⟩ = T ∧ okW H ∧ okW T ∧ objs [H, 0, 0, T] = some [0, 3] ∧ objs [H, 0] = none :=
    ⟨402653446, 134217750, by decide +kernel, by decide +kernel, by unfold okW; omega, by unfold okW; omega, by decide +kernel, by decide +kernel⟩
  have HH := Lib.hid hH
  have HT := Lib.hid hT
  have HO1 := Lib.hid o1
  have HO2 := Lib.hid o2
  have R4 : Hid (∀ w : World, Rd (w.alloc (.cells #[.int .u64 H, .int .u64 0, .int .u64 0, .int .u64 T] 29)) (.slice (some ⟨w.heap.size, 0, none⟩) 4 4) (uw [H, 0, 0, T])) := Lib.hid (fun w => rd_built w 29 (uw [H, 0, 0, T]) (by simp [uw, iw]) (by simp [uw, iw]))
  have R2 : Hid (∀ w : World, Rd (w.alloc (.cells #[.int .u64 H, .int .u64 0] 29)) (.slice (some ⟨w.heap.size, 0, none⟩) 2 2) (uw [H, 0])) := Lib.hid (fun w => rd_built w 29 (uw [H, 0]) (by simp [uw, iw]) (by simp [uw, iw]))
  have RI : Hid (∀ w : World, Rd (w.alloc (.cells #[.int .i64 0, .int .i64 3] 3)) (.slice (some ⟨w.heap.size, 0, none⟩) 2 2) (iw [0, 3])) := Lib.hid (fun w => rd_built w 3 (iw [0, 3]) (by simp [uw, iw]) (by simp [uw, iw]))
  have K4 : Hid (okWs [H, 0, 0, T]) := Lib.hid (fun x hx => by simp at hx; rcases hx with rfl | rfl | rfl <;> first | assumption | (unfold okW; omega))
  have K2 : Hid (okWs [H, 0]) := Lib.hid (fun x hx => by simp at hx; rcases hx with rfl | rfl <;> first | assumption | (unfold okW; omega))
  clear hH hT okH okT o1 o2
  go_enter Try.func5, Try.ntmps5
  go_upto_region 5 with (first
    | (go_at_call 16; (with_reducible refine (awake8_c _).mono ?_); rintro e w1 ⟨rfl, hf1⟩; have HF1 := Lib.hid hf1; clear hf1)
    | (go_at_call 17; (with_reducible refine (new_c _ _).mono ?_); rintro e w2 ⟨rfl, ha2, hf2⟩; rw [newSize_of (by omega) (by omega)] at ha2; have HA2 := Lib.hid ha2; have HF2 := Lib.hid (HF1.out.trans hf2); clear ha2 hf2)
    | (go_at_call 19; (with_reducible refine (take_i _ _ [] 4 3 _ HA2.out (by omega) (by simp only [List.length_nil]; omega)).mono ?_); rintro e w3 ⟨rfl, v3, ha3, hf3, hn3⟩))
  have hf03 : Fr w w3 (fun _ => False) := HF2.out.then_ hf3 (fun i hi hlt => hi.elim (fun e => by have := HF1.out.size; omega) (fun e => by simp [InBlk, Value.ownBlock] at e))
  have e3 : ([] : List Int) ++ List.replicate (3 : Int).toNat 0 = [0, 0, 0] := rfl
  rw [e3] at ha3
  have HA3 := Lib.hid ha3
  have HF3 := Lib.hid hf03
  clear ha3 hf3 hn3 hf03 HA2 HF2 e3
  have Z0 : Hid ((0 : Int) ≤ 0) := Lib.hid (Int.le_refl 0)
  have L4 : Hid ((([H, 0, 0, T] : List Int).length : Int) + 0 ≤ 1048576) := Lib.hid (by simp only [List.length_cons, List.length_nil]; omega)
  have L2 : Hid ((([H, 0] : List Int).length : Int) + 0 ≤ 1048576) := Lib.hid (by simp only [List.length_cons, List.length_nil]; omega)
  go_wp2_with (first
    | (go_at_call 23; (with_reducible refine (get_no _ _ [0, 0, 0] 4 3 _ HA3.out rfl).mono ?_); rintro e w4 ⟨rfl, rfl⟩)
    | (go_at_call 32; (with_reducible refine (Wd.rmake_c 0 2 3 false H _ HH.out).mono ?_); rintro e w5 ⟨rfl, hb⟩; have HF5 := Lib.hid (HF3.out.trans (Fr.of_below hb _)); clear hb)
    | (go_at_call 32; (with_reducible refine (Wd.rmake_c 1 0 1 false T _ HT.out).mono ?_); rintro e w6 ⟨rfl, hb⟩; have HF6 := Lib.hid (HF5.out.trans (Fr.of_below hb _)); clear hb)
    | (go_at_call 31; (with_reducible refine (fill_c _ [H, 0, 0, T] 0 _ (R4.out _) K4.out Z0.out L4.out).mono ?_); rintro e w7 ⟨p7, v7, rfl, hn⟩; have HA7 := Lib.hid hn.1; have HF7 := Lib.hid ((HF6.out.alloc _).trans hn.2.1); clear hn)
    | (go_at_call 33; (with_reducible refine (objects_c p7 v7 [H, 0, 0, T] _ _ HA7.out).mono ?_); rintro e w8 ⟨u8, rfl, hn⟩; rw [HO1.out] at hn ⊢; have HN8 := Lib.hid hn.1; have HF8 := Lib.hid (HF7.out.trans hn.2.1); clear hn HA7)
    | (go_at_call 31; (with_reducible refine (fill_c _ [H, 0] 0 _ (R2.out _) K2.out Z0.out L2.out).mono ?_); rintro e w9 ⟨p9, v9, rfl, hn⟩; have HA9 := Lib.hid hn.1; have HN9 := Lib.hid ((HN8.out.keep ((Fr.refl _ (fun _ => False)).alloc _) (fun _ _ h => h)).keep hn.2.1 (fun _ _ h => h)); have HF9 := Lib.hid ((HF8.out.alloc _).trans hn.2.1); clear hn)
    | (go_at_call 33; (with_reducible refine (objects_c p9 v9 [H, 0] _ _ HA9.out).mono ?_); rintro e w10 ⟨u10, rfl, hn⟩; rw [HO2.out] at hn ⊢; have HN10 := Lib.hid (HN9.out.keep hn.2.1 (fun _ _ h => h)); have HF10 := Lib.hid (HF9.out.trans hn.2.1); clear hn)
    | (go_at_call 34; (with_reducible refine (ints_c _ _ [0, 3] [0, 3] _ (HN10.out.rd.keep ((Fr.refl _ (fun _ => False)).alloc _) (fun _ _ h => h)) (RI.out _) (by simp only [List.length_cons, List.length_nil]; omega)).mono ?_); rintro e w11 ⟨rfl, hd⟩; have HF11 := Lib.hid ((HF10.out.alloc _).trans (hd.fr _)); clear hd)
    | (go_at_call 17; (with_reducible refine (new_c _ _).mono ?_); rintro e w12 ⟨rfl, ha, hf⟩; have HA12 := Lib.hid ha; have HF12 := Lib.hid (HF11.out.trans hf); clear ha hf)
    | (go_at_call 28; (with_reducible refine (size_c _ _ _ _ _ HA12.out).mono ?_); rintro e w13 ⟨rfl, rfl⟩))
  go_ret
  exact ⟨by simp [newSize], HF12.out⟩
end Go.Proofs.Ytjiaaefpepdoeaa
