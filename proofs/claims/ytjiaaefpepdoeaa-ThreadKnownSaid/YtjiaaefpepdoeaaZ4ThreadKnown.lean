/-
  TEXTS JOINED FOR A CLAIM (ThreadKnown): Known13. What each proves, and under which conditions, stands at its head. Conditions: none beyond those.
-/
import Derived.Test.YtjiaaefpepdoeaaZ3ThreadKnown
import Derived.Test.YtjiaaefpepdoeaaZ1ThreadKnown
import Derived.Test.YtjiaaefpepdoeaaZ0ThreadKnown
import Derived.Test.YtjiaaefpepdoeaaZ2ThreadKnown
/-
  WALK: ThreadKnown. Conditions: none.
-/
namespace Go.Proofs.Ytjiaaefpepdoeaa
open Go.RowKit Md
set_option linter.unusedVariables false
set_option maxRecDepth 100000 in
set_option maxHeartbeats 4000000 in
theorem known13_c (w : World) : Calls Try.prog 9 #[] w fun e w' => e = .returned (.bool true) ∧ Fr w w' (fun _ => False) := by
  obtain ⟨H, hH, okH, hT0, hT1, hT2, hC, hl1, hl2, hl3, hl4, hP, hP5, hP0⟩ : ∃ H, makeH ⟨1, 0, 1, false⟩ = H ∧ okW H ∧ threadM [H] [5, 5, 0] ⟨true, 0⟩ = some ([23], [H, 5, 0]) ∧ threadM [23] [H, 5, 0] ⟨true, 1⟩ = some ([55], [H, 23, 0]) ∧ threadM [55] [H, 23, 0] ⟨true, 2⟩ = none ∧ chainA [55] [H, 23, 0] 0 = some [⟨true, 1⟩, ⟨true, 0⟩] ∧
      (looseM 4 [55] [H, 23, 0] 0 5).n = 2 ∧ (looseM 4 [55] [H, 23, 0] 0 5).ok = true ∧ (looseM 4 [55] [H, 23, 0] 0 5).ws = [H] ∧ (looseM 4 [55] [H, 23, 0] 0 5).rs = [85, 85, 0] ∧ ofW 5 0 = 5 ∧ ofW 5 5 = 85 ∧ ofW 0 0 = 0 :=
    ⟨134217750, by decide +kernel, by unfold okW; omega, by decide +kernel, by decide +kernel, by decide +kernel, by decide +kernel, by decide +kernel, by decide +kernel, by decide +kernel, by decide +kernel, by decide +kernel, by decide +kernel, by decide +kernel⟩
  obtain ⟨Q, hQ⟩ : ∃ Q, looseM 4 [55] [H, 23, 0] 0 5 = Q := ⟨_, rfl⟩
  rw [hQ] at hl1 hl2 hl3 hl4
  have HH := Lib.hid hH
  have HT0 := Lib.hid hT0
  have HT1 := Lib.hid hT1
  have HT2 := Lib.hid hT2
  have HC := Lib.hid hC
  have HQ := Lib.hid hQ
  have HL1 := Lib.hid hl1
  have HL2 := Lib.hid hl2
  have HL3 := Lib.hid hl3
  have HL4 := Lib.hid hl4
  have HP := Lib.hid hP
  have HP5 := Lib.hid hP5
  have HP0 := Lib.hid hP0
  have R1 : Hid (∀ w : World, Rd (w.alloc (.cells #[.int .u64 H] 29)) (.slice (some ⟨w.heap.size, 0, none⟩) 1 1) (uw [H])) := Lib.hid (fun w => rd_built w 29 (uw [H]) (by simp [uw]) (by simp [uw]))
  have K1 : Hid (okWs [H]) := Lib.hid (fun x hx => by simp at hx; subst hx; exact okH)
  have K5 : Hid (okWs [5, 5, 0]) := Lib.hid (fun x hx => by simp at hx; rcases hx with rfl | rfl <;> (unfold okW; omega))
  have Z0 : Hid ((0 : Int) ≤ 0) := Lib.hid (Int.le_refl 0)
  have L1 : Hid ((([H] : List Int).length : Int) + 0 ≤ 1048576) := Lib.hid (by simp only [List.length_cons, List.length_nil]; omega)
  clear hH okH hT0 hT1 hT2 hC hl1 hl2 hl3 hl4 hP hP5 hP0 hQ
  go_enter Try.func9, Try.ntmps9
  have tok1 : True := trivial
  go_upto_region 6 with (first
    | (go_at_call 37; (with_reducible refine (awake13_c _).mono ?_); rintro e w0 ⟨rfl, hf⟩; have HF0 := Lib.hid hf; clear hf)
    | (go_at_call 32; (with_reducible refine (Wd.rmake_c 1 0 1 false H _ HH.out).mono ?_); rintro e w1 ⟨rfl, hb⟩; have HF1 := Lib.hid (HF0.out.trans (Fr.of_below hb (fun _ => False))); clear hb)
    | (go_at_call 31; (with_reducible refine (fill_c _ [H] 0 _ (R1.out _) K1.out Z0.out L1.out).mono ?_); rintro e w2 ⟨p, v2, rfl, hn⟩; have HA2 := Lib.hid hn.1; have HF2 := Lib.hid ((HF1.out.alloc _).trans hn.2.1); have HNV : Hid (∀ k, InBlk v2 k → w.heap.size ≤ k) := Lib.hid (fun k hk => Nat.le_trans (HF1.out.alloc _).size (hn.2.2.2 k hk)); clear hn)
    | (go_at_call 46; have _t := tok1; (with_reducible refine (Wd.rof_c 5 0 5 _ HP.out).mono ?_); rintro e w3 ⟨rfl, n3a, rfl⟩; clear tok1)
    | (go_at_call 46; (with_reducible refine (Wd.rof_c 5 0 5 _ HP.out).mono ?_); rintro e w3 ⟨rfl, n3, rfl⟩)
    | (go_at_call 46; (with_reducible refine (Wd.rof_c 0 0 0 _ HP0.out).mono ?_); rintro e w3 ⟨rfl, n5, rfl⟩))
  obtain ⟨W4, hW4⟩ : ∃ W4, (w2.drewN (n3a + n3 + n5)).alloc (.cells #[.int .u64 5, .int .u64 5, .int .u64 0] 29) = W4 := ⟨_, rfl⟩
  have hta := TA.built (HA2.out.drewN (n3a + n3 + n5)) K5.out (by decide)
  have hf4 := (HF2.out.drewN (n3a + n3 + n5)).alloc (.cells #[.int .u64 5, .int .u64 5, .int .u64 0] 29)
  obtain ⟨g, hg⟩ : ∃ g, w2.heap.size = g := ⟨_, rfl⟩
  have hg0 : w.heap.size ≤ g := by rw [← hg]; exact HF2.out.size
  have hta2 : TA 101 W4 p v2 [H] (([H] : List Int).length + 0) (.slice (some ⟨g, 0, none⟩) 3 3) [5, 5, 0] := by rw [← hW4, ← hg]; exact hta
  rw [hW4] at hf4 ⊢
  rw [hg]
  have H4 := Lib.hid hta2
  have HF4 := Lib.hid hf4
  have HG := Lib.hid hg0
  clear hta hf4 hW4 hg hta2 hg0
  go_upto_region 12 with (first
    | (go_at_call 44; (with_reducible refine (thread_yes p v2 _ [H] [5, 5, 0] [23] [H, 5, 0] _ 0 true _ H4.out HT0.out).mono ?_); rintro e w5 ⟨rfl, ht5, hf5⟩; have H5 := Lib.hid ht5; have HF5 := Lib.hid hf5; clear ht5 hf5)
    | (go_at_call 44; (with_reducible refine (thread_yes p v2 _ [23] [H, 5, 0] [55] [H, 23, 0] _ 1 true _ H5.out HT1.out).mono ?_); rintro e w6 ⟨rfl, ht6, hf6⟩; have H6 := Lib.hid ht6; have HF6 := Lib.hid (HF5.out.trans hf6); clear ht6 hf6)
    | (go_at_call 44; (with_reducible refine (thread_no p v2 _ [55] [H, 23, 0] _ 2 true _ H6.out HT2.out).mono ?_); rintro e w7 ⟨rfl, hf7⟩; have H7 := Lib.hid (H6.out.fr hf7); have HF7 := Lib.hid (HF6.out.trans (hf7.mono (fun _ h _ => h.elim))); clear hf7)
    | (go_at_call 47; (with_reducible refine (chain_c p v2 _ [55] [H, 23, 0] _ 0 _ H7.out).mono ?_); rintro e w8 hca; rw [HC.out] at hca; obtain ⟨u, rfl, ho, hf8⟩ := hca; have HO8 := Lib.hid ho; have H8 := Lib.hid (H7.out.fr hf8); have HF8 := Lib.hid (HF7.out.trans (hf8.mono (fun _ h _ => h.elim))); clear ho hf8)
    | (go_at_call 45; (with_reducible refine (loose_c p v2 _ [55] [H, 23, 0] _ 0 5 _ H8.out).mono ?_); rintro e w9 hla; obtain ⟨he, ht9, hf9⟩ := (show LA 101 w8 w9 p v2 _ _ Q e by rw [← HQ.out]; exact hla); rw [HL1.out, HL2.out] at he; rw [HL3.out, HL4.out] at ht9; subst he; have H9 := Lib.hid ht9; have HF9 := Lib.hid (HF8.out.trans hf9); have HO9 := Lib.hid (HO8.out.keep hf9 (fun i hi e => e.elim (HO8.out.apart H8.out.ar.own (by decide) i hi) (HO8.out.apart H8.out.own (by decide) i hi))); clear ht9 hf9 hla)
    | (go_at_call 23; (with_reducible refine (get_c p v2 [H] _ 0 H _ H9.out.ar rfl).mono ?_); rintro e w10 ⟨rfl, rfl⟩))
  obtain ⟨Au, cu, rfl⟩ := HO9.out.len
  have e2 : ((some [(⟨true, 1⟩ : Fld), ⟨true, 0⟩]).getD []).length = 2 := rfl
  rw [e2] at HO9 ⊢
  obtain ⟨gu, rfl, _, hcu⟩ := HO9.out.cellAt (by decide)
  have u1 := (hcu 0 (by decide)).2
  have r0 := TA.root (rs := [85, 85, 0]) (g := g) (cap := 3) H9.out 0 (by decide)
  have r1 := TA.root (rs := [85, 85, 0]) (g := g) (cap := 3) H9.out 1 (by decide)
  have u1b : w9.cell? ⟨gu, 1, none⟩ = some (.int .i64 1) := u1
  have r0b : w9.cell? ⟨g, 0, none⟩ = some (.int .u64 85) := r0
  have r1b : w9.cell? ⟨g, 1, none⟩ = some (.int .u64 85) := r1
  have HH2 : (H == H) = true := by simp
  clear u1 r0 r1 hcu
  refine wp_region_cls (S := fun w' => Fr w9 w' (fun _ => False)) (by kernel_rfl) (by kernel_rfl) ((Fr.refl w9 _).drew) (fun ne => ?_)
  generalize hS : (fun w' : World => Fr w9 w' (fun _ => False)) = S
  replace ne : Nonempty (Cw S) := by subst hS; exact ne
  have f0 : ∀ x : Cw S, x.val.cell? ⟨gu, 1, none⟩ = some (.int .i64 1) := by subst hS; exact fun x => x.prop.cell u1b (fun h => h)
  have f1 : ∀ x : Cw S, x.val.cell? ⟨g, 0, none⟩ = some (.int .u64 85) := by subst hS; exact fun x => x.prop.cell r0b (fun h => h)
  have f2 : ∀ x : Cw S, x.val.cell? ⟨g, 1, none⟩ = some (.int .u64 85) := by subst hS; exact fun x => x.prop.cell r1b (fun h => h)
  have HX : Hid (∀ w', S w' → Fr w9 w' (fun _ => False)) := Lib.hid (by subst hS; exact fun w' h => h)
  have HK2 : Hid (∀ w1 w2 : World, S w1 → (∃ n, w2 = w1.drewN n) → S w2) := Lib.hid (by subst hS; exact fun w1 w2 h hb => by obtain ⟨n, rfl⟩ := hb; exact h.drewN n)
  clear hS
  repeat (any_goals (first | go_big_quiet_step ((go_at_call 46; exact Cw.call (Wd.rof_c 5 5 85 _ HP5.out) (fun w' h => HK2.out _ _ (Cw.prop _) h.out))) | quiet_step ((go_at_call 46; exact Cw.call (Wd.rof_c 5 5 85 _ HP5.out) (fun w' h => HK2.out _ _ (Cw.prop _) h.out)))))
  refine wpQuiet_nil ?_
  intro w11 hw11
  obtain ⟨⟨w11, hS11⟩, rfl⟩ := hw11
  have h11 := HX.out _ hS11
  go_wp2
  go_ret
  refine ⟨by first | rfl | (simp; done), HF4.out.then_ (HF9.out.trans (h11.mono (fun _ h _ => h.elim))) (fun i hi hlt => ?_)⟩
  rcases hi with hi | hi
  · have := HNV.out i hi; omega
  · simp [InBlk, Value.ownBlock] at hi; have := HG.out; omega
end Go.Proofs.Ytjiaaefpepdoeaa
