/-
  TEXTS JOINED FOR A CLAIM (MarkTerms): Mt Opn Otr RowMt. Conditions: none beyond those that each theorem states.
-/
import Derived.Test.YtjiaaefpepdoeaaDoorZ36MarkTerms
import Derived.Test.YtjiaaefpepdoeaaDoorZ30MarkTerms
import Derived.Test.YtjiaaefpepdoeaaDoorChecked
import Derived.WalkKit
import Derived.ProofKit
import Derived.OpenShut
import Derived.ChangeSlices
import Derived.ChangeOld
import Derived.Test.YtjiaaefpepdoeaaDoorZ32MarkTerms
import Derived.ChangeArms
import Derived.Deep.Slices
import Derived.Test.YtjiaaefpepdoeaaDoorRows
import Derived.Test.YtjiaaefpepdoeaaDoorTie
import Derived.Test.YtjiaaefpepdoeaaDoorCards
import Derived.PinnedBridge
import Derived.Lib.LaidIn
import Derived.Lib.LaidU8T
import Derived.LaidMore
import Derived.Lay
import Derived.SevenTiedAt
import Derived.Stop.Joined
import Derived.Below
namespace Go.Proofs.YtjiaaefpepdoeaaDoor
open Go.RowKit Md Go.Proofs.YtjiaaefpepdoeaaDoorW.PrintWords
open Go.Proofs.YtjiaaefpepdoeaaDoor.PSlideMeans (S26 z26 k26)
set_option linter.unusedVariables false
def T4 (l : Array Bool) : Bool := l.getD 1 false && (l.getD 5 false && (l.getD 10 false && l.getD 12 false))
theorem T4_set {i : Nat} (h1 : i ≠ 1) (h5 : i ≠ 5) (h10 : i ≠ 10) (h12 : i ≠ 12) (l : Array Bool) : T4 (l.setIfInBounds i true) = T4 l := by
 have key : ∀ j, i ≠ j → (l.setIfInBounds i true).getD j false = l.getD j false := fun j hj => by
  simp only [Array.getD_eq_getD_getElem?, Array.getElem?_setIfInBounds_ne hj]
 unfold T4
 rw [key 1 h1, key 5 h5, key 10 h10, key 12 h12]
theorem T4_1 (l : Array Bool) (h : T4 l = true) : l.getD 1 true = true := by
 unfold T4 at h; simp only [Bool.and_eq_true] at h; exact getD_ft2 h.1
theorem T4_5 (l : Array Bool) (h : T4 l = true) : l.getD 5 true = true := by
 unfold T4 at h; simp only [Bool.and_eq_true] at h; exact getD_ft2 h.2.1
theorem T4_10 (l : Array Bool) (h : T4 l = true) : l.getD 10 true = true := by
 unfold T4 at h; simp only [Bool.and_eq_true] at h; exact getD_ft2 h.2.2.1
theorem T4_12 (l : Array Bool) (h : T4 l = true) : l.getD 12 true = true := by
 unfold T4 at h; simp only [Bool.and_eq_true] at h; exact getD_ft2 h.2.2.2
theorem rd_two {W : World} {g : Nat} {x y : Int} (hb : W.heap[g]? = some (.cells #[.int .u64 x, .int .u64 y] 39 (0, 0))) : Rd W (.slice (some ⟨g, 0, none⟩) 2 2) (uw [x, y]) := .inr ⟨g, 0, 2, rfl, by simp [uw], by simp [uw], by decide, (Array.getElem?_eq_some_iff.1 hb).1, fun i hi => by
 have : i = 0 ∨ i = 1 := by simp [uw] at hi; omega
 rcases this with rfl | rfl
 ·simp [World.cell?, hb]; rfl
 ·simp [World.cell?, hb]; rfl⟩
set_option maxRecDepth 100000 in
set_option maxHeartbeats 16000000 in
theorem mark_s (d : Nat) (x y : S26) (A2 A5 A6 C2 C5 C6 : Option Addr) (a2 a5 a6 c2 c5 c6 : Nat) (w : World) (hx : TR d w x [.int .i64 x.f0, .bool x.f1, .slice A2 x.f2.length a2, .string x.f3, .int .i64 x.f4, .slice A5 x.f5.length a5, .slice A6 x.f6.length a6]) (hy : TR d w y [.int .i64 y.f0, .bool y.f1, .slice C2 y.f2.length c2, .string y.f3, .int .i64 y.f4, .slice C5 y.f5.length c5, .slice C6 y.f6.length c6]) (hT : Tabs w) :
  Calls Tryd.prog 3 #[.agg #[.int .i64 x.f0, .bool x.f1, .slice A2 x.f2.length a2, .string x.f3, .int .i64 x.f4, .slice A5 x.f5.length a5, .slice A6 x.f6.length a6], .agg #[.int .i64 y.f0, .bool y.f1, .slice C2 y.f2.length c2, .string y.f3, .int .i64 y.f4, .slice C5 y.f5.length c5, .slice C6 y.f6.length c6]] w fun e w' => e = .returned (.bool true) ∧ Fr w w' (fun _ => False) := by
 have hb1 : (w.alloc (.cells #[.int .i64 x.f0, .bool x.f1, .slice A2 x.f2.length a2, .string x.f3, .int .i64 x.f4, .slice A5 x.f5.length a5, .slice A6 x.f6.length a6] 26)).heap[w.heap.size]? = some (.cells #[.int .i64 x.f0, .bool x.f1, .slice A2 x.f2.length a2, .string x.f3, .int .i64 x.f4, .slice A5 x.f5.length a5, .slice A6 x.f6.length a6] 26 (0, 0)) := blk_new _ _ _
 obtain ⟨D1, hD1⟩ : ∃ D, w.heap.size = D := ⟨_, rfl⟩
 obtain ⟨w1, hw1⟩ : ∃ w1, w.alloc (.cells #[.int .i64 x.f0, .bool x.f1, .slice A2 x.f2.length a2, .string x.f3, .int .i64 x.f4, .slice A5 x.f5.length a5, .slice A6 x.f6.length a6] 26) = w1 := ⟨_, rfl⟩
 have hf1 : Fr w w1 (fun _ => False) := by rw [← hw1]; exact (Fr.refl w _).alloc _
 have hb2 : (w1.alloc (.cells #[.int .i64 y.f0, .bool y.f1, .slice C2 y.f2.length c2, .string y.f3, .int .i64 y.f4, .slice C5 y.f5.length c5, .slice C6 y.f6.length c6] 26)).heap[w1.heap.size]? = some (.cells #[.int .i64 y.f0, .bool y.f1, .slice C2 y.f2.length c2, .string y.f3, .int .i64 y.f4, .slice C5 y.f5.length c5, .slice C6 y.f6.length c6] 26 (0, 0)) := blk_new _ _ _
 obtain ⟨D2, hD2⟩ : ∃ D, w1.heap.size = D := ⟨_, rfl⟩
 obtain ⟨w2, hw2⟩ : ∃ w2, w1.alloc (.cells #[.int .i64 y.f0, .bool y.f1, .slice C2 y.f2.length c2, .string y.f3, .int .i64 y.f4, .slice C5 y.f5.length c5, .slice C6 y.f6.length c6] 26) = w2 := ⟨_, rfl⟩
 have hf2 : Fr w w2 (fun _ => False) := by rw [← hw2]; exact hf1.alloc _
 have hb1' : w2.heap[D1]? = some (.cells #[.int .i64 x.f0, .bool x.f1, .slice A2 x.f2.length a2, .string x.f3, .int .i64 x.f4, .slice A5 x.f5.length a5, .slice A6 x.f6.length a6] 26 (0, 0)) := by
  rw [← hw2, ← hD1]; exact ((Fr.refl w1 (fun _ => False)).alloc _).blk (by rw [← hw1]; exact hb1) (fun h => h)
 rw [hw2, hD2] at hb2
 have HX := Lib.hid hx
 have HY := Lib.hid hy
 have HT := Lib.hid hT
 have HF2 := Lib.hid hf2
 have HK1 := Lib.hid hb1'
 have HK2 := Lib.hid hb2
 clear hb1 hb1' hb2 hf1 hf2 hx hy hT
 go_enter Tryd.func3, Tryd.ntmps3
 go_upto_region 1 with (fail)
 (try simp only [hw1, hD1])
 (try simp only [hw2, hD2])
 clear hw1 hw2 hD1 hD2
 go_upto_region 3 with (first
  | (go_at_call 5; (with_reducible refine (awake12_c _).mono ?_); rintro e w3 ⟨rfl, hf⟩; have HF3 := Lib.hid (HF2.out.trans hf); have HX3 := Lib.hid (hf.blk HK1.out (fun h => h)); have HY3 := Lib.hid (hf.blk HK2.out (fun h => h)); clear hf))
 clear HF2 HK1 HK2
 have k0 : w3.cell? ⟨D1, 0, none⟩ = some (.int .i64 x.f0) := by simp [World.cell?, HX3.out]
 have k1 : w3.cell? ⟨D1, 1, none⟩ = some (.bool x.f1) := by simp [World.cell?, HX3.out]
 have k2 : w3.cell? ⟨D1, 2, none⟩ = some (.slice A2 x.f2.length a2) := by simp [World.cell?, HX3.out]
 have k3 : w3.cell? ⟨D1, 3, none⟩ = some (.string x.f3) := by simp [World.cell?, HX3.out]
 have k4 : w3.cell? ⟨D1, 4, none⟩ = some (.int .i64 x.f4) := by simp [World.cell?, HX3.out]
 have k5 : w3.cell? ⟨D1, 5, none⟩ = some (.slice A5 x.f5.length a5) := by simp [World.cell?, HX3.out]
 have k6 : w3.cell? ⟨D1, 6, none⟩ = some (.slice A6 x.f6.length a6) := by simp [World.cell?, HX3.out]
 have g0 : w3.cell? ⟨D2, 0, none⟩ = some (.int .i64 y.f0) := by simp [World.cell?, HY3.out]
 have g1 : w3.cell? ⟨D2, 1, none⟩ = some (.bool y.f1) := by simp [World.cell?, HY3.out]
 have g2 : w3.cell? ⟨D2, 2, none⟩ = some (.slice C2 y.f2.length c2) := by simp [World.cell?, HY3.out]
 have g3 : w3.cell? ⟨D2, 3, none⟩ = some (.string y.f3) := by simp [World.cell?, HY3.out]
 have g4 : w3.cell? ⟨D2, 4, none⟩ = some (.int .i64 y.f4) := by simp [World.cell?, HY3.out]
 have g5 : w3.cell? ⟨D2, 5, none⟩ = some (.slice C5 y.f5.length c5) := by simp [World.cell?, HY3.out]
 have g6 : w3.cell? ⟨D2, 6, none⟩ = some (.slice C6 y.f6.length c6) := by simp [World.cell?, HY3.out]
 have HMX : Hid (∀ W, Fr w W (fun _ => False) → Calls Tryd.prog 6 #[.agg #[.int .i64 x.f0, .bool x.f1, .slice A2 x.f2.length a2, .string x.f3, .int .i64 x.f4, .slice A5 x.f5.length a5, .slice A6 x.f6.length a6]] W fun e w' => (∃ r, e = .returned (.bool r) ∧ (r = true → MayP d x ∧ trT x ≤ 65536)) ∧ Fr W w' (fun _ => False)) := Lib.hid (fun W h => mayt_c d x A2 A5 A6 a2 a5 a6 W (HT.out.below h.below) (HX.out.fr h))
 have HMY : Hid (∀ W, Fr w W (fun _ => False) → Calls Tryd.prog 6 #[.agg #[.int .i64 y.f0, .bool y.f1, .slice C2 y.f2.length c2, .string y.f3, .int .i64 y.f4, .slice C5 y.f5.length c5, .slice C6 y.f6.length c6]] W fun e w' => (∃ r, e = .returned (.bool r) ∧ (r = true → MayP d y ∧ trT y ≤ 65536)) ∧ Fr W w' (fun _ => False)) := Lib.hid (fun W h => mayt_c d y C2 C5 C6 c2 c5 c6 W (HT.out.below h.below) (HY.out.fr h))
 obtain ⟨tx, htx⟩ : ∃ tx, twM d x = tx := ⟨_, rfl⟩
 obtain ⟨ty, hty⟩ : ∃ ty, twM d y = ty := ⟨_, rfl⟩
 have HTX := Lib.hid htx
 have HTY := Lib.hid hty
 have htx0 : 0 ≤ tx := by rw [← htx]; exact twM_nn _ _
 have hty0 : 0 ≤ ty := by rw [← hty]; exact twM_nn _ _
 have HWX : Hid (∀ W, Fr w W (fun _ => False) → MayP d x ∧ trT x ≤ 65536 → Calls Tryd.prog 7 #[.agg #[.int .i64 x.f0, .bool x.f1, .slice A2 x.f2.length a2, .string x.f3, .int .i64 x.f4, .slice A5 x.f5.length a5, .slice A6 x.f6.length a6]] W fun e w' => (e = .returned (.int .i64 tx) ∧ tx ≤ 4456448) ∧ Fr W w' (fun _ => False)) := Lib.hid (fun W h hm => by
  have hb := twM_bd hm.1 HX.out.dp hm.2
  rw [HTX.out] at hb
  exact (wdsT_c d x A2 A5 A6 a2 a5 a6 W (HX.out.fr h) hm.1 (by rw [HTX.out]; omega)).mono fun e w' hh => ⟨⟨by rw [hh.1, HTX.out], by omega⟩, hh.2⟩)
 have HWY : Hid (∀ W, Fr w W (fun _ => False) → MayP d y ∧ trT y ≤ 65536 → Calls Tryd.prog 7 #[.agg #[.int .i64 y.f0, .bool y.f1, .slice C2 y.f2.length c2, .string y.f3, .int .i64 y.f4, .slice C5 y.f5.length c5, .slice C6 y.f6.length c6]] W fun e w' => (e = .returned (.int .i64 ty) ∧ ty ≤ 4456448) ∧ Fr W w' (fun _ => False)) := Lib.hid (fun W h hm => by
  have hb := twM_bd hm.1 HY.out.dp hm.2
  rw [HTY.out] at hb
  exact (wdsT_c d y C2 C5 C6 c2 c5 c6 W (HY.out.fr h) hm.1 (by rw [HTY.out]; omega)).mono fun e w' hh => ⟨⟨by rw [hh.1, HTY.out], by omega⟩, hh.2⟩)
 clear htx hty
 go_cut [30] (fun a30 wx => ∃ bb : Bool, a30 = .bool bb ∧ Hid (bb = false → (MayP d x ∧ trT x ≤ 65536) ∧ (MayP d y ∧ trT y ≤ 65536) ∧ tx + ty ≤ 2000) ∧ Hid (Fr w3 wx (fun _ => False)))
 case first =>
  have HFd := Lib.hid ((Fr.refl w3 (fun _ => False)).drew)
  refine wp_region_till (S := fun w' => w'.cell? ⟨D1, 0, none⟩ = some (.int .i64 x.f0) ∧ w'.cell? ⟨D1, 1, none⟩ = some (.bool x.f1) ∧ w'.cell? ⟨D1, 2, none⟩ = some (.slice A2 x.f2.length a2) ∧ w'.cell? ⟨D1, 3, none⟩ = some (.string x.f3) ∧ w'.cell? ⟨D1, 4, none⟩ = some (.int .i64 x.f4) ∧ w'.cell? ⟨D1, 5, none⟩ = some (.slice A5 x.f5.length a5) ∧ w'.cell? ⟨D1, 6, none⟩ = some (.slice A6 x.f6.length a6) ∧ w'.cell? ⟨D2, 0, none⟩ = some (.int .i64 y.f0) ∧ w'.cell? ⟨D2, 1, none⟩ = some (.bool y.f1) ∧ w'.cell? ⟨D2, 2, none⟩ = some (.slice C2 y.f2.length c2) ∧ w'.cell? ⟨D2, 3, none⟩ = some (.string y.f3) ∧ w'.cell? ⟨D2, 4, none⟩ = some (.int .i64 y.f4) ∧ w'.cell? ⟨D2, 5, none⟩ = some (.slice C5 y.f5.length c5) ∧ w'.cell? ⟨D2, 6, none⟩ = some (.slice C6 y.f6.length c6)) (T := T4) (by kernel_rfl) ?_
  have hS := And.intro k0 (And.intro k1 (And.intro k2 (And.intro k3 (And.intro k4 (And.intro k5 (And.intro k6 (And.intro g0 (And.intro g1 (And.intro g2 (And.intro g3 (And.intro g4 (And.intro g5 (g6)))))))))))))
  obtain ⟨w4, hw4⟩ : ∃ w4, w3.drew = w4 := ⟨_, rfl⟩
  replace hS : (fun w' => w'.cell? ⟨D1, 0, none⟩ = some (.int .i64 x.f0) ∧ w'.cell? ⟨D1, 1, none⟩ = some (.bool x.f1) ∧ w'.cell? ⟨D1, 2, none⟩ = some (.slice A2 x.f2.length a2) ∧ w'.cell? ⟨D1, 3, none⟩ = some (.string x.f3) ∧ w'.cell? ⟨D1, 4, none⟩ = some (.int .i64 x.f4) ∧ w'.cell? ⟨D1, 5, none⟩ = some (.slice A5 x.f5.length a5) ∧ w'.cell? ⟨D1, 6, none⟩ = some (.slice A6 x.f6.length a6) ∧ w'.cell? ⟨D2, 0, none⟩ = some (.int .i64 y.f0) ∧ w'.cell? ⟨D2, 1, none⟩ = some (.bool y.f1) ∧ w'.cell? ⟨D2, 2, none⟩ = some (.slice C2 y.f2.length c2) ∧ w'.cell? ⟨D2, 3, none⟩ = some (.string y.f3) ∧ w'.cell? ⟨D2, 4, none⟩ = some (.int .i64 y.f4) ∧ w'.cell? ⟨D2, 5, none⟩ = some (.slice C5 y.f5.length c5) ∧ w'.cell? ⟨D2, 6, none⟩ = some (.slice C6 y.f6.length c6)) w4 := by rw [← hw4]; exact hS
  rw [hw4] at HFd ⊢
  clear hw4 k0 k1 k2 k3 k4 k5 k6 g0 g1 g2 g3 g4 g5 g6
  refine wpTill_read 1 (i := 0) (v := .agg #[.int .i64 x.f0, .bool x.f1, .slice A2 x.f2.length a2, .string x.f3, .int .i64 x.f4, .slice A5 x.f5.length a5, .slice A6 x.f6.length a6]) rfl (by kernel_rfl) (by kernel_rfl) (by kernel_rfl) (fun _ _ _ h => h) (T4_set (by decide) (by decide) (by decide) (by decide)) T4_1 (by kernel_rfl) (by kernel_rfl) (Or.inl ⟨by rfl, ?_⟩) hS ?_
  ·intro w hSw; obtain ⟨j0, j1, j2, j3, j4, j5, j6, j7, j8, j9, j10, j11, j12, j13⟩ := hSw; go_simp; try rfl
  (try simp only [Act.put, List.setIfInBounds_toArray, List.set_cons_zero, List.set_cons_succ])
  refine wpTill_all (rs := [1]) (by kernel_rfl) (by simp) ?_
  intro i hi
  simp only [List.mem_cons, List.not_mem_nil, or_false] at hi
  subst hi
  refine wpOp_step rfl (fun K hK => ?_)
  go_simp
  refine (HMX.out _ (HF3.out.trans HFd.out)).mono ?_
  rintro e W1 ⟨⟨r, rfl, hr⟩, hf⟩
  have hS2 := And.intro (hf.cell hS.1 (fun h => h)) (And.intro (hf.cell hS.2.1 (fun h => h)) (And.intro (hf.cell hS.2.2.1 (fun h => h)) (And.intro (hf.cell hS.2.2.2.1 (fun h => h)) (And.intro (hf.cell hS.2.2.2.2.1 (fun h => h)) (And.intro (hf.cell hS.2.2.2.2.2.1 (fun h => h)) (And.intro (hf.cell hS.2.2.2.2.2.2.1 (fun h => h)) (And.intro (hf.cell hS.2.2.2.2.2.2.2.1 (fun h => h)) (And.intro (hf.cell hS.2.2.2.2.2.2.2.2.1 (fun h => h)) (And.intro (hf.cell hS.2.2.2.2.2.2.2.2.2.1 (fun h => h)) (And.intro (hf.cell hS.2.2.2.2.2.2.2.2.2.2.1 (fun h => h)) (And.intro (hf.cell hS.2.2.2.2.2.2.2.2.2.2.2.1 (fun h => h)) (And.intro (hf.cell hS.2.2.2.2.2.2.2.2.2.2.2.2.1 (fun h => h)) (hf.cell hS.2.2.2.2.2.2.2.2.2.2.2.2.2 (fun h => h))))))))))))))
  have HG1 := Lib.hid (HFd.out.trans hf)
  clear hS hf
  have hS := hS2
  clear hS2
  refine hK _ _ ⟨fun _ => hS, ?_⟩
  clear hK K
  (try simp only [Act.put, List.setIfInBounds_toArray, List.set_cons_zero, List.set_cons_succ])
  have HR := Lib.hid hr
  clear hr
  cases r with
  | false =>
   refine wpTill_pure (i := 2) (v := .bool true) rfl (by kernel_rfl) (by kernel_rfl) (by kernel_rfl) (fun _ _ _ h => h) (T4_set (by decide) (by decide) (by decide) (by decide)) (Or.inl ⟨by rfl, ?_⟩) (fun _ => hS) ?_
   ·intro w; go_simp; try rfl
   (try simp only [Act.put, List.setIfInBounds_toArray, List.set_cons_zero, List.set_cons_succ])
   refine wpTill_pure (i := 3) (v := .bool true) rfl (by kernel_rfl) (by kernel_rfl) (by kernel_rfl) (fun _ _ _ h => h) (T4_set (by decide) (by decide) (by decide) (by decide)) (Or.inl ⟨by rfl, ?_⟩) (fun _ => hS) ?_
   ·intro w; go_simp; try rfl
   (try simp only [Act.put, List.setIfInBounds_toArray, List.set_cons_zero, List.set_cons_succ])
   refine wpTill_pure (i := 4) (v := undef) rfl (by kernel_rfl) (by kernel_rfl) (by kernel_rfl) (fun _ _ _ h => h) (T4_set (by decide) (by decide) (by decide) (by decide)) (Or.inr ⟨by rfl, rfl⟩) (fun _ => hS) ?_
   (try simp only [Act.put, List.setIfInBounds_toArray, List.set_cons_zero, List.set_cons_succ])
   refine wpTill_all (rs := [5]) (by kernel_rfl) (by simp) ?_
   intro i hi
   simp only [List.mem_cons, List.not_mem_nil, or_false] at hi
   subst hi
   refine wpOp_step rfl (fun K hK => ?_)
   go_simp
   refine hK _ _ ⟨fun _ => hS, ?_⟩
   clear hK K
   (try simp only [Act.put, List.setIfInBounds_toArray, List.set_cons_zero, List.set_cons_succ])
   refine wpTill_pure (i := 6) (v := undef) rfl (by kernel_rfl) (by kernel_rfl) (by kernel_rfl) (fun _ _ _ h => h) (T4_set (by decide) (by decide) (by decide) (by decide)) (Or.inr ⟨by rfl, rfl⟩) (fun _ => hS) ?_
   (try simp only [Act.put, List.setIfInBounds_toArray, List.set_cons_zero, List.set_cons_succ])
   refine wpTill_pure (i := 7) (v := .bool true) rfl (by kernel_rfl) (by kernel_rfl) (by kernel_rfl) (fun _ _ _ h => h) (T4_set (by decide) (by decide) (by decide) (by decide)) (Or.inl ⟨by rfl, ?_⟩) (fun _ => hS) ?_
   ·intro w; go_simp; try rfl
   (try simp only [Act.put, List.setIfInBounds_toArray, List.set_cons_zero, List.set_cons_succ])
   refine wpTill_pure (i := 8) (v := .bool true) rfl (by kernel_rfl) (by kernel_rfl) (by kernel_rfl) (fun _ _ _ h => h) (T4_set (by decide) (by decide) (by decide) (by decide)) (Or.inl ⟨by rfl, ?_⟩) (fun _ => hS) ?_
   ·intro w; go_simp; try rfl
   (try simp only [Act.put, List.setIfInBounds_toArray, List.set_cons_zero, List.set_cons_succ])
   refine wpTill_pure (i := 9) (v := undef) rfl (by kernel_rfl) (by kernel_rfl) (by kernel_rfl) (fun _ _ _ h => h) (T4_set (by decide) (by decide) (by decide) (by decide)) (Or.inr ⟨by rfl, rfl⟩) (fun _ => hS) ?_
   (try simp only [Act.put, List.setIfInBounds_toArray, List.set_cons_zero, List.set_cons_succ])
   refine wpTill_pure (i := 11) (v := undef) rfl (by kernel_rfl) (by kernel_rfl) (by kernel_rfl) (fun _ _ _ h => h) (T4_set (by decide) (by decide) (by decide) (by decide)) (Or.inr ⟨by rfl, rfl⟩) (fun _ => hS) ?_
   (try simp only [Act.put, List.setIfInBounds_toArray, List.set_cons_zero, List.set_cons_succ])
   refine wpTill_all (rs := [10]) (by kernel_rfl) (by simp) ?_
   intro i hi
   simp only [List.mem_cons, List.not_mem_nil, or_false] at hi
   subst hi
   refine wpOp_step rfl (fun K hK => ?_)
   go_simp
   refine hK _ _ ⟨fun _ => hS, ?_⟩
   clear hK K
   (try simp only [Act.put, List.setIfInBounds_toArray, List.set_cons_zero, List.set_cons_succ])
   refine wpTill_all (rs := [12]) (by kernel_rfl) (by simp) ?_
   intro i hi
   simp only [List.mem_cons, List.not_mem_nil, or_false] at hi
   subst hi
   refine wpOp_step rfl (fun K hK => ?_)
   go_simp
   refine hK _ _ ⟨fun _ => hS, ?_⟩
   clear hK K
   (try simp only [Act.put, List.setIfInBounds_toArray, List.set_cons_zero, List.set_cons_succ])
   refine wpTill_pure (i := 13) (v := undef) rfl (by kernel_rfl) (by kernel_rfl) (by kernel_rfl) (fun _ _ _ h => h) (T4_set (by decide) (by decide) (by decide) (by decide)) (Or.inr ⟨by rfl, rfl⟩) (fun _ => hS) ?_
   (try simp only [Act.put, List.setIfInBounds_toArray, List.set_cons_zero, List.set_cons_succ])
   refine wpTill_pure (i := 14) (v := undef) rfl (by kernel_rfl) (by kernel_rfl) (by kernel_rfl) (fun _ _ _ h => h) (T4_set (by decide) (by decide) (by decide) (by decide)) (Or.inr ⟨by rfl, rfl⟩) (fun _ => hS) ?_
   (try simp only [Act.put, List.setIfInBounds_toArray, List.set_cons_zero, List.set_cons_succ])
   refine wpTill_pure (i := 15) (v := .bool true) rfl (by kernel_rfl) (by kernel_rfl) (by kernel_rfl) (fun _ _ _ h => h) (T4_set (by decide) (by decide) (by decide) (by decide)) (Or.inl ⟨by rfl, ?_⟩) (fun _ => hS) ?_
   ·intro w; go_simp; try rfl
   (try simp only [Act.put, List.setIfInBounds_toArray, List.set_cons_zero, List.set_cons_succ])
   refine wpTill_done (by kernel_rfl) ?_ _
   go_wp2_with (fail)
   go_meet
   exact ⟨true, rfl, Lib.hid (fun h => Bool.noConfusion h), HG1⟩
  | true =>
   refine wpTill_pure (i := 2) (v := .bool false) rfl (by kernel_rfl) (by kernel_rfl) (by kernel_rfl) (fun _ _ _ h => h) (T4_set (by decide) (by decide) (by decide) (by decide)) (Or.inl ⟨by rfl, ?_⟩) (fun _ => hS) ?_
   ·intro w; go_simp; try rfl
   (try simp only [Act.put, List.setIfInBounds_toArray, List.set_cons_zero, List.set_cons_succ])
   refine wpTill_pure (i := 3) (v := .bool false) rfl (by kernel_rfl) (by kernel_rfl) (by kernel_rfl) (fun _ _ _ h => h) (T4_set (by decide) (by decide) (by decide) (by decide)) (Or.inl ⟨by rfl, ?_⟩) (fun _ => hS) ?_
   ·intro w; go_simp; try rfl
   (try simp only [Act.put, List.setIfInBounds_toArray, List.set_cons_zero, List.set_cons_succ])
   refine wpTill_read 5 (i := 4) (v := .agg #[.int .i64 y.f0, .bool y.f1, .slice C2 y.f2.length c2, .string y.f3, .int .i64 y.f4, .slice C5 y.f5.length c5, .slice C6 y.f6.length c6]) rfl (by kernel_rfl) (by kernel_rfl) (by kernel_rfl) (fun _ _ _ h => h) (T4_set (by decide) (by decide) (by decide) (by decide)) T4_5 (by kernel_rfl) (by kernel_rfl) (Or.inl ⟨by rfl, ?_⟩) hS ?_
   ·intro w hSw; obtain ⟨j0, j1, j2, j3, j4, j5, j6, j7, j8, j9, j10, j11, j12, j13⟩ := hSw; go_simp; try rfl
   (try simp only [Act.put, List.setIfInBounds_toArray, List.set_cons_zero, List.set_cons_succ])
   refine wpTill_all (rs := [5]) (by kernel_rfl) (by simp) ?_
   intro i hi
   simp only [List.mem_cons, List.not_mem_nil, or_false] at hi
   subst hi
   refine wpOp_step rfl (fun K hK => ?_)
   go_simp
   refine (HMY.out _ (HF3.out.trans HG1.out)).mono ?_
   rintro e W5 ⟨⟨r2, rfl, hr2⟩, hf⟩
   have hS2 := And.intro (hf.cell hS.1 (fun h => h)) (And.intro (hf.cell hS.2.1 (fun h => h)) (And.intro (hf.cell hS.2.2.1 (fun h => h)) (And.intro (hf.cell hS.2.2.2.1 (fun h => h)) (And.intro (hf.cell hS.2.2.2.2.1 (fun h => h)) (And.intro (hf.cell hS.2.2.2.2.2.1 (fun h => h)) (And.intro (hf.cell hS.2.2.2.2.2.2.1 (fun h => h)) (And.intro (hf.cell hS.2.2.2.2.2.2.2.1 (fun h => h)) (And.intro (hf.cell hS.2.2.2.2.2.2.2.2.1 (fun h => h)) (And.intro (hf.cell hS.2.2.2.2.2.2.2.2.2.1 (fun h => h)) (And.intro (hf.cell hS.2.2.2.2.2.2.2.2.2.2.1 (fun h => h)) (And.intro (hf.cell hS.2.2.2.2.2.2.2.2.2.2.2.1 (fun h => h)) (And.intro (hf.cell hS.2.2.2.2.2.2.2.2.2.2.2.2.1 (fun h => h)) (hf.cell hS.2.2.2.2.2.2.2.2.2.2.2.2.2 (fun h => h))))))))))))))
   have HG5 := Lib.hid (HG1.out.trans hf)
   clear hS hf
   have hS := hS2
   clear hS2
   refine hK _ _ ⟨fun _ => hS, ?_⟩
   clear hK K
   (try simp only [Act.put, List.setIfInBounds_toArray, List.set_cons_zero, List.set_cons_succ])
   have HR2 := Lib.hid hr2
   clear hr2
   cases r2 with
   | false =>
    refine wpTill_pure (i := 6) (v := .bool true) rfl (by kernel_rfl) (by kernel_rfl) (by kernel_rfl) (fun _ _ _ h => h) (T4_set (by decide) (by decide) (by decide) (by decide)) (Or.inl ⟨by rfl, ?_⟩) (fun _ => hS) ?_
    ·intro w; go_simp; try rfl
    (try simp only [Act.put, List.setIfInBounds_toArray, List.set_cons_zero, List.set_cons_succ])
    refine wpTill_pure (i := 7) (v := .bool true) rfl (by kernel_rfl) (by kernel_rfl) (by kernel_rfl) (fun _ _ _ h => h) (T4_set (by decide) (by decide) (by decide) (by decide)) (Or.inl ⟨by rfl, ?_⟩) (fun _ => hS) ?_
    ·intro w; go_simp; try rfl
    (try simp only [Act.put, List.setIfInBounds_toArray, List.set_cons_zero, List.set_cons_succ])
    refine wpTill_pure (i := 8) (v := .bool true) rfl (by kernel_rfl) (by kernel_rfl) (by kernel_rfl) (fun _ _ _ h => h) (T4_set (by decide) (by decide) (by decide) (by decide)) (Or.inl ⟨by rfl, ?_⟩) (fun _ => hS) ?_
    ·intro w; go_simp; try rfl
    (try simp only [Act.put, List.setIfInBounds_toArray, List.set_cons_zero, List.set_cons_succ])
    refine wpTill_pure (i := 9) (v := undef) rfl (by kernel_rfl) (by kernel_rfl) (by kernel_rfl) (fun _ _ _ h => h) (T4_set (by decide) (by decide) (by decide) (by decide)) (Or.inr ⟨by rfl, rfl⟩) (fun _ => hS) ?_
    (try simp only [Act.put, List.setIfInBounds_toArray, List.set_cons_zero, List.set_cons_succ])
    refine wpTill_pure (i := 11) (v := undef) rfl (by kernel_rfl) (by kernel_rfl) (by kernel_rfl) (fun _ _ _ h => h) (T4_set (by decide) (by decide) (by decide) (by decide)) (Or.inr ⟨by rfl, rfl⟩) (fun _ => hS) ?_
    (try simp only [Act.put, List.setIfInBounds_toArray, List.set_cons_zero, List.set_cons_succ])
    refine wpTill_all (rs := [10]) (by kernel_rfl) (by simp) ?_
    intro i hi
    simp only [List.mem_cons, List.not_mem_nil, or_false] at hi
    subst hi
    refine wpOp_step rfl (fun K hK => ?_)
    go_simp
    refine hK _ _ ⟨fun _ => hS, ?_⟩
    clear hK K
    (try simp only [Act.put, List.setIfInBounds_toArray, List.set_cons_zero, List.set_cons_succ])
    refine wpTill_all (rs := [12]) (by kernel_rfl) (by simp) ?_
    intro i hi
    simp only [List.mem_cons, List.not_mem_nil, or_false] at hi
    subst hi
    refine wpOp_step rfl (fun K hK => ?_)
    go_simp
    refine hK _ _ ⟨fun _ => hS, ?_⟩
    clear hK K
    (try simp only [Act.put, List.setIfInBounds_toArray, List.set_cons_zero, List.set_cons_succ])
    refine wpTill_pure (i := 13) (v := undef) rfl (by kernel_rfl) (by kernel_rfl) (by kernel_rfl) (fun _ _ _ h => h) (T4_set (by decide) (by decide) (by decide) (by decide)) (Or.inr ⟨by rfl, rfl⟩) (fun _ => hS) ?_
    (try simp only [Act.put, List.setIfInBounds_toArray, List.set_cons_zero, List.set_cons_succ])
    refine wpTill_pure (i := 14) (v := undef) rfl (by kernel_rfl) (by kernel_rfl) (by kernel_rfl) (fun _ _ _ h => h) (T4_set (by decide) (by decide) (by decide) (by decide)) (Or.inr ⟨by rfl, rfl⟩) (fun _ => hS) ?_
    (try simp only [Act.put, List.setIfInBounds_toArray, List.set_cons_zero, List.set_cons_succ])
    refine wpTill_pure (i := 15) (v := .bool true) rfl (by kernel_rfl) (by kernel_rfl) (by kernel_rfl) (fun _ _ _ h => h) (T4_set (by decide) (by decide) (by decide) (by decide)) (Or.inl ⟨by rfl, ?_⟩) (fun _ => hS) ?_
    ·intro w; go_simp; try rfl
    (try simp only [Act.put, List.setIfInBounds_toArray, List.set_cons_zero, List.set_cons_succ])
    refine wpTill_done (by kernel_rfl) ?_ _
    go_wp2_with (fail)
    go_meet
    exact ⟨true, rfl, Lib.hid (fun h => Bool.noConfusion h), HG5⟩
   | true =>
    refine wpTill_pure (i := 6) (v := .bool false) rfl (by kernel_rfl) (by kernel_rfl) (by kernel_rfl) (fun _ _ _ h => h) (T4_set (by decide) (by decide) (by decide) (by decide)) (Or.inl ⟨by rfl, ?_⟩) (fun _ => hS) ?_
    ·intro w; go_simp; try rfl
    (try simp only [Act.put, List.setIfInBounds_toArray, List.set_cons_zero, List.set_cons_succ])
    refine wpTill_pure (i := 7) (v := .bool false) rfl (by kernel_rfl) (by kernel_rfl) (by kernel_rfl) (fun _ _ _ h => h) (T4_set (by decide) (by decide) (by decide) (by decide)) (Or.inl ⟨by rfl, ?_⟩) (fun _ => hS) ?_
    ·intro w; go_simp; try rfl
    (try simp only [Act.put, List.setIfInBounds_toArray, List.set_cons_zero, List.set_cons_succ])
    refine wpTill_pure (i := 8) (v := .bool false) rfl (by kernel_rfl) (by kernel_rfl) (by kernel_rfl) (fun _ _ _ h => h) (T4_set (by decide) (by decide) (by decide) (by decide)) (Or.inl ⟨by rfl, ?_⟩) (fun _ => hS) ?_
    ·intro w; go_simp; try rfl
    (try simp only [Act.put, List.setIfInBounds_toArray, List.set_cons_zero, List.set_cons_succ])
    refine wpTill_read 10 (i := 9) (v := .agg #[.int .i64 x.f0, .bool x.f1, .slice A2 x.f2.length a2, .string x.f3, .int .i64 x.f4, .slice A5 x.f5.length a5, .slice A6 x.f6.length a6]) rfl (by kernel_rfl) (by kernel_rfl) (by kernel_rfl) (fun _ _ _ h => h) (T4_set (by decide) (by decide) (by decide) (by decide)) T4_10 (by kernel_rfl) (by kernel_rfl) (Or.inl ⟨by rfl, ?_⟩) hS ?_
    ·intro w hSw; obtain ⟨j0, j1, j2, j3, j4, j5, j6, j7, j8, j9, j10, j11, j12, j13⟩ := hSw; go_simp; try rfl
    (try simp only [Act.put, List.setIfInBounds_toArray, List.set_cons_zero, List.set_cons_succ])
    refine wpTill_read 12 (i := 11) (v := .agg #[.int .i64 y.f0, .bool y.f1, .slice C2 y.f2.length c2, .string y.f3, .int .i64 y.f4, .slice C5 y.f5.length c5, .slice C6 y.f6.length c6]) rfl (by kernel_rfl) (by kernel_rfl) (by kernel_rfl) (fun _ _ _ h => h) (T4_set (by decide) (by decide) (by decide) (by decide)) T4_12 (by kernel_rfl) (by kernel_rfl) (Or.inl ⟨by rfl, ?_⟩) hS ?_
    ·intro w hSw; obtain ⟨j0, j1, j2, j3, j4, j5, j6, j7, j8, j9, j10, j11, j12, j13⟩ := hSw; go_simp; try rfl
    (try simp only [Act.put, List.setIfInBounds_toArray, List.set_cons_zero, List.set_cons_succ])
    refine wpTill_all (rs := [10]) (by kernel_rfl) (by simp) ?_
    intro i hi
    simp only [List.mem_cons, List.not_mem_nil, or_false] at hi
    subst hi
    refine wpOp_step rfl (fun K hK => ?_)
    go_simp
    refine (HWX.out _ (HF3.out.trans HG5.out) (HR.out (by trivial))).mono ?_
    rintro e W10 ⟨⟨rfl, hbx⟩, hf⟩
    have hS2 := And.intro (hf.cell hS.1 (fun h => h)) (And.intro (hf.cell hS.2.1 (fun h => h)) (And.intro (hf.cell hS.2.2.1 (fun h => h)) (And.intro (hf.cell hS.2.2.2.1 (fun h => h)) (And.intro (hf.cell hS.2.2.2.2.1 (fun h => h)) (And.intro (hf.cell hS.2.2.2.2.2.1 (fun h => h)) (And.intro (hf.cell hS.2.2.2.2.2.2.1 (fun h => h)) (And.intro (hf.cell hS.2.2.2.2.2.2.2.1 (fun h => h)) (And.intro (hf.cell hS.2.2.2.2.2.2.2.2.1 (fun h => h)) (And.intro (hf.cell hS.2.2.2.2.2.2.2.2.2.1 (fun h => h)) (And.intro (hf.cell hS.2.2.2.2.2.2.2.2.2.2.1 (fun h => h)) (And.intro (hf.cell hS.2.2.2.2.2.2.2.2.2.2.2.1 (fun h => h)) (And.intro (hf.cell hS.2.2.2.2.2.2.2.2.2.2.2.2.1 (fun h => h)) (hf.cell hS.2.2.2.2.2.2.2.2.2.2.2.2.2 (fun h => h))))))))))))))
    have HG10 := Lib.hid (HG5.out.trans hf)
    clear hS hf
    have hS := hS2
    clear hS2
    refine hK _ _ ⟨fun _ => hS, ?_⟩
    clear hK K
    (try simp only [Act.put, List.setIfInBounds_toArray, List.set_cons_zero, List.set_cons_succ])
    refine wpTill_all (rs := [12]) (by kernel_rfl) (by simp) ?_
    intro i hi
    simp only [List.mem_cons, List.not_mem_nil, or_false] at hi
    subst hi
    refine wpOp_step rfl (fun K hK => ?_)
    go_simp
    refine (HWY.out _ (HF3.out.trans HG10.out) (HR2.out (by trivial))).mono ?_
    rintro e W12 ⟨⟨rfl, hby⟩, hf⟩
    have hS2 := And.intro (hf.cell hS.1 (fun h => h)) (And.intro (hf.cell hS.2.1 (fun h => h)) (And.intro (hf.cell hS.2.2.1 (fun h => h)) (And.intro (hf.cell hS.2.2.2.1 (fun h => h)) (And.intro (hf.cell hS.2.2.2.2.1 (fun h => h)) (And.intro (hf.cell hS.2.2.2.2.2.1 (fun h => h)) (And.intro (hf.cell hS.2.2.2.2.2.2.1 (fun h => h)) (And.intro (hf.cell hS.2.2.2.2.2.2.2.1 (fun h => h)) (And.intro (hf.cell hS.2.2.2.2.2.2.2.2.1 (fun h => h)) (And.intro (hf.cell hS.2.2.2.2.2.2.2.2.2.1 (fun h => h)) (And.intro (hf.cell hS.2.2.2.2.2.2.2.2.2.2.1 (fun h => h)) (And.intro (hf.cell hS.2.2.2.2.2.2.2.2.2.2.2.1 (fun h => h)) (And.intro (hf.cell hS.2.2.2.2.2.2.2.2.2.2.2.2.1 (fun h => h)) (hf.cell hS.2.2.2.2.2.2.2.2.2.2.2.2.2 (fun h => h))))))))))))))
    have HG12 := Lib.hid (HG10.out.trans hf)
    clear hS hf
    have hS := hS2
    clear hS2
    refine hK _ _ ⟨fun _ => hS, ?_⟩
    clear hK K
    (try simp only [Act.put, List.setIfInBounds_toArray, List.set_cons_zero, List.set_cons_succ])
    have hsum : IntKind.i64.wrap (tx + ty) = tx + ty := IntWalk.i64_in _ (by omega)
    refine wpTill_pure (i := 13) (v := .int .i64 (tx + ty)) rfl (by kernel_rfl) (by kernel_rfl) (by kernel_rfl) (fun _ _ _ h => h) (T4_set (by decide) (by decide) (by decide) (by decide)) (Or.inl ⟨by rfl, ?_⟩) (fun _ => hS) ?_
    ·intro w; go_simp; try rfl
    (try simp only [Act.put, List.setIfInBounds_toArray, List.set_cons_zero, List.set_cons_succ])
    refine wpTill_pure (i := 14) (v := .bool (decide (2000 < tx + ty))) rfl (by kernel_rfl) (by kernel_rfl) (by kernel_rfl) (fun _ _ _ h => h) (T4_set (by decide) (by decide) (by decide) (by decide)) (Or.inl ⟨by rfl, ?_⟩) (fun _ => hS) ?_
    ·intro w; go_simp; try rfl
    (try simp only [Act.put, List.setIfInBounds_toArray, List.set_cons_zero, List.set_cons_succ])
    refine wpTill_pure (i := 15) (v := .bool (decide (2000 < tx + ty))) rfl (by kernel_rfl) (by kernel_rfl) (by kernel_rfl) (fun _ _ _ h => h) (T4_set (by decide) (by decide) (by decide) (by decide)) (Or.inl ⟨by rfl, ?_⟩) (fun _ => hS) ?_
    ·intro w; go_simp; try rfl
    (try simp only [Act.put, List.setIfInBounds_toArray, List.set_cons_zero, List.set_cons_succ])
    refine wpTill_done (by kernel_rfl) ?_ _
    go_wp2_with (fail)
    go_meet
    exact ⟨_, rfl, Lib.hid (fun h => ⟨HR.out (by trivial), HR2.out (by trivial), by have := of_decide_eq_false h; omega⟩), HG12⟩
 case rest =>
  obtain ⟨bb, rfl, HBB, HC⟩ := hcut
  clear k0 k1 k2 k3 k4 k5 k6 g0 g1 g2 g3 g4 g5 g6
  cases bb with
  | true =>
   go_wp2
   go_ret
   exact ⟨rfl, HF3.out.trans HC.out⟩
  | false =>
   have HOK := Lib.hid (HBB.out (by trivial))
   have HX4 := Lib.hid (HC.out.blk HX3.out (fun h => h))
   have HY4 := Lib.hid (HC.out.blk HY3.out (fun h => h))
   have HF4 := Lib.hid (HF3.out.trans HC.out)
   have HDL : Hid (D1 < wc.heap.size ∧ D2 < wc.heap.size) := Lib.hid ⟨(Array.getElem?_eq_some_iff.1 HX4.out).1, (Array.getElem?_eq_some_iff.1 HY4.out).1⟩
   have hns : newSize 2000 = 2000 := newSize_of (by omega) (by omega)
   have HNS := Lib.hid hns
   clear hns HBB
   go_upto_region 6 with (first
    | (go_at_call 8; (with_reducible refine (mnew_c 2000 _).mono ?_); rintro e w5 ⟨rfl, har, hf⟩; rw [HNS.out] at har; have HM5 := Lib.hid har; have HF5 := Lib.hid hf; clear har hf))
   obtain ⟨q, hq⟩ : ∃ q, wc.heap.size = q := ⟨_, rfl⟩
   rw [hq] at HM5
   have HQ : Hid (wc.heap.size ≤ q) := Lib.hid (by omega)
   (try simp only [hq])
   clear hq
   have hbn : (w5.alloc (.cells #[.slice none 0 0] 35)).heap[w5.heap.size]? = some (.cells #[.slice none 0 0] 35 (0, 0)) := blk_new _ _ _
   obtain ⟨t, ht⟩ : ∃ t, w5.heap.size = t := ⟨_, rfl⟩
   obtain ⟨w6, hw6⟩ : ∃ W, w5.alloc (.cells #[.slice none 0 0] 35) = W := ⟨_, rfl⟩
   have f56 : Fr w5 w6 (fun _ => False) := by rw [← hw6]; exact (Fr.refl w5 _).alloc _
   rw [hw6, ht] at hbn
   have HTT : Hid (wc.heap.size ≤ t) := Lib.hid (by rw [← ht]; exact HF5.out.size)
   have HN6 := Lib.hid hbn
   have HF6 := Lib.hid (HF5.out.trans f56)
   have HM6 := Lib.hid (HM5.out.fr f56)
   clear f56 hbn
   go_upto_region 7 with (first
    | ((try simp only [hw6, ht]); go_at_call 9; (with_reducible refine (newstoreB _).mono ?_); rintro e w7 ⟨s, rfl, hst, hf, hs⟩; have HS7 := Lib.hid hst; have HF7 := Lib.hid (HF6.out.trans hf); have HN7 := Lib.hid (hf.blk HN6.out (fun h => h)); have HM7 := Lib.hid (HM6.out.fr hf); have HSS : Hid (wc.heap.size ≤ s) := Lib.hid (Nat.le_trans HF6.out.size hs); clear hst hf hs))
   (try simp only [hw6, ht])
   clear hw6 ht HN6 HM6 HM5
   have HMS : Hid (Mst w7 q t s (fun k => wc.heap.size ≤ k ∧ k < w7.heap.size) [] 2000 0) := Lib.hid (by
    have hm : MSt w7 q t s (.slice none 0 0) (.slice none 0 0) (.slice none 0 0) (.slice none 0 0) (.slice none 0 0) (.slice none 0 0) [] 2000 [] [] [] [] [] 0 := ⟨HM7.out, ⟨HN7.out, Own.nil _ _, by simp⟩, HS7.out, StO.nil⟩
    refine ⟨_, _, _, _, _, _, _, _, _, _, _, hm, fun k hk => ⟨?_, hm.lt k hk⟩⟩
    rcases hk with e | e | e | e | e | e | e | e | e
    ·rw [e]; exact HQ.out
    ·exact absurd e (not_nil k)
    ·rw [e]; exact HTT.out
    ·exact absurd e (not_nil k)
    ·rw [e]; exact HSS.out
    ·exact absurd e (not_nil k)
    ·exact absurd e (not_nil k)
    ·exact absurd e (not_nil k)
    ·exact absurd e (not_nil k))
   have HX7 := Lib.hid (HF7.out.blk HX4.out (fun h => h))
   have HY7 := Lib.hid (HF7.out.blk HY4.out (fun h => h))
   have HFw7 := Lib.hid (HF4.out.trans HF7.out)
   have HP1 : Hid (Calls Tryd.prog 10 #[.pointer (some ⟨q, 0, none⟩), .pointer (some ⟨t, 0, none⟩), .agg #[.int .i64 x.f0, .bool x.f1, .slice A2 x.f2.length a2, .string x.f3, .int .i64 x.f4, .slice A5 x.f5.length a5, .slice A6 x.f6.length a6], .pointer (some ⟨s, 0, none⟩)] w7 fun e w' => PutT d x w7 w' q t s (fun k => wc.heap.size ≤ k ∧ k < w7.heap.size) [] 2000 0 e) := Lib.hid (pput_c d x A2 A5 A6 a2 a5 a6 w w7 q t s _ [] 2000 0 HX.out HT.out HFw7.out (fun k hk => ⟨Nat.le_trans HF4.out.size hk.1, hk.2⟩) (by omega) (by rw [HTX.out]; have := HOK.out.2.2; omega) HMS.out)
   have k0 : w7.cell? ⟨D1, 0, none⟩ = some (.int .i64 x.f0) := by simp [World.cell?, HX7.out]
   have k1 : w7.cell? ⟨D1, 1, none⟩ = some (.bool x.f1) := by simp [World.cell?, HX7.out]
   have k2 : w7.cell? ⟨D1, 2, none⟩ = some (.slice A2 x.f2.length a2) := by simp [World.cell?, HX7.out]
   have k3 : w7.cell? ⟨D1, 3, none⟩ = some (.string x.f3) := by simp [World.cell?, HX7.out]
   have k4 : w7.cell? ⟨D1, 4, none⟩ = some (.int .i64 x.f4) := by simp [World.cell?, HX7.out]
   have k5 : w7.cell? ⟨D1, 5, none⟩ = some (.slice A5 x.f5.length a5) := by simp [World.cell?, HX7.out]
   have k6 : w7.cell? ⟨D1, 6, none⟩ = some (.slice A6 x.f6.length a6) := by simp [World.cell?, HX7.out]
   have g0 : w7.cell? ⟨D2, 0, none⟩ = some (.int .i64 y.f0) := by simp [World.cell?, HY7.out]
   have g1 : w7.cell? ⟨D2, 1, none⟩ = some (.bool y.f1) := by simp [World.cell?, HY7.out]
   have g2 : w7.cell? ⟨D2, 2, none⟩ = some (.slice C2 y.f2.length c2) := by simp [World.cell?, HY7.out]
   have g3 : w7.cell? ⟨D2, 3, none⟩ = some (.string y.f3) := by simp [World.cell?, HY7.out]
   have g4 : w7.cell? ⟨D2, 4, none⟩ = some (.int .i64 y.f4) := by simp [World.cell?, HY7.out]
   have g5 : w7.cell? ⟨D2, 5, none⟩ = some (.slice C5 y.f5.length c5) := by simp [World.cell?, HY7.out]
   have g6 : w7.cell? ⟨D2, 6, none⟩ = some (.slice C6 y.f6.length c6) := by simp [World.cell?, HY7.out]
   go_upto_region 8 with (first
    | (go_at_call 10; (with_reducible refine HP1.out.mono ?_); rintro e w8 ⟨u, er, ws1, n1, rfl, hu, hst, hf, hn, hb⟩; have HU := Lib.hid hu; have HST := Lib.hid hst; have HF8 := Lib.hid hf; have HN1 := Lib.hid hn; have HB1 := Lib.hid hb; clear hu hst hf hn hb))
   have HG8 : Hid (Mst w8 q t s (fun k => wc.heap.size ≤ k ∧ k < w8.heap.size) ws1 2000 n1) := Lib.hid (by
    obtain ⟨vm, nv, bv, pv, zv, cv, L, B, P, Z, C, h1, h2⟩ := HST.out
    refine ⟨vm, nv, bv, pv, zv, cv, L, B, P, Z, C, h1, fun k hk => ?_⟩
    have sz1 := HF7.out.size
    have sz2 := HF8.out.size
    rcases h2 k hk with e | e
    ·exact ⟨e.1, by omega⟩
    ·exact ⟨by omega, e.2⟩)
   have HFw8 : Hid (Fr w w8 (fun _ => False)) := Lib.hid (HFw7.out.then_ HF8.out (fun k hk hl => by have := HF4.out.size; omega))
   have HX8 := Lib.hid (HF8.out.blk HX7.out (fun hk => by have := HDL.out.1; omega))
   have HY8 := Lib.hid (HF8.out.blk HY7.out (fun hk => by have := HDL.out.2; omega))
   have HP2 : Hid (Calls Tryd.prog 10 #[.pointer (some ⟨q, 0, none⟩), .pointer (some ⟨t, 0, none⟩), .agg #[.int .i64 y.f0, .bool y.f1, .slice C2 y.f2.length c2, .string y.f3, .int .i64 y.f4, .slice C5 y.f5.length c5, .slice C6 y.f6.length c6], .pointer (some ⟨s, 0, none⟩)] w8 fun e w' => PutT d y w8 w' q t s (fun k => wc.heap.size ≤ k ∧ k < w8.heap.size) ws1 2000 n1 e) := Lib.hid (pput_c d y C2 C5 C6 c2 c5 c6 w w8 q t s _ ws1 2000 n1 HY.out HT.out HFw8.out (fun k hk => ⟨Nat.le_trans HF4.out.size hk.1, hk.2⟩) (by omega) (by have h1 := HN1.out; rw [HTX.out] at h1; rw [HTY.out]; have := HOK.out.2.2; omega) HG8.out)
   clear k0 k1 k2 k3 k4 k5 k6 g0 g1 g2 g3 g4 g5 g6 HP1 HX7 HY7
   have k0 : w8.cell? ⟨D1, 0, none⟩ = some (.int .i64 x.f0) := by simp [World.cell?, HX8.out]
   have k1 : w8.cell? ⟨D1, 1, none⟩ = some (.bool x.f1) := by simp [World.cell?, HX8.out]
   have k2 : w8.cell? ⟨D1, 2, none⟩ = some (.slice A2 x.f2.length a2) := by simp [World.cell?, HX8.out]
   have k3 : w8.cell? ⟨D1, 3, none⟩ = some (.string x.f3) := by simp [World.cell?, HX8.out]
   have k4 : w8.cell? ⟨D1, 4, none⟩ = some (.int .i64 x.f4) := by simp [World.cell?, HX8.out]
   have k5 : w8.cell? ⟨D1, 5, none⟩ = some (.slice A5 x.f5.length a5) := by simp [World.cell?, HX8.out]
   have k6 : w8.cell? ⟨D1, 6, none⟩ = some (.slice A6 x.f6.length a6) := by simp [World.cell?, HX8.out]
   have g0 : w8.cell? ⟨D2, 0, none⟩ = some (.int .i64 y.f0) := by simp [World.cell?, HY8.out]
   have g1 : w8.cell? ⟨D2, 1, none⟩ = some (.bool y.f1) := by simp [World.cell?, HY8.out]
   have g2 : w8.cell? ⟨D2, 2, none⟩ = some (.slice C2 y.f2.length c2) := by simp [World.cell?, HY8.out]
   have g3 : w8.cell? ⟨D2, 3, none⟩ = some (.string y.f3) := by simp [World.cell?, HY8.out]
   have g4 : w8.cell? ⟨D2, 4, none⟩ = some (.int .i64 y.f4) := by simp [World.cell?, HY8.out]
   have g5 : w8.cell? ⟨D2, 5, none⟩ = some (.slice C5 y.f5.length c5) := by simp [World.cell?, HY8.out]
   have g6 : w8.cell? ⟨D2, 6, none⟩ = some (.slice C6 y.f6.length c6) := by simp [World.cell?, HY8.out]
   go_upto_region 9 with (first
    | (go_at_call 10; (with_reducible refine HP2.out.mono ?_); rintro e w9 ⟨v, er2, ws2, n2, rfl, hu, hst, hf, hn, hb⟩; have HV := Lib.hid hu; have HST2 := Lib.hid hst; have HF9 := Lib.hid hf; have HB2 := Lib.hid hb; clear hu hst hf hn hb))
   have HFw9 : Hid (Fr w w9 (fun _ => False)) := Lib.hid (HFw8.out.then_ HF9.out (fun k hk hl => by have := HF4.out.size; omega))
   have HX9 := Lib.hid (HF9.out.blk HX8.out (fun hk => by have := HDL.out.1; omega))
   have HY9 := Lib.hid (HF9.out.blk HY8.out (fun hk => by have := HDL.out.2; omega))
   obtain ⟨vm, nv, bv, pv, zv, cv, L, B, P, Z, C, hMS, _⟩ := HST2.out
   have HA9 := Lib.hid hMS.mem
   have hq0 := hMS.mem.c0
   have h2000 := hMS.mem.le
   have HL2 : Hid (ws2.length ≤ 2000) := Lib.hid (by omega)
   obtain ⟨Av, cvv, hvm⟩ := hMS.mem.val
   subst hvm
   clear k0 k1 k2 k3 k4 k5 k6 g0 g1 g2 g3 g4 g5 g6 HP2 hMS
   go_upto_region 10 with (first
    | (go_at_call 11; (with_reducible refine (fill_c _ ws2 0 _ HA9.out.own.rd HA9.out.ok (Int.le_refl 0) (by have := HL2.out; omega)).mono ?_); rintro e w10 ⟨p, va, rfl, hn⟩; have HAR := Lib.hid hn.1; have HF10 := Lib.hid hn.2.1; clear hn))
   have HFw10 := Lib.hid (HFw9.out.trans HF10.out)
   have HX10 := Lib.hid (HF10.out.blk HX9.out (fun h => h))
   have HY10 := Lib.hid (HF10.out.blk HY9.out (fun h => h))
   have HA10 := Lib.hid (HA9.out.fr HF10.out)
   clear hq0 h2000
   by_cases h1 : er = 0
   ·subst h1
    by_cases h2 : er2 = 0
    ·subst h2
     obtain ⟨e1, hw1, hl1, hb1⟩ := HB1.out rfl
     obtain ⟨e2, hw2, hl2, hb2⟩ := HB2.out rfl
     rw [List.nil_append] at hw1
     subst hw1
     subst hw2
     have hBW := built_words (hb1.app e2) hb2
     have HBW := Lib.hid hBW
     have HLW : Hid ((ws1.length : Int) = tx ∧ (((ws1 ++ e2).length : Nat) : Int) = tx + ty) := Lib.hid (by rw [HTX.out] at hl1; rw [HTY.out] at hl2; rw [List.length_append]; push_cast; omega)
     clear hl1 hl2 hb1 hb2 hBW
     obtain ⟨WS, hWS⟩ : ∃ W, ws1 ++ e2 = W := ⟨_, rfl⟩
     rw [hWS] at HA10 HAR HBW HLW HL2
     have hq0 := HA10.out.c0
     (try rw [hWS])
     have k0 : w10.cell? ⟨D1, 0, none⟩ = some (.int .i64 x.f0) := by simp [World.cell?, HX10.out]
     have k1 : w10.cell? ⟨D1, 1, none⟩ = some (.bool x.f1) := by simp [World.cell?, HX10.out]
     have k2 : w10.cell? ⟨D1, 2, none⟩ = some (.slice A2 x.f2.length a2) := by simp [World.cell?, HX10.out]
     have k3 : w10.cell? ⟨D1, 3, none⟩ = some (.string x.f3) := by simp [World.cell?, HX10.out]
     have k4 : w10.cell? ⟨D1, 4, none⟩ = some (.int .i64 x.f4) := by simp [World.cell?, HX10.out]
     have k5 : w10.cell? ⟨D1, 5, none⟩ = some (.slice A5 x.f5.length a5) := by simp [World.cell?, HX10.out]
     have k6 : w10.cell? ⟨D1, 6, none⟩ = some (.slice A6 x.f6.length a6) := by simp [World.cell?, HX10.out]
     have g0 : w10.cell? ⟨D2, 0, none⟩ = some (.int .i64 y.f0) := by simp [World.cell?, HY10.out]
     have g1 : w10.cell? ⟨D2, 1, none⟩ = some (.bool y.f1) := by simp [World.cell?, HY10.out]
     have g2 : w10.cell? ⟨D2, 2, none⟩ = some (.slice C2 y.f2.length c2) := by simp [World.cell?, HY10.out]
     have g3 : w10.cell? ⟨D2, 3, none⟩ = some (.string y.f3) := by simp [World.cell?, HY10.out]
     have g4 : w10.cell? ⟨D2, 4, none⟩ = some (.int .i64 y.f4) := by simp [World.cell?, HY10.out]
     have g5 : w10.cell? ⟨D2, 5, none⟩ = some (.slice C5 y.f5.length c5) := by simp [World.cell?, HY10.out]
     have g6 : w10.cell? ⟨D2, 6, none⟩ = some (.slice C6 y.f6.length c6) := by simp [World.cell?, HY10.out]
     go_upto_region 12 with (fail)
     clear hWS
     skip
     refine wp_region_till (S := fun w' => w'.cell? ⟨D1, 0, none⟩ = some (.int .i64 x.f0) ∧ w'.cell? ⟨D1, 1, none⟩ = some (.bool x.f1) ∧ w'.cell? ⟨D1, 2, none⟩ = some (.slice A2 x.f2.length a2) ∧ w'.cell? ⟨D1, 3, none⟩ = some (.string x.f3) ∧ w'.cell? ⟨D1, 4, none⟩ = some (.int .i64 x.f4) ∧ w'.cell? ⟨D1, 5, none⟩ = some (.slice A5 x.f5.length a5) ∧ w'.cell? ⟨D1, 6, none⟩ = some (.slice A6 x.f6.length a6) ∧ w'.cell? ⟨D2, 0, none⟩ = some (.int .i64 y.f0) ∧ w'.cell? ⟨D2, 1, none⟩ = some (.bool y.f1) ∧ w'.cell? ⟨D2, 2, none⟩ = some (.slice C2 y.f2.length c2) ∧ w'.cell? ⟨D2, 3, none⟩ = some (.string y.f3) ∧ w'.cell? ⟨D2, 4, none⟩ = some (.int .i64 y.f4) ∧ w'.cell? ⟨D2, 5, none⟩ = some (.slice C5 y.f5.length c5) ∧ w'.cell? ⟨D2, 6, none⟩ = some (.slice C6 y.f6.length c6) ∧ w'.cell? ⟨q, 0, none⟩ = some (.slice Av WS.length cvv)) (T := fun _ => false) (by kernel_rfl) ?_
     have hS := And.intro k0 (And.intro k1 (And.intro k2 (And.intro k3 (And.intro k4 (And.intro k5 (And.intro k6 (And.intro g0 (And.intro g1 (And.intro g2 (And.intro g3 (And.intro g4 (And.intro g5 (And.intro g6 (hq0))))))))))))))
     obtain ⟨v10, hv10⟩ : ∃ v, w10.drew = v := ⟨_, rfl⟩
     replace hS : (fun w' => w'.cell? ⟨D1, 0, none⟩ = some (.int .i64 x.f0) ∧ w'.cell? ⟨D1, 1, none⟩ = some (.bool x.f1) ∧ w'.cell? ⟨D1, 2, none⟩ = some (.slice A2 x.f2.length a2) ∧ w'.cell? ⟨D1, 3, none⟩ = some (.string x.f3) ∧ w'.cell? ⟨D1, 4, none⟩ = some (.int .i64 x.f4) ∧ w'.cell? ⟨D1, 5, none⟩ = some (.slice A5 x.f5.length a5) ∧ w'.cell? ⟨D1, 6, none⟩ = some (.slice A6 x.f6.length a6) ∧ w'.cell? ⟨D2, 0, none⟩ = some (.int .i64 y.f0) ∧ w'.cell? ⟨D2, 1, none⟩ = some (.bool y.f1) ∧ w'.cell? ⟨D2, 2, none⟩ = some (.slice C2 y.f2.length c2) ∧ w'.cell? ⟨D2, 3, none⟩ = some (.string y.f3) ∧ w'.cell? ⟨D2, 4, none⟩ = some (.int .i64 y.f4) ∧ w'.cell? ⟨D2, 5, none⟩ = some (.slice C5 y.f5.length c5) ∧ w'.cell? ⟨D2, 6, none⟩ = some (.slice C6 y.f6.length c6) ∧ w'.cell? ⟨q, 0, none⟩ = some (.slice Av WS.length cvv)) v10 := by rw [← hv10]; exact hS
     have HP0 : Hid (Fr w10 v10 (fun _ => False)) := Lib.hid (by rw [← hv10]; exact (Fr.refl w10 _).drew)
     rw [hv10]
     clear hv10 k0 k1 k2 k3 k4 k5 k6 g0 g1 g2 g3 g4 g5 g6 hq0
     refine wpTill_pure (i := 0) (v := .pointer (some ⟨p, 0, none⟩)) (by simp only [List.getElem?_toArray, List.getElem?_cons_succ, List.getElem?_cons_zero]; exact rfl) (by kernel_rfl) (by kernel_rfl) (by kernel_rfl) (by exact fun _ _ _ h => h) (fun _ => rfl) (Or.inl ⟨by rfl, ?_⟩) (fun _ => hS) ?_
     ·intro w; (first | rfl | (go_simp; try rfl))
     (try simp (config := { maxSteps := 10000000 }) only [Act.put, List.setIfInBounds_toArray, List.set_cons_zero, List.set_cons_succ])
     refine wpTill_pure (i := 1) (v := .int .u64 u) (by simp only [List.getElem?_toArray, List.getElem?_cons_succ, List.getElem?_cons_zero]; exact rfl) (by kernel_rfl) (by kernel_rfl) (by kernel_rfl) (by exact fun _ _ _ h => h) (fun _ => rfl) (Or.inl ⟨by rfl, ?_⟩) (fun _ => hS) ?_
     ·intro w; (first | rfl | (go_simp; try rfl))
     (try simp (config := { maxSteps := 10000000 }) only [Act.put, List.setIfInBounds_toArray, List.set_cons_zero, List.set_cons_succ])
     refine wpTill_read 5 (i := 4) (v := .agg #[.int .i64 x.f0, .bool x.f1, .slice A2 x.f2.length a2, .string x.f3, .int .i64 x.f4, .slice A5 x.f5.length a5, .slice A6 x.f6.length a6]) (by simp only [List.getElem?_toArray, List.getElem?_cons_succ, List.getElem?_cons_zero]; exact rfl) (by kernel_rfl) (by kernel_rfl) (by kernel_rfl) (by exact fun _ _ _ h => h) (fun _ => rfl) (fun _ h => Bool.noConfusion h) (by kernel_rfl) (by kernel_rfl) (Or.inl ⟨by rfl, ?_⟩) hS ?_
     ·intro w hSw; obtain ⟨j0, j1, j2, j3, j4, j5, j6, j7, j8, j9, j10, j11, j12, j13, j14⟩ := hSw; go_simp; try rfl
     (try simp (config := { maxSteps := 10000000 }) only [Act.put, List.setIfInBounds_toArray, List.set_cons_zero, List.set_cons_succ])
     refine wpTill_all (rs := [2]) (by kernel_rfl) (by simp) ?_
     intro i hi
     simp only [List.mem_cons, List.not_mem_nil, or_false] at hi
     subst hi
     refine wpOp_step (by simp only [List.getElem?_toArray, List.getElem?_cons_succ, List.getElem?_cons_zero]; exact rfl) (fun K hK => ?_)
     go_simp
     have hb : (v10.alloc (.cells #[.int .u64 u] 39)).heap[v10.heap.size]? = some (.cells #[.int .u64 u] 39 (0, 0)) := blk_new _ _ _
     obtain ⟨gg2, hgg⟩ : ∃ g, v10.heap.size = g := ⟨_, rfl⟩
     obtain ⟨v2b, hw⟩ : ∃ W, v10.alloc (.cells #[.int .u64 u] 39) = W := ⟨_, rfl⟩
     have hf : Fr v10 v2b (fun _ => False) := by rw [← hw]; exact (Fr.refl v10 _).alloc _
     rw [hw, hgg] at hb
     have HRD2 := Lib.hid (rd_one hb)
     (try simp only [hw, hgg])
     clear hw hgg hb
     have hS2 := And.intro (hf.cell hS.1 (fun h => h)) (And.intro (hf.cell hS.2.1 (fun h => h)) (And.intro (hf.cell hS.2.2.1 (fun h => h)) (And.intro (hf.cell hS.2.2.2.1 (fun h => h)) (And.intro (hf.cell hS.2.2.2.2.1 (fun h => h)) (And.intro (hf.cell hS.2.2.2.2.2.1 (fun h => h)) (And.intro (hf.cell hS.2.2.2.2.2.2.1 (fun h => h)) (And.intro (hf.cell hS.2.2.2.2.2.2.2.1 (fun h => h)) (And.intro (hf.cell hS.2.2.2.2.2.2.2.2.1 (fun h => h)) (And.intro (hf.cell hS.2.2.2.2.2.2.2.2.2.1 (fun h => h)) (And.intro (hf.cell hS.2.2.2.2.2.2.2.2.2.2.1 (fun h => h)) (And.intro (hf.cell hS.2.2.2.2.2.2.2.2.2.2.2.1 (fun h => h)) (And.intro (hf.cell hS.2.2.2.2.2.2.2.2.2.2.2.2.1 (fun h => h)) (And.intro (hf.cell hS.2.2.2.2.2.2.2.2.2.2.2.2.2.1 (fun h => h)) (hf.cell hS.2.2.2.2.2.2.2.2.2.2.2.2.2.2 (fun h => h)))))))))))))))
     have HP2 := Lib.hid (HP0.out.trans hf)
     clear hS hf
     have hS := hS2
     clear hS2
     refine hK _ _ ⟨fun _ => hS, ?_⟩
     clear hK K
     (try simp (config := { maxSteps := 10000000 }) only [Act.put, List.setIfInBounds_toArray, List.set_cons_zero, List.set_cons_succ])
     refine wpTill_all (rs := [3]) (by kernel_rfl) (by simp) ?_
     intro i hi
     simp only [List.mem_cons, List.not_mem_nil, or_false] at hi
     subst hi
     refine wpOp_step (by simp only [List.getElem?_toArray, List.getElem?_cons_succ, List.getElem?_cons_zero]; exact rfl) (fun K hK => ?_)
     go_simp
     have hcall := mwords_at (z := tx) (rs := [u]) (HAR.out.fr HP2.out) HRD2.out (fun x hx => by simp at hx; rw [hx]; exact HU.out) (by have := HL2.out; omega) (by simp) (fun rr hl => by rw [HBW.out.2.1 rr hl]; exact HLW.out.1)
     refine hcall.mono ?_
     rintro e v3 ⟨rfl, hf⟩
     clear hcall
     have hS2 := And.intro (hf.cell hS.1 (fun h => h)) (And.intro (hf.cell hS.2.1 (fun h => h)) (And.intro (hf.cell hS.2.2.1 (fun h => h)) (And.intro (hf.cell hS.2.2.2.1 (fun h => h)) (And.intro (hf.cell hS.2.2.2.2.1 (fun h => h)) (And.intro (hf.cell hS.2.2.2.2.2.1 (fun h => h)) (And.intro (hf.cell hS.2.2.2.2.2.2.1 (fun h => h)) (And.intro (hf.cell hS.2.2.2.2.2.2.2.1 (fun h => h)) (And.intro (hf.cell hS.2.2.2.2.2.2.2.2.1 (fun h => h)) (And.intro (hf.cell hS.2.2.2.2.2.2.2.2.2.1 (fun h => h)) (And.intro (hf.cell hS.2.2.2.2.2.2.2.2.2.2.1 (fun h => h)) (And.intro (hf.cell hS.2.2.2.2.2.2.2.2.2.2.2.1 (fun h => h)) (And.intro (hf.cell hS.2.2.2.2.2.2.2.2.2.2.2.2.1 (fun h => h)) (And.intro (hf.cell hS.2.2.2.2.2.2.2.2.2.2.2.2.2.1 (fun h => h)) (hf.cell hS.2.2.2.2.2.2.2.2.2.2.2.2.2.2 (fun h => h)))))))))))))))
     have HP3 := Lib.hid (HP2.out.trans hf)
     clear hS hf
     have hS := hS2
     clear hS2
     refine hK _ _ ⟨fun _ => hS, ?_⟩
     clear hK K
     (try simp (config := { maxSteps := 10000000 }) only [Act.put, List.setIfInBounds_toArray, List.set_cons_zero, List.set_cons_succ])
     refine wpTill_all (rs := [5]) (by kernel_rfl) (by simp) ?_
     intro i hi
     simp only [List.mem_cons, List.not_mem_nil, or_false] at hi
     subst hi
     refine wpOp_step (by simp only [List.getElem?_toArray, List.getElem?_cons_succ, List.getElem?_cons_zero]; exact rfl) (fun K hK => ?_)
     go_simp
     have hcall := HWX.out v3 (HFw10.out.trans HP3.out) HOK.out.1
     refine hcall.mono ?_
     rintro e v5 ⟨⟨rfl, _⟩, hf⟩
     clear hcall
     have hS2 := And.intro (hf.cell hS.1 (fun h => h)) (And.intro (hf.cell hS.2.1 (fun h => h)) (And.intro (hf.cell hS.2.2.1 (fun h => h)) (And.intro (hf.cell hS.2.2.2.1 (fun h => h)) (And.intro (hf.cell hS.2.2.2.2.1 (fun h => h)) (And.intro (hf.cell hS.2.2.2.2.2.1 (fun h => h)) (And.intro (hf.cell hS.2.2.2.2.2.2.1 (fun h => h)) (And.intro (hf.cell hS.2.2.2.2.2.2.2.1 (fun h => h)) (And.intro (hf.cell hS.2.2.2.2.2.2.2.2.1 (fun h => h)) (And.intro (hf.cell hS.2.2.2.2.2.2.2.2.2.1 (fun h => h)) (And.intro (hf.cell hS.2.2.2.2.2.2.2.2.2.2.1 (fun h => h)) (And.intro (hf.cell hS.2.2.2.2.2.2.2.2.2.2.2.1 (fun h => h)) (And.intro (hf.cell hS.2.2.2.2.2.2.2.2.2.2.2.2.1 (fun h => h)) (And.intro (hf.cell hS.2.2.2.2.2.2.2.2.2.2.2.2.2.1 (fun h => h)) (hf.cell hS.2.2.2.2.2.2.2.2.2.2.2.2.2.2 (fun h => h)))))))))))))))
     have HP5 := Lib.hid (HP3.out.trans hf)
     clear hS hf
     have hS := hS2
     clear hS2
     refine hK _ _ ⟨fun _ => hS, ?_⟩
     clear hK K
     (try simp (config := { maxSteps := 10000000 }) only [Act.put, List.setIfInBounds_toArray, List.set_cons_zero, List.set_cons_succ])
     refine wpTill_pure (i := 6) (v := .bool true) (by simp only [List.getElem?_toArray, List.getElem?_cons_succ, List.getElem?_cons_zero]; exact rfl) (by kernel_rfl) (by kernel_rfl) (by kernel_rfl) (by exact fun _ _ _ h => h) (fun _ => rfl) (Or.inl ⟨by rfl, ?_⟩) (fun _ => hS) ?_
     ·intro w; (first | rfl | (go_simp; try rfl))
     (try simp (config := { maxSteps := 10000000 }) only [Act.put, List.setIfInBounds_toArray, List.set_cons_zero, List.set_cons_succ])
     refine wpTill_pure (i := 7) (v := .bool true) (by simp only [List.getElem?_toArray, List.getElem?_cons_succ, List.getElem?_cons_zero]; exact rfl) (by kernel_rfl) (by kernel_rfl) (by kernel_rfl) (by exact fun _ _ _ h => h) (fun _ => rfl) (Or.inl ⟨by rfl, ?_⟩) (fun _ => hS) ?_
     ·intro w; (first | rfl | (go_simp; try rfl))
     (try simp (config := { maxSteps := 10000000 }) only [Act.put, List.setIfInBounds_toArray, List.set_cons_zero, List.set_cons_succ])
     refine wpTill_pure (i := 8) (v := .pointer (some ⟨p, 0, none⟩)) (by simp only [List.getElem?_toArray, List.getElem?_cons_succ, List.getElem?_cons_zero]; exact rfl) (by kernel_rfl) (by kernel_rfl) (by kernel_rfl) (by exact fun _ _ _ h => h) (fun _ => rfl) (Or.inl ⟨by rfl, ?_⟩) (fun _ => hS) ?_
     ·intro w; (first | rfl | (go_simp; try rfl))
     (try simp (config := { maxSteps := 10000000 }) only [Act.put, List.setIfInBounds_toArray, List.set_cons_zero, List.set_cons_succ])
     refine wpTill_pure (i := 9) (v := .int .u64 v) (by simp only [List.getElem?_toArray, List.getElem?_cons_succ, List.getElem?_cons_zero]; exact rfl) (by kernel_rfl) (by kernel_rfl) (by kernel_rfl) (by exact fun _ _ _ h => h) (fun _ => rfl) (Or.inl ⟨by rfl, ?_⟩) (fun _ => hS) ?_
     ·intro w; (first | rfl | (go_simp; try rfl))
     (try simp (config := { maxSteps := 10000000 }) only [Act.put, List.setIfInBounds_toArray, List.set_cons_zero, List.set_cons_succ])
     refine wpTill_read 13 (i := 12) (v := .agg #[.int .i64 y.f0, .bool y.f1, .slice C2 y.f2.length c2, .string y.f3, .int .i64 y.f4, .slice C5 y.f5.length c5, .slice C6 y.f6.length c6]) (by simp only [List.getElem?_toArray, List.getElem?_cons_succ, List.getElem?_cons_zero]; exact rfl) (by kernel_rfl) (by kernel_rfl) (by kernel_rfl) (by exact fun _ _ _ h => h) (fun _ => rfl) (fun _ h => Bool.noConfusion h) (by kernel_rfl) (by kernel_rfl) (Or.inl ⟨by rfl, ?_⟩) hS ?_
     ·intro w hSw; obtain ⟨j0, j1, j2, j3, j4, j5, j6, j7, j8, j9, j10, j11, j12, j13, j14⟩ := hSw; go_simp; try rfl
     (try simp (config := { maxSteps := 10000000 }) only [Act.put, List.setIfInBounds_toArray, List.set_cons_zero, List.set_cons_succ])
     refine wpTill_all (rs := [10]) (by kernel_rfl) (by simp) ?_
     intro i hi
     simp only [List.mem_cons, List.not_mem_nil, or_false] at hi
     subst hi
     refine wpOp_step (by simp only [List.getElem?_toArray, List.getElem?_cons_succ, List.getElem?_cons_zero]; exact rfl) (fun K hK => ?_)
     go_simp
     have hb : (v5.alloc (.cells #[.int .u64 v] 39)).heap[v5.heap.size]? = some (.cells #[.int .u64 v] 39 (0, 0)) := blk_new _ _ _
     obtain ⟨gg10, hgg⟩ : ∃ g, v5.heap.size = g := ⟨_, rfl⟩
     obtain ⟨v10b, hw⟩ : ∃ W, v5.alloc (.cells #[.int .u64 v] 39) = W := ⟨_, rfl⟩
     have hf : Fr v5 v10b (fun _ => False) := by rw [← hw]; exact (Fr.refl v5 _).alloc _
     rw [hw, hgg] at hb
     have HRD10 := Lib.hid (rd_one hb)
     (try simp only [hw, hgg])
     clear hw hgg hb
     have hS2 := And.intro (hf.cell hS.1 (fun h => h)) (And.intro (hf.cell hS.2.1 (fun h => h)) (And.intro (hf.cell hS.2.2.1 (fun h => h)) (And.intro (hf.cell hS.2.2.2.1 (fun h => h)) (And.intro (hf.cell hS.2.2.2.2.1 (fun h => h)) (And.intro (hf.cell hS.2.2.2.2.2.1 (fun h => h)) (And.intro (hf.cell hS.2.2.2.2.2.2.1 (fun h => h)) (And.intro (hf.cell hS.2.2.2.2.2.2.2.1 (fun h => h)) (And.intro (hf.cell hS.2.2.2.2.2.2.2.2.1 (fun h => h)) (And.intro (hf.cell hS.2.2.2.2.2.2.2.2.2.1 (fun h => h)) (And.intro (hf.cell hS.2.2.2.2.2.2.2.2.2.2.1 (fun h => h)) (And.intro (hf.cell hS.2.2.2.2.2.2.2.2.2.2.2.1 (fun h => h)) (And.intro (hf.cell hS.2.2.2.2.2.2.2.2.2.2.2.2.1 (fun h => h)) (And.intro (hf.cell hS.2.2.2.2.2.2.2.2.2.2.2.2.2.1 (fun h => h)) (hf.cell hS.2.2.2.2.2.2.2.2.2.2.2.2.2.2 (fun h => h)))))))))))))))
     have HP10 := Lib.hid (HP5.out.trans hf)
     clear hS hf
     have hS := hS2
     clear hS2
     refine hK _ _ ⟨fun _ => hS, ?_⟩
     clear hK K
     (try simp (config := { maxSteps := 10000000 }) only [Act.put, List.setIfInBounds_toArray, List.set_cons_zero, List.set_cons_succ])
     refine wpTill_all (rs := [11]) (by kernel_rfl) (by simp) ?_
     intro i hi
     simp only [List.mem_cons, List.not_mem_nil, or_false] at hi
     subst hi
     refine wpOp_step (by simp only [List.getElem?_toArray, List.getElem?_cons_succ, List.getElem?_cons_zero]; exact rfl) (fun K hK => ?_)
     go_simp
     have hcall := mwords_at (z := ty) (rs := [v]) (HAR.out.fr HP10.out) HRD10.out (fun x hx => by simp at hx; rw [hx]; exact HV.out) (by have := HL2.out; omega) (by simp) (fun rr hl => by rw [HBW.out.2.2.1 rr hl]; have := HLW.out; omega)
     refine hcall.mono ?_
     rintro e v11 ⟨rfl, hf⟩
     clear hcall
     have hS2 := And.intro (hf.cell hS.1 (fun h => h)) (And.intro (hf.cell hS.2.1 (fun h => h)) (And.intro (hf.cell hS.2.2.1 (fun h => h)) (And.intro (hf.cell hS.2.2.2.1 (fun h => h)) (And.intro (hf.cell hS.2.2.2.2.1 (fun h => h)) (And.intro (hf.cell hS.2.2.2.2.2.1 (fun h => h)) (And.intro (hf.cell hS.2.2.2.2.2.2.1 (fun h => h)) (And.intro (hf.cell hS.2.2.2.2.2.2.2.1 (fun h => h)) (And.intro (hf.cell hS.2.2.2.2.2.2.2.2.1 (fun h => h)) (And.intro (hf.cell hS.2.2.2.2.2.2.2.2.2.1 (fun h => h)) (And.intro (hf.cell hS.2.2.2.2.2.2.2.2.2.2.1 (fun h => h)) (And.intro (hf.cell hS.2.2.2.2.2.2.2.2.2.2.2.1 (fun h => h)) (And.intro (hf.cell hS.2.2.2.2.2.2.2.2.2.2.2.2.1 (fun h => h)) (And.intro (hf.cell hS.2.2.2.2.2.2.2.2.2.2.2.2.2.1 (fun h => h)) (hf.cell hS.2.2.2.2.2.2.2.2.2.2.2.2.2.2 (fun h => h)))))))))))))))
     have HP11 := Lib.hid (HP10.out.trans hf)
     clear hS hf
     have hS := hS2
     clear hS2
     refine hK _ _ ⟨fun _ => hS, ?_⟩
     clear hK K
     (try simp (config := { maxSteps := 10000000 }) only [Act.put, List.setIfInBounds_toArray, List.set_cons_zero, List.set_cons_succ])
     refine wpTill_all (rs := [13]) (by kernel_rfl) (by simp) ?_
     intro i hi
     simp only [List.mem_cons, List.not_mem_nil, or_false] at hi
     subst hi
     refine wpOp_step (by simp only [List.getElem?_toArray, List.getElem?_cons_succ, List.getElem?_cons_zero]; exact rfl) (fun K hK => ?_)
     go_simp
     have hcall := HWY.out v11 (HFw10.out.trans HP11.out) HOK.out.2.1
     refine hcall.mono ?_
     rintro e v13 ⟨⟨rfl, _⟩, hf⟩
     clear hcall
     have hS2 := And.intro (hf.cell hS.1 (fun h => h)) (And.intro (hf.cell hS.2.1 (fun h => h)) (And.intro (hf.cell hS.2.2.1 (fun h => h)) (And.intro (hf.cell hS.2.2.2.1 (fun h => h)) (And.intro (hf.cell hS.2.2.2.2.1 (fun h => h)) (And.intro (hf.cell hS.2.2.2.2.2.1 (fun h => h)) (And.intro (hf.cell hS.2.2.2.2.2.2.1 (fun h => h)) (And.intro (hf.cell hS.2.2.2.2.2.2.2.1 (fun h => h)) (And.intro (hf.cell hS.2.2.2.2.2.2.2.2.1 (fun h => h)) (And.intro (hf.cell hS.2.2.2.2.2.2.2.2.2.1 (fun h => h)) (And.intro (hf.cell hS.2.2.2.2.2.2.2.2.2.2.1 (fun h => h)) (And.intro (hf.cell hS.2.2.2.2.2.2.2.2.2.2.2.1 (fun h => h)) (And.intro (hf.cell hS.2.2.2.2.2.2.2.2.2.2.2.2.1 (fun h => h)) (And.intro (hf.cell hS.2.2.2.2.2.2.2.2.2.2.2.2.2.1 (fun h => h)) (hf.cell hS.2.2.2.2.2.2.2.2.2.2.2.2.2.2 (fun h => h)))))))))))))))
     have HP13 := Lib.hid (HP11.out.trans hf)
     clear hS hf
     have hS := hS2
     clear hS2
     refine hK _ _ ⟨fun _ => hS, ?_⟩
     clear hK K
     (try simp (config := { maxSteps := 10000000 }) only [Act.put, List.setIfInBounds_toArray, List.set_cons_zero, List.set_cons_succ])
     refine wpTill_pure (i := 14) (v := .bool true) (by simp only [List.getElem?_toArray, List.getElem?_cons_succ, List.getElem?_cons_zero]; exact rfl) (by kernel_rfl) (by kernel_rfl) (by kernel_rfl) (by exact fun _ _ _ h => h) (fun _ => rfl) (Or.inl ⟨by rfl, ?_⟩) (fun _ => hS) ?_
     ·intro w; (first | rfl | (go_simp; try rfl))
     (try simp (config := { maxSteps := 10000000 }) only [Act.put, List.setIfInBounds_toArray, List.set_cons_zero, List.set_cons_succ])
     refine wpTill_pure (i := 15) (v := .bool true) (by simp only [List.getElem?_toArray, List.getElem?_cons_succ, List.getElem?_cons_zero]; exact rfl) (by kernel_rfl) (by kernel_rfl) (by kernel_rfl) (by exact fun _ _ _ h => h) (fun _ => rfl) (Or.inl ⟨by rfl, ?_⟩) (fun _ => hS) ?_
     ·intro w; (first | rfl | (go_simp; try rfl))
     (try simp (config := { maxSteps := 10000000 }) only [Act.put, List.setIfInBounds_toArray, List.set_cons_zero, List.set_cons_succ])
     refine wpTill_pure (i := 16) (v := .bool true) (by simp only [List.getElem?_toArray, List.getElem?_cons_succ, List.getElem?_cons_zero]; exact rfl) (by kernel_rfl) (by kernel_rfl) (by kernel_rfl) (by exact fun _ _ _ h => h) (fun _ => rfl) (Or.inl ⟨by rfl, ?_⟩) (fun _ => hS) ?_
     ·intro w; (first | rfl | (go_simp; try rfl))
     (try simp (config := { maxSteps := 10000000 }) only [Act.put, List.setIfInBounds_toArray, List.set_cons_zero, List.set_cons_succ])
     refine wpTill_pure (i := 17) (v := .pointer (some ⟨p, 0, none⟩)) (by simp only [List.getElem?_toArray, List.getElem?_cons_succ, List.getElem?_cons_zero]; exact rfl) (by kernel_rfl) (by kernel_rfl) (by kernel_rfl) (by exact fun _ _ _ h => h) (fun _ => rfl) (Or.inl ⟨by rfl, ?_⟩) (fun _ => hS) ?_
     ·intro w; (first | rfl | (go_simp; try rfl))
     (try simp (config := { maxSteps := 10000000 }) only [Act.put, List.setIfInBounds_toArray, List.set_cons_zero, List.set_cons_succ])
     refine wpTill_pure (i := 18) (v := .int .u64 u) (by simp only [List.getElem?_toArray, List.getElem?_cons_succ, List.getElem?_cons_zero]; exact rfl) (by kernel_rfl) (by kernel_rfl) (by kernel_rfl) (by exact fun _ _ _ h => h) (fun _ => rfl) (Or.inl ⟨by rfl, ?_⟩) (fun _ => hS) ?_
     ·intro w; (first | rfl | (go_simp; try rfl))
     (try simp (config := { maxSteps := 10000000 }) only [Act.put, List.setIfInBounds_toArray, List.set_cons_zero, List.set_cons_succ])
     refine wpTill_pure (i := 19) (v := .int .u64 v) (by simp only [List.getElem?_toArray, List.getElem?_cons_succ, List.getElem?_cons_zero]; exact rfl) (by kernel_rfl) (by kernel_rfl) (by kernel_rfl) (by exact fun _ _ _ h => h) (fun _ => rfl) (Or.inl ⟨by rfl, ?_⟩) (fun _ => hS) ?_
     ·intro w; (first | rfl | (go_simp; try rfl))
     (try simp (config := { maxSteps := 10000000 }) only [Act.put, List.setIfInBounds_toArray, List.set_cons_zero, List.set_cons_succ])
     refine wpTill_pure (i := 20) (v := .int .u64 u) (by simp only [List.getElem?_toArray, List.getElem?_cons_succ, List.getElem?_cons_zero]; exact rfl) (by kernel_rfl) (by kernel_rfl) (by kernel_rfl) (by exact fun _ _ _ h => h) (fun _ => rfl) (Or.inl ⟨by rfl, ?_⟩) (fun _ => hS) ?_
     ·intro w; (first | rfl | (go_simp; try rfl))
     (try simp (config := { maxSteps := 10000000 }) only [Act.put, List.setIfInBounds_toArray, List.set_cons_zero, List.set_cons_succ])
     refine wpTill_pure (i := 23) (v := .pointer (some ⟨q, 0, none⟩)) (by simp only [List.getElem?_toArray, List.getElem?_cons_succ, List.getElem?_cons_zero]; exact rfl) (by kernel_rfl) (by kernel_rfl) (by kernel_rfl) (by exact fun _ _ _ h => h) (fun _ => rfl) (Or.inl ⟨by rfl, ?_⟩) (fun _ => hS) ?_
     ·intro w; (first | rfl | (go_simp; try rfl))
     (try simp (config := { maxSteps := 10000000 }) only [Act.put, List.setIfInBounds_toArray, List.set_cons_zero, List.set_cons_succ])
     refine wpTill_pure (i := 24) (v := .pointer (some ⟨q, 0, none⟩)) (by simp only [List.getElem?_toArray, List.getElem?_cons_succ, List.getElem?_cons_zero]; exact rfl) (by kernel_rfl) (by kernel_rfl) (by kernel_rfl) (by exact fun _ _ _ h => h) (fun _ => rfl) (Or.inl ⟨by rfl, ?_⟩) (fun _ => hS) ?_
     ·intro w; (first | rfl | (go_simp; try rfl))
     (try simp (config := { maxSteps := 10000000 }) only [Act.put, List.setIfInBounds_toArray, List.set_cons_zero, List.set_cons_succ])
     refine wpTill_pure (i := 25) (v := .pointer (some ⟨q, 0, none⟩)) (by simp only [List.getElem?_toArray, List.getElem?_cons_succ, List.getElem?_cons_zero]; exact rfl) (by kernel_rfl) (by kernel_rfl) (by kernel_rfl) (by exact fun _ _ _ h => h) (fun _ => rfl) (Or.inl ⟨by rfl, ?_⟩) (fun _ => hS) ?_
     ·intro w; (first | rfl | (go_simp; try rfl))
     (try simp (config := { maxSteps := 10000000 }) only [Act.put, List.setIfInBounds_toArray, List.set_cons_zero, List.set_cons_succ])
     refine wpTill_read 27 (i := 26) (v := .slice Av WS.length cvv) (by simp only [List.getElem?_toArray, List.getElem?_cons_succ, List.getElem?_cons_zero]; exact rfl) (by kernel_rfl) (by kernel_rfl) (by kernel_rfl) (by exact fun _ _ _ h => h) (fun _ => rfl) (fun _ h => Bool.noConfusion h) (by kernel_rfl) (by kernel_rfl) (Or.inl ⟨by rfl, ?_⟩) hS ?_
     ·intro w hSw; obtain ⟨j0, j1, j2, j3, j4, j5, j6, j7, j8, j9, j10, j11, j12, j13, j14⟩ := hSw; go_simp; try rfl
     (try simp (config := { maxSteps := 10000000 }) only [Act.put, List.setIfInBounds_toArray, List.set_cons_zero, List.set_cons_succ])
     refine wpTill_pure (i := 27) (v := .int .i64 WS.length) (by simp only [List.getElem?_toArray, List.getElem?_cons_succ, List.getElem?_cons_zero]; exact rfl) (by kernel_rfl) (by kernel_rfl) (by kernel_rfl) (by exact fun _ _ _ h => h) (fun _ => rfl) (Or.inl ⟨by rfl, ?_⟩) (fun _ => hS) ?_
     ·intro w; (first | rfl | (go_simp; try rfl))
     (try simp (config := { maxSteps := 10000000 }) only [Act.put, List.setIfInBounds_toArray, List.set_cons_zero, List.set_cons_succ])
     refine wpTill_all (rs := [21]) (by kernel_rfl) (by simp) ?_
     intro i hi
     simp only [List.mem_cons, List.not_mem_nil, or_false] at hi
     subst hi
     refine wpOp_step (by simp only [List.getElem?_toArray, List.getElem?_cons_succ, List.getElem?_cons_zero]; exact rfl) (fun K hK => ?_)
     go_simp
     have hb : (v13.alloc (.cells #[.int .u64 u, .int .u64 v, .int .u64 u] 39)).heap[v13.heap.size]? = some (.cells #[.int .u64 u, .int .u64 v, .int .u64 u] 39 (0, 0)) := blk_new _ _ _
     obtain ⟨gg21, hgg⟩ : ∃ g, v13.heap.size = g := ⟨_, rfl⟩
     obtain ⟨v21b, hw⟩ : ∃ W, v13.alloc (.cells #[.int .u64 u, .int .u64 v, .int .u64 u] 39) = W := ⟨_, rfl⟩
     have hf : Fr v13 v21b (fun _ => False) := by rw [← hw]; exact (Fr.refl v13 _).alloc _
     rw [hw, hgg] at hb
     have HRD21 := Lib.hid (rd_three hb)
     (try simp only [hw, hgg])
     clear hw hgg hb
     have hS2 := And.intro (hf.cell hS.1 (fun h => h)) (And.intro (hf.cell hS.2.1 (fun h => h)) (And.intro (hf.cell hS.2.2.1 (fun h => h)) (And.intro (hf.cell hS.2.2.2.1 (fun h => h)) (And.intro (hf.cell hS.2.2.2.2.1 (fun h => h)) (And.intro (hf.cell hS.2.2.2.2.2.1 (fun h => h)) (And.intro (hf.cell hS.2.2.2.2.2.2.1 (fun h => h)) (And.intro (hf.cell hS.2.2.2.2.2.2.2.1 (fun h => h)) (And.intro (hf.cell hS.2.2.2.2.2.2.2.2.1 (fun h => h)) (And.intro (hf.cell hS.2.2.2.2.2.2.2.2.2.1 (fun h => h)) (And.intro (hf.cell hS.2.2.2.2.2.2.2.2.2.2.1 (fun h => h)) (And.intro (hf.cell hS.2.2.2.2.2.2.2.2.2.2.2.1 (fun h => h)) (And.intro (hf.cell hS.2.2.2.2.2.2.2.2.2.2.2.2.1 (fun h => h)) (And.intro (hf.cell hS.2.2.2.2.2.2.2.2.2.2.2.2.2.1 (fun h => h)) (hf.cell hS.2.2.2.2.2.2.2.2.2.2.2.2.2.2 (fun h => h)))))))))))))))
     have HP21 := Lib.hid (HP13.out.trans hf)
     clear hS hf
     have hS := hS2
     clear hS2
     refine hK _ _ ⟨fun _ => hS, ?_⟩
     clear hK K
     (try simp (config := { maxSteps := 10000000 }) only [Act.put, List.setIfInBounds_toArray, List.set_cons_zero, List.set_cons_succ])
     refine wpTill_all (rs := [22]) (by kernel_rfl) (by simp) ?_
     intro i hi
     simp only [List.mem_cons, List.not_mem_nil, or_false] at hi
     subst hi
     refine wpOp_step (by simp only [List.getElem?_toArray, List.getElem?_cons_succ, List.getElem?_cons_zero]; exact rfl) (fun K hK => ?_)
     go_simp
     have hcall := mwords_at (z := (WS.length : Int)) (rs := [u, v, u]) (HAR.out.fr HP21.out) HRD21.out (fun x hx => by simp only [List.mem_cons, List.not_mem_nil, or_false] at hx; rcases hx with rfl | rfl | rfl; exact HU.out; exact HV.out; exact HU.out) (by have := HL2.out; omega) (by simp) (fun rr hl => HBW.out.2.2.2 rr hl)
     refine hcall.mono ?_
     rintro e v22 ⟨rfl, hf⟩
     clear hcall
     have hS2 := And.intro (hf.cell hS.1 (fun h => h)) (And.intro (hf.cell hS.2.1 (fun h => h)) (And.intro (hf.cell hS.2.2.1 (fun h => h)) (And.intro (hf.cell hS.2.2.2.1 (fun h => h)) (And.intro (hf.cell hS.2.2.2.2.1 (fun h => h)) (And.intro (hf.cell hS.2.2.2.2.2.1 (fun h => h)) (And.intro (hf.cell hS.2.2.2.2.2.2.1 (fun h => h)) (And.intro (hf.cell hS.2.2.2.2.2.2.2.1 (fun h => h)) (And.intro (hf.cell hS.2.2.2.2.2.2.2.2.1 (fun h => h)) (And.intro (hf.cell hS.2.2.2.2.2.2.2.2.2.1 (fun h => h)) (And.intro (hf.cell hS.2.2.2.2.2.2.2.2.2.2.1 (fun h => h)) (And.intro (hf.cell hS.2.2.2.2.2.2.2.2.2.2.2.1 (fun h => h)) (And.intro (hf.cell hS.2.2.2.2.2.2.2.2.2.2.2.2.1 (fun h => h)) (And.intro (hf.cell hS.2.2.2.2.2.2.2.2.2.2.2.2.2.1 (fun h => h)) (hf.cell hS.2.2.2.2.2.2.2.2.2.2.2.2.2.2 (fun h => h)))))))))))))))
     have HP22 := Lib.hid (HP21.out.trans hf)
     clear hS hf
     have hS := hS2
     clear hS2
     refine hK _ _ ⟨fun _ => hS, ?_⟩
     clear hK K
     (try simp (config := { maxSteps := 10000000 }) only [Act.put, List.setIfInBounds_toArray, List.set_cons_zero, List.set_cons_succ])
     refine wpTill_pure (i := 28) (v := .bool true) (by simp only [List.getElem?_toArray, List.getElem?_cons_succ, List.getElem?_cons_zero]; exact rfl) (by kernel_rfl) (by kernel_rfl) (by kernel_rfl) (by exact fun _ _ _ h => h) (fun _ => rfl) (Or.inl ⟨by rfl, ?_⟩) (fun _ => hS) ?_
     ·intro w; (first | rfl | (go_simp; try rfl))
     (try simp (config := { maxSteps := 10000000 }) only [Act.put, List.setIfInBounds_toArray, List.set_cons_zero, List.set_cons_succ])
     refine wpTill_pure (i := 29) (v := .bool true) (by simp only [List.getElem?_toArray, List.getElem?_cons_succ, List.getElem?_cons_zero]; exact rfl) (by kernel_rfl) (by kernel_rfl) (by kernel_rfl) (by exact fun _ _ _ h => h) (fun _ => rfl) (Or.inl ⟨by rfl, ?_⟩) (fun _ => hS) ?_
     ·intro w; (first | rfl | (go_simp; try rfl))
     (try simp (config := { maxSteps := 10000000 }) only [Act.put, List.setIfInBounds_toArray, List.set_cons_zero, List.set_cons_succ])
     refine wpTill_pure (i := 30) (v := .bool true) (by simp only [List.getElem?_toArray, List.getElem?_cons_succ, List.getElem?_cons_zero]; exact rfl) (by kernel_rfl) (by kernel_rfl) (by kernel_rfl) (by exact fun _ _ _ h => h) (fun _ => rfl) (Or.inl ⟨by rfl, ?_⟩) (fun _ => hS) ?_
     ·intro w; (first | rfl | (go_simp; try rfl))
     (try simp (config := { maxSteps := 10000000 }) only [Act.put, List.setIfInBounds_toArray, List.set_cons_zero, List.set_cons_succ])
     refine wpTill_pure (i := 31) (v := .pointer (some ⟨p, 0, none⟩)) (by simp only [List.getElem?_toArray, List.getElem?_cons_succ, List.getElem?_cons_zero]; exact rfl) (by kernel_rfl) (by kernel_rfl) (by kernel_rfl) (by exact fun _ _ _ h => h) (fun _ => rfl) (Or.inl ⟨by rfl, ?_⟩) (fun _ => hS) ?_
     ·intro w; (first | rfl | (go_simp; try rfl))
     (try simp (config := { maxSteps := 10000000 }) only [Act.put, List.setIfInBounds_toArray, List.set_cons_zero, List.set_cons_succ])
     refine wpTill_pure (i := 32) (v := .int .u64 u) (by simp only [List.getElem?_toArray, List.getElem?_cons_succ, List.getElem?_cons_zero]; exact rfl) (by kernel_rfl) (by kernel_rfl) (by kernel_rfl) (by exact fun _ _ _ h => h) (fun _ => rfl) (Or.inl ⟨by rfl, ?_⟩) (fun _ => hS) ?_
     ·intro w; (first | rfl | (go_simp; try rfl))
     (try simp (config := { maxSteps := 10000000 }) only [Act.put, List.setIfInBounds_toArray, List.set_cons_zero, List.set_cons_succ])
     refine wpTill_pure (i := 33) (v := .int .u64 v) (by simp only [List.getElem?_toArray, List.getElem?_cons_succ, List.getElem?_cons_zero]; exact rfl) (by kernel_rfl) (by kernel_rfl) (by kernel_rfl) (by exact fun _ _ _ h => h) (fun _ => rfl) (Or.inl ⟨by rfl, ?_⟩) (fun _ => hS) ?_
     ·intro w; (first | rfl | (go_simp; try rfl))
     (try simp (config := { maxSteps := 10000000 }) only [Act.put, List.setIfInBounds_toArray, List.set_cons_zero, List.set_cons_succ])
     refine wpTill_all (rs := [34]) (by kernel_rfl) (by simp) ?_
     intro i hi
     simp only [List.mem_cons, List.not_mem_nil, or_false] at hi
     subst hi
     refine wpOp_step (by simp only [List.getElem?_toArray, List.getElem?_cons_succ, List.getElem?_cons_zero]; exact rfl) (fun K hK => ?_)
     go_simp
     have hb : (v22.alloc (.cells #[.int .u64 u, .int .u64 v] 39)).heap[v22.heap.size]? = some (.cells #[.int .u64 u, .int .u64 v] 39 (0, 0)) := blk_new _ _ _
     obtain ⟨gg34, hgg⟩ : ∃ g, v22.heap.size = g := ⟨_, rfl⟩
     obtain ⟨v34b, hw⟩ : ∃ W, v22.alloc (.cells #[.int .u64 u, .int .u64 v] 39) = W := ⟨_, rfl⟩
     have hf : Fr v22 v34b (fun _ => False) := by rw [← hw]; exact (Fr.refl v22 _).alloc _
     rw [hw, hgg] at hb
     have HRD34 := Lib.hid (rd_two hb)
     (try simp only [hw, hgg])
     clear hw hgg hb
     have hS2 := And.intro (hf.cell hS.1 (fun h => h)) (And.intro (hf.cell hS.2.1 (fun h => h)) (And.intro (hf.cell hS.2.2.1 (fun h => h)) (And.intro (hf.cell hS.2.2.2.1 (fun h => h)) (And.intro (hf.cell hS.2.2.2.2.1 (fun h => h)) (And.intro (hf.cell hS.2.2.2.2.2.1 (fun h => h)) (And.intro (hf.cell hS.2.2.2.2.2.2.1 (fun h => h)) (And.intro (hf.cell hS.2.2.2.2.2.2.2.1 (fun h => h)) (And.intro (hf.cell hS.2.2.2.2.2.2.2.2.1 (fun h => h)) (And.intro (hf.cell hS.2.2.2.2.2.2.2.2.2.1 (fun h => h)) (And.intro (hf.cell hS.2.2.2.2.2.2.2.2.2.2.1 (fun h => h)) (And.intro (hf.cell hS.2.2.2.2.2.2.2.2.2.2.2.1 (fun h => h)) (And.intro (hf.cell hS.2.2.2.2.2.2.2.2.2.2.2.2.1 (fun h => h)) (And.intro (hf.cell hS.2.2.2.2.2.2.2.2.2.2.2.2.2.1 (fun h => h)) (hf.cell hS.2.2.2.2.2.2.2.2.2.2.2.2.2.2 (fun h => h)))))))))))))))
     have HP34 := Lib.hid (HP22.out.trans hf)
     clear hS hf
     have hS := hS2
     clear hS2
     refine hK _ _ ⟨fun _ => hS, ?_⟩
     clear hK K
     (try simp (config := { maxSteps := 10000000 }) only [Act.put, List.setIfInBounds_toArray, List.set_cons_zero, List.set_cons_succ])
     refine wpTill_all (rs := [35]) (by kernel_rfl) (by simp) ?_
     intro i hi
     simp only [List.mem_cons, List.not_mem_nil, or_false] at hi
     subst hi
     refine wpOp_step (by simp only [List.getElem?_toArray, List.getElem?_cons_succ, List.getElem?_cons_zero]; exact rfl) (fun K hK => ?_)
     go_simp
     have hcall := msnd_c p va (.slice (some ⟨gg34, 0, none⟩) 2 2) WS [u, v] (WS.length + 0) v34b (HAR.out.fr HP34.out) HRD34.out (fun x hx => by simp only [List.mem_cons, List.not_mem_nil, or_false] at hx; rcases hx with rfl | rfl; exact HU.out; exact HV.out) (by simp)
     refine hcall.mono ?_
     rintro e v35 ⟨rfl, hf⟩
     clear hcall
     rw [HBW.out.1]
     have hS2 := And.intro (hf.cell hS.1 (fun h => h)) (And.intro (hf.cell hS.2.1 (fun h => h)) (And.intro (hf.cell hS.2.2.1 (fun h => h)) (And.intro (hf.cell hS.2.2.2.1 (fun h => h)) (And.intro (hf.cell hS.2.2.2.2.1 (fun h => h)) (And.intro (hf.cell hS.2.2.2.2.2.1 (fun h => h)) (And.intro (hf.cell hS.2.2.2.2.2.2.1 (fun h => h)) (And.intro (hf.cell hS.2.2.2.2.2.2.2.1 (fun h => h)) (And.intro (hf.cell hS.2.2.2.2.2.2.2.2.1 (fun h => h)) (And.intro (hf.cell hS.2.2.2.2.2.2.2.2.2.1 (fun h => h)) (And.intro (hf.cell hS.2.2.2.2.2.2.2.2.2.2.1 (fun h => h)) (And.intro (hf.cell hS.2.2.2.2.2.2.2.2.2.2.2.1 (fun h => h)) (And.intro (hf.cell hS.2.2.2.2.2.2.2.2.2.2.2.2.1 (fun h => h)) (And.intro (hf.cell hS.2.2.2.2.2.2.2.2.2.2.2.2.2.1 (fun h => h)) (hf.cell hS.2.2.2.2.2.2.2.2.2.2.2.2.2.2 (fun h => h)))))))))))))))
     have HP35 := Lib.hid (HP34.out.trans hf)
     clear hS hf
     have hS := hS2
     clear hS2
     refine hK _ _ ⟨fun _ => hS, ?_⟩
     clear hK K
     (try simp (config := { maxSteps := 10000000 }) only [Act.put, List.setIfInBounds_toArray, List.set_cons_zero, List.set_cons_succ])
     refine wpTill_pure (i := 36) (v := .bool true) (by simp only [List.getElem?_toArray, List.getElem?_cons_succ, List.getElem?_cons_zero]; exact rfl) (by kernel_rfl) (by kernel_rfl) (by kernel_rfl) (by exact fun _ _ _ h => h) (fun _ => rfl) (Or.inl ⟨by rfl, ?_⟩) (fun _ => hS) ?_
     ·intro w; (first | rfl | (go_simp; try rfl))
     (try simp (config := { maxSteps := 10000000 }) only [Act.put, List.setIfInBounds_toArray, List.set_cons_zero, List.set_cons_succ])
     refine wpTill_all (rs := [37]) (by kernel_rfl) (by simp) ?_
     intro i hi
     simp only [List.mem_cons, List.not_mem_nil, or_false] at hi
     subst hi
     refine wpOp_step (by simp only [List.getElem?_toArray, List.getElem?_cons_succ, List.getElem?_cons_zero]; exact rfl) (fun K hK => ?_)
     go_simp
     refine hK _ _ ⟨fun _ => hS, ?_⟩
     clear hK K
     (try simp (config := { maxSteps := 10000000 }) only [Act.put, List.setIfInBounds_toArray, List.set_cons_zero, List.set_cons_succ])
     refine wpTill_done (by kernel_rfl) ?_ _
     go_wp2
     go_ret
     exact ⟨rfl, HFw10.out.trans HP35.out⟩
    ·have n1 : (er2 == 0) = false := by simpa using h2
     have n2 : (er2 != 0) = true := by simpa using h2
     go_wp2
     go_ret
     exact ⟨rfl, HFw10.out⟩
   ·have n1 : (er == 0) = false := by simpa using h1
    have n2 : (er != 0) = true := by simpa using h1
    go_wp2
    go_ret
    exact ⟨rfl, HFw10.out⟩
theorem arg_open {d : Nat} {w : World} {t : S26} {v : Value} (h : TR d w t v.cells.toList) : ∃ A2 c2 A5 c5 A6 c6, v = .agg #[.int .i64 t.f0, .bool t.f1, .slice A2 t.f2.length c2, .string t.f3, .int .i64 t.f4, .slice A5 t.f5.length c5, .slice A6 t.f6.length c6] ∧ TR d w t [.int .i64 t.f0, .bool t.f1, .slice A2 t.f2.length c2, .string t.f3, .int .i64 t.f4, .slice A5 t.f5.length c5, .slice A6 t.f6.length c6] := by
 cases d with
 | zero => exact h.elim
 | succ d =>
  have h0 := h
  obtain ⟨A2, c2, A5, c5, A6, c6, hcs, _⟩ := h0
  rw [hcs] at h
  refine ⟨A2, c2, A5, c5, A6, c6, ?_, h⟩
  cases v with
  | agg cs =>
   have e : cs.toList = _ := hcs
   rw [← Array.toList_inj.1 (show cs.toList = (#[.int .i64 t.f0, .bool t.f1, .slice A2 t.f2.length c2, .string t.f3, .int .i64 t.f4, .slice A5 t.f5.length c5, .slice A6 t.f6.length c6] : Array Value).toList from e)]
  | _ => exact absurd (congrArg List.length hcs) (by simp [Value.cells])
end Go.Proofs.YtjiaaefpepdoeaaDoor
namespace Go.Proofs.YtjiaaefpepdoeaaDoor.Opn
open Go.ChangeShapes Go.WideShapes Go.ChangeAt Go.RowKit
set_option linter.unusedVariables false
theorem spot_none {w : World} {a : Addr} {v : Value} (h : w.cell? a = some v) : a.spot = none := by
 unfold World.cell? at h
 split at h
 ·split at h
  ·cases h
  ·rename_i h1; simpa using h1
 ·cases h
section
variable {H : Type} {enc : TypeId × Value → H} {P : Program} {w : World} {base : Nat} {held : Bool}
theorem open_row {t e : TypeId} {k : IntKind} {fuel len cap : Nat} {A : Option Addr} {x : DataW H × List MemPlace} (ht : P.underlying t = some (.slice e)) (he : P.underlying e = some (.int k)) (hc : P.cellsOf e = 1)
  (h : DataW.trod enc P w base (fun _ => true) held fuel t [.slice A len cap] = some x) :
  ∃ zs : List Int, zs.length = len ∧ (∀ n ∈ zs, (Lit.int k n).wf = true) ∧ Rd w (.slice A len cap) (zs.map (Value.int k)) := by
 rcases open_ints ht he hc h with ⟨hcs, _⟩ | ⟨a, l, c, zs, hcs, _, hl, hm, hz, _, hcell, hwz⟩
 ·simp at hcs
  obtain ⟨rfl, rfl, rfl⟩ := hcs
  exact ⟨[], rfl, (fun n hn => by cases hn), .inl ⟨rfl, none, 0, rfl, fun _ => rfl⟩⟩
 ·simp at hcs
  obtain ⟨rfl, rfl, rfl⟩ := hcs
  simp only [if_true] at hz
  have hlz : (zs.take len).length = len := by simp; omega
  refine ⟨zs.take len, hlz, fun n hn => hwz n (List.mem_of_mem_take hn), ?_⟩
  by_cases h0 : len = 0
  ·subst h0
   exact .inl ⟨by simp, some a, cap, rfl, fun h => by cases h⟩
  ·obtain ⟨b, off, sp⟩ := a
   have h1 := hcell 0 (by omega)
   have h2 := spot_none h1
   simp [Addr.add] at h2
   subst h2
   have ad : ∀ n, (Addr.mk b off none).add n = ⟨b, off + n, none⟩ := fun n => by
    unfold Addr.add; split
    ·subst_vars; rfl
    ·rfl
   have hb := World.block_lt_of_cell? w _ h1
   rw [ad] at hb
   refine .inr ⟨b, off, cap, by rw [List.length_map, hlz], by rw [List.length_map, hlz]; omega, by rw [List.length_map, hlz]; exact hl, hm, hb, fun i hi => ?_⟩
   have hi' : i < len := by rw [List.length_map, hlz] at hi; exact hi
   have h3 := hcell i (by omega)
   rw [ad] at h3
   rw [h3]
   simp [List.getD, List.getElem?_eq_getElem (show i < zs.length by omega), List.getElem?_take, hi']
end
end Go.Proofs.YtjiaaefpepdoeaaDoor.Opn
namespace Go.Proofs.YtjiaaefpepdoeaaDoor.Opn
open Go.ChangeShapes Go.WideShapes Go.ChangeAt Go.RowKit Md
open Go.Proofs.YtjiaaefpepdoeaaDoor.PSlideMeans (S26 z26)
set_option linter.unusedVariables false
theorem pick {P : Nat → S26 → Prop} : ∀ (n : Nat), (∀ i, i < n → ∃ t, P i t) → ∃ ts : List S26, ts.length = n ∧ ∀ i, i < n → P i (ts.getD i z26)
 | 0, _ => ⟨[], rfl, fun i hi => absurd hi (by omega)⟩
 | n + 1, h => by
  obtain ⟨ts, hl, hp⟩ := pick n (fun i hi => h i (by omega))
  obtain ⟨t, ht⟩ := h n (by omega)
  refine ⟨ts ++ [t], by simp [hl], fun i hi => ?_⟩
  by_cases hin : i < n
  ·have e : (ts ++ [t]).getD i z26 = ts.getD i z26 := by
    rw [List.getD_eq_getElem?_getD, List.getD_eq_getElem?_getD, List.getElem?_append_left (by omega)]
   rw [e]; exact hp i hin
  ·have : i = n := by omega
   subst this
   have e : (ts ++ [t]).getD i z26 = t := by
    rw [List.getD_eq_getElem?_getD, List.getElem?_append_right (by omega), hl]; simp
   rw [e]; exact ht
set_option maxRecDepth 10000 in
theorem seven {cs : List Value} (h : cs.length = 7) : ∃ c0 c1 c2 c3 c4 c5 c6, cs = [c0, c1, c2, c3, c4, c5, c6] := by
 rcases cs with _ | ⟨c0, _ | ⟨c1, _ | ⟨c2, _ | ⟨c3, _ | ⟨c4, _ | ⟨c5, _ | ⟨c6, _ | ⟨c7, r⟩⟩⟩⟩⟩⟩⟩⟩
 all_goals first | exact ⟨_, _, _, _, _, _, _, rfl⟩ | (simp at h; done) | (simp only [List.length_cons, List.length_nil] at h; omega)
section
variable {H : Type} {enc : TypeId × Value → H} {w : World} {base : Nat} {held : Bool}
theorem slice_shape {t e : TypeId} {fuel : Nat} {c : Value} {x : DataW H × List MemPlace} {sp : Nat → Bool} (ht : Tryd.prog.underlying t = some (.slice e)) (h : DataW.trod enc Tryd.prog w base sp held fuel t [c] = some x) : ∃ A len cap, c = .slice A len cap ∧ len ≤ cap ∧ cap ≤ maxLen := by
 rcases DataW.trod_slice ht h with ⟨h0, _⟩ | ⟨a, len, cap, elems, rest, n, _, hcs, _, hb, hl, hm, _⟩
 ·injection h0 with h0
  exact ⟨none, 0, 0, h0, Nat.le_refl _, by unfold maxLen; omega⟩
 ·injection hcs with hcs
  exact ⟨some a, len, cap, hcs, hl, hm⟩
theorem open_term : ∀ (fuel : Nat) (cs : List Value) (x : DataW H × List MemPlace), DataW.trod enc Tryd.prog w base (fun _ => true) held fuel 26 cs = some x → ∃ t, TR fuel w t cs := by
 intro fuel
 induction fuel using Nat.strongRecOn with
 | _ fuel ih =>
  intro cs x h
  obtain ⟨xs, n, rfl, rfl, hl, hxl, hf⟩ := DataW.trod_struct Tryd.underlying26 h
  have hl7 : cs.length = 7 := hl.trans (by kernel_rfl)
  have hx7 : xs.length = 7 := hxl
  obtain ⟨c0, c1, c2, c3, c4, c5, c6, rfl⟩ := seven hl7
  have get : ∀ i, i < 7 → ∃ y, xs[i]? = some y := fun i hi => ⟨_, List.getElem?_eq_getElem (by omega)⟩
  obtain ⟨y0, e0⟩ := get 0 (by omega)
  obtain ⟨y1, e1⟩ := get 1 (by omega)
  obtain ⟨y2, e2⟩ := get 2 (by omega)
  obtain ⟨y3, e3⟩ := get 3 (by omega)
  obtain ⟨y4, e4⟩ := get 4 (by omega)
  obtain ⟨y5, e5⟩ := get 5 (by omega)
  obtain ⟨y6, e6⟩ := get 6 (by omega)
  have one3 : Tryd.prog.cellsOf 3 = 1 := by kernel_rfl
  have one4 : Tryd.prog.cellsOf 4 = 1 := by kernel_rfl
  have one9 : Tryd.prog.cellsOf 9 = 1 := by kernel_rfl
  have one22 : Tryd.prog.cellsOf 22 = 1 := by kernel_rfl
  have one23 : Tryd.prog.cellsOf 23 = 1 := by kernel_rfl
  have one24 : Tryd.prog.cellsOf 24 = 1 := by kernel_rfl
  have g0 : DataW.trod enc Tryd.prog w base (fun _ => true) held n 3 [c0] = some y0 := by rw [← e0, ← hf 0 _ rfl]; simp [one3]
  have g1 : DataW.trod enc Tryd.prog w base (fun _ => true) held n 4 [c1] = some y1 := by rw [← e1, ← hf 1 _ rfl]; simp [one4]
  have g2 : DataW.trod enc Tryd.prog w base (fun _ => true) held n 22 [c2] = some y2 := by rw [← e2, ← hf 2 _ rfl]; simp [one22]
  have g3 : DataW.trod enc Tryd.prog w base (fun _ => true) held n 9 [c3] = some y3 := by rw [← e3, ← hf 3 _ rfl]; simp [one9]
  have g4 : DataW.trod enc Tryd.prog w base (fun _ => true) held n 3 [c4] = some y4 := by rw [← e4, ← hf 4 _ rfl]; simp [one3]
  have g5 : DataW.trod enc Tryd.prog w base (fun _ => true) held n 23 [c5] = some y5 := by rw [← e5, ← hf 5 _ rfl]; simp [one23]
  have g6 : DataW.trod enc Tryd.prog w base (fun _ => true) held n 24 [c6] = some y6 := by rw [← e6, ← hf 6 _ rfl]; simp [one24]
  clear hf get e0 e1 e2 e3 e4 e5 e6 h
  obtain ⟨k, hk, _, _⟩ := DataW.trod_int Tryd.underlying3 g0
  obtain ⟨ng, hng, _⟩ := DataW.trod_bool Tryd.underlying4 g1
  obtain ⟨s, hs, _, hsz⟩ := DataW.trod_string Tryd.underlying9 g3
  obtain ⟨nn, hnn, _, _⟩ := DataW.trod_int Tryd.underlying3 g4
  injection hk with hk
  injection hng with hng
  injection hs with hs
  injection hnn with hnn
  subst hk hng hs hnn
  obtain ⟨A2, n2, p2, rfl, l2, m2⟩ := slice_shape Tryd.underlying22 g2
  obtain ⟨A6, n6, p6, rfl, l6, m6⟩ := slice_shape Tryd.underlying24 g6
  obtain ⟨z2, rfl, w2, r2⟩ := open_row Tryd.underlying22 Tryd.underlying123 (by kernel_rfl) g2
  obtain ⟨z6, rfl, w6, r6⟩ := open_row Tryd.underlying24 Tryd.underlying5 (by kernel_rfl) g6
  have o2 : okD z2 := fun x hx => by
   have wf := w2 x hx
   simp [Lit.wf, IntKind.min, IntKind.max, IntKind.bits, IntKind.signed] at wf
   omega
  have o6 : okB z6 := fun x hx => by
   have wf := w6 x hx
   simp [Lit.wf, IntKind.min, IntKind.max, IntKind.bits, IntKind.signed] at wf
   omega
  rcases DataW.trod_slice Tryd.underlying23 g5 with ⟨h0, _⟩ | ⟨a, len, cap, elems, rest, n', hn', hcs, _, hb, hle, hm, helen, hel, _⟩
  ·injection h0 with h0
   subst h0
   exact ⟨⟨k, ng, z2, s, nn, [], z6⟩, A2, p2, none, 0, A6, p6, rfl, r2, o2, r6, o6, hsz, Nat.le_refl _, by unfold maxLen; omega, fun h => absurd h (by simp)⟩
  ·injection hcs with hcs
   subst hcs
   have c7 : Tryd.prog.cellsOf 26 = 7 := by kernel_rfl
   rw [c7] at hel
   have cell : ∀ i, i < len → ∃ es, es.length = 7 ∧ (∀ j u, es[j]? = some u → w.cell? ((a.add (i * 7)).add j) = some u) ∧ ∃ t, TR n w t es := fun i hi => by
    have hi2 := hel i hi
    rw [List.getElem?_eq_getElem (by omega)] at hi2
    obtain ⟨es, hc, ht⟩ := Option.bind_eq_some_iff.1 hi2
    obtain ⟨_, hlen, hcell⟩ := World.cells?_some hc
    obtain ⟨t, ht⟩ := ih n' (by omega) es _ ht
    refine ⟨es, hlen, fun j u hu => ?_, t, ht.mono (by omega)⟩
    have hj : j < 7 := by have := (List.getElem?_eq_some_iff.1 hu).1; omega
    have := hcell j hj
    rw [hu] at this
    exact this
   by_cases h0 : len = 0
   ·subst h0
    exact ⟨⟨k, ng, z2, s, nn, [], z6⟩, A2, p2, some a, cap, A6, p6, rfl, r2, o2, r6, o6, hsz, by simp, hm, fun h => absurd h (by simp)⟩
   ·obtain ⟨b, off, sp⟩ := a
    have hsp : sp = none := by
     obtain ⟨es, hes, hc, _⟩ := cell 0 (by omega)
     have h1 := hc 0 _ (List.getElem?_eq_getElem (by omega))
     have h2 := spot_none h1
     simpa [Addr.add] using h2
    subst hsp
    obtain ⟨ts, htl, htp⟩ := pick (P := fun i t => ∃ es, es.length = 7 ∧ (∀ j u, es[j]? = some u → w.cell? ⟨b, off + (i * 7 + j), none⟩ = some u) ∧ TR n w t es) len (fun i hi => by
     obtain ⟨es, hes, hc, t, ht⟩ := cell i hi
     refine ⟨t, es, hes, fun j u hu => ?_, ht⟩
     have := hc j u hu
     rw [Addr.add_lit, Addr.add_lit, Nat.add_assoc] at this
     exact this)
    subst htl
    exact ⟨⟨k, ng, z2, s, nn, ts, z6⟩, A2, p2, some ⟨b, off, none⟩, cap, A6, p6, rfl, r2, o2, r6, o6, hsz, hle, hm, fun _ => ⟨b, off, rfl, htp⟩⟩
end
end Go.Proofs.YtjiaaefpepdoeaaDoor.Opn
namespace Go.Proofs.YtjiaaefpepdoeaaDoor.markTerms
open Go.ChangeShapes Go.WideShapes Go.ChangeAt Go.RowKit Go.Lib Go.Proofs
open Go.ChangeMaps (open_string shut_string)
set_option linter.unusedVariables false
theorem own : ownKnob Tryd.prog.godebug = none := by kernel_rfl
theorem laidOut : laidOutB Tryd.prog = true := by kernel_rfl
theorem tabs_of {W : World} (hL : laidMetH Tryd.prog Rows.markTermsRow.laid W) : Tabs W := by
 have h1 : VarReads Tryd.prog W "unicode/utf8.first" firstData := by
  have := Lib.laidMet.reads hL (.tail _ (.head _))
  rw [show Rows.laid_unicode_utf8_first = firstData from Pinned.utf8First_eq] at this
  exact this
 have h2 : VarReads Tryd.prog W "unicode/utf8.acceptRanges" acceptData := by
  have := Lib.laidMet.reads hL (.head _)
  rw [show (Rows.laid_unicode_utf8_acceptRanges : DataW Unit) = acceptData by kernel_rfl] at this
  exact this
 exact utf8Tabs_of_readsT (U8Types.of196 Tryd.lays196) ⟨by kernel_rfl, by kernel_rfl, by kernel_rfl, by kernel_rfl, by kernel_rfl, by kernel_rfl, by kernel_rfl⟩ h1 h2
set_option maxRecDepth 100000 in
set_option maxHeartbeats 2000000 in
theorem lifted (os : Os) (started : os.Started) (H : Type) (enc : TypeId × Value → H) :
  ReturnsInHanded {} Tryd.checked os 3 .any (fun w args => (Rows.markTermsSpec.pre enc Tryd.prog Tryd.f3 Rows.markTermsRow.domain false w args ∧ laidMetH Tryd.prog Rows.markTermsRow.laid w) ∧ sizedMet enc Tryd.prog Tryd.f3 (OpenSpec.ofChange Rows.markTermsSpec) false w args)
   (Rows.markTermsSpec.post enc Tryd.prog Tryd.f3 false true false false) := by
 refine returnsInHanded_of_change_and (C := Tryd.checked) (X := fun w _ => laidMetH Tryd.prog Rows.markTermsRow.laid w) (fun _ _ _ hh h => h.of_heap hh) own started (by kernel_rfl) Tryd.func3
  (ChangeSpec.witness_shaped (enc := enc) (C := Tryd.checked) (os := os) (X := fun w _ => laidMetH Tryd.prog Rows.markTermsRow.laid w) false (World.laidAll Tryd.prog os Rows.markTermsRow.laid) #[.agg #[.int .i64 0, .bool false, .slice none 0 0, .string ⟨#[]⟩, .int .i64 0, .slice none 0 0, .slice none 0 0], .agg #[.int .i64 0, .bool false, .slice none 0 0, .string ⟨#[]⟩, .int .i64 0, .slice none 0 0, .slice none 0 0]] 8 (World.laidAll_os _ _ _)
   (World.shaped_of_ZipB (by kernel_rfl) (by kernel_rfl)) (by kernel_rfl) (by kernel_rfl) (by kernel_rfl)
   (by rw [MakeChecks.laidMetH_plain _ _ _ (by kernel_rfl)]; exact laidMet_laidAll _ (by kernel_rfl) (by kernel_rfl))) ?_
 intro W base args ds gs before hval0 hW hc hsz0 hL _
 have hval : ∀ (j : Nat) t v, Tryd.f3.params[j]? = some t → args[j]? = some v → Value.okWide Tryd.prog W .any base t v := hval0
 have htab : Tabs W := tabs_of hL
 have hW' := hW
 obtain ⟨p, q, hA0, hV, rfl, hfz, hnd⟩ := hW
 have hA : DataW.TrodAll enc Tryd.prog W 0 (fun _ => true) true Tryd.f3.params.toList args.toList ds p := hA0
 rw [Tryd.params3] at hA hval
 obtain ⟨v0, vs0, d0, ds0, p0, q0, hargs, rfl, rfl, h0, r0⟩ := trodAll_cons hA
 obtain ⟨v1, vs1, d1, ds1, p1, q1, rfl, rfl, rfl, h1, r1⟩ := trodAll_cons r0
 obtain ⟨rfl, rfl, rfl⟩ := trodAll_nil r1
 obtain rfl : args = #[v0, v1] := by cases args; simp_all
 obtain ⟨rfl, rfl⟩ := trodVars_none hV
 have k0 := h0
 have lt0 : ∀ x ∈ p0, x.block < W.heap.size := by obtain ⟨m, hm⟩ := k0; exact DataW.trod_lt m _ _ _ hm
 have k1 := h1
 have lt1 : ∀ x ∈ p1, x.block < W.heap.size := by obtain ⟨m, hm⟩ := k1; exact DataW.trod_lt m _ _ _ hm
 obtain ⟨fuel0, hf0⟩ := h0
 obtain ⟨x, hx⟩ := Opn.open_term fuel0 _ _ hf0
 obtain ⟨fuel1, hf1⟩ := h1
 obtain ⟨y, hy⟩ := Opn.open_term fuel1 _ _ hf1
 obtain ⟨A2, a2, A5, a5, A6, a6, rfl, hx2⟩ := arg_open (hx.mono (Nat.le_max_left fuel0 fuel1))
 obtain ⟨C2, c2, C5, c5, C6, c6, rfl, hy2⟩ := arg_open (hy.mono (Nat.le_max_right fuel0 fuel1))
 clear hA0 hval0
 refine (((mark_s (max fuel0 fuel1) x y A2 A5 A6 C2 C5 C6 a2 a5 a6 c2 c5 c6 W hx2 hy2 htab).mono fun _ _ h => ⟨h.1, h.2.below⟩ : Calls Tryd.prog 3 #[.agg #[.int .i64 x.f0, .bool x.f1, .slice A2 x.f2.length a2, .string x.f3, .int .i64 x.f4, .slice A5 x.f5.length a5, .slice A6 x.f6.length a6], .agg #[.int .i64 y.f0, .bool y.f1, .slice C2 y.f2.length c2, .string y.f3, .int .i64 y.f4, .slice C5 y.f5.length c5, .slice C6 y.f6.length c6]] W fun e W' => e = .returned (.bool true) ∧ Below W.heap.size W W')).mono fun e W' ⟨he, bel⟩ => ?_
 subst he
 exact ⟨_, rfl, _, _, _, [], _, [], hW', trodAll_mk1 (shut_bool Tryd.underlying4 _), (trodAll_cons_mk (Below.trod laidOut (by kernel_rfl) (of_decide_eq_true (by kernel_rfl)) k0 bel lt0) (trodAll_cons_mk (Below.trod laidOut (by kernel_rfl) (of_decide_eq_true (by kernel_rfl)) k1 bel lt1) trodAll_mk0)), rfl, bel.frame _, fun h => by cases h⟩
theorem over : Rows.MarkTermsSaid :=
 OpenClaim.holds_of_wide 3 Tryd.f3 rfl rfl rfl rfl rfl rfl rfl ⟨rfl, rfl, rfl, rfl, rfl⟩ rfl rfl rfl rfl rfl (by kernel_rfl) Tryd.func3 (by kernel_rfl)
  (of_decide_eq_true (by kernel_rfl)) (by unfold Func.isWrapper; first | (rw [if_pos (by decide +kernel)]; kernel_rfl) | (rw [if_neg (by decide +kernel)]; exact ⟨rfl, rfl⟩))
  (fun os started H enc _ => lifted os started H enc)
theorem card : Rows.MarkTermsCardSaid :=
 Claim7.holds_tied_plain_at .later [] [.data, .pinned] true (true, "cf60415a4f504a5a12f9536100e0c887734a2276fb40bfcdd5ac7af27a6c738f") false over (fun _ h => by cases h) (by kernel_rfl) (fun _ h => by cases h) markTerms_row_tie rfl ⟨rfl, rfl⟩ (by kernel_rfl) rfl
  (fun f fn hf hfn => by
   obtain rfl : f = 3 := Option.some.inj ((show Tryd.prog.funcNamed "tenement/tenementlaw12.MarkTerms" = some 3 by kernel_rfl).symm.trans hf) |>.symm
   obtain rfl : fn = Tryd.f3 := (Option.some.inj (Tryd.func3.symm.trans hfn)).symm
   exact ⟨by kernel_rfl, fun j t ht => by
    rw [Tryd.params3] at ht
    have hm : t ∈ [26, 26] := by simpa using Array.mem_of_getElem? ht
    have hall : ([26, 26].all fun u => !Tryd.prog.wantsStandIn u) = true := by kernel_rfl
    exact (show Tryd.prog.wantsStandIn t = false by simpa using List.all_eq_true.1 hall t hm)⟩)
  (by kernel_rfl)
end Go.Proofs.YtjiaaefpepdoeaaDoor.markTerms
namespace Go.Proofs.YtjiaaefpepdoeaaDoor
theorem markTerms_holds : Rows.MarkTermsCardSaid := markTerms.card
#print axioms markTerms_holds
end Go.Proofs.YtjiaaefpepdoeaaDoor
