/-
  TEXTS JOINED FOR A CLAIM (SlideMeans): Bin Biy Bic Get Obr Obg Obc Gtt. Conditions: none beyond those that each theorem states.
-/
import Derived.Test.YtjiaaefpepdoeaaDoorZ30SlideMeans
import Derived.BigQuiet
import Derived.Deep.QuietTactic
import Derived.Deep.LoopGhost
namespace Go.Proofs.YtjiaaefpepdoeaaDoor
open Go.RowKit Md Go.Proofs.YtjiaaefpepdoeaaDoorW.PrintWords
open Go.Proofs.YtjiaaefpepdoeaaDoor.PSlideMeans (S26 z26 k26 k26_mkM)
set_option linter.unusedVariables false
set_option maxRecDepth 100000 in
set_option maxHeartbeats 4000000 in
theorem bin_no (X : Gx) (hk hs ht : Int) (hn : Bool) (a n size : Int) (ws fs : List Int) (w : World) (hg : GG w X ws size n false) (hb : hn = true ∨ hs ≠ 3 ∨ ht ≠ 1) :
  Calls Tryd.prog 92 #[.pointer (some ⟨X.g, 0, none⟩), .agg #[.int .i64 hk, .int .i64 hs, .int .i64 ht, .bool hn], .int .i64 a] w fun e w' => GA w w' X ws size n (binM lookM ⟨hk, hs, ht, hn⟩ fs) e := by
 have hb0 : (w.alloc (.cells #[.int .i64 hk, .int .i64 hs, .int .i64 ht, .bool hn] 68)).heap[w.heap.size]? = some (.cells #[.int .i64 hk, .int .i64 hs, .int .i64 ht, .bool hn] 68 (0, 0)) := blk_new _ _ _
 obtain ⟨D, hD⟩ : ∃ D, w.heap.size = D := ⟨_, rfl⟩
 obtain ⟨w1, hw1⟩ : ∃ w1, w.alloc (.cells #[.int .i64 hk, .int .i64 hs, .int .i64 ht, .bool hn] 68) = w1 := ⟨_, rfl⟩
 have hf1 : Fr w w1 (fun _ => False) := by rw [← hw1]; exact (Fr.refl w _).alloc _
 have hs1 : w1.heap.size = D + 1 := by rw [← hw1, ← hD]; simp
 have hb1 : (w1.alloc (.cells #[.int .i64 0, .bool false, .slice none 0 0, .string ⟨#[]⟩, .int .i64 0, .slice none 0 0, .slice none 0 0] 26)).heap[w1.heap.size]? = some (.cells #[.int .i64 0, .bool false, .slice none 0 0, .string ⟨#[]⟩, .int .i64 0, .slice none 0 0, .slice none 0 0] 26 (0, 0)) := blk_new _ _ _
 obtain ⟨B, hB⟩ : ∃ B, w1.heap.size = B := ⟨_, rfl⟩
 obtain ⟨w2, hw2⟩ : ∃ w2, w1.alloc (.cells #[.int .i64 0, .bool false, .slice none 0 0, .string ⟨#[]⟩, .int .i64 0, .slice none 0 0, .slice none 0 0] 26) = w2 := ⟨_, rfl⟩
 have hf2 : Fr w w2 (fun _ => False) := by rw [← hw2]; exact hf1.alloc _
 have hb02 : w2.heap[D]? = some (.cells #[.int .i64 hk, .int .i64 hs, .int .i64 ht, .bool hn] 68 (0, 0)) := by
  rw [← hw2, ← hD]; exact ((Fr.refl w1 (fun _ => False)).alloc _).blk (by rw [← hw1]; exact hb0) (fun h => h)
 rw [hw2, hB] at hb1
 have HB0 := Lib.hid hb02
 have HB1 := Lib.hid hb1
 have HF2 : Hid (Fr w w2 (fun i => i = X.g)) := Lib.hid (hf2.mono (fun _ h _ => h.elim))
 have HG2 := Lib.hid (hg.fr hf2)
 have HDB : Hid (D = w.heap.size ∧ B = D + 1) := Lib.hid ⟨hD.symm, by rw [← hB, hs1]⟩
 clear hf1 hs1 hf2 hb02 hb1 hb0 hg
 have k0 : w2.cell? ⟨D, 0, none⟩ = some (.int .i64 hk) := by simp [World.cell?, HB0.out]
 have kf0 : w2.frozen? ⟨D, 0, none⟩ = false := by simp [World.frozen?, HB0.out]
 have k1 : w2.cell? ⟨D, 1, none⟩ = some (.int .i64 hs) := by simp [World.cell?, HB0.out]
 have kf1 : w2.frozen? ⟨D, 1, none⟩ = false := by simp [World.frozen?, HB0.out]
 have k2 : w2.cell? ⟨D, 2, none⟩ = some (.int .i64 ht) := by simp [World.cell?, HB0.out]
 have kf2 : w2.frozen? ⟨D, 2, none⟩ = false := by simp [World.frozen?, HB0.out]
 have k3 : w2.cell? ⟨D, 3, none⟩ = some (.bool hn) := by simp [World.cell?, HB0.out]
 have kf3 : w2.frozen? ⟨D, 3, none⟩ = false := by simp [World.frozen?, HB0.out]
 obtain ⟨x0, x1, x2, x3, x4, xf3, xf4⟩ := HG2.out.cells
 have HER : Hid (binM lookM ⟨hk, hs, ht, hn⟩ fs = none) := Lib.hid (by unfold binM; rw [if_pos hb])
 have key : hn = true ∨ (hn = false ∧ (hs != 3) = true) ∨ (hn = false ∧ (hs != 3) = false ∧ (ht != 1) = true) := by
  cases hn with
  | true => exact .inl rfl
  | false =>
   by_cases h3 : hs = 3
   ·refine .inr (.inr ⟨rfl, by simp [h3], ?_⟩)
    rcases hb with h | h | h
    ·cases h
    ·exact absurd h3 h
    ·simpa using h
   ·exact .inr (.inl ⟨rfl, by simpa using h3⟩)
 clear hb
 rcases key with rfl | ⟨rfl, c2⟩ | ⟨rfl, c2, c3⟩
 ·go_enter Tryd.func92, Tryd.ntmps92
  go_upto_region 1 with (fail)
  (try simp only [hw1, hw2, hB, hD])
  clear hw1 hw2 hB hD
  go_upto_region 3 with (fail)
  have HG9 := Lib.hid (HG2.out.setbad true)
  have HB9 := Lib.hid ((HG2.out.setbad true).2.blk HB1.out (fun e => ne_of_types HB1.out HG2.out.gblk (by decide) e))
  have HF9 := Lib.hid (HF2.out.trans (HG2.out.setbad true).2)
  obtain ⟨W9, hW9⟩ : ∃ W9, w2.setCell ⟨X.g, 4, none⟩ (.bool true) = W9 := ⟨_, rfl⟩
  rw [hW9] at HG9 HB9 HF9
  (try simp only [hW9])
  clear hW9
  obtain ⟨g0, g1, g2, g3, g4, g5, g6, gf0, gf1, gf2, gf3, gf4, gf5, gf6⟩ := cells7 HB9.out
  go_wp2
  have hlt : ¬ B < w.heap.size := by have := HDB.out; omega
  refine bodyPost_ret (results_cell_row rfl _ _ B 26 #[.int .i64 0, .bool false, .slice none 0 0, .string ⟨#[]⟩, .int .i64 0, .slice none 0 0, .slice none 0 0] (0, 0) _ rfl (st7_blk (.int .i64 0) (.bool false) (.slice none 0 0) (.string ⟨#[]⟩) (.int .i64 0) (.slice none 0 0) (.slice none 0 0) HB9.out) Tryd.underlying26 rfl (by kernel_rfl)) rfl ?_
  have f7 := st7_fr W9 B (.int .i64 0) (.bool false) (.slice none 0 0) (.string ⟨#[]⟩) (.int .i64 0) (.slice none 0 0) (.slice none 0 0)
  have er := HER.out
  rw [er]
  exact ⟨_, _, _, rfl, Kd.R_nil _ _ _ _ _, Kd.R_nil _ _ _ _ _, Kd.R_nil _ _ _ _ _, HG9.out.1.far f7 (fun c T hc => by rw [HB9.out] at hc; simp at hc; exact hc.2.symm) ⟨_, _, HB9.out⟩, HF9.out.then_ f7 (fun i hi hl => absurd hl (by rw [hi]; exact hlt))⟩
 ·go_enter Tryd.func92, Tryd.ntmps92
  go_upto_region 1 with (fail)
  (try simp only [hw1, hw2, hB, hD])
  clear hw1 hw2 hB hD
  go_upto_region 3 with (fail)
  have HG9 := Lib.hid (HG2.out.setbad true)
  have HB9 := Lib.hid ((HG2.out.setbad true).2.blk HB1.out (fun e => ne_of_types HB1.out HG2.out.gblk (by decide) e))
  have HF9 := Lib.hid (HF2.out.trans (HG2.out.setbad true).2)
  obtain ⟨W9, hW9⟩ : ∃ W9, w2.setCell ⟨X.g, 4, none⟩ (.bool true) = W9 := ⟨_, rfl⟩
  rw [hW9] at HG9 HB9 HF9
  (try simp only [hW9])
  clear hW9
  obtain ⟨g0, g1, g2, g3, g4, g5, g6, gf0, gf1, gf2, gf3, gf4, gf5, gf6⟩ := cells7 HB9.out
  go_wp2
  have hlt : ¬ B < w.heap.size := by have := HDB.out; omega
  refine bodyPost_ret (results_cell_row rfl _ _ B 26 #[.int .i64 0, .bool false, .slice none 0 0, .string ⟨#[]⟩, .int .i64 0, .slice none 0 0, .slice none 0 0] (0, 0) _ rfl (st7_blk (.int .i64 0) (.bool false) (.slice none 0 0) (.string ⟨#[]⟩) (.int .i64 0) (.slice none 0 0) (.slice none 0 0) HB9.out) Tryd.underlying26 rfl (by kernel_rfl)) rfl ?_
  have f7 := st7_fr W9 B (.int .i64 0) (.bool false) (.slice none 0 0) (.string ⟨#[]⟩) (.int .i64 0) (.slice none 0 0) (.slice none 0 0)
  have er := HER.out
  rw [er]
  exact ⟨_, _, _, rfl, Kd.R_nil _ _ _ _ _, Kd.R_nil _ _ _ _ _, Kd.R_nil _ _ _ _ _, HG9.out.1.far f7 (fun c T hc => by rw [HB9.out] at hc; simp at hc; exact hc.2.symm) ⟨_, _, HB9.out⟩, HF9.out.then_ f7 (fun i hi hl => absurd hl (by rw [hi]; exact hlt))⟩
 ·go_enter Tryd.func92, Tryd.ntmps92
  go_upto_region 1 with (fail)
  (try simp only [hw1, hw2, hB, hD])
  clear hw1 hw2 hB hD
  go_upto_region 3 with (fail)
  have HG9 := Lib.hid (HG2.out.setbad true)
  have HB9 := Lib.hid ((HG2.out.setbad true).2.blk HB1.out (fun e => ne_of_types HB1.out HG2.out.gblk (by decide) e))
  have HF9 := Lib.hid (HF2.out.trans (HG2.out.setbad true).2)
  obtain ⟨W9, hW9⟩ : ∃ W9, w2.setCell ⟨X.g, 4, none⟩ (.bool true) = W9 := ⟨_, rfl⟩
  rw [hW9] at HG9 HB9 HF9
  (try simp only [hW9])
  clear hW9
  obtain ⟨g0, g1, g2, g3, g4, g5, g6, gf0, gf1, gf2, gf3, gf4, gf5, gf6⟩ := cells7 HB9.out
  go_wp2
  have hlt : ¬ B < w.heap.size := by have := HDB.out; omega
  refine bodyPost_ret (results_cell_row rfl _ _ B 26 #[.int .i64 0, .bool false, .slice none 0 0, .string ⟨#[]⟩, .int .i64 0, .slice none 0 0, .slice none 0 0] (0, 0) _ rfl (st7_blk (.int .i64 0) (.bool false) (.slice none 0 0) (.string ⟨#[]⟩) (.int .i64 0) (.slice none 0 0) (.slice none 0 0) HB9.out) Tryd.underlying26 rfl (by kernel_rfl)) rfl ?_
  have f7 := st7_fr W9 B (.int .i64 0) (.bool false) (.slice none 0 0) (.string ⟨#[]⟩) (.int .i64 0) (.slice none 0 0) (.slice none 0 0)
  have er := HER.out
  rw [er]
  exact ⟨_, _, _, rfl, Kd.R_nil _ _ _ _ _, Kd.R_nil _ _ _ _ _, Kd.R_nil _ _ _ _ _, HG9.out.1.far f7 (fun c T hc => by rw [HB9.out] at hc; simp at hc; exact hc.2.symm) ⟨_, _, HB9.out⟩, HF9.out.then_ f7 (fun i hi hl => absurd hl (by rw [hi]; exact hlt))⟩
end Go.Proofs.YtjiaaefpepdoeaaDoor
namespace Go.Proofs.YtjiaaefpepdoeaaDoor
open Go.RowKit Md Go.Proofs.YtjiaaefpepdoeaaDoorW.PrintWords
open Go.Proofs.YtjiaaefpepdoeaaDoor.PSlideMeans (S26 z26 k26 k26_mkM)
set_option linter.unusedVariables false
theorem wr1 {a b : Nat} (h : a + 1 = b) (hb : b ≤ 1048576) : wrap64 ((a : Int) + 1) = (b : Int) := by unfold wrap64; omega
theorem wr2 {a b : Nat} (h : a + 2 = b) (hb : b ≤ 1048576) : wrap64 ((a : Int) + 2) = (b : Int) := by unfold wrap64; omega
theorem wr3 {a b : Nat} (h : a + 3 = b) (hb : b ≤ 1048576) : wrap64 ((a : Int) + 3) = (b : Int) := by unfold wrap64; omega
theorem wrS {x : Int} (h : 0 ≤ x ∧ x ≤ 2147483648) : wrap64 x = x := by unfold wrap64; omega
set_option maxRecDepth 100000 in
set_option maxHeartbeats 4000000 in
theorem bin_yes (X : Gx) (hk : Int) (a : Nat) (n size : Int) (ws : List Int) (w : World) (hg : GG w X ws size n false) (ha : a + 3 < ws.length) :
  Calls Tryd.prog 92 #[.pointer (some ⟨X.g, 0, none⟩), .agg #[.int .i64 hk, .int .i64 3, .int .i64 1, .bool false], .int .i64 a] w fun e w' => GA w w' X ws size n (binM lookM ⟨hk, 3, 1, false⟩ [ws.getD (a + 1) 0, ws.getD (a + 2) 0, ws.getD (a + 3) 0]) e := by
 obtain ⟨gw, cap, hvm⟩ : ∃ gw cap, X.vm = .slice (some ⟨gw, 0, none⟩) ws.length cap := by
  rcases hg.mem.form with ⟨_, h⟩ | ⟨gw, cap, h, _⟩
  ·rw [h] at ha; simp at ha
  ·exact ⟨gw, cap, h⟩
 have hwc : ∀ i, i < ws.length → w.cell? ⟨gw, i, none⟩ = some (.int .u64 (ws.getD i 0)) := by
  rcases hg.mem.form with ⟨_, h⟩ | ⟨gw', cap', h, _, _, _, _, hc, _⟩
  ·rw [h] at ha; simp at ha
  ·rw [hvm] at h
   injection h with h1 h2 h3
   injection h1 with h1
   injection h1 with h1
   subst h1
   exact hc
 have hmx : ws.length ≤ 1048576 := by have := hg.mem.le; have := hg.mem.mx; omega
 obtain ⟨x, hx⟩ : ∃ x, ws.getD (a + 1) 0 = x := ⟨_, rfl⟩
 obtain ⟨y, hy⟩ : ∃ y, ws.getD (a + 2) 0 = y := ⟨_, rfl⟩
 obtain ⟨z, hz⟩ : ∃ z, ws.getD (a + 3) 0 = z := ⟨_, rfl⟩
 have ox : okW x := by rw [← hx]; exact okWs_getD hg.mem.ok _ (by omega)
 have oy : okW y := by rw [← hy]; exact okWs_getD hg.mem.ok _ (by omega)
 have oz : okW z := by rw [← hz]; exact okWs_getD hg.mem.ok _ (by omega)
 have cx := hwc (a + 1) (by omega)
 have cy := hwc (a + 2) (by omega)
 have cz := hwc (a + 3) (by omega)
 have c0 := hg.mem.c0
 rw [hx] at cx
 rw [hy] at cy
 rw [hz] at cz
 rw [hvm] at c0
 rw [hx, hy, hz]
 obtain ⟨a1, ha1⟩ : ∃ a1, a + 1 = a1 := ⟨_, rfl⟩
 obtain ⟨a2, ha2⟩ : ∃ a2, a + 2 = a2 := ⟨_, rfl⟩
 obtain ⟨a3, ha3⟩ : ∃ a3, a + 3 = a3 := ⟨_, rfl⟩
 rw [ha1] at cx
 rw [ha2] at cy
 rw [ha3] at cz
 have HOX : Hid (okW x ∧ okW y ∧ okW z) := Lib.hid ⟨ox, oy, oz⟩
 have q1 : a1 < ws.length := by omega
 have q2 : a2 < ws.length := by omega
 have q3 : a3 < ws.length := by omega
 have r1 : (a1 : Int) < ws.length := by omega
 have r2 : (a2 : Int) < ws.length := by omega
 have r3 : (a3 : Int) < ws.length := by omega
 have w1_ := wr1 ha1 (Nat.le_trans (Nat.le_of_lt q1) hmx)
 have w2_ := wr2 ha2 (Nat.le_trans (Nat.le_of_lt q2) hmx)
 have w3_ := wr3 ha3 (Nat.le_trans (Nat.le_of_lt q3) hmx)
 clear hwc hmx hx hy hz ox oy oz ha ha1 ha2 ha3 hvm
 have hb0 : (w.alloc (.cells #[.int .i64 hk, .int .i64 3, .int .i64 1, .bool false] 68)).heap[w.heap.size]? = some (.cells #[.int .i64 hk, .int .i64 3, .int .i64 1, .bool false] 68 (0, 0)) := blk_new _ _ _
 obtain ⟨D, hD⟩ : ∃ D, w.heap.size = D := ⟨_, rfl⟩
 obtain ⟨w1, hw1⟩ : ∃ w1, w.alloc (.cells #[.int .i64 hk, .int .i64 3, .int .i64 1, .bool false] 68) = w1 := ⟨_, rfl⟩
 have hf1 : Fr w w1 (fun _ => False) := by rw [← hw1]; exact (Fr.refl w _).alloc _
 have hs1 : w1.heap.size = D + 1 := by rw [← hw1, ← hD]; simp
 have hb1 : (w1.alloc (.cells #[.int .i64 0, .bool false, .slice none 0 0, .string ⟨#[]⟩, .int .i64 0, .slice none 0 0, .slice none 0 0] 26)).heap[w1.heap.size]? = some (.cells #[.int .i64 0, .bool false, .slice none 0 0, .string ⟨#[]⟩, .int .i64 0, .slice none 0 0, .slice none 0 0] 26 (0, 0)) := blk_new _ _ _
 obtain ⟨B, hB⟩ : ∃ B, w1.heap.size = B := ⟨_, rfl⟩
 obtain ⟨w2, hw2⟩ : ∃ w2, w1.alloc (.cells #[.int .i64 0, .bool false, .slice none 0 0, .string ⟨#[]⟩, .int .i64 0, .slice none 0 0, .slice none 0 0] 26) = w2 := ⟨_, rfl⟩
 have hf2 : Fr w w2 (fun _ => False) := by rw [← hw2]; exact hf1.alloc _
 have hb02 : w2.heap[D]? = some (.cells #[.int .i64 hk, .int .i64 3, .int .i64 1, .bool false] 68 (0, 0)) := by
  rw [← hw2, ← hD]; exact ((Fr.refl w1 (fun _ => False)).alloc _).blk (by rw [← hw1]; exact hb0) (fun h => h)
 rw [hw2, hB] at hb1
 have HB0 := Lib.hid hb02
 have HB1 := Lib.hid hb1
 have HF2 : Hid (Fr w w2 (fun i => i = X.g)) := Lib.hid (hf2.mono (fun _ h _ => h.elim))
 have HG2 := Lib.hid (hg.fr hf2)
 have HDB : Hid (D = w.heap.size ∧ B = D + 1) := Lib.hid ⟨hD.symm, by rw [← hB, hs1]⟩
 clear hf1 hs1 hf2 hb02 hb1 hb0 hg
 have k0 : w2.cell? ⟨D, 0, none⟩ = some (.int .i64 hk) := by simp [World.cell?, HB0.out]
 have kf0 : w2.frozen? ⟨D, 0, none⟩ = false := by simp [World.frozen?, HB0.out]
 have k1 : w2.cell? ⟨D, 1, none⟩ = some (.int .i64 3) := by simp [World.cell?, HB0.out]
 have kf1 : w2.frozen? ⟨D, 1, none⟩ = false := by simp [World.frozen?, HB0.out]
 have k2 : w2.cell? ⟨D, 2, none⟩ = some (.int .i64 1) := by simp [World.cell?, HB0.out]
 have kf2 : w2.frozen? ⟨D, 2, none⟩ = false := by simp [World.frozen?, HB0.out]
 have k3 : w2.cell? ⟨D, 3, none⟩ = some (.bool false) := by simp [World.cell?, HB0.out]
 have kf3 : w2.frozen? ⟨D, 3, none⟩ = false := by simp [World.frozen?, HB0.out]
 obtain ⟨x0, x1, x2, x3, x4, xf3, xf4⟩ := HG2.out.cells
 have f02 : Fr w w2 (fun _ => False) := by rw [← hw2, ← hw1]; exact ((Fr.refl w _).alloc _).alloc _
 replace cx := f02.cell cx (fun h => h)
 replace cy := f02.cell cy (fun h => h)
 replace cz := f02.cell cz (fun h => h)
 replace c0 := f02.cell c0 (fun h => h)
 clear f02
 go_enter Tryd.func92, Tryd.ntmps92
 go_upto_region 4 with (fail)
 (try simp only [hw1, hw2, hB, hD])
 clear hw1 hw2 hB hD
 go_quiet (fail)
 have HFQ := Lib.hid ((Fr.refl w2 (fun _ => False)).drewN nq)
 have HG4 := Lib.hid (HG2.out.fr HFQ.out)
 have HB4 := Lib.hid (HFQ.out.blk HB1.out (fun h => h))
 have HF4 := Lib.hid (HF2.out.trans (HFQ.out.mono (fun _ h _ => h.elim)))
 obtain ⟨w4, hw4⟩ : ∃ w4, w2.drewN nq = w4 := ⟨_, rfl⟩
 rw [hw4] at HG4 HB4 HF4
 (try simp only [hw4])
 clear hw4 HFQ HB1 HG2 HF2 HB0 x0 x1 x2 x3 x4 xf3 xf4 c0 cx cy cz k0 k1 k2 k3 kf0 kf1 kf2 kf3 w1_ w2_ w3_ q1 q2 q3 r1 r2 r3
 obtain ⟨x0, x1, x2, x3, x4, xf3, xf4⟩ := HG4.out.cells
 by_cases hbad : 2147483648 < x ∨ 2147483648 < y ∨ 4096 < z
 ·have HER : Hid (binM lookM ⟨hk, 3, 1, false⟩ [x, y, z] = none) := Lib.hid (by unfold binM; rw [if_neg (by simp), if_pos (by simpa using hbad)])
  have key : decide (2147483648 < x) = true ∨ (decide (2147483648 < x) = false ∧ decide (2147483648 < y) = true) ∨ (decide (2147483648 < x) = false ∧ decide (2147483648 < y) = false ∧ decide (4096 < z) = true) := by
   by_cases h1 : 2147483648 < x
   ·exact .inl (decide_eq_true h1)
   ·by_cases h2 : 2147483648 < y
    ·exact .inr (.inl ⟨decide_eq_false h1, decide_eq_true h2⟩)
    ·refine .inr (.inr ⟨decide_eq_false h1, decide_eq_false h2, decide_eq_true ?_⟩)
     rcases hbad with h | h | h
     ·exact absurd h h1
     ·exact absurd h h2
     ·exact h
  clear hbad
  rcases key with d1 | ⟨d1, d2⟩ | ⟨d1, d2, d3⟩
  ·go_upto_region 7 with (fail)
   have HG9 := Lib.hid (HG4.out.setbad true)
   have HB9 := Lib.hid ((HG4.out.setbad true).2.blk HB4.out (fun e => ne_of_types HB4.out HG4.out.gblk (by decide) e))
   have HF9 := Lib.hid (HF4.out.trans (HG4.out.setbad true).2)
   obtain ⟨W9, hW9⟩ : ∃ W9, w4.setCell ⟨X.g, 4, none⟩ (.bool true) = W9 := ⟨_, rfl⟩
   rw [hW9] at HG9 HB9 HF9
   (try simp only [hW9])
   clear hW9
   obtain ⟨g0, g1, g2, g3, g4, g5, g6, gf0, gf1, gf2, gf3, gf4, gf5, gf6⟩ := cells7 HB9.out
   go_wp2
   have hlt : ¬ B < w.heap.size := by have := HDB.out; omega
   refine bodyPost_ret (results_cell_row rfl _ _ B 26 #[.int .i64 0, .bool false, .slice none 0 0, .string ⟨#[]⟩, .int .i64 0, .slice none 0 0, .slice none 0 0] (0, 0) _ rfl (st7_blk (.int .i64 0) (.bool false) (.slice none 0 0) (.string ⟨#[]⟩) (.int .i64 0) (.slice none 0 0) (.slice none 0 0) HB9.out) Tryd.underlying26 rfl (by kernel_rfl)) rfl ?_
   have f7 := st7_fr W9 B (.int .i64 0) (.bool false) (.slice none 0 0) (.string ⟨#[]⟩) (.int .i64 0) (.slice none 0 0) (.slice none 0 0)
   have er := HER.out
   rw [er]
   exact ⟨_, _, _, rfl, Kd.R_nil _ _ _ _ _, Kd.R_nil _ _ _ _ _, Kd.R_nil _ _ _ _ _, HG9.out.1.far f7 (fun c T hc => by rw [HB9.out] at hc; simp at hc; exact hc.2.symm) ⟨_, _, HB9.out⟩, HF9.out.then_ f7 (fun i hi hl => absurd hl (by rw [hi]; exact hlt))⟩
  ·go_upto_region 7 with (fail)
   have HG9 := Lib.hid (HG4.out.setbad true)
   have HB9 := Lib.hid ((HG4.out.setbad true).2.blk HB4.out (fun e => ne_of_types HB4.out HG4.out.gblk (by decide) e))
   have HF9 := Lib.hid (HF4.out.trans (HG4.out.setbad true).2)
   obtain ⟨W9, hW9⟩ : ∃ W9, w4.setCell ⟨X.g, 4, none⟩ (.bool true) = W9 := ⟨_, rfl⟩
   rw [hW9] at HG9 HB9 HF9
   (try simp only [hW9])
   clear hW9
   obtain ⟨g0, g1, g2, g3, g4, g5, g6, gf0, gf1, gf2, gf3, gf4, gf5, gf6⟩ := cells7 HB9.out
   go_wp2
   have hlt : ¬ B < w.heap.size := by have := HDB.out; omega
   refine bodyPost_ret (results_cell_row rfl _ _ B 26 #[.int .i64 0, .bool false, .slice none 0 0, .string ⟨#[]⟩, .int .i64 0, .slice none 0 0, .slice none 0 0] (0, 0) _ rfl (st7_blk (.int .i64 0) (.bool false) (.slice none 0 0) (.string ⟨#[]⟩) (.int .i64 0) (.slice none 0 0) (.slice none 0 0) HB9.out) Tryd.underlying26 rfl (by kernel_rfl)) rfl ?_
   have f7 := st7_fr W9 B (.int .i64 0) (.bool false) (.slice none 0 0) (.string ⟨#[]⟩) (.int .i64 0) (.slice none 0 0) (.slice none 0 0)
   have er := HER.out
   rw [er]
   exact ⟨_, _, _, rfl, Kd.R_nil _ _ _ _ _, Kd.R_nil _ _ _ _ _, Kd.R_nil _ _ _ _ _, HG9.out.1.far f7 (fun c T hc => by rw [HB9.out] at hc; simp at hc; exact hc.2.symm) ⟨_, _, HB9.out⟩, HF9.out.then_ f7 (fun i hi hl => absurd hl (by rw [hi]; exact hlt))⟩
  ·go_upto_region 7 with (fail)
   have HG9 := Lib.hid (HG4.out.setbad true)
   have HB9 := Lib.hid ((HG4.out.setbad true).2.blk HB4.out (fun e => ne_of_types HB4.out HG4.out.gblk (by decide) e))
   have HF9 := Lib.hid (HF4.out.trans (HG4.out.setbad true).2)
   obtain ⟨W9, hW9⟩ : ∃ W9, w4.setCell ⟨X.g, 4, none⟩ (.bool true) = W9 := ⟨_, rfl⟩
   rw [hW9] at HG9 HB9 HF9
   (try simp only [hW9])
   clear hW9
   obtain ⟨g0, g1, g2, g3, g4, g5, g6, gf0, gf1, gf2, gf3, gf4, gf5, gf6⟩ := cells7 HB9.out
   go_wp2
   have hlt : ¬ B < w.heap.size := by have := HDB.out; omega
   refine bodyPost_ret (results_cell_row rfl _ _ B 26 #[.int .i64 0, .bool false, .slice none 0 0, .string ⟨#[]⟩, .int .i64 0, .slice none 0 0, .slice none 0 0] (0, 0) _ rfl (st7_blk (.int .i64 0) (.bool false) (.slice none 0 0) (.string ⟨#[]⟩) (.int .i64 0) (.slice none 0 0) (.slice none 0 0) HB9.out) Tryd.underlying26 rfl (by kernel_rfl)) rfl ?_
   have f7 := st7_fr W9 B (.int .i64 0) (.bool false) (.slice none 0 0) (.string ⟨#[]⟩) (.int .i64 0) (.slice none 0 0) (.slice none 0 0)
   have er := HER.out
   rw [er]
   exact ⟨_, _, _, rfl, Kd.R_nil _ _ _ _ _, Kd.R_nil _ _ _ _ _, Kd.R_nil _ _ _ _ _, HG9.out.1.far f7 (fun c T hc => by rw [HB9.out] at hc; simp at hc; exact hc.2.symm) ⟨_, _, HB9.out⟩, HF9.out.then_ f7 (fun i hi hl => absurd hl (by rw [hi]; exact hlt))⟩
 ·have e1 : decide (2147483648 < x) = false := decide_eq_false (fun h => hbad (.inl h))
  have e2 : decide (2147483648 < y) = false := decide_eq_false (fun h => hbad (.inr (.inl h)))
  have e3 : decide (4096 < z) = false := decide_eq_false (fun h => hbad (.inr (.inr h)))
  have HBAD := Lib.hid hbad
  clear hbad
  go_upto_region 9 with (fail)
  obtain ⟨E, hE⟩ : ∃ E, w4.heap.size = E := ⟨_, rfl⟩
  obtain ⟨w5, hw5⟩ : ∃ w5, w4.alloc (.cells #[.int .i64 7, .bool false, .slice none 0 0, .string ⟨#[]⟩, .int .i64 0, .slice none 0 0, .slice none 0 0] 26) = w5 := ⟨_, rfl⟩
  have HE5 : Hid (w5.heap[E]? = some (.cells #[.int .i64 7, .bool false, .slice none 0 0, .string ⟨#[]⟩, .int .i64 0, .slice none 0 0, .slice none 0 0] 26 (0, 0))) := Lib.hid (by rw [← hw5, ← hE]; exact blk_new _ _ _)
  have HE4 : Hid (w4.heap.size = E) := Lib.hid hE
  have f45 : Fr w4 w5 (fun _ => False) := by rw [← hw5]; exact (Fr.refl w4 _).alloc _
  have HG5 := Lib.hid (HG4.out.fr f45)
  have HB5 := Lib.hid (f45.blk HB4.out (fun h => h))
  have HF5 := Lib.hid (HF4.out.trans (f45.mono (fun _ h _ => h.elim)))
  clear f45
  (try simp only [hw5, hE])
  clear hw5 hE x0 x1 x2 x3 x4 xf3 xf4
  have ec0 : w5.cell? ⟨E, 0, none⟩ = some (.int .i64 7) := by simp [World.cell?, HE5.out]
  have ecf0 : w5.frozen? ⟨E, 0, none⟩ = false := by simp [World.frozen?, HE5.out]
  have ec1 : w5.cell? ⟨E, 1, none⟩ = some (.bool false) := by simp [World.cell?, HE5.out]
  have ecf1 : w5.frozen? ⟨E, 1, none⟩ = false := by simp [World.frozen?, HE5.out]
  have ec2 : w5.cell? ⟨E, 2, none⟩ = some (.slice none 0 0) := by simp [World.cell?, HE5.out]
  have ecf2 : w5.frozen? ⟨E, 2, none⟩ = false := by simp [World.frozen?, HE5.out]
  have ec3 : w5.cell? ⟨E, 3, none⟩ = some (.string ⟨#[]⟩) := by simp [World.cell?, HE5.out]
  have ecf3 : w5.frozen? ⟨E, 3, none⟩ = false := by simp [World.frozen?, HE5.out]
  have ec4 : w5.cell? ⟨E, 4, none⟩ = some (.int .i64 0) := by simp [World.cell?, HE5.out]
  have ecf4 : w5.frozen? ⟨E, 4, none⟩ = false := by simp [World.frozen?, HE5.out]
  have ec5 : w5.cell? ⟨E, 5, none⟩ = some (.slice none 0 0) := by simp [World.cell?, HE5.out]
  have ecf5 : w5.frozen? ⟨E, 5, none⟩ = false := by simp [World.frozen?, HE5.out]
  have ec6 : w5.cell? ⟨E, 6, none⟩ = some (.slice none 0 0) := by simp [World.cell?, HE5.out]
  have ecf6 : w5.frozen? ⟨E, 6, none⟩ = false := by simp [World.frozen?, HE5.out]
  by_cases hz : z = 0
  ·have d0 : (z == 0) = true := by simpa using hz
   have HER : Hid (binM lookM ⟨hk, 3, 1, false⟩ [x, y, z] = some (termLeaf 7 0)) := Lib.hid (by unfold binM; rw [if_neg (by simp), if_neg (by simpa using HBAD.out), if_pos (by simpa using hz)])
   clear hz
   obtain ⟨g0, g1, g2, g3, g4, g5, g6, gf0, gf1, gf2, gf3, gf4, gf5, gf6⟩ := cells7 HB5.out
   go_wp2
   have hlt : ¬ B < w.heap.size := by have := HDB.out; omega
   refine bodyPost_ret (results_cell_row rfl _ _ B 26 #[.int .i64 7, .bool false, .slice none 0 0, .string ⟨#[]⟩, .int .i64 0, .slice none 0 0, .slice none 0 0] (0, 0) _ rfl (st7_blk (.int .i64 7) (.bool false) (.slice none 0 0) (.string ⟨#[]⟩) (.int .i64 0) (.slice none 0 0) (.slice none 0 0) HB5.out) Tryd.underlying26 rfl (by kernel_rfl)) rfl ?_
   have f7 := st7_fr w5 B (.int .i64 7) (.bool false) (.slice none 0 0) (.string ⟨#[]⟩) (.int .i64 0) (.slice none 0 0) (.slice none 0 0)
   rw [HER.out]
   exact ⟨_, _, _, rfl, Kd.R_nil _ _ _ _ _, Kd.R_nil _ _ _ _ _, Kd.R_nil _ _ _ _ _, HG5.out.far f7 (fun c T hc => by rw [HB5.out] at hc; simp at hc; exact hc.2.symm) ⟨_, _, HB5.out⟩, HF5.out.then_ f7 (fun i hi hl => absurd hl (by rw [hi]; exact hlt))⟩
  ·have d0 : (z == 0) = false := by simpa using hz
   have hb := HBAD.out
   have ho := HOX.out
   unfold okW at ho
   have bx : 0 ≤ x ∧ x ≤ 2147483648 := ⟨ho.1.1, by omega⟩
   have b_y : 0 ≤ y ∧ y ≤ 2147483648 := ⟨ho.2.1.1, by omega⟩
   have bz : 0 ≤ z ∧ z ≤ 2147483648 := ⟨ho.2.2.1, by omega⟩
   have HBY := Lib.hid b_y
   have HBZ := Lib.hid bz
   have HEB : Hid (E < w5.heap.size ∧ B < w5.heap.size ∧ w.heap.size ≤ w5.heap.size ∧ ¬ E < w.heap.size) := Lib.hid ⟨(Array.getElem?_eq_some_iff.1 HE5.out).1, (Array.getElem?_eq_some_iff.1 HB5.out).1, HF5.out.size, by have := HF4.out.size; have := HE4.out; omega⟩
   have HNE : Hid (B ≠ E) := Lib.hid (by have := (Array.getElem?_eq_some_iff.1 HB4.out).1; have := HE4.out; omega)
   clear hb ho
   have v1 := wrS bx
   have v2 := wrS b_y
   have v3 := wrS bz
   have HER : Hid (binM lookM ⟨hk, 3, 1, false⟩ [x, y, z] = (lookM x y z).map fun b => ⟨7, false, [], eStr, 0, [], b⟩) := Lib.hid (by unfold binM; rw [if_neg (by simp), if_neg (by simpa using HBAD.out), if_neg (by simpa using hz)]; rfl)
   clear hz bx b_y bz
   obtain ⟨x0, x1, x2, x3, x4, xf3, xf4⟩ := HG5.out.cells
   obtain ⟨r, hr⟩ : ∃ r, lookM x y z = r := ⟨_, rfl⟩
   have HR := Lib.hid hr
   rw [hr] at HER
   clear hr
   go_upto_region 14 with (first | (go_at_call 97; (with_reducible refine (look_c X.s X.gb X.cb X.gp X.cp X.gs X.cs X.gc X.cc x y z _ HG5.out.sto HBY.out HBZ.out).mono ?_); rintro e w6 ⟨v, rfl, hn⟩; rw [HR.out] at hn ⊢; obtain ⟨Av, cv, rfl⟩ := hn.1.rd.len; rw [nw_length] at hn ⊢; have he6 := hn.2.1.blk HE5.out (fun h => h); have HE6 := Lib.hid he6; have HB6 := Lib.hid (hn.2.1.blk HB5.out (fun h => h)); have HG6 := Lib.hid (HG5.out.fr hn.2.1); have HF6 := Lib.hid (HF5.out.trans (hn.2.1.mono (fun _ h _ => h.elim))); have HN := Lib.hid hn; have e6 : w6.cell? ⟨E, 6, none⟩ = some (.slice none 0 0) := (by simp [World.cell?, he6]); have e6f : w6.frozen? ⟨E, 6, none⟩ = false := (by simp [World.frozen?, he6]); clear hn he6))
   clear x0 x1 x2 x3 x4 xf3 xf4 ec0 ec1 ec2 ec3 ec4 ec5 ec6 e6 e6f
   obtain ⟨w7, hw7⟩ : ∃ w7, w6.setCell ⟨E, 6, none⟩ (.slice Av (r.getD []).length cv) = w7 := ⟨_, rfl⟩
   have HF67 : Hid (Fr w6 w7 (fun i => i = E)) := Lib.hid (by rw [← hw7]; exact (Fr.refl w6 (fun i => i = E)).setCell (a := ⟨E, 6, none⟩) (fun _ => rfl) _)
   have HE7 : Hid (w7.heap[E]? = some (.cells #[.int .i64 7, .bool false, .slice none 0 0, .string ⟨#[]⟩, .int .i64 0, .slice none 0 0, .slice Av (r.getD []).length cv] 26 (0, 0))) := Lib.hid (by rw [← hw7]; exact blk_put HE6.out 6 _ rfl)
   have HB7 := Lib.hid (HF67.out.blk HB6.out HNE.out)
   have HG7 := Lib.hid (HG6.out.far HF67.out (fun c T hc => by rw [HE6.out] at hc; simp at hc; exact hc.2.symm) ⟨_, _, HE6.out⟩)
   have HF7 := Lib.hid (HF6.out.then_ HF67.out (fun i hi hl => absurd hl (by rw [hi]; exact HEB.out.2.2.2)))
   (try simp only [hw7])
   clear hw7
   obtain ⟨x0, x1, x2, x3, x4, xf3, xf4⟩ := HG7.out.cells
   cases r with
   | none =>
    go_upto_region 16 with (fail)
    have HG9 := Lib.hid (HG7.out.setbad true)
    have HB9 := Lib.hid ((HG7.out.setbad true).2.blk HB7.out (fun e => ne_of_types HB7.out HG7.out.gblk (by decide) e))
    have HF9 := Lib.hid (HF7.out.trans (HG7.out.setbad true).2)
    obtain ⟨W9, hW9⟩ : ∃ W9, w7.setCell ⟨X.g, 4, none⟩ (.bool true) = W9 := ⟨_, rfl⟩
    rw [hW9] at HG9 HB9 HF9
    (try simp only [hW9])
    clear hW9
    obtain ⟨g0, g1, g2, g3, g4, g5, g6, gf0, gf1, gf2, gf3, gf4, gf5, gf6⟩ := cells7 HB9.out
    go_wp2
    have hlt : ¬ B < w.heap.size := by have := HDB.out; omega
    refine bodyPost_ret (results_cell_row rfl _ _ B 26 #[.int .i64 0, .bool false, .slice none 0 0, .string ⟨#[]⟩, .int .i64 0, .slice none 0 0, .slice none 0 0] (0, 0) _ rfl (st7_blk (.int .i64 0) (.bool false) (.slice none 0 0) (.string ⟨#[]⟩) (.int .i64 0) (.slice none 0 0) (.slice none 0 0) HB9.out) Tryd.underlying26 rfl (by kernel_rfl)) rfl ?_
    have f7 := st7_fr W9 B (.int .i64 0) (.bool false) (.slice none 0 0) (.string ⟨#[]⟩) (.int .i64 0) (.slice none 0 0) (.slice none 0 0)
    have er := HER.out
    rw [er]
    exact ⟨_, _, _, rfl, Kd.R_nil _ _ _ _ _, Kd.R_nil _ _ _ _ _, Kd.R_nil _ _ _ _ _, HG9.out.1.far f7 (fun c T hc => by rw [HB9.out] at hc; simp at hc; exact hc.2.symm) ⟨_, _, HB9.out⟩, HF9.out.then_ f7 (fun i hi hl => absurd hl (by rw [hi]; exact hlt))⟩
   | some b =>
    have ec0 : w7.cell? ⟨E, 0, none⟩ = some (.int .i64 7) := by simp [World.cell?, HE7.out]
    have ecf0 : w7.frozen? ⟨E, 0, none⟩ = false := by simp [World.frozen?, HE7.out]
    have ec1 : w7.cell? ⟨E, 1, none⟩ = some (.bool false) := by simp [World.cell?, HE7.out]
    have ecf1 : w7.frozen? ⟨E, 1, none⟩ = false := by simp [World.frozen?, HE7.out]
    have ec2 : w7.cell? ⟨E, 2, none⟩ = some (.slice none 0 0) := by simp [World.cell?, HE7.out]
    have ecf2 : w7.frozen? ⟨E, 2, none⟩ = false := by simp [World.frozen?, HE7.out]
    have ec3 : w7.cell? ⟨E, 3, none⟩ = some (.string ⟨#[]⟩) := by simp [World.cell?, HE7.out]
    have ecf3 : w7.frozen? ⟨E, 3, none⟩ = false := by simp [World.frozen?, HE7.out]
    have ec4 : w7.cell? ⟨E, 4, none⟩ = some (.int .i64 0) := by simp [World.cell?, HE7.out]
    have ecf4 : w7.frozen? ⟨E, 4, none⟩ = false := by simp [World.frozen?, HE7.out]
    have ec5 : w7.cell? ⟨E, 5, none⟩ = some (.slice none 0 0) := by simp [World.cell?, HE7.out]
    have ecf5 : w7.frozen? ⟨E, 5, none⟩ = false := by simp [World.frozen?, HE7.out]
    have ec6 : w7.cell? ⟨E, 6, none⟩ = some (.slice Av ((some b).getD []).length cv) := by simp [World.cell?, HE7.out]
    have ecf6 : w7.frozen? ⟨E, 6, none⟩ = false := by simp [World.frozen?, HE7.out]
    obtain ⟨g0, g1, g2, g3, g4, g5, g6, gf0, gf1, gf2, gf3, gf4, gf5, gf6⟩ := cells7 HB7.out
    go_wp2
    have hlt : ¬ B < w.heap.size := by have := HDB.out; omega
    refine bodyPost_ret (results_cell_row rfl _ _ B 26 #[.int .i64 7, .bool false, .slice none 0 0, .string ⟨#[]⟩, .int .i64 0, .slice none 0 0, .slice Av ((some b).getD []).length cv] (0, 0) _ rfl (st7_blk (.int .i64 7) (.bool false) (.slice none 0 0) (.string ⟨#[]⟩) (.int .i64 0) (.slice none 0 0) (.slice Av ((some b).getD []).length cv) HB7.out) Tryd.underlying26 rfl (by kernel_rfl)) rfl ?_
    have f7 := st7_fr w7 B (.int .i64 7) (.bool false) (.slice none 0 0) (.string ⟨#[]⟩) (.int .i64 0) (.slice none 0 0) (.slice Av ((some b).getD []).length cv)
    rw [HER.out]
    exact ⟨_, _, _, rfl, Kd.R_nil _ _ _ _ _, Kd.R_nil _ _ _ _ _, (Kd.R_mono (Kd.R_lower (Kd.R_step HN.out.R (fun k hk hlt => (f7.block k (Nat.lt_of_lt_of_le hlt HF67.out.size) (fun e => absurd HEB.out.2.1 (by rw [← e]; exact Nat.not_lt.2 hk))).trans (HF67.out.block k hlt (fun e => absurd HEB.out.1 (by rw [← e]; exact Nat.not_lt.2 hk))))) HEB.out.2.2.1) (fun k hk => Nat.le_trans HEB.out.2.2.1 hk)), HG7.out.far f7 (fun c T hc => by rw [HB7.out] at hc; simp at hc; exact hc.2.symm) ⟨_, _, HB7.out⟩, HF7.out.then_ f7 (fun i hi hl => absurd hl (by rw [hi]; exact hlt))⟩
end Go.Proofs.YtjiaaefpepdoeaaDoor
namespace Go.Proofs.YtjiaaefpepdoeaaDoor
open Go.RowKit Md
set_option linter.unusedVariables false
theorem fieldsAt_three (ws : List Int) (a : Nat) (h : a + 3 < ws.length) : fieldsAt ws a 3 = [ws.getD (a + 1) 0, ws.getD (a + 2) 0, ws.getD (a + 3) 0] := by
 have e1 := rd0_getD (ws := ws) (x := (a : Int) + 1 + 0) (by omega) (by omega)
 have e2 := rd0_getD (ws := ws) (x := (a : Int) + 1 + 1) (by omega) (by omega)
 have e3 := rd0_getD (ws := ws) (x := (a : Int) + 1 + 2) (by omega) (by omega)
 have t1 : ((a : Int) + 1 + 0).toNat = a + 1 := by omega
 have t2 : ((a : Int) + 1 + 1).toNat = a + 2 := by omega
 have t3 : ((a : Int) + 1 + 2).toNat = a + 3 := by omega
 rw [t1] at e1
 rw [t2] at e2
 rw [t3] at e3
 rw [← e1, ← e2, ← e3]
 rfl
theorem bin_c (X : Gx) (h : Hdr) (a : Nat) (n size : Int) (ws : List Int) (w : World) (hg : GG w X ws size n false) (ha : (a : Int) + 1 + h.size ≤ ws.length) :
  Calls Tryd.prog 92 #[.pointer (some ⟨X.g, 0, none⟩), .agg #[.int .i64 h.kind, .int .i64 h.size, .int .i64 h.tree, .bool h.neg], .int .i64 a] w fun e w' => GA w w' X ws size n (binM lookM h (fieldsAt ws a h.size.toNat)) e := by
 obtain ⟨hk, hs, ht, hn⟩ := h
 simp only at ha ⊢
 by_cases hb : hn = true ∨ hs ≠ 3 ∨ ht ≠ 1
 ·exact bin_no X hk hs ht hn a n size ws _ w hg hb
 ·have e1 : hn = false := by cases hn with
   | true => exact absurd (.inl rfl) hb
   | false => rfl
  have e2 : hs = 3 := Classical.byContradiction fun h => hb (.inr (.inl h))
  have e3 : ht = 1 := Classical.byContradiction fun h => hb (.inr (.inr h))
  subst e1 e2 e3
  have h3 : a + 3 < ws.length := by omega
  have e : fieldsAt ws a (3 : Int).toNat = [ws.getD (a + 1) 0, ws.getD (a + 2) 0, ws.getD (a + 3) 0] := fieldsAt_three ws a h3
  rw [e]
  exact bin_yes X hk a n size ws w hg h3
end Go.Proofs.YtjiaaefpepdoeaaDoor
namespace Go.Proofs.YtjiaaefpepdoeaaDoor
open Go.RowKit Md Go.Proofs.YtjiaaefpepdoeaaDoorW.PrintWords
open Go.Proofs.YtjiaaefpepdoeaaDoor.PSlideMeans (S26 z26 k26 k26_mkM)
set_option linter.unusedVariables false
theorem R_tail {α : Type} {d : Kd α} {e : TypeId} {w W0 W W' : World} {B : Nat} {v : Value} {xs : List α} (h : d.R e W W0.heap.size (fun k => W0.heap.size ≤ k) v xs) (hw : w.heap.size ≤ W0.heap.size) (hB : B < W0.heap.size) (hf : Fr W W' (fun i => i = B)) : d.R e W' w.heap.size (fun k => w.heap.size ≤ k) v xs :=
 Kd.R_mono (Kd.R_lower (Kd.R_step h (fun k hk hlt => hf.block k hlt (fun e => absurd hB (by rw [← e]; exact Nat.not_lt.2 hk)))) hw) (fun k hk => Nat.le_trans hw hk)
theorem fr_lt {W : World} {B : Nat} {o : Obj} (h : W.heap[B]? = some o) : B < W.heap.size := (Array.getElem?_eq_some_iff.1 h).1
theorem getM_leaf {ws : List Int} {f n : Nat} {x : Int} (hn : n < 65536) (h5 : tagW x ≠ 5) : getM ws nmAB lookM trT (f + 1) n x = (n + 1, leafM nmAB x) := by
 unfold getM
 rw [if_neg (by omega), if_neg h5]
def GetC (X : Gx) (ws : List Int) (size : Int) (f : Nat) : Prop := ∀ (n : Nat) (x : Int) (w : World), okW x → GG w X ws size n false → n ≤ 65536 → 65537 ≤ n + f →
 Calls Tryd.prog 57 #[.pointer (some ⟨X.g, 0, none⟩), .int .u64 x] w fun e w' => GA w w' X ws size ((getM ws nmAB lookM trT f n x).1 : Nat) (getM ws nmAB lookM trT f n x).2 e
def ObjC (X : Gx) (ws : List Int) (size : Int) (f : Nat) : Prop := ∀ (h : Hdr) (a : Int) (n : Nat) (w : World), objAt ws a = some h → GG w X ws size n false → n ≤ 65536 → 65537 ≤ n + f →
 Calls Tryd.prog 81 #[.pointer (some ⟨X.g, 0, none⟩), .agg #[.int .i64 h.kind, .int .i64 h.size, .int .i64 h.tree, .bool h.neg], .int .i64 a] w fun e w' => GA w w' X ws size ((objM lookM trT (getM ws nmAB lookM trT f) n h (fieldsAt ws a h.size.toNat)).1 : Nat) (objM lookM trT (getM ws nmAB lookM trT f) n h (fieldsAt ws a h.size.toNat)).2 e
set_option maxRecDepth 100000 in
set_option maxHeartbeats 8000000 in
theorem get_of (X : Gx) (ws : List Int) (size : Int) (f : Nat) (ho : ObjC X ws size f) : GetC X ws size (f + 1) := by
 intro n x w hx hg hn hf
 have hb1 : (w.alloc (.cells #[.int .i64 0, .bool false, .slice none 0 0, .string ⟨#[]⟩, .int .i64 0, .slice none 0 0, .slice none 0 0] 26)).heap[w.heap.size]? = some (.cells #[.int .i64 0, .bool false, .slice none 0 0, .string ⟨#[]⟩, .int .i64 0, .slice none 0 0, .slice none 0 0] 26 (0, 0)) := blk_new _ _ _
 obtain ⟨B, hB⟩ : ∃ B, w.heap.size = B := ⟨_, rfl⟩
 obtain ⟨w1, hw1⟩ : ∃ w1, w.alloc (.cells #[.int .i64 0, .bool false, .slice none 0 0, .string ⟨#[]⟩, .int .i64 0, .slice none 0 0, .slice none 0 0] 26) = w1 := ⟨_, rfl⟩
 have hf1 : Fr w w1 (fun _ => False) := by rw [← hw1]; exact (Fr.refl w _).alloc _
 rw [hw1, hB] at hb1
 have HB1 := Lib.hid hb1
 have HG1 := Lib.hid (hg.fr hf1)
 have HF1 : Hid (Fr w w1 (fun i => i = X.g)) := Lib.hid (hf1.mono (fun _ h _ => h.elim))
 have HBW : Hid (B = w.heap.size) := Lib.hid hB.symm
 have HX := Lib.hid hx
 have HN := Lib.hid hn
 have HFN := Lib.hid hf
 have HO := Lib.hid ho
 obtain ⟨v, hv⟩ : ∃ v, valW x = v := ⟨_, rfl⟩
 obtain ⟨t, ht⟩ : ∃ t, tagW x = t := ⟨_, rfl⟩
 have HV := Lib.hid hv
 have HT := Lib.hid ht
 have q0 : (0 : Int) ≤ n := by omega
 have q1 : (n : Int) ≤ 65536 := by omega
 obtain ⟨gm, hgm⟩ : ∃ gm, getM ws nmAB lookM trT (f + 1) n x = gm := ⟨_, rfl⟩
 rw [hgm]
 obtain ⟨gN, gr⟩ := gm
 have HGA := Lib.hid hgm
 simp only
 clear hf1 hb1 hg hx hn hf ho hv ht hgm
 obtain ⟨x0, x1, x2, x3, x4, xf3, xf4⟩ := HG1.out.cells
 go_enter Tryd.func57, Tryd.ntmps57
 go_upto_region 1 with (fail)
 (try simp only [hw1, hB])
 clear hw1 hB
 go_upto_region 2 with (fail)
 obtain ⟨m, hm⟩ : ∃ m : Int, (n : Int) + 1 = m := ⟨_, rfl⟩
 have HM := Lib.hid hm
 (try rw [hm])
 have HG2a := Lib.hid (HG1.out.setn m)
 have HG2 := Lib.hid HG2a.out.1
 have HB2 := Lib.hid (HG2a.out.2.blk HB1.out (fun e => ne_of_types HB1.out HG1.out.gblk (by decide) e))
 have HF2 := Lib.hid (HF1.out.trans HG2a.out.2)
 clear HG2a
 obtain ⟨w2, hw2⟩ : ∃ w2, w1.setCell ⟨X.g, 3, none⟩ (.int .i64 m) = w2 := ⟨_, rfl⟩
 rw [hw2] at HG2 HB2 HF2
 (try simp only [hw2])
 clear hw2 hm q0 q1 HG1 HB1 HF1 x0 x1 x2 x3 x4 xf3 xf4
 obtain ⟨x0, x1, x2, x3, x4, xf3, xf4⟩ := HG2.out.cells
 by_cases hbig : 65536 < m
 ·have d1 : decide (65536 < m) = true := decide_eq_true hbig
  have HER : Hid (getM ws nmAB lookM trT (f + 1) n x = (n + 1, none)) := Lib.hid (by unfold getM; rw [if_pos (by have := HM.out; omega)])
  have HM1 : Hid (((n + 1 : Nat) : Int) = m) := Lib.hid (by have := HM.out; omega)
  clear hbig
  go_upto_region 3 with (fail)
  (try simp only [d1])
  have HG3a := Lib.hid (HG2.out.setbad true)
  have HG3 := Lib.hid HG3a.out.1
  have HB3 := Lib.hid (HG3a.out.2.blk HB2.out (fun e => ne_of_types HB2.out HG2.out.gblk (by decide) e))
  have HF3 := Lib.hid (HF2.out.trans HG3a.out.2)
  clear HG3a
  obtain ⟨w3, hw3⟩ : ∃ w3, w2.setCell ⟨X.g, 4, none⟩ (.bool true) = w3 := ⟨_, rfl⟩
  rw [hw3] at HG3 HB3 HF3
  (try simp only [hw3])
  clear hw3 x0 x1 x2 x3 x4 xf3 xf4 HG2 HB2 HF2
  obtain ⟨x0, x1, x2, x3, x4, xf3, xf4⟩ := HG3.out.cells
  have HE : Hid (gr = none ∧ (gN : Int) = m) := Lib.hid (by have e := HGA.out.symm.trans HER.out; injection e with e1 e2; exact ⟨e2, by rw [e1]; exact HM1.out⟩)
  clear HGA HER
  obtain ⟨gz0, gz1, gz2, gz3, gz4, gz5, gz6, gzf0, gzf1, gzf2, gzf3, gzf4, gzf5, gzf6⟩ := cells7 HB3.out
  go_wp2
  have hlt : ¬ B < w.heap.size := by have := HBW.out; omega
  refine bodyPost_ret (results_cell_row rfl _ _ B 26 #[.int .i64 0, .bool false, .slice none 0 0, .string ⟨#[]⟩, .int .i64 0, .slice none 0 0, .slice none 0 0] (0, 0) _ rfl (st7_blk (.int .i64 0) (.bool false) (.slice none 0 0) (.string ⟨#[]⟩) (.int .i64 0) (.slice none 0 0) (.slice none 0 0) HB3.out) Tryd.underlying26 rfl (by kernel_rfl)) rfl ?_
  have f7 := st7_fr w3 B (.int .i64 0) (.bool false) (.slice none 0 0) (.string ⟨#[]⟩) (.int .i64 0) (.slice none 0 0) (.slice none 0 0)
  rw [HE.out.1, HE.out.2]
  exact ⟨_, _, _, rfl, Kd.R_nil _ _ _ _ _, Kd.R_nil _ _ _ _ _, Kd.R_nil _ _ _ _ _, HG3.out.far f7 (fun c T hc => by rw [HB3.out] at hc; simp at hc; exact hc.2.symm) ⟨_, _, HB3.out⟩, HF3.out.then_ f7 (fun i hi hl => absurd hl (by rw [hi]; exact hlt))⟩
 ·have d1 : decide (65536 < m) = false := decide_eq_false hbig
  have HNB : Hid (n < 65536) := Lib.hid (by have := HM.out; omega)
  have HM1 : Hid (((n + 1 : Nat) : Int) = m) := Lib.hid (by have := HM.out; omega)
  clear hbig
  go_upto_region 3 with (fail)
  (try simp only [d1])
  have HG3a := Lib.hid (HG2.out.setbad false)
  have HG3 := Lib.hid HG3a.out.1
  have HB3 := Lib.hid (HG3a.out.2.blk HB2.out (fun e => ne_of_types HB2.out HG2.out.gblk (by decide) e))
  have HF3 := Lib.hid (HF2.out.trans HG3a.out.2)
  clear HG3a
  obtain ⟨w3, hw3⟩ : ∃ w3, w2.setCell ⟨X.g, 4, none⟩ (.bool false) = w3 := ⟨_, rfl⟩
  rw [hw3] at HG3 HB3 HF3
  (try simp only [hw3])
  clear hw3 x0 x1 x2 x3 x4 xf3 xf4 HG2 HB2 HF2 d1
  obtain ⟨x0, x1, x2, x3, x4, xf3, xf4⟩ := HG3.out.cells
  go_upto_region 7 with (first | (go_at_call 49; (with_reducible refine (Wd.rval_c x v _ HX.out HV.out).mono ?_); rintro e wv ⟨rfl, nv, rfl⟩) | (go_at_call 50; (with_reducible refine (Wd.rtag_c x t _ HX.out HT.out).mono ?_); rintro e wt ⟨rfl, nt, rfl⟩))
  have HFQ := Lib.hid ((Fr.refl w3 (fun _ => False)).drewN (nv + nt))
  have HG4 := Lib.hid (HG3.out.fr HFQ.out)
  have HB4 := Lib.hid (HFQ.out.blk HB3.out (fun h => h))
  have HF4 := Lib.hid (HF3.out.trans (HFQ.out.mono (fun _ h _ => h.elim)))
  clear HFQ
  obtain ⟨w4, hw4⟩ : ∃ w4, w3.drewN (nv + nt) = w4 := ⟨_, rfl⟩
  rw [hw4] at HG4 HB4 HF4
  (try simp only [hw4])
  clear hw4 x0 x1 x2 x3 x4 xf3 xf4 HG3 HB3 HF3
  obtain ⟨x0, x1, x2, x3, x4, xf3, xf4⟩ := HG4.out.cells
  have HW4 : Hid (w.heap.size ≤ w4.heap.size ∧ B < w4.heap.size) := Lib.hid ⟨HF4.out.size, fr_lt HB4.out⟩
  by_cases h5 : t = 5
  ·subst h5
   have HGM : Hid (getM ws nmAB lookM trT (f + 1) n x = match objAt ws v with | none => (n + 1, none) | some h => objM lookM trT (getM ws nmAB lookM trT f) (n + 1) h (fieldsAt ws v h.size.toNat)) := Lib.hid (by unfold getM; rw [if_neg (by have := HNB.out; omega), if_pos HT.out, HV.out]; rfl)
   cases hob : objAt ws v with
   | none =>
    have HOB := Lib.hid hob
    rw [hob] at HGM
    have HER : Hid (getM ws nmAB lookM trT (f + 1) n x = (n + 1, none)) := Lib.hid HGM.out
    have HE : Hid (gr = none ∧ (gN : Int) = m) := Lib.hid (by have e := HGA.out.symm.trans HER.out; injection e with e1 e2; exact ⟨e2, by rw [e1]; exact HM1.out⟩)
    clear hob HGM HGA HER
    go_upto_region 23 with (first | (go_at_call 47; (with_reducible refine (mobj_none X.q X.vm ws size v _ HG4.out.mem HOB.out).mono ?_); rintro e wo ⟨rfl, hfo⟩; have HFO := Lib.hid hfo; clear hfo))
    obtain ⟨w5, hw5⟩ : ∃ w5, wo.alloc (.cells #[.int .i64 0, .int .i64 0, .int .i64 0, .bool false] 68) = w5 := ⟨_, rfl⟩
    have hf5 : Fr w4 w5 (fun _ => False) := by rw [← hw5]; exact HFO.out.alloc _
    have HG5 := Lib.hid (HG4.out.fr hf5)
    have HB5 := Lib.hid (hf5.blk HB4.out (fun h => h))
    have HF5 := Lib.hid (HF4.out.trans (hf5.mono (fun _ h _ => h.elim)))
    (try simp only [hw5])
    clear hw5 hf5 HFO x0 x1 x2 x3 x4 xf3 xf4
    obtain ⟨x0, x1, x2, x3, x4, xf3, xf4⟩ := HG5.out.cells
    go_upto_region 26 with (fail)
    have HG9 := Lib.hid (HG5.out.setbad true)
    have HB9 := Lib.hid ((HG5.out.setbad true).2.blk HB5.out (fun e => ne_of_types HB5.out HG5.out.gblk (by decide) e))
    have HF9 := Lib.hid (HF5.out.trans (HG5.out.setbad true).2)
    obtain ⟨W9, hW9⟩ : ∃ W9, w5.setCell ⟨X.g, 4, none⟩ (.bool true) = W9 := ⟨_, rfl⟩
    rw [hW9] at HG9 HB9 HF9
    (try simp only [hW9])
    clear hW9
    have HG10 := Lib.hid HG9.out.1
    clear HG9
    obtain ⟨z0, z1, z2, z3, z4, zf3, zf4⟩ := HG10.out.cells
    clear x0 x1 x2 x3 x4 xf3 xf4
    obtain ⟨gz0, gz1, gz2, gz3, gz4, gz5, gz6, gzf0, gzf1, gzf2, gzf3, gzf4, gzf5, gzf6⟩ := cells7 HB9.out
    go_wp2
    have hlt : ¬ B < w.heap.size := by have := HBW.out; omega
    refine bodyPost_ret (results_cell_row rfl _ _ B 26 #[.int .i64 0, .bool false, .slice none 0 0, .string ⟨#[]⟩, .int .i64 0, .slice none 0 0, .slice none 0 0] (0, 0) _ rfl (st7_blk (.int .i64 0) (.bool false) (.slice none 0 0) (.string ⟨#[]⟩) (.int .i64 0) (.slice none 0 0) (.slice none 0 0) HB9.out) Tryd.underlying26 rfl (by kernel_rfl)) rfl ?_
    have f7 := st7_fr W9 B (.int .i64 0) (.bool false) (.slice none 0 0) (.string ⟨#[]⟩) (.int .i64 0) (.slice none 0 0) (.slice none 0 0)
    rw [HE.out.1, HE.out.2]
    exact ⟨_, _, _, rfl, Kd.R_nil _ _ _ _ _, Kd.R_nil _ _ _ _ _, Kd.R_nil _ _ _ _ _, HG10.out.far f7 (fun c T hc => by rw [HB9.out] at hc; simp at hc; exact hc.2.symm) ⟨_, _, HB9.out⟩, HF9.out.then_ f7 (fun i hi hl => absurd hl (by rw [hi]; exact hlt))⟩
   | some hd =>
    have HOB := Lib.hid hob
    rw [hob] at HGM
    have HER : Hid (getM ws nmAB lookM trT (f + 1) n x = objM lookM trT (getM ws nmAB lookM trT f) (n + 1) hd (fieldsAt ws v hd.size.toNat)) := Lib.hid HGM.out
    clear hob HGM
    obtain ⟨kd, z, th, nn⟩ := hd
    go_upto_region 23 with (first | (go_at_call 47; (with_reducible refine (mobj_some X.q X.vm ws size v _ _ HG4.out.mem HOB.out).mono ?_); rintro e wo ⟨rfl, hfo⟩; have HFO := Lib.hid hfo; clear hfo))
    obtain ⟨D, hD⟩ : ∃ D, wo.heap.size = D := ⟨_, rfl⟩
    obtain ⟨w5, hw5⟩ : ∃ w5, wo.alloc (.cells #[.int .i64 kd, .int .i64 z, .int .i64 th, .bool nn] 68) = w5 := ⟨_, rfl⟩
    have hf5 : Fr w4 w5 (fun _ => False) := by rw [← hw5]; exact HFO.out.alloc _
    have hdb : w5.heap[D]? = some (.cells #[.int .i64 kd, .int .i64 z, .int .i64 th, .bool nn] 68 (0, 0)) := by rw [← hw5, ← hD]; exact blk_new _ _ _
    have HG5 := Lib.hid (HG4.out.fr hf5)
    have HB5 := Lib.hid (hf5.blk HB4.out (fun h => h))
    have HF5 := Lib.hid (HF4.out.trans (hf5.mono (fun _ h _ => h.elim)))
    have d0 : w5.cell? ⟨D, 0, none⟩ = some (.int .i64 kd) := by simp [World.cell?, hdb]
    have d1 : w5.cell? ⟨D, 1, none⟩ = some (.int .i64 z) := by simp [World.cell?, hdb]
    have d2 : w5.cell? ⟨D, 2, none⟩ = some (.int .i64 th) := by simp [World.cell?, hdb]
    have d3 : w5.cell? ⟨D, 3, none⟩ = some (.bool nn) := by simp [World.cell?, hdb]
    have HW5 : Hid (w.heap.size ≤ w5.heap.size ∧ B < w5.heap.size) := Lib.hid ⟨HF5.out.size, fr_lt HB5.out⟩
    (try simp only [hw5, hD])
    clear hw5 hD hf5 hdb HFO x0 x1 x2 x3 x4 xf3 xf4
    have HNP : Hid (GG w5 X ws size ((n + 1 : Nat) : Int) false) := Lib.hid (by rw [HM1.out]; exact HG5.out)
    obtain ⟨om, hom⟩ : ∃ om, objM lookM trT (getM ws nmAB lookM trT f) (n + 1) ⟨kd, z, th, nn⟩ (fieldsAt ws v z.toNat) = om := ⟨_, rfl⟩
    have HOC := Lib.hid (HO.out ⟨kd, z, th, nn⟩ v (n + 1) w5 HOB.out HNP.out (by have := HNB.out; omega) (by have := HFN.out; omega))
    simp only [hom] at HOC
    obtain ⟨on, orr⟩ := om
    simp only at HOC
    have HE : Hid (gr = orr ∧ (gN : Int) = (on : Int)) := Lib.hid (by have e := HGA.out.symm.trans (HER.out.trans hom); injection e with e1 e2; exact ⟨e2, by rw [e1]⟩)
    obtain ⟨tm, htm⟩ : ∃ tm, orr.getD z26 = tm := ⟨_, rfl⟩
    have HTM := Lib.hid htm
    clear hom htm HER HGA
    go_wp2_with (first | (go_at_call 81; (with_reducible refine HOC.out.mono ?_); rintro e w6 ⟨v2, v5, v6, rfl, h2, h5, h6, hg, hf⟩; rw [HTM.out] at h2 h5 h6 ⊢; obtain ⟨A2, c2, rfl⟩ := Kd.R_slice h2; obtain ⟨A5, c5, rfl⟩ := Kd.R_slice h5; obtain ⟨A6, c6, rfl⟩ := Kd.R_slice h6; have H2 := Lib.hid h2; have H5 := Lib.hid h5; have H6 := Lib.hid h6; have HG6 := Lib.hid hg; have HF56 := Lib.hid hf; have HB6 := Lib.hid (hf.blk HB5.out (fun e => ne_of_types HB5.out HG5.out.gblk (by decide) e)); have HF6 := Lib.hid (HF5.out.trans hf); clear h2 h5 h6 hg hf d0 d1 d2 d3; have gz0 : w6.cell? ⟨B, 0, none⟩ = some (.int .i64 0) := (by simp [World.cell?, HB6.out]); have gzf0 : w6.frozen? ⟨B, 0, none⟩ = false := (by simp [World.frozen?, HB6.out]); have gz1 : w6.cell? ⟨B, 1, none⟩ = some (.bool false) := (by simp [World.cell?, HB6.out]); have gzf1 : w6.frozen? ⟨B, 1, none⟩ = false := (by simp [World.frozen?, HB6.out]); have gz2 : w6.cell? ⟨B, 2, none⟩ = some (.slice none 0 0) := (by simp [World.cell?, HB6.out]); have gzf2 : w6.frozen? ⟨B, 2, none⟩ = false := (by simp [World.frozen?, HB6.out]); have gz3 : w6.cell? ⟨B, 3, none⟩ = some (.string ⟨#[]⟩) := (by simp [World.cell?, HB6.out]); have gzf3 : w6.frozen? ⟨B, 3, none⟩ = false := (by simp [World.frozen?, HB6.out]); have gz4 : w6.cell? ⟨B, 4, none⟩ = some (.int .i64 0) := (by simp [World.cell?, HB6.out]); have gzf4 : w6.frozen? ⟨B, 4, none⟩ = false := (by simp [World.frozen?, HB6.out]); have gz5 : w6.cell? ⟨B, 5, none⟩ = some (.slice none 0 0) := (by simp [World.cell?, HB6.out]); have gzf5 : w6.frozen? ⟨B, 5, none⟩ = false := (by simp [World.frozen?, HB6.out]); have gz6 : w6.cell? ⟨B, 6, none⟩ = some (.slice none 0 0) := (by simp [World.cell?, HB6.out]); have gzf6 : w6.frozen? ⟨B, 6, none⟩ = false := (by simp [World.frozen?, HB6.out])))
    have hlt : ¬ B < w.heap.size := by have := HBW.out; omega
    refine bodyPost_ret (results_cell_row rfl _ _ B 26 #[.int .i64 tm.f0, .bool tm.f1, .slice A2 tm.f2.length c2, .string tm.f3, .int .i64 tm.f4, .slice A5 tm.f5.length c5, .slice A6 tm.f6.length c6] (0, 0) _ rfl (st7_blk (.int .i64 tm.f0) (.bool tm.f1) (.slice A2 tm.f2.length c2) (.string tm.f3) (.int .i64 tm.f4) (.slice A5 tm.f5.length c5) (.slice A6 tm.f6.length c6) HB6.out) Tryd.underlying26 rfl (by kernel_rfl)) rfl ?_
    have f7 := st7_fr w6 B (.int .i64 tm.f0) (.bool tm.f1) (.slice A2 tm.f2.length c2) (.string tm.f3) (.int .i64 tm.f4) (.slice A5 tm.f5.length c5) (.slice A6 tm.f6.length c6)
    rw [HE.out.1, HE.out.2]
    unfold GA
    rw [HTM.out]
    exact ⟨_, _, _, rfl, R_tail H2.out HW5.out.1 HW5.out.2 f7, R_tail H5.out HW5.out.1 HW5.out.2 f7, R_tail H6.out HW5.out.1 HW5.out.2 f7, HG6.out.far f7 (fun c T hc => by rw [HB6.out] at hc; simp at hc; exact hc.2.symm) ⟨_, _, HB6.out⟩, HF6.out.then_ f7 (fun i hi hl => absurd hl (by rw [hi]; exact hlt))⟩
  ·have HGM : Hid (getM ws nmAB lookM trT (f + 1) n x = (n + 1, leafM nmAB x)) := Lib.hid (getM_leaf HNB.out (by rw [HT.out]; exact h5))
   have HGN : Hid (gr = leafM nmAB x ∧ (gN : Int) = m) := Lib.hid (by have e := HGA.out.symm.trans HGM.out; injection e with e1 e2; exact ⟨e2, by rw [e1]; exact HM1.out⟩)
   have HL5 : Hid (t ≠ 5) := Lib.hid h5
   clear h5 HGM HFN HO HGA
   by_cases t0 : t = 0
   ·subst t0
    have HL : Hid (leafM nmAB x = some (termInt v)) := Lib.hid (by unfold leafM; rw [if_pos HT.out, HV.out])
    have HVB : Hid (-1152921504606846976 ≤ v ∧ v ≤ 1152921504606846976) := Lib.hid (by have := valW_bd HX.out; rw [HV.out] at this; omega)
    have HT3 : Hid ((termInt v).f0 = 0 ∧ (termInt v).f3 = ⟨#[]⟩ ∧ (termInt v).f4 = 0 ∧ (termInt v).f5 = [] ∧ (termInt v).f6 = []) := Lib.hid ⟨rfl, rfl, rfl, rfl, rfl⟩
    have HE : Hid (gr = _ ∧ (gN : Int) = m) := Lib.hid ⟨HGN.out.1.trans HL.out, HGN.out.2⟩
    obtain ⟨tm, htm⟩ : ∃ tm, termInt v = tm := ⟨_, rfl⟩
    have HTM := Lib.hid htm
    rw [htm] at HT3 HE
    clear htm
    have hes : eStr = ⟨#[]⟩ := rfl
    have HES := Lib.hid hes
    clear hes
    go_wp2_with (first | (go_at_call 78; (with_reducible refine (termint_c v _ HVB.out).mono ?_); rintro e w5 ⟨y, rfl, hn⟩; rw [HTM.out] at hn ⊢; rw [HES.out]; obtain ⟨Ay, cy, rfl⟩ := hn.1.rd.len; rw [nw_length] at hn ⊢; have HN5 := Lib.hid hn; have HG5 := Lib.hid (HG4.out.fr hn.2.1); have HB5 := Lib.hid (hn.2.1.blk HB4.out (fun h => h)); have HF5 := Lib.hid (HF4.out.trans (hn.2.1.mono (fun _ h _ => h.elim))); clear hn; have gz0 : w5.cell? ⟨B, 0, none⟩ = some (.int .i64 0) := (by simp [World.cell?, HB5.out]); have gzf0 : w5.frozen? ⟨B, 0, none⟩ = false := (by simp [World.frozen?, HB5.out]); have gz1 : w5.cell? ⟨B, 1, none⟩ = some (.bool false) := (by simp [World.cell?, HB5.out]); have gzf1 : w5.frozen? ⟨B, 1, none⟩ = false := (by simp [World.frozen?, HB5.out]); have gz2 : w5.cell? ⟨B, 2, none⟩ = some (.slice none 0 0) := (by simp [World.cell?, HB5.out]); have gzf2 : w5.frozen? ⟨B, 2, none⟩ = false := (by simp [World.frozen?, HB5.out]); have gz3 : w5.cell? ⟨B, 3, none⟩ = some (.string ⟨#[]⟩) := (by simp [World.cell?, HB5.out]); have gzf3 : w5.frozen? ⟨B, 3, none⟩ = false := (by simp [World.frozen?, HB5.out]); have gz4 : w5.cell? ⟨B, 4, none⟩ = some (.int .i64 0) := (by simp [World.cell?, HB5.out]); have gzf4 : w5.frozen? ⟨B, 4, none⟩ = false := (by simp [World.frozen?, HB5.out]); have gz5 : w5.cell? ⟨B, 5, none⟩ = some (.slice none 0 0) := (by simp [World.cell?, HB5.out]); have gzf5 : w5.frozen? ⟨B, 5, none⟩ = false := (by simp [World.frozen?, HB5.out]); have gz6 : w5.cell? ⟨B, 6, none⟩ = some (.slice none 0 0) := (by simp [World.cell?, HB5.out]); have gzf6 : w5.frozen? ⟨B, 6, none⟩ = false := (by simp [World.frozen?, HB5.out])))
    have hlt : ¬ B < w.heap.size := by have := HBW.out; omega
    refine bodyPost_ret (results_cell_row rfl _ _ B 26 #[.int .i64 0, .bool tm.f1, .slice Ay tm.f2.length cy, .string ⟨#[]⟩, .int .i64 0, .slice none 0 0, .slice none 0 0] (0, 0) _ rfl (st7_blk (.int .i64 0) (.bool tm.f1) (.slice Ay tm.f2.length cy) (.string ⟨#[]⟩) (.int .i64 0) (.slice none 0 0) (.slice none 0 0) HB5.out) Tryd.underlying26 rfl (by kernel_rfl)) rfl ?_
    have f7 := st7_fr w5 B (.int .i64 0) (.bool tm.f1) (.slice Ay tm.f2.length cy) (.string ⟨#[]⟩) (.int .i64 0) (.slice none 0 0) (.slice none 0 0)
    rw [HE.out.1, HE.out.2]
    exact ⟨_, _, _, (by simp only [Option.getD_some, HT3.out.1, HT3.out.2.1, HT3.out.2.2.1]; rfl), R_tail HN5.out.R HW4.out.1 HW4.out.2 f7, (by have h := HT3.out.2.2.2.1; show k26.R _ _ _ _ _ tm.f5; rw [h]; exact Kd.R_nil _ _ _ _ _), (by have h := HT3.out.2.2.2.2; show (Kd.int .u8).R _ _ _ _ _ tm.f6; rw [h]; exact Kd.R_nil _ _ _ _ _), HG5.out.far f7 (fun c T hc => by rw [HB5.out] at hc; simp at hc; exact hc.2.symm) ⟨_, _, HB5.out⟩, HF5.out.then_ f7 (fun i hi hl => absurd hl (by rw [hi]; exact hlt))⟩
   ·by_cases t1 : t = 1
    ·subst t1
     by_cases hv : 0 ≤ v ∧ v < 2
     ·have key : v = 0 ∨ v = 1 := by omega
      clear hv t0
      have HNM := Lib.hid HG4.out.nblk
      have k0 : w4.cell? ⟨X.t, 0, none⟩ = some (.slice (some ⟨X.gn, 0, none⟩) 2 X.cn) := by simp [World.cell?, HNM.out]
      obtain ⟨b0, e0, _, hc⟩ := HG4.out.nown.cellAt (by simp)
      injection e0 with e0
      injection e0 with e0
      subst e0
      have n0 := (hc 0 (by simp)).1
      have n1 := (hc 1 (by simp)).1
      simp only [List.getElem?_cons_zero, List.getElem?_cons_succ] at n0 n1
      clear hc
      rcases key with rfl | rfl
      ·have HL : Hid (leafM nmAB x = some ⟨1, false, [], sA, 0, [], []⟩) := Lib.hid (by unfold leafM; rw [if_neg (by rw [HT.out]; decide), if_pos HT.out, HV.out]; rfl)
       have HE : Hid (gr = _ ∧ (gN : Int) = m) := Lib.hid ⟨HGN.out.1.trans HL.out, HGN.out.2⟩
       obtain ⟨ss, hss⟩ : ∃ ss, sA = ss := ⟨_, rfl⟩
       (try rw [hss])
       (try rw [hss] at n0)
       have HSS := Lib.hid hss
       clear hss
       obtain ⟨gz0, gz1, gz2, gz3, gz4, gz5, gz6, gzf0, gzf1, gzf2, gzf3, gzf4, gzf5, gzf6⟩ := cells7 HB4.out
       go_wp2_with (first | (go_at_call 79; (with_reducible refine (PSlideMeans.tenementref1_TermAtom.calls ss 1 false [] ss 0 [] [] _ rfl).mono ?_); rintro e w5 ⟨v2, v5, v6, rfl, h2, h5, h6, hb⟩; obtain ⟨A2, c2, e2⟩ := Kd.R_slice h2; obtain ⟨A5, c5, e5⟩ := Kd.R_slice h5; obtain ⟨A6, c6, e6⟩ := Kd.R_slice h6; (rw [List.length_nil] at e2 e5 e6); subst e2; subst e5; subst e6; have HR2 := Lib.hid h2; have HR5 := Lib.hid h5; have HR6 := Lib.hid h6; have hn := (Fr.of_below hb (fun _ => False)); have HG5 := Lib.hid (HG4.out.fr hn); have HB5 := Lib.hid (hn.blk HB4.out (fun h => h)); have HF5 := Lib.hid (HF4.out.trans (hn.mono (fun _ h _ => h.elim))); clear hn hb h2 h5 h6; have ga0 : w5.cell? ⟨B, 0, none⟩ = some (.int .i64 0) := (by simp [World.cell?, HB5.out]); have gaf0 : w5.frozen? ⟨B, 0, none⟩ = false := (by simp [World.frozen?, HB5.out]); have ga1 : w5.cell? ⟨B, 1, none⟩ = some (.bool false) := (by simp [World.cell?, HB5.out]); have gaf1 : w5.frozen? ⟨B, 1, none⟩ = false := (by simp [World.frozen?, HB5.out]); have ga2 : w5.cell? ⟨B, 2, none⟩ = some (.slice none 0 0) := (by simp [World.cell?, HB5.out]); have gaf2 : w5.frozen? ⟨B, 2, none⟩ = false := (by simp [World.frozen?, HB5.out]); have ga3 : w5.cell? ⟨B, 3, none⟩ = some (.string ⟨#[]⟩) := (by simp [World.cell?, HB5.out]); have gaf3 : w5.frozen? ⟨B, 3, none⟩ = false := (by simp [World.frozen?, HB5.out]); have ga4 : w5.cell? ⟨B, 4, none⟩ = some (.int .i64 0) := (by simp [World.cell?, HB5.out]); have gaf4 : w5.frozen? ⟨B, 4, none⟩ = false := (by simp [World.frozen?, HB5.out]); have ga5 : w5.cell? ⟨B, 5, none⟩ = some (.slice none 0 0) := (by simp [World.cell?, HB5.out]); have gaf5 : w5.frozen? ⟨B, 5, none⟩ = false := (by simp [World.frozen?, HB5.out]); have ga6 : w5.cell? ⟨B, 6, none⟩ = some (.slice none 0 0) := (by simp [World.cell?, HB5.out]); have gaf6 : w5.frozen? ⟨B, 6, none⟩ = false := (by simp [World.frozen?, HB5.out])))
       have hlt : ¬ B < w.heap.size := by have := HBW.out; omega
       refine bodyPost_ret (results_cell_row rfl _ _ B 26 #[.int .i64 1, .bool false, .slice A2 0 c2, .string ss, .int .i64 0, .slice A5 0 c5, .slice A6 0 c6] (0, 0) _ rfl (st7_blk (.int .i64 1) (.bool false) (.slice A2 0 c2) (.string ss) (.int .i64 0) (.slice A5 0 c5) (.slice A6 0 c6) HB5.out) Tryd.underlying26 rfl (by kernel_rfl)) rfl ?_
       have f7 := st7_fr w5 B (.int .i64 1) (.bool false) (.slice A2 0 c2) (.string ss) (.int .i64 0) (.slice A5 0 c5) (.slice A6 0 c6)
       rw [HE.out.1, HE.out.2]
       exact ⟨_, _, _, (by rw [← HSS.out]; rfl), R_tail (Kd.R_mono (Kd.R_bound HR2.out) (fun k hk => hk.2.1)) HW4.out.1 HW4.out.2 f7, R_tail (Kd.R_mono (Kd.R_bound HR5.out) (fun k hk => hk.2.1)) HW4.out.1 HW4.out.2 f7, R_tail (Kd.R_mono (Kd.R_bound HR6.out) (fun k hk => hk.2.1)) HW4.out.1 HW4.out.2 f7, HG5.out.far f7 (fun c T hc => by rw [HB5.out] at hc; simp at hc; exact hc.2.symm) ⟨_, _, HB5.out⟩, HF5.out.then_ f7 (fun i hi hl => absurd hl (by rw [hi]; exact hlt))⟩
      ·have HL : Hid (leafM nmAB x = some ⟨1, false, [], sB, 0, [], []⟩) := Lib.hid (by unfold leafM; rw [if_neg (by rw [HT.out]; decide), if_pos HT.out, HV.out]; rfl)
       have HE : Hid (gr = _ ∧ (gN : Int) = m) := Lib.hid ⟨HGN.out.1.trans HL.out, HGN.out.2⟩
       obtain ⟨ss, hss⟩ : ∃ ss, sB = ss := ⟨_, rfl⟩
       (try rw [hss])
       (try rw [hss] at n1)
       have HSS := Lib.hid hss
       clear hss
       obtain ⟨gz0, gz1, gz2, gz3, gz4, gz5, gz6, gzf0, gzf1, gzf2, gzf3, gzf4, gzf5, gzf6⟩ := cells7 HB4.out
       go_wp2_with (first | (go_at_call 79; (with_reducible refine (PSlideMeans.tenementref1_TermAtom.calls ss 1 false [] ss 0 [] [] _ rfl).mono ?_); rintro e w5 ⟨v2, v5, v6, rfl, h2, h5, h6, hb⟩; obtain ⟨A2, c2, e2⟩ := Kd.R_slice h2; obtain ⟨A5, c5, e5⟩ := Kd.R_slice h5; obtain ⟨A6, c6, e6⟩ := Kd.R_slice h6; (rw [List.length_nil] at e2 e5 e6); subst e2; subst e5; subst e6; have HR2 := Lib.hid h2; have HR5 := Lib.hid h5; have HR6 := Lib.hid h6; have hn := (Fr.of_below hb (fun _ => False)); have HG5 := Lib.hid (HG4.out.fr hn); have HB5 := Lib.hid (hn.blk HB4.out (fun h => h)); have HF5 := Lib.hid (HF4.out.trans (hn.mono (fun _ h _ => h.elim))); clear hn hb h2 h5 h6; have ga0 : w5.cell? ⟨B, 0, none⟩ = some (.int .i64 0) := (by simp [World.cell?, HB5.out]); have gaf0 : w5.frozen? ⟨B, 0, none⟩ = false := (by simp [World.frozen?, HB5.out]); have ga1 : w5.cell? ⟨B, 1, none⟩ = some (.bool false) := (by simp [World.cell?, HB5.out]); have gaf1 : w5.frozen? ⟨B, 1, none⟩ = false := (by simp [World.frozen?, HB5.out]); have ga2 : w5.cell? ⟨B, 2, none⟩ = some (.slice none 0 0) := (by simp [World.cell?, HB5.out]); have gaf2 : w5.frozen? ⟨B, 2, none⟩ = false := (by simp [World.frozen?, HB5.out]); have ga3 : w5.cell? ⟨B, 3, none⟩ = some (.string ⟨#[]⟩) := (by simp [World.cell?, HB5.out]); have gaf3 : w5.frozen? ⟨B, 3, none⟩ = false := (by simp [World.frozen?, HB5.out]); have ga4 : w5.cell? ⟨B, 4, none⟩ = some (.int .i64 0) := (by simp [World.cell?, HB5.out]); have gaf4 : w5.frozen? ⟨B, 4, none⟩ = false := (by simp [World.frozen?, HB5.out]); have ga5 : w5.cell? ⟨B, 5, none⟩ = some (.slice none 0 0) := (by simp [World.cell?, HB5.out]); have gaf5 : w5.frozen? ⟨B, 5, none⟩ = false := (by simp [World.frozen?, HB5.out]); have ga6 : w5.cell? ⟨B, 6, none⟩ = some (.slice none 0 0) := (by simp [World.cell?, HB5.out]); have gaf6 : w5.frozen? ⟨B, 6, none⟩ = false := (by simp [World.frozen?, HB5.out])))
       have hlt : ¬ B < w.heap.size := by have := HBW.out; omega
       refine bodyPost_ret (results_cell_row rfl _ _ B 26 #[.int .i64 1, .bool false, .slice A2 0 c2, .string ss, .int .i64 0, .slice A5 0 c5, .slice A6 0 c6] (0, 0) _ rfl (st7_blk (.int .i64 1) (.bool false) (.slice A2 0 c2) (.string ss) (.int .i64 0) (.slice A5 0 c5) (.slice A6 0 c6) HB5.out) Tryd.underlying26 rfl (by kernel_rfl)) rfl ?_
       have f7 := st7_fr w5 B (.int .i64 1) (.bool false) (.slice A2 0 c2) (.string ss) (.int .i64 0) (.slice A5 0 c5) (.slice A6 0 c6)
       rw [HE.out.1, HE.out.2]
       exact ⟨_, _, _, (by rw [← HSS.out]; rfl), R_tail (Kd.R_mono (Kd.R_bound HR2.out) (fun k hk => hk.2.1)) HW4.out.1 HW4.out.2 f7, R_tail (Kd.R_mono (Kd.R_bound HR5.out) (fun k hk => hk.2.1)) HW4.out.1 HW4.out.2 f7, R_tail (Kd.R_mono (Kd.R_bound HR6.out) (fun k hk => hk.2.1)) HW4.out.1 HW4.out.2 f7, HG5.out.far f7 (fun c T hc => by rw [HB5.out] at hc; simp at hc; exact hc.2.symm) ⟨_, _, HB5.out⟩, HF5.out.then_ f7 (fun i hi hl => absurd hl (by rw [hi]; exact hlt))⟩
     ·have HL : Hid (leafM nmAB x = none) := Lib.hid (by unfold leafM; rw [if_neg (by rw [HT.out]; decide), if_pos HT.out, HV.out, if_neg (by intro h; exact hv ⟨h.1, h.2⟩)])
      have HE : Hid (gr = _ ∧ (gN : Int) = m) := Lib.hid ⟨HGN.out.1.trans HL.out, HGN.out.2⟩
      have k0 : w4.cell? ⟨X.t, 0, none⟩ = some (.slice (some ⟨X.gn, 0, none⟩) 2 X.cn) := by have := HG4.out.nblk; simp [World.cell?, this]
      by_cases h0 : v < 0
      ·have d1 : decide (v < 0) = true := decide_eq_true h0
       clear hv h0 t0
       go_upto_region 26 with (fail)
       have HG9 := Lib.hid (HG4.out.setbad true)
       have HB9 := Lib.hid ((HG4.out.setbad true).2.blk HB4.out (fun e => ne_of_types HB4.out HG4.out.gblk (by decide) e))
       have HF9 := Lib.hid (HF4.out.trans (HG4.out.setbad true).2)
       obtain ⟨W9, hW9⟩ : ∃ W9, w4.setCell ⟨X.g, 4, none⟩ (.bool true) = W9 := ⟨_, rfl⟩
       rw [hW9] at HG9 HB9 HF9
       (try simp only [hW9])
       clear hW9
       have HG10 := Lib.hid HG9.out.1
       clear HG9
       obtain ⟨z0, z1, z2, z3, z4, zf3, zf4⟩ := HG10.out.cells
       clear x0 x1 x2 x3 x4 xf3 xf4
       obtain ⟨gz0, gz1, gz2, gz3, gz4, gz5, gz6, gzf0, gzf1, gzf2, gzf3, gzf4, gzf5, gzf6⟩ := cells7 HB9.out
       go_wp2
       have hlt : ¬ B < w.heap.size := by have := HBW.out; omega
       refine bodyPost_ret (results_cell_row rfl _ _ B 26 #[.int .i64 0, .bool false, .slice none 0 0, .string ⟨#[]⟩, .int .i64 0, .slice none 0 0, .slice none 0 0] (0, 0) _ rfl (st7_blk (.int .i64 0) (.bool false) (.slice none 0 0) (.string ⟨#[]⟩) (.int .i64 0) (.slice none 0 0) (.slice none 0 0) HB9.out) Tryd.underlying26 rfl (by kernel_rfl)) rfl ?_
       have f7 := st7_fr W9 B (.int .i64 0) (.bool false) (.slice none 0 0) (.string ⟨#[]⟩) (.int .i64 0) (.slice none 0 0) (.slice none 0 0)
       rw [HE.out.1, HE.out.2]
       exact ⟨_, _, _, rfl, Kd.R_nil _ _ _ _ _, Kd.R_nil _ _ _ _ _, Kd.R_nil _ _ _ _ _, HG10.out.far f7 (fun c T hc => by rw [HB9.out] at hc; simp at hc; exact hc.2.symm) ⟨_, _, HB9.out⟩, HF9.out.then_ f7 (fun i hi hl => absurd hl (by rw [hi]; exact hlt))⟩
      ·have d1 : decide (v < 0) = false := decide_eq_false h0
       have d2 : decide (2 ≤ v) = true := decide_eq_true (by omega)
       clear hv h0 t0
       go_upto_region 26 with (fail)
       have HG9 := Lib.hid (HG4.out.setbad true)
       have HB9 := Lib.hid ((HG4.out.setbad true).2.blk HB4.out (fun e => ne_of_types HB4.out HG4.out.gblk (by decide) e))
       have HF9 := Lib.hid (HF4.out.trans (HG4.out.setbad true).2)
       obtain ⟨W9, hW9⟩ : ∃ W9, w4.setCell ⟨X.g, 4, none⟩ (.bool true) = W9 := ⟨_, rfl⟩
       rw [hW9] at HG9 HB9 HF9
       (try simp only [hW9])
       clear hW9
       have HG10 := Lib.hid HG9.out.1
       clear HG9
       obtain ⟨z0, z1, z2, z3, z4, zf3, zf4⟩ := HG10.out.cells
       clear x0 x1 x2 x3 x4 xf3 xf4
       obtain ⟨gz0, gz1, gz2, gz3, gz4, gz5, gz6, gzf0, gzf1, gzf2, gzf3, gzf4, gzf5, gzf6⟩ := cells7 HB9.out
       go_wp2
       have hlt : ¬ B < w.heap.size := by have := HBW.out; omega
       refine bodyPost_ret (results_cell_row rfl _ _ B 26 #[.int .i64 0, .bool false, .slice none 0 0, .string ⟨#[]⟩, .int .i64 0, .slice none 0 0, .slice none 0 0] (0, 0) _ rfl (st7_blk (.int .i64 0) (.bool false) (.slice none 0 0) (.string ⟨#[]⟩) (.int .i64 0) (.slice none 0 0) (.slice none 0 0) HB9.out) Tryd.underlying26 rfl (by kernel_rfl)) rfl ?_
       have f7 := st7_fr W9 B (.int .i64 0) (.bool false) (.slice none 0 0) (.string ⟨#[]⟩) (.int .i64 0) (.slice none 0 0) (.slice none 0 0)
       rw [HE.out.1, HE.out.2]
       exact ⟨_, _, _, rfl, Kd.R_nil _ _ _ _ _, Kd.R_nil _ _ _ _ _, Kd.R_nil _ _ _ _ _, HG10.out.far f7 (fun c T hc => by rw [HB9.out] at hc; simp at hc; exact hc.2.symm) ⟨_, _, HB9.out⟩, HF9.out.then_ f7 (fun i hi hl => absurd hl (by rw [hi]; exact hlt))⟩
    ·by_cases t23 : t = 2 ∨ t = 3
     ·clear t0 t1
      by_cases hv : 0 ≤ v ∧ v ≤ 1073741824
      ·have d1 : decide (v < 0) = false := decide_eq_false (by omega)
       have d2 : decide (1073741824 < v) = false := decide_eq_false (by omega)
       rcases t23 with rfl | rfl
       ·have HL : Hid (leafM nmAB x = some (termLeaf 3 v)) := Lib.hid (by unfold leafM; rw [if_neg (by rw [HT.out]; decide), if_neg (by rw [HT.out]; decide), if_pos (by rw [HT.out]; decide), HV.out, if_pos hv, HT.out]; rfl)
        have HE : Hid (gr = _ ∧ (gN : Int) = m) := Lib.hid ⟨HGN.out.1.trans HL.out, HGN.out.2⟩
        clear hv HL
        have HT2 := HT
        go_upto_region 16 with (first | (go_at_call 50; (with_reducible refine (Wd.rtag_c x 2 _ HX.out HT2.out).mono ?_); rintro e wt ⟨rfl, nu, rfl⟩))
        have HFQ := Lib.hid ((Fr.refl w4 (fun _ => False)).drewN nu)
        have HG5 := Lib.hid (HG4.out.fr HFQ.out)
        have HB5 := Lib.hid (HFQ.out.blk HB4.out (fun h => h))
        have HF5 := Lib.hid (HF4.out.trans (HFQ.out.mono (fun _ h _ => h.elim)))
        clear HFQ
        obtain ⟨w5, hw5⟩ : ∃ w5, w4.drewN nu = w5 := ⟨_, rfl⟩
        rw [hw5] at HG5 HB5 HF5
        (try simp only [hw5])
        clear hw5 x0 x1 x2 x3 x4 xf3 xf4
        obtain ⟨gz0, gz1, gz2, gz3, gz4, gz5, gz6, gzf0, gzf1, gzf2, gzf3, gzf4, gzf5, gzf6⟩ := cells7 HB5.out
        go_wp2
        have hlt : ¬ B < w.heap.size := by have := HBW.out; omega
        refine bodyPost_ret (results_cell_row rfl _ _ B 26 #[.int .i64 3, .bool false, .slice none 0 0, .string ⟨#[]⟩, .int .i64 v, .slice none 0 0, .slice none 0 0] (0, 0) _ rfl (st7_blk (.int .i64 3) (.bool false) (.slice none 0 0) (.string ⟨#[]⟩) (.int .i64 v) (.slice none 0 0) (.slice none 0 0) HB5.out) Tryd.underlying26 rfl (by kernel_rfl)) rfl ?_
        have f7 := st7_fr w5 B (.int .i64 3) (.bool false) (.slice none 0 0) (.string ⟨#[]⟩) (.int .i64 v) (.slice none 0 0) (.slice none 0 0)
        rw [HE.out.1, HE.out.2]
        exact ⟨_, _, _, rfl, Kd.R_nil _ _ _ _ _, Kd.R_nil _ _ _ _ _, Kd.R_nil _ _ _ _ _, HG5.out.far f7 (fun c T hc => by rw [HB5.out] at hc; simp at hc; exact hc.2.symm) ⟨_, _, HB5.out⟩, HF5.out.then_ f7 (fun i hi hl => absurd hl (by rw [hi]; exact hlt))⟩
       ·have HL : Hid (leafM nmAB x = some (termLeaf 2 v)) := Lib.hid (by unfold leafM; rw [if_neg (by rw [HT.out]; decide), if_neg (by rw [HT.out]; decide), if_pos (by rw [HT.out]; decide), HV.out, if_pos hv, HT.out]; rfl)
        have HE : Hid (gr = _ ∧ (gN : Int) = m) := Lib.hid ⟨HGN.out.1.trans HL.out, HGN.out.2⟩
        clear hv HL
        have HT2 := HT
        go_upto_region 17 with (first | (go_at_call 50; (with_reducible refine (Wd.rtag_c x 3 _ HX.out HT2.out).mono ?_); rintro e wt ⟨rfl, nu, rfl⟩))
        have HFQ := Lib.hid ((Fr.refl w4 (fun _ => False)).drewN nu)
        have HG5 := Lib.hid (HG4.out.fr HFQ.out)
        have HB5 := Lib.hid (HFQ.out.blk HB4.out (fun h => h))
        have HF5 := Lib.hid (HF4.out.trans (HFQ.out.mono (fun _ h _ => h.elim)))
        clear HFQ
        obtain ⟨w5, hw5⟩ : ∃ w5, w4.drewN nu = w5 := ⟨_, rfl⟩
        rw [hw5] at HG5 HB5 HF5
        (try simp only [hw5])
        clear hw5 x0 x1 x2 x3 x4 xf3 xf4
        obtain ⟨gz0, gz1, gz2, gz3, gz4, gz5, gz6, gzf0, gzf1, gzf2, gzf3, gzf4, gzf5, gzf6⟩ := cells7 HB5.out
        go_wp2
        have hlt : ¬ B < w.heap.size := by have := HBW.out; omega
        refine bodyPost_ret (results_cell_row rfl _ _ B 26 #[.int .i64 2, .bool false, .slice none 0 0, .string ⟨#[]⟩, .int .i64 v, .slice none 0 0, .slice none 0 0] (0, 0) _ rfl (st7_blk (.int .i64 2) (.bool false) (.slice none 0 0) (.string ⟨#[]⟩) (.int .i64 v) (.slice none 0 0) (.slice none 0 0) HB5.out) Tryd.underlying26 rfl (by kernel_rfl)) rfl ?_
        have f7 := st7_fr w5 B (.int .i64 2) (.bool false) (.slice none 0 0) (.string ⟨#[]⟩) (.int .i64 v) (.slice none 0 0) (.slice none 0 0)
        rw [HE.out.1, HE.out.2]
        exact ⟨_, _, _, rfl, Kd.R_nil _ _ _ _ _, Kd.R_nil _ _ _ _ _, Kd.R_nil _ _ _ _ _, HG5.out.far f7 (fun c T hc => by rw [HB5.out] at hc; simp at hc; exact hc.2.symm) ⟨_, _, HB5.out⟩, HF5.out.then_ f7 (fun i hi hl => absurd hl (by rw [hi]; exact hlt))⟩
      ·have HL : Hid (leafM nmAB x = none) := Lib.hid (by unfold leafM; rw [if_neg (by rw [HT.out]; omega), if_neg (by rw [HT.out]; omega), if_pos (by rw [HT.out]; exact t23), HV.out, if_neg hv])
       have HE : Hid (gr = _ ∧ (gN : Int) = m) := Lib.hid ⟨HGN.out.1.trans HL.out, HGN.out.2⟩
       rcases t23 with rfl | rfl
       ·by_cases h0 : v < 0
        ·have d1 : decide (v < 0) = true := decide_eq_true h0
         clear hv h0 HL
         go_upto_region 26 with (fail)
         have HG9 := Lib.hid (HG4.out.setbad true)
         have HB9 := Lib.hid ((HG4.out.setbad true).2.blk HB4.out (fun e => ne_of_types HB4.out HG4.out.gblk (by decide) e))
         have HF9 := Lib.hid (HF4.out.trans (HG4.out.setbad true).2)
         obtain ⟨W9, hW9⟩ : ∃ W9, w4.setCell ⟨X.g, 4, none⟩ (.bool true) = W9 := ⟨_, rfl⟩
         rw [hW9] at HG9 HB9 HF9
         (try simp only [hW9])
         clear hW9
         have HG10 := Lib.hid HG9.out.1
         clear HG9
         obtain ⟨z0, z1, z2, z3, z4, zf3, zf4⟩ := HG10.out.cells
         clear x0 x1 x2 x3 x4 xf3 xf4
         obtain ⟨gz0, gz1, gz2, gz3, gz4, gz5, gz6, gzf0, gzf1, gzf2, gzf3, gzf4, gzf5, gzf6⟩ := cells7 HB9.out
         go_wp2
         have hlt : ¬ B < w.heap.size := by have := HBW.out; omega
         refine bodyPost_ret (results_cell_row rfl _ _ B 26 #[.int .i64 0, .bool false, .slice none 0 0, .string ⟨#[]⟩, .int .i64 0, .slice none 0 0, .slice none 0 0] (0, 0) _ rfl (st7_blk (.int .i64 0) (.bool false) (.slice none 0 0) (.string ⟨#[]⟩) (.int .i64 0) (.slice none 0 0) (.slice none 0 0) HB9.out) Tryd.underlying26 rfl (by kernel_rfl)) rfl ?_
         have f7 := st7_fr W9 B (.int .i64 0) (.bool false) (.slice none 0 0) (.string ⟨#[]⟩) (.int .i64 0) (.slice none 0 0) (.slice none 0 0)
         rw [HE.out.1, HE.out.2]
         exact ⟨_, _, _, rfl, Kd.R_nil _ _ _ _ _, Kd.R_nil _ _ _ _ _, Kd.R_nil _ _ _ _ _, HG10.out.far f7 (fun c T hc => by rw [HB9.out] at hc; simp at hc; exact hc.2.symm) ⟨_, _, HB9.out⟩, HF9.out.then_ f7 (fun i hi hl => absurd hl (by rw [hi]; exact hlt))⟩
        ·have d1 : decide (v < 0) = false := decide_eq_false h0
         have d2 : decide (1073741824 < v) = true := decide_eq_true (by omega)
         clear hv h0 HL
         go_upto_region 26 with (fail)
         have HG9 := Lib.hid (HG4.out.setbad true)
         have HB9 := Lib.hid ((HG4.out.setbad true).2.blk HB4.out (fun e => ne_of_types HB4.out HG4.out.gblk (by decide) e))
         have HF9 := Lib.hid (HF4.out.trans (HG4.out.setbad true).2)
         obtain ⟨W9, hW9⟩ : ∃ W9, w4.setCell ⟨X.g, 4, none⟩ (.bool true) = W9 := ⟨_, rfl⟩
         rw [hW9] at HG9 HB9 HF9
         (try simp only [hW9])
         clear hW9
         have HG10 := Lib.hid HG9.out.1
         clear HG9
         obtain ⟨z0, z1, z2, z3, z4, zf3, zf4⟩ := HG10.out.cells
         clear x0 x1 x2 x3 x4 xf3 xf4
         obtain ⟨gz0, gz1, gz2, gz3, gz4, gz5, gz6, gzf0, gzf1, gzf2, gzf3, gzf4, gzf5, gzf6⟩ := cells7 HB9.out
         go_wp2
         have hlt : ¬ B < w.heap.size := by have := HBW.out; omega
         refine bodyPost_ret (results_cell_row rfl _ _ B 26 #[.int .i64 0, .bool false, .slice none 0 0, .string ⟨#[]⟩, .int .i64 0, .slice none 0 0, .slice none 0 0] (0, 0) _ rfl (st7_blk (.int .i64 0) (.bool false) (.slice none 0 0) (.string ⟨#[]⟩) (.int .i64 0) (.slice none 0 0) (.slice none 0 0) HB9.out) Tryd.underlying26 rfl (by kernel_rfl)) rfl ?_
         have f7 := st7_fr W9 B (.int .i64 0) (.bool false) (.slice none 0 0) (.string ⟨#[]⟩) (.int .i64 0) (.slice none 0 0) (.slice none 0 0)
         rw [HE.out.1, HE.out.2]
         exact ⟨_, _, _, rfl, Kd.R_nil _ _ _ _ _, Kd.R_nil _ _ _ _ _, Kd.R_nil _ _ _ _ _, HG10.out.far f7 (fun c T hc => by rw [HB9.out] at hc; simp at hc; exact hc.2.symm) ⟨_, _, HB9.out⟩, HF9.out.then_ f7 (fun i hi hl => absurd hl (by rw [hi]; exact hlt))⟩
       ·by_cases h0 : v < 0
        ·have d1 : decide (v < 0) = true := decide_eq_true h0
         clear hv h0 HL
         go_upto_region 26 with (fail)
         have HG9 := Lib.hid (HG4.out.setbad true)
         have HB9 := Lib.hid ((HG4.out.setbad true).2.blk HB4.out (fun e => ne_of_types HB4.out HG4.out.gblk (by decide) e))
         have HF9 := Lib.hid (HF4.out.trans (HG4.out.setbad true).2)
         obtain ⟨W9, hW9⟩ : ∃ W9, w4.setCell ⟨X.g, 4, none⟩ (.bool true) = W9 := ⟨_, rfl⟩
         rw [hW9] at HG9 HB9 HF9
         (try simp only [hW9])
         clear hW9
         have HG10 := Lib.hid HG9.out.1
         clear HG9
         obtain ⟨z0, z1, z2, z3, z4, zf3, zf4⟩ := HG10.out.cells
         clear x0 x1 x2 x3 x4 xf3 xf4
         obtain ⟨gz0, gz1, gz2, gz3, gz4, gz5, gz6, gzf0, gzf1, gzf2, gzf3, gzf4, gzf5, gzf6⟩ := cells7 HB9.out
         go_wp2
         have hlt : ¬ B < w.heap.size := by have := HBW.out; omega
         refine bodyPost_ret (results_cell_row rfl _ _ B 26 #[.int .i64 0, .bool false, .slice none 0 0, .string ⟨#[]⟩, .int .i64 0, .slice none 0 0, .slice none 0 0] (0, 0) _ rfl (st7_blk (.int .i64 0) (.bool false) (.slice none 0 0) (.string ⟨#[]⟩) (.int .i64 0) (.slice none 0 0) (.slice none 0 0) HB9.out) Tryd.underlying26 rfl (by kernel_rfl)) rfl ?_
         have f7 := st7_fr W9 B (.int .i64 0) (.bool false) (.slice none 0 0) (.string ⟨#[]⟩) (.int .i64 0) (.slice none 0 0) (.slice none 0 0)
         rw [HE.out.1, HE.out.2]
         exact ⟨_, _, _, rfl, Kd.R_nil _ _ _ _ _, Kd.R_nil _ _ _ _ _, Kd.R_nil _ _ _ _ _, HG10.out.far f7 (fun c T hc => by rw [HB9.out] at hc; simp at hc; exact hc.2.symm) ⟨_, _, HB9.out⟩, HF9.out.then_ f7 (fun i hi hl => absurd hl (by rw [hi]; exact hlt))⟩
        ·have d1 : decide (v < 0) = false := decide_eq_false h0
         have d2 : decide (1073741824 < v) = true := decide_eq_true (by omega)
         clear hv h0 HL
         go_upto_region 26 with (fail)
         have HG9 := Lib.hid (HG4.out.setbad true)
         have HB9 := Lib.hid ((HG4.out.setbad true).2.blk HB4.out (fun e => ne_of_types HB4.out HG4.out.gblk (by decide) e))
         have HF9 := Lib.hid (HF4.out.trans (HG4.out.setbad true).2)
         obtain ⟨W9, hW9⟩ : ∃ W9, w4.setCell ⟨X.g, 4, none⟩ (.bool true) = W9 := ⟨_, rfl⟩
         rw [hW9] at HG9 HB9 HF9
         (try simp only [hW9])
         clear hW9
         have HG10 := Lib.hid HG9.out.1
         clear HG9
         obtain ⟨z0, z1, z2, z3, z4, zf3, zf4⟩ := HG10.out.cells
         clear x0 x1 x2 x3 x4 xf3 xf4
         obtain ⟨gz0, gz1, gz2, gz3, gz4, gz5, gz6, gzf0, gzf1, gzf2, gzf3, gzf4, gzf5, gzf6⟩ := cells7 HB9.out
         go_wp2
         have hlt : ¬ B < w.heap.size := by have := HBW.out; omega
         refine bodyPost_ret (results_cell_row rfl _ _ B 26 #[.int .i64 0, .bool false, .slice none 0 0, .string ⟨#[]⟩, .int .i64 0, .slice none 0 0, .slice none 0 0] (0, 0) _ rfl (st7_blk (.int .i64 0) (.bool false) (.slice none 0 0) (.string ⟨#[]⟩) (.int .i64 0) (.slice none 0 0) (.slice none 0 0) HB9.out) Tryd.underlying26 rfl (by kernel_rfl)) rfl ?_
         have f7 := st7_fr W9 B (.int .i64 0) (.bool false) (.slice none 0 0) (.string ⟨#[]⟩) (.int .i64 0) (.slice none 0 0) (.slice none 0 0)
         rw [HE.out.1, HE.out.2]
         exact ⟨_, _, _, rfl, Kd.R_nil _ _ _ _ _, Kd.R_nil _ _ _ _ _, Kd.R_nil _ _ _ _ _, HG10.out.far f7 (fun c T hc => by rw [HB9.out] at hc; simp at hc; exact hc.2.symm) ⟨_, _, HB9.out⟩, HF9.out.then_ f7 (fun i hi hl => absurd hl (by rw [hi]; exact hlt))⟩
     ·by_cases t4 : t = 4
      ·subst t4
       clear t0 t1 t23
       by_cases hv : v = 0
       ·subst hv
        have HL : Hid (leafM nmAB x = some (termLeaf 5 0)) := Lib.hid (by unfold leafM; rw [if_neg (by rw [HT.out]; decide), if_neg (by rw [HT.out]; decide), if_neg (by rw [HT.out]; decide), if_pos HT.out, HV.out]; rfl)
        have HE : Hid (gr = _ ∧ (gN : Int) = m) := Lib.hid ⟨HGN.out.1.trans HL.out, HGN.out.2⟩
        clear HL
        go_wp2_with (first | (go_at_call 80; (with_reducible refine (PSlideMeans.tenementref1_TermNil.calls 5 false [] ⟨#[]⟩ 0 [] [] _ rfl).mono ?_); rintro e w5 ⟨v2, v5, v6, rfl, h2, h5, h6, hb⟩; obtain ⟨A2, c2, e2⟩ := Kd.R_slice h2; obtain ⟨A5, c5, e5⟩ := Kd.R_slice h5; obtain ⟨A6, c6, e6⟩ := Kd.R_slice h6; (rw [List.length_nil] at e2 e5 e6); subst e2; subst e5; subst e6; have HR2 := Lib.hid h2; have HR5 := Lib.hid h5; have HR6 := Lib.hid h6; have hn := (Fr.of_below hb (fun _ => False)); have HG5 := Lib.hid (HG4.out.fr hn); have HB5 := Lib.hid (hn.blk HB4.out (fun h => h)); have HF5 := Lib.hid (HF4.out.trans (hn.mono (fun _ h _ => h.elim))); clear hn hb h2 h5 h6; have ga0 : w5.cell? ⟨B, 0, none⟩ = some (.int .i64 0) := (by simp [World.cell?, HB5.out]); have gaf0 : w5.frozen? ⟨B, 0, none⟩ = false := (by simp [World.frozen?, HB5.out]); have ga1 : w5.cell? ⟨B, 1, none⟩ = some (.bool false) := (by simp [World.cell?, HB5.out]); have gaf1 : w5.frozen? ⟨B, 1, none⟩ = false := (by simp [World.frozen?, HB5.out]); have ga2 : w5.cell? ⟨B, 2, none⟩ = some (.slice none 0 0) := (by simp [World.cell?, HB5.out]); have gaf2 : w5.frozen? ⟨B, 2, none⟩ = false := (by simp [World.frozen?, HB5.out]); have ga3 : w5.cell? ⟨B, 3, none⟩ = some (.string ⟨#[]⟩) := (by simp [World.cell?, HB5.out]); have gaf3 : w5.frozen? ⟨B, 3, none⟩ = false := (by simp [World.frozen?, HB5.out]); have ga4 : w5.cell? ⟨B, 4, none⟩ = some (.int .i64 0) := (by simp [World.cell?, HB5.out]); have gaf4 : w5.frozen? ⟨B, 4, none⟩ = false := (by simp [World.frozen?, HB5.out]); have ga5 : w5.cell? ⟨B, 5, none⟩ = some (.slice none 0 0) := (by simp [World.cell?, HB5.out]); have gaf5 : w5.frozen? ⟨B, 5, none⟩ = false := (by simp [World.frozen?, HB5.out]); have ga6 : w5.cell? ⟨B, 6, none⟩ = some (.slice none 0 0) := (by simp [World.cell?, HB5.out]); have gaf6 : w5.frozen? ⟨B, 6, none⟩ = false := (by simp [World.frozen?, HB5.out])))
        have hlt : ¬ B < w.heap.size := by have := HBW.out; omega
        refine bodyPost_ret (results_cell_row rfl _ _ B 26 #[.int .i64 5, .bool false, .slice A2 0 c2, .string ⟨#[]⟩, .int .i64 0, .slice A5 0 c5, .slice A6 0 c6] (0, 0) _ rfl (st7_blk (.int .i64 5) (.bool false) (.slice A2 0 c2) (.string ⟨#[]⟩) (.int .i64 0) (.slice A5 0 c5) (.slice A6 0 c6) HB5.out) Tryd.underlying26 rfl (by kernel_rfl)) rfl ?_
        have f7 := st7_fr w5 B (.int .i64 5) (.bool false) (.slice A2 0 c2) (.string ⟨#[]⟩) (.int .i64 0) (.slice A5 0 c5) (.slice A6 0 c6)
        rw [HE.out.1, HE.out.2]
        exact ⟨_, _, _, rfl, R_tail (Kd.R_mono (Kd.R_bound HR2.out) (fun k hk => hk.2.1)) HW4.out.1 HW4.out.2 f7, R_tail (Kd.R_mono (Kd.R_bound HR5.out) (fun k hk => hk.2.1)) HW4.out.1 HW4.out.2 f7, R_tail (Kd.R_mono (Kd.R_bound HR6.out) (fun k hk => hk.2.1)) HW4.out.1 HW4.out.2 f7, HG5.out.far f7 (fun c T hc => by rw [HB5.out] at hc; simp at hc; exact hc.2.symm) ⟨_, _, HB5.out⟩, HF5.out.then_ f7 (fun i hi hl => absurd hl (by rw [hi]; exact hlt))⟩
       ·have HL : Hid (leafM nmAB x = none) := Lib.hid (by unfold leafM; rw [if_neg (by rw [HT.out]; decide), if_neg (by rw [HT.out]; decide), if_neg (by rw [HT.out]; decide), if_pos HT.out, HV.out, if_neg hv])
        have HE : Hid (gr = _ ∧ (gN : Int) = m) := Lib.hid ⟨HGN.out.1.trans HL.out, HGN.out.2⟩
        have d1 : (v == 0) = false := by simpa using hv
        clear hv HL
        go_upto_region 26 with (fail)
        have HG9 := Lib.hid (HG4.out.setbad true)
        have HB9 := Lib.hid ((HG4.out.setbad true).2.blk HB4.out (fun e => ne_of_types HB4.out HG4.out.gblk (by decide) e))
        have HF9 := Lib.hid (HF4.out.trans (HG4.out.setbad true).2)
        obtain ⟨W9, hW9⟩ : ∃ W9, w4.setCell ⟨X.g, 4, none⟩ (.bool true) = W9 := ⟨_, rfl⟩
        rw [hW9] at HG9 HB9 HF9
        (try simp only [hW9])
        clear hW9
        have HG10 := Lib.hid HG9.out.1
        clear HG9
        obtain ⟨z0, z1, z2, z3, z4, zf3, zf4⟩ := HG10.out.cells
        clear x0 x1 x2 x3 x4 xf3 xf4
        obtain ⟨gz0, gz1, gz2, gz3, gz4, gz5, gz6, gzf0, gzf1, gzf2, gzf3, gzf4, gzf5, gzf6⟩ := cells7 HB9.out
        go_wp2
        have hlt : ¬ B < w.heap.size := by have := HBW.out; omega
        refine bodyPost_ret (results_cell_row rfl _ _ B 26 #[.int .i64 0, .bool false, .slice none 0 0, .string ⟨#[]⟩, .int .i64 0, .slice none 0 0, .slice none 0 0] (0, 0) _ rfl (st7_blk (.int .i64 0) (.bool false) (.slice none 0 0) (.string ⟨#[]⟩) (.int .i64 0) (.slice none 0 0) (.slice none 0 0) HB9.out) Tryd.underlying26 rfl (by kernel_rfl)) rfl ?_
        have f7 := st7_fr W9 B (.int .i64 0) (.bool false) (.slice none 0 0) (.string ⟨#[]⟩) (.int .i64 0) (.slice none 0 0) (.slice none 0 0)
        rw [HE.out.1, HE.out.2]
        exact ⟨_, _, _, rfl, Kd.R_nil _ _ _ _ _, Kd.R_nil _ _ _ _ _, Kd.R_nil _ _ _ _ _, HG10.out.far f7 (fun c T hc => by rw [HB9.out] at hc; simp at hc; exact hc.2.symm) ⟨_, _, HB9.out⟩, HF9.out.then_ f7 (fun i hi hl => absurd hl (by rw [hi]; exact hlt))⟩
      ·have h5' : t ≠ 5 := fun e => by have h1 := HL5.out; exact h1 e
       have HL : Hid (leafM nmAB x = none) := Lib.hid (by unfold leafM; rw [if_neg (by rw [HT.out]; exact t0), if_neg (by rw [HT.out]; exact t1), if_neg (by rw [HT.out]; exact t23), if_neg (by rw [HT.out]; exact t4)])
       have HE : Hid (gr = _ ∧ (gN : Int) = m) := Lib.hid ⟨HGN.out.1.trans HL.out, HGN.out.2⟩
       have d0 : (t == 0) = false := by simpa using t0
       have d1 : (t == 1) = false := by simpa using t1
       have d2 : (t == 2) = false := by have : t ≠ 2 := fun e => t23 (.inl e); simpa using this
       have d3 : (t == 3) = false := by have : t ≠ 3 := fun e => t23 (.inr e); simpa using this
       have d4 : (t == 4) = false := by simpa using t4
       have d5 : (t == 5) = false := by simpa using h5'
       clear t0 t1 t23 t4 h5' HL
       go_upto_region 26 with (fail)
       have HG9 := Lib.hid (HG4.out.setbad true)
       have HB9 := Lib.hid ((HG4.out.setbad true).2.blk HB4.out (fun e => ne_of_types HB4.out HG4.out.gblk (by decide) e))
       have HF9 := Lib.hid (HF4.out.trans (HG4.out.setbad true).2)
       obtain ⟨W9, hW9⟩ : ∃ W9, w4.setCell ⟨X.g, 4, none⟩ (.bool true) = W9 := ⟨_, rfl⟩
       rw [hW9] at HG9 HB9 HF9
       (try simp only [hW9])
       clear hW9
       have HG10 := Lib.hid HG9.out.1
       clear HG9
       obtain ⟨z0, z1, z2, z3, z4, zf3, zf4⟩ := HG10.out.cells
       clear x0 x1 x2 x3 x4 xf3 xf4
       obtain ⟨gz0, gz1, gz2, gz3, gz4, gz5, gz6, gzf0, gzf1, gzf2, gzf3, gzf4, gzf5, gzf6⟩ := cells7 HB9.out
       go_wp2
       have hlt : ¬ B < w.heap.size := by have := HBW.out; omega
       refine bodyPost_ret (results_cell_row rfl _ _ B 26 #[.int .i64 0, .bool false, .slice none 0 0, .string ⟨#[]⟩, .int .i64 0, .slice none 0 0, .slice none 0 0] (0, 0) _ rfl (st7_blk (.int .i64 0) (.bool false) (.slice none 0 0) (.string ⟨#[]⟩) (.int .i64 0) (.slice none 0 0) (.slice none 0 0) HB9.out) Tryd.underlying26 rfl (by kernel_rfl)) rfl ?_
       have f7 := st7_fr W9 B (.int .i64 0) (.bool false) (.slice none 0 0) (.string ⟨#[]⟩) (.int .i64 0) (.slice none 0 0) (.slice none 0 0)
       rw [HE.out.1, HE.out.2]
       exact ⟨_, _, _, rfl, Kd.R_nil _ _ _ _ _, Kd.R_nil _ _ _ _ _, Kd.R_nil _ _ _ _ _, HG10.out.far f7 (fun c T hc => by rw [HB9.out] at hc; simp at hc; exact hc.2.symm) ⟨_, _, HB9.out⟩, HF9.out.then_ f7 (fun i hi hl => absurd hl (by rw [hi]; exact hlt))⟩
end Go.Proofs.YtjiaaefpepdoeaaDoor
namespace Go.Proofs.YtjiaaefpepdoeaaDoor
open Go.RowKit Md Go.Proofs.YtjiaaefpepdoeaaDoorW.PrintWords
open Go.Proofs.YtjiaaefpepdoeaaDoor.PSlideMeans (S26 z26 k26 k26_mkM)
set_option linter.unusedVariables false
theorem infoT : (Tryd.prog.info? 26).map (fun i => (i.zero, i.size, i.bytes)) = some (some (.agg #[.int .i64 0, .bool false, .slice none 0 0, .string ⟨#[]⟩, .int .i64 0, .slice none 0 0, .slice none 0 0]), 7, 112) := by kernel_rfl
theorem GG.word {W : World} {X : Gx} {ws : List Int} {size n : Int} {b : Bool} (h : GG W X ws size n b) (p : Nat) (hp : p < ws.length) : ∃ gw cap, X.vm = .slice (some ⟨gw, 0, none⟩) ws.length cap ∧ W.cell? ⟨gw, p, none⟩ = some (.int .u64 (ws.getD p 0)) ∧ W.cell? ⟨X.q, 0, none⟩ = some (.slice (some ⟨gw, 0, none⟩) ws.length cap) := by
 rcases h.mem.form with ⟨_, h0⟩ | ⟨gw, cap, hv, _, _, _, _, hc, _⟩
 ·rw [h0] at hp; simp at hp
 ·exact ⟨gw, cap, hv, hc p hp, by rw [← hv]; exact h.mem.c0⟩
theorem GG.farS {W W1 : World} {X : Gx} {ws : List Int} {size n : Int} {bad : Bool} {S : Nat → Prop} (h : GG W X ws size n bad) (hf : Fr W W1 S) (hS : ∀ i c T', S i → W.heap[i]? = some (.cells c T' (0, 0)) → T' = 26) : GG W1 X ws size n bad := by
 have key : ∀ {i : Nat} {c : Array Value} {T' : TypeId}, W.heap[i]? = some (.cells c T' (0, 0)) → T' ≠ 26 → ¬ S i := fun hc ne hs => ne (hS _ _ _ hs hc)
 have own : ∀ {g n c : Nat} {e : TypeId} {xs : List Value}, Own W e (.slice (some ⟨g, 0, none⟩) n c) xs → e ≠ 26 → ¬ S g := by
  intro g n c e xs ho ne
  obtain ⟨cur, hc⟩ := ho.elem g (by simp [InBlk, Value.ownBlock])
  exact key hc ne
 refine ⟨h.mem.keep hf (key h.mem.blk (by decide)) (fun i hi e => ?_), hf.blk h.nblk (key h.nblk (by decide)), h.nown.keep hf (fun i hi e => ?_), h.sto.keep hf (key h.sto.blk (by decide)) (own h.sto.ob (by decide)) (own h.sto.op (by decide)) (own h.sto.os (by decide)) (own h.sto.oc (by decide)), hf.blk h.gblk (key h.gblk (by decide))⟩
 ·obtain ⟨cur, hc⟩ := h.mem.own.elem i hi
  exact key hc (by decide) e
 ·obtain ⟨cur, hc⟩ := h.nown.elem i hi
  exact key hc (by decide) e
theorem getsM_snoc {g : Nat → Int → Nat × Option S26} {fs : List Int} {n0 n : Nat} {xs : List S26} {j : Nat} (hj : j < fs.length) (h : getsM g n0 fs = ((getsM g n (fs.drop j)).1, (getsM g n (fs.drop j)).2.map (xs ++ ·))) :
  ((g n (fs.getD j 0)).2 = none → getsM g n0 fs = ((g n (fs.getD j 0)).1, none)) ∧ ∀ t, (g n (fs.getD j 0)).2 = some t → getsM g n0 fs = ((getsM g (g n (fs.getD j 0)).1 (fs.drop (j + 1))).1, (getsM g (g n (fs.getD j 0)).1 (fs.drop (j + 1))).2.map ((xs ++ [t]) ++ ·)) := by
 have e : fs.drop j = fs.getD j 0 :: fs.drop (j + 1) := by
  rw [List.drop_eq_getElem_cons hj]
  simp [List.getD_eq_getElem?_getD, hj]
 rw [e] at h
 simp only [getsM] at h
 cases hg : g n (fs.getD j 0) with
 | mk n1 o =>
  rw [hg] at h
  cases o with
  | none => exact ⟨fun _ => h, fun t ht => (by cases ht)⟩
  | some t =>
   refine ⟨fun e => (by cases e), fun t' ht => ?_⟩
   simp only [Option.some.injEq] at ht
   subst ht
   rw [h]
   simp only
   congr 1
   cases (getsM g n1 (fs.drop (j + 1))).2 <;> simp
structure RW (w W : World) (X : Gx) (ws : List Int) (size : Int) (D B E : Nat) (hk hs ht : Int) (K : Int) (v5 : Value) (f n0 : Nat) (fs : List Int) (j n : Nat) (tree : Int) (b : Bool) (xs : List S26) : Prop where
 gg : GG W X ws size (n : Int) b
 d : W.heap[D]? = some (.cells #[.int .i64 hk, .int .i64 hs, .int .i64 ht, .bool false] 68 (0, 0))
 bz : W.heap[B]? = some (.cells #[.int .i64 0, .bool false, .slice none 0 0, .string ⟨#[]⟩, .int .i64 0, .slice none 0 0, .slice none 0 0] 26 (0, 0))
 e : W.heap[E]? = some (.cells #[.int .i64 K, .bool false, .slice none 0 0, .string ⟨#[]⟩, .int .i64 0, v5, .slice none 0 0] 26 (0, 0))
 fr : Fr w W (fun i => i = X.g)
 r : k26.R 26 W (E + 1) (fun k => E < k) v5 xs
 len : xs.length = j
 jl : j ≤ fs.length
 ok : ∀ x ∈ xs, OkT (f + 2) x
 tl : 1 ≤ tree ∧ tree ≤ 1 + j * 65537
 nb : b = false → n ≤ 65536 ∧ n0 ≤ n ∧ tree = 1 + (xs.map trT).sum ∧ getsM (getM ws nmAB lookM trT f) n0 fs = ((getsM (getM ws nmAB lookM trT f) n (fs.drop j)).1, (getsM (getM ws nmAB lookM trT f) n (fs.drop j)).2.map (xs ++ ·))
 yb : b = true → getsM (getM ws nmAB lookM trT f) n0 fs = (n, none)
theorem sum_snoc (xs : List S26) (t : S26) : ((xs ++ [t]).map trT).sum = (xs.map trT).sum + trT t := by simp
set_option maxRecDepth 100000 in
set_option maxHeartbeats 8000000 in
theorem obj_row (X : Gx) (ws : List Int) (size : Int) (f : Nat) (ih : GetC X ws size f) (kd th : Int) (sz : Nat) (nn : Bool) (a n : Nat) (w : World) (hk : kd = 0 ∨ kd = 1) (hg : GG w X ws size n false) (ha : a + 1 + sz ≤ ws.length) (hn : n ≤ 65536) (hf : 65537 ≤ n + f) :
  Calls Tryd.prog 81 #[.pointer (some ⟨X.g, 0, none⟩), .agg #[.int .i64 kd, .int .i64 sz, .int .i64 th, .bool nn], .int .i64 a] w fun e w' => GA w w' X ws size ((rowM trT (getM ws nmAB lookM trT f) n ⟨kd, sz, th, nn⟩ (fieldsAt ws a sz)).1 : Nat) (rowM trT (getM ws nmAB lookM trT f) n ⟨kd, sz, th, nn⟩ (fieldsAt ws a sz)).2 e := by
 have hmx : ws.length ≤ 1048576 := by have := hg.mem.le; have := hg.mem.mx; omega
 have hokw : okWs ws := hg.mem.ok
 obtain ⟨fs, hfs⟩ : ∃ fs, fieldsAt ws a sz = fs := ⟨_, rfl⟩
 have hfl : fs.length = sz := by rw [← hfs]; simp [fieldsAt]
 have hfg : ∀ j, j < sz → fs.getD j 0 = ws.getD (a + (j + 1)) 0 := fun j hj => by
  rw [← hfs]
  unfold fieldsAt
  have e : (a : Int) + 1 + (j : Nat) = ((a + (j + 1) : Nat) : Int) := by omega
  simp only [List.getD_eq_getElem?_getD, List.getElem?_map, List.getElem?_range hj, Option.map_some, Option.getD_some]
  rw [e, rd0_getD (by omega) (by omega)]
  rw [Int.toNat_natCast, List.getD_eq_getElem?_getD]
 have HFS := Lib.hid hfs
 have HFL := Lib.hid hfl
 have HFG := Lib.hid hfg
 have HIH := Lib.hid ih
 have HN := Lib.hid hn
 have HFN := Lib.hid hf
 have HA := Lib.hid ha
 have HMX := Lib.hid hmx
 have HOKW := Lib.hid hokw
 rw [hfs]
 obtain ⟨gm, hgm⟩ : ∃ gm, rowM trT (getM ws nmAB lookM trT f) n ⟨kd, sz, th, nn⟩ fs = gm := ⟨_, rfl⟩
 rw [hgm]
 obtain ⟨gN, gr⟩ := gm
 have HGA := Lib.hid hgm
 simp only
 clear hmx hokw hfs hfl hfg ih hn hf ha hgm
 have hb0 : (w.alloc (.cells #[.int .i64 kd, .int .i64 sz, .int .i64 th, .bool nn] 68)).heap[w.heap.size]? = some (.cells #[.int .i64 kd, .int .i64 sz, .int .i64 th, .bool nn] 68 (0, 0)) := blk_new _ _ _
 obtain ⟨D, hD⟩ : ∃ D, w.heap.size = D := ⟨_, rfl⟩
 obtain ⟨w1, hw1⟩ : ∃ w1, w.alloc (.cells #[.int .i64 kd, .int .i64 sz, .int .i64 th, .bool nn] 68) = w1 := ⟨_, rfl⟩
 have hf1 : Fr w w1 (fun _ => False) := by rw [← hw1]; exact (Fr.refl w _).alloc _
 have hs1 : w1.heap.size = D + 1 := by rw [← hw1, ← hD]; simp
 have hb1 : (w1.alloc (.cells #[.int .i64 0, .bool false, .slice none 0 0, .string ⟨#[]⟩, .int .i64 0, .slice none 0 0, .slice none 0 0] 26)).heap[w1.heap.size]? = some (.cells #[.int .i64 0, .bool false, .slice none 0 0, .string ⟨#[]⟩, .int .i64 0, .slice none 0 0, .slice none 0 0] 26 (0, 0)) := blk_new _ _ _
 obtain ⟨B, hB⟩ : ∃ B, w1.heap.size = B := ⟨_, rfl⟩
 obtain ⟨w2, hw2⟩ : ∃ w2, w1.alloc (.cells #[.int .i64 0, .bool false, .slice none 0 0, .string ⟨#[]⟩, .int .i64 0, .slice none 0 0, .slice none 0 0] 26) = w2 := ⟨_, rfl⟩
 have hf2 : Fr w w2 (fun _ => False) := by rw [← hw2]; exact hf1.alloc _
 have hb02 : w2.heap[D]? = some (.cells #[.int .i64 kd, .int .i64 sz, .int .i64 th, .bool nn] 68 (0, 0)) := by
  rw [← hw2, ← hD]; exact ((Fr.refl w1 (fun _ => False)).alloc _).blk (by rw [← hw1]; exact hb0) (fun h => h)
 rw [hw2, hB] at hb1
 have HB0 := Lib.hid hb02
 have HB1 := Lib.hid hb1
 have HF2 : Hid (Fr w w2 (fun i => i = X.g)) := Lib.hid (hf2.mono (fun _ h _ => h.elim))
 have HG2 := Lib.hid (hg.fr hf2)
 have HBW : Hid (B = D + 1 ∧ D = w.heap.size ∧ w2.heap.size = B + 1) := Lib.hid ⟨by rw [← hB, hs1], hD.symm, by rw [← hw2, ← hB]; simp⟩
 clear hf1 hs1 hf2 hb02 hb1 hb0 hg
 have k0 : w2.cell? ⟨D, 0, none⟩ = some (.int .i64 kd) := by simp [World.cell?, HB0.out]
 have kf0 : w2.frozen? ⟨D, 0, none⟩ = false := by simp [World.frozen?, HB0.out]
 have k1 : w2.cell? ⟨D, 1, none⟩ = some (.int .i64 sz) := by simp [World.cell?, HB0.out]
 have kf1 : w2.frozen? ⟨D, 1, none⟩ = false := by simp [World.frozen?, HB0.out]
 have k2 : w2.cell? ⟨D, 2, none⟩ = some (.int .i64 th) := by simp [World.cell?, HB0.out]
 have kf2 : w2.frozen? ⟨D, 2, none⟩ = false := by simp [World.frozen?, HB0.out]
 have k3 : w2.cell? ⟨D, 3, none⟩ = some (.bool nn) := by simp [World.cell?, HB0.out]
 have kf3 : w2.frozen? ⟨D, 3, none⟩ = false := by simp [World.frozen?, HB0.out]
 obtain ⟨x0, x1, x2, x3, x4, xf3, xf4⟩ := HG2.out.cells
 rcases hk with rfl | rfl
 ·go_enter Tryd.func81, Tryd.ntmps81
  go_upto_region 1 with (fail)
  (try simp only [hw1, hw2, hB, hD])
  clear hw1 hw2 hB hD
  go_upto_region 19 with (fail)
  obtain ⟨E, hE⟩ : ∃ E, w2.heap.size = E := ⟨_, rfl⟩
  obtain ⟨w3, hw3⟩ : ∃ w3, w2.alloc (.cells #[.int .i64 4, .bool false, .slice none 0 0, .string ⟨#[]⟩, .int .i64 0, .slice none 0 0, .slice none 0 0] 26) = w3 := ⟨_, rfl⟩
  have HE3 : Hid (w3.heap[E]? = some (.cells #[.int .i64 4, .bool false, .slice none 0 0, .string ⟨#[]⟩, .int .i64 0, .slice none 0 0, .slice none 0 0] 26 (0, 0))) := Lib.hid (by rw [← hw3, ← hE]; exact blk_new _ _ _)
  have HEB : Hid (E = B + 1 ∧ w3.heap.size = E + 1) := Lib.hid ⟨by rw [← hE]; exact HBW.out.2.2, by rw [← hw3, ← hE]; simp⟩
  have f23 : Fr w2 w3 (fun _ => False) := by rw [← hw3]; exact (Fr.refl w2 _).alloc _
  have HG3 := Lib.hid (HG2.out.fr f23)
  have HB3 := Lib.hid (f23.blk HB1.out (fun h => h))
  have HD3 := Lib.hid (f23.blk HB0.out (fun h => h))
  have HF3 := Lib.hid (HF2.out.trans (f23.mono (fun _ h _ => h.elim)))
  (try simp only [hw3, hE])
  clear f23 hw3 hE x0 x1 x2 x3 x4 xf3 xf4 k0 k1 k2 k3 kf0 kf1 kf2 kf3 HG2 HB1 HB0 HF2
  have ec0 : w3.cell? ⟨E, 0, none⟩ = some (.int .i64 4) := by simp [World.cell?, HE3.out]
  have ecf0 : w3.frozen? ⟨E, 0, none⟩ = false := by simp [World.frozen?, HE3.out]
  have ec1 : w3.cell? ⟨E, 1, none⟩ = some (.bool false) := by simp [World.cell?, HE3.out]
  have ecf1 : w3.frozen? ⟨E, 1, none⟩ = false := by simp [World.frozen?, HE3.out]
  have ec2 : w3.cell? ⟨E, 2, none⟩ = some (.slice none 0 0) := by simp [World.cell?, HE3.out]
  have ecf2 : w3.frozen? ⟨E, 2, none⟩ = false := by simp [World.frozen?, HE3.out]
  have ec3 : w3.cell? ⟨E, 3, none⟩ = some (.string ⟨#[]⟩) := by simp [World.cell?, HE3.out]
  have ecf3 : w3.frozen? ⟨E, 3, none⟩ = false := by simp [World.frozen?, HE3.out]
  have ec4 : w3.cell? ⟨E, 4, none⟩ = some (.int .i64 0) := by simp [World.cell?, HE3.out]
  have ecf4 : w3.frozen? ⟨E, 4, none⟩ = false := by simp [World.frozen?, HE3.out]
  have ec5 : w3.cell? ⟨E, 5, none⟩ = some (.slice none 0 0) := by simp [World.cell?, HE3.out]
  have ecf5 : w3.frozen? ⟨E, 5, none⟩ = false := by simp [World.frozen?, HE3.out]
  have ec6 : w3.cell? ⟨E, 6, none⟩ = some (.slice none 0 0) := by simp [World.cell?, HE3.out]
  have ecf6 : w3.frozen? ⟨E, 6, none⟩ = false := by simp [World.frozen?, HE3.out]
  have k0 : w3.cell? ⟨D, 0, none⟩ = some (.int .i64 0) := by simp [World.cell?, HD3.out]
  have kf0 : w3.frozen? ⟨D, 0, none⟩ = false := by simp [World.frozen?, HD3.out]
  have k1 : w3.cell? ⟨D, 1, none⟩ = some (.int .i64 sz) := by simp [World.cell?, HD3.out]
  have kf1 : w3.frozen? ⟨D, 1, none⟩ = false := by simp [World.frozen?, HD3.out]
  have k2 : w3.cell? ⟨D, 2, none⟩ = some (.int .i64 th) := by simp [World.cell?, HD3.out]
  have kf2 : w3.frozen? ⟨D, 2, none⟩ = false := by simp [World.frozen?, HD3.out]
  have k3 : w3.cell? ⟨D, 3, none⟩ = some (.bool nn) := by simp [World.cell?, HD3.out]
  have kf3 : w3.frozen? ⟨D, 3, none⟩ = false := by simp [World.frozen?, HD3.out]
  go_upto_region 21 with (fail)
  have f34 : Fr w3 (w3.setCell ⟨E, 0, none⟩ (.int .i64 6)) (fun i => i = E) := (Fr.refl w3 (fun i => i = E)).setCell (a := ⟨E, 0, none⟩) (fun _ => rfl) _
  have HE4 : Hid ((w3.setCell ⟨E, 0, none⟩ (.int .i64 6)).heap[E]? = some (.cells #[.int .i64 6, .bool false, .slice none 0 0, .string ⟨#[]⟩, .int .i64 0, .slice none 0 0, .slice none 0 0] 26 (0, 0))) := Lib.hid (blk_put HE3.out 0 _ rfl)
  obtain ⟨w4, hw4⟩ : ∃ w4, w3.setCell ⟨E, 0, none⟩ (.int .i64 6) = w4 := ⟨_, rfl⟩
  rw [hw4] at f34 HE4
  (try simp only [hw4])
  have HG4 := Lib.hid (HG3.out.far f34 (fun c T hc => by rw [HE3.out] at hc; simp at hc; exact hc.2.symm) ⟨_, _, HE3.out⟩)
  have HB4 := Lib.hid (f34.blk HB3.out (fun e => by have := HEB.out; omega))
  have HD4 := Lib.hid (f34.blk HD3.out (fun e => by have := HEB.out; have := HBW.out; omega))
  have HF4 := Lib.hid (HF3.out.then_ f34 (fun i hi hl => by have := HEB.out; have := HBW.out; omega))
  have HS4 : Hid (w4.heap.size = E + 1) := Lib.hid (by rw [← hw4]; simp [World.setCell]; exact HEB.out.2)
  clear hw4 f34 k0 k1 k2 k3 kf0 kf1 kf2 kf3 HG3 HB3 HD3 HF3 HE3 ec0 ec1 ec2 ec3 ec4 ec5 ec6 ecf0 ecf1 ecf2 ecf3 ecf4 ecf5 ecf6
  have k0 : w4.cell? ⟨D, 0, none⟩ = some (.int .i64 0) := by simp [World.cell?, HD4.out]
  have kf0 : w4.frozen? ⟨D, 0, none⟩ = false := by simp [World.frozen?, HD4.out]
  have k1 : w4.cell? ⟨D, 1, none⟩ = some (.int .i64 sz) := by simp [World.cell?, HD4.out]
  have kf1 : w4.frozen? ⟨D, 1, none⟩ = false := by simp [World.frozen?, HD4.out]
  have k2 : w4.cell? ⟨D, 2, none⟩ = some (.int .i64 th) := by simp [World.cell?, HD4.out]
  have kf2 : w4.frozen? ⟨D, 2, none⟩ = false := by simp [World.frozen?, HD4.out]
  have k3 : w4.cell? ⟨D, 3, none⟩ = some (.bool nn) := by simp [World.cell?, HD4.out]
  have kf3 : w4.frozen? ⟨D, 3, none⟩ = false := by simp [World.frozen?, HD4.out]
  obtain ⟨x0, x1, x2, x3, x4, xf3, xf4⟩ := HG4.out.cells
  by_cases hbad : nn = true ∨ ((0 : Int) = 0 ∧ (sz : Int) ≠ 2) ∨ (255 : Int) < sz
  ·have HE : Hid (gr = none ∧ (gN : Int) = (n : Int)) := Lib.hid (by
    have e := HGA.out
    unfold rowM at e
    rw [if_pos hbad] at e
    injection e with e1 e2
    exact ⟨e2.symm, by rw [← e1]⟩)
   clear HGA
   have key : nn = true ∨ (nn = false ∧ ((sz : Int) != 2) = true) ∨ (nn = false ∧ ((sz : Int) != 2) = false ∧ decide ((255 : Int) < sz) = true) := by
    cases nn with
    | true => exact .inl rfl
    | false =>
     by_cases h2 : (sz : Int) = 2
     ·refine .inr (.inr ⟨rfl, by simp [h2], ?_⟩)
      rcases hbad with h | h | h
      ·cases h
      ·exact absurd h2 h.2
      ·exact decide_eq_true h
     ·exact .inr (.inl ⟨rfl, by simpa using h2⟩)
   clear hbad
   rcases key with rfl | ⟨rfl, c2⟩ | ⟨rfl, c2, c3⟩
   ·go_upto_region 23 with (fail)
    have HG9 := Lib.hid (HG4.out.setbad true)
    have HB9 := Lib.hid ((HG4.out.setbad true).2.blk HB4.out (fun e => ne_of_types HB4.out HG4.out.gblk (by decide) e))
    have HF9 := Lib.hid (HF4.out.trans (HG4.out.setbad true).2)
    obtain ⟨W9, hW9⟩ : ∃ W9, w4.setCell ⟨X.g, 4, none⟩ (.bool true) = W9 := ⟨_, rfl⟩
    rw [hW9] at HG9 HB9 HF9
    (try simp only [hW9])
    clear hW9
    have HG10 := Lib.hid HG9.out.1
    clear HG9
    obtain ⟨z0, z1, z2, z3, z4, zf3, zf4⟩ := HG10.out.cells
    clear x0 x1 x2 x3 x4 xf3 xf4
    obtain ⟨gz0, gz1, gz2, gz3, gz4, gz5, gz6, gzf0, gzf1, gzf2, gzf3, gzf4, gzf5, gzf6⟩ := cells7 HB9.out
    go_wp2
    have hlt : ¬ B < w.heap.size := by have := HBW.out; omega
    refine bodyPost_ret (results_cell_row rfl _ _ B 26 #[.int .i64 0, .bool false, .slice none 0 0, .string ⟨#[]⟩, .int .i64 0, .slice none 0 0, .slice none 0 0] (0, 0) _ rfl (st7_blk (.int .i64 0) (.bool false) (.slice none 0 0) (.string ⟨#[]⟩) (.int .i64 0) (.slice none 0 0) (.slice none 0 0) HB9.out) Tryd.underlying26 rfl (by kernel_rfl)) rfl ?_
    have f7 := st7_fr W9 B (.int .i64 0) (.bool false) (.slice none 0 0) (.string ⟨#[]⟩) (.int .i64 0) (.slice none 0 0) (.slice none 0 0)
    rw [HE.out.1, HE.out.2]
    exact ⟨_, _, _, rfl, Kd.R_nil _ _ _ _ _, Kd.R_nil _ _ _ _ _, Kd.R_nil _ _ _ _ _, HG10.out.far f7 (fun c T hc => by rw [HB9.out] at hc; simp at hc; exact hc.2.symm) ⟨_, _, HB9.out⟩, HF9.out.then_ f7 (fun i hi hl => absurd hl (by rw [hi]; exact hlt))⟩
   ·go_upto_region 23 with (fail)
    have HG9 := Lib.hid (HG4.out.setbad true)
    have HB9 := Lib.hid ((HG4.out.setbad true).2.blk HB4.out (fun e => ne_of_types HB4.out HG4.out.gblk (by decide) e))
    have HF9 := Lib.hid (HF4.out.trans (HG4.out.setbad true).2)
    obtain ⟨W9, hW9⟩ : ∃ W9, w4.setCell ⟨X.g, 4, none⟩ (.bool true) = W9 := ⟨_, rfl⟩
    rw [hW9] at HG9 HB9 HF9
    (try simp only [hW9])
    clear hW9
    have HG10 := Lib.hid HG9.out.1
    clear HG9
    obtain ⟨z0, z1, z2, z3, z4, zf3, zf4⟩ := HG10.out.cells
    clear x0 x1 x2 x3 x4 xf3 xf4
    obtain ⟨gz0, gz1, gz2, gz3, gz4, gz5, gz6, gzf0, gzf1, gzf2, gzf3, gzf4, gzf5, gzf6⟩ := cells7 HB9.out
    go_wp2
    have hlt : ¬ B < w.heap.size := by have := HBW.out; omega
    refine bodyPost_ret (results_cell_row rfl _ _ B 26 #[.int .i64 0, .bool false, .slice none 0 0, .string ⟨#[]⟩, .int .i64 0, .slice none 0 0, .slice none 0 0] (0, 0) _ rfl (st7_blk (.int .i64 0) (.bool false) (.slice none 0 0) (.string ⟨#[]⟩) (.int .i64 0) (.slice none 0 0) (.slice none 0 0) HB9.out) Tryd.underlying26 rfl (by kernel_rfl)) rfl ?_
    have f7 := st7_fr W9 B (.int .i64 0) (.bool false) (.slice none 0 0) (.string ⟨#[]⟩) (.int .i64 0) (.slice none 0 0) (.slice none 0 0)
    rw [HE.out.1, HE.out.2]
    exact ⟨_, _, _, rfl, Kd.R_nil _ _ _ _ _, Kd.R_nil _ _ _ _ _, Kd.R_nil _ _ _ _ _, HG10.out.far f7 (fun c T hc => by rw [HB9.out] at hc; simp at hc; exact hc.2.symm) ⟨_, _, HB9.out⟩, HF9.out.then_ f7 (fun i hi hl => absurd hl (by rw [hi]; exact hlt))⟩
   ·go_upto_region 23 with (fail)
    have HG9 := Lib.hid (HG4.out.setbad true)
    have HB9 := Lib.hid ((HG4.out.setbad true).2.blk HB4.out (fun e => ne_of_types HB4.out HG4.out.gblk (by decide) e))
    have HF9 := Lib.hid (HF4.out.trans (HG4.out.setbad true).2)
    obtain ⟨W9, hW9⟩ : ∃ W9, w4.setCell ⟨X.g, 4, none⟩ (.bool true) = W9 := ⟨_, rfl⟩
    rw [hW9] at HG9 HB9 HF9
    (try simp only [hW9])
    clear hW9
    have HG10 := Lib.hid HG9.out.1
    clear HG9
    obtain ⟨z0, z1, z2, z3, z4, zf3, zf4⟩ := HG10.out.cells
    clear x0 x1 x2 x3 x4 xf3 xf4
    obtain ⟨gz0, gz1, gz2, gz3, gz4, gz5, gz6, gzf0, gzf1, gzf2, gzf3, gzf4, gzf5, gzf6⟩ := cells7 HB9.out
    go_wp2
    have hlt : ¬ B < w.heap.size := by have := HBW.out; omega
    refine bodyPost_ret (results_cell_row rfl _ _ B 26 #[.int .i64 0, .bool false, .slice none 0 0, .string ⟨#[]⟩, .int .i64 0, .slice none 0 0, .slice none 0 0] (0, 0) _ rfl (st7_blk (.int .i64 0) (.bool false) (.slice none 0 0) (.string ⟨#[]⟩) (.int .i64 0) (.slice none 0 0) (.slice none 0 0) HB9.out) Tryd.underlying26 rfl (by kernel_rfl)) rfl ?_
    have f7 := st7_fr W9 B (.int .i64 0) (.bool false) (.slice none 0 0) (.string ⟨#[]⟩) (.int .i64 0) (.slice none 0 0) (.slice none 0 0)
    rw [HE.out.1, HE.out.2]
    exact ⟨_, _, _, rfl, Kd.R_nil _ _ _ _ _, Kd.R_nil _ _ _ _ _, Kd.R_nil _ _ _ _ _, HG10.out.far f7 (fun c T hc => by rw [HB9.out] at hc; simp at hc; exact hc.2.symm) ⟨_, _, HB9.out⟩, HF9.out.then_ f7 (fun i hi hl => absurd hl (by rw [hi]; exact hlt))⟩
  ·have e1 : nn = false := by cases nn with
    | true => exact absurd (.inl rfl) hbad
    | false => rfl
   subst e1
   have HSZ : Hid (sz ≤ 255) := Lib.hid (by have : ¬ (255 : Int) < sz := fun h => hbad (.inr (.inr h)); omega)
   have e2 : sz = 2 := Classical.byContradiction fun h => hbad (.inr (.inl ⟨rfl, fun e => h (by omega)⟩))
   have c2 : ((sz : Int) != 2) = false := by rw [e2]; rfl
   clear e2
   have c3 : decide ((255 : Int) < sz) = false := decide_eq_false (by have := HSZ.out; omega)
   have HROW : Hid ((gN, gr) = ((getsM (getM ws nmAB lookM trT f) n fs).1, (getsM (getM ws nmAB lookM trT f) n fs).2.bind fun ts => if 1 + (ts.map trT).sum = th then some ⟨6, false, [], eStr, 0, ts, []⟩ else none)) := Lib.hid (by
    have e := HGA.out
    unfold rowM at e
    rw [if_neg hbad] at e
    rw [← e]
    rfl)
   clear hbad HGA
   go_upto_block 0 with (fail)
   have H0 : Hid (RW w w4 X ws size D B E 0 sz th 6 (.slice none 0 0) f n fs 0 n 1 false []) := Lib.hid ⟨HG4.out, HD4.out, HB4.out, HE4.out, HF4.out, Kd.R_nil _ _ _ _ _, rfl, Nat.zero_le _, fun x hx => by simp at hx, ⟨Int.le_refl _, by omega⟩, fun _ => ⟨HN.out, Nat.le_refl _, by simp, by simp⟩, fun e => by cases e⟩
   have HEW : Hid (B = D + 1 ∧ D = w.heap.size ∧ E = B + 1) := Lib.hid ⟨HBW.out.1, HBW.out.2.1, HEB.out.1⟩
   clear x0 x1 x2 x3 x4 xf3 xf4 k0 k1 k2 k3 kf0 kf1 kf2 kf3 c3 c2 HG4 HD4 HB4 HE4 HF4 HEB HS4
   go_loopg [12, 13] (sz + 1) (fun g a12 a13 wr => ∃ (tree : Int) (i j nn : Nat) (b : Bool) (xs : List S26) (v5 : Value), a12 = .int .i64 tree ∧ a13 = .int .i64 i ∧ g + j = sz + 1 ∧ i = j + 1 ∧ Hid (RW w wr X ws size D B E 0 sz th 6 v5 f n fs j nn tree b xs))
   case atStart => exact ⟨1, 1, 0, n, false, [], _, rfl, rfl, by omega, rfl, H0⟩
   case round =>
    clear H0
    obtain ⟨tree, i, j, nn, b, xs, v5, rfl, rfl, hgj, hij, HI⟩ := hrel
    have HGJ : Hid (gk + j = sz + 1 ∧ i = j + 1) := Lib.hid ⟨hgj, hij⟩
    clear hgj hij
    obtain ⟨A5, c5, e5⟩ := Kd.R_slice HI.out.r
    rw [HI.out.len] at e5
    subst e5
    have k0 : wr.cell? ⟨D, 0, none⟩ = some (.int .i64 0) := by simp [World.cell?, HI.out.d]
    have kf0 : wr.frozen? ⟨D, 0, none⟩ = false := by simp [World.frozen?, HI.out.d]
    have k1 : wr.cell? ⟨D, 1, none⟩ = some (.int .i64 sz) := by simp [World.cell?, HI.out.d]
    have kf1 : wr.frozen? ⟨D, 1, none⟩ = false := by simp [World.frozen?, HI.out.d]
    have k2 : wr.cell? ⟨D, 2, none⟩ = some (.int .i64 th) := by simp [World.cell?, HI.out.d]
    have kf2 : wr.frozen? ⟨D, 2, none⟩ = false := by simp [World.frozen?, HI.out.d]
    have k3 : wr.cell? ⟨D, 3, none⟩ = some (.bool false) := by simp [World.cell?, HI.out.d]
    have kf3 : wr.frozen? ⟨D, 3, none⟩ = false := by simp [World.frozen?, HI.out.d]
    obtain ⟨x0, x1, x2, x3, x4, xf3, xf4⟩ := HI.out.gg.cells
    have qt0 : 1 ≤ tree := HI.out.tl.1
    have qt1 : tree ≤ 16777472 := by have := HI.out.tl.2; have := HI.out.jl; have := HFL.out; have := HSZ.out; omega
    have qi0 : (0 : Int) ≤ i := by omega
    have qi1 : (i : Int) ≤ 1048576 := by have := HGJ.out; have := HI.out.jl; have := HFL.out; have := HSZ.out; omega
    by_cases hi : b = false ∧ i ≤ sz
    ·obtain ⟨hb, his⟩ := hi
     subst hb
     have HIS := Lib.hid his
     have d1 : decide (i ≤ sz) = true := decide_eq_true his
     have d2 : decide ((i : Int) ≤ sz) = true := decide_eq_true (by omega)
     obtain ⟨p, hp⟩ : ∃ p, a + i = p := ⟨_, rfl⟩
     have hpl : p < ws.length := by have := HA.out; omega
     obtain ⟨gw, cap, hvm, cw, cq⟩ := HI.out.gg.word p hpl
     obtain ⟨x, hx⟩ : ∃ x, ws.getD p 0 = x := ⟨_, rfl⟩
     have HOX : Hid (okW x) := Lib.hid (by rw [← hx]; exact okWs_getD HOKW.out _ (by omega))
     rw [hx] at cw
     have HXJ : Hid (fs.getD j 0 = x) := Lib.hid (by have h1 := HGJ.out; rw [HFG.out j (by omega), ← hx, ← hp, h1.2])
     have qp : (p : Int) < ws.length := by omega
     have hwp : wrap64 ((a : Int) + (i : Int)) = (p : Int) := by have := HMX.out; unfold wrap64; omega
     have HNN := Lib.hid (HI.out.nb rfl)
     obtain ⟨gm, hgm⟩ : ∃ gm, getM ws nmAB lookM trT f nn x = gm := ⟨_, rfl⟩
     obtain ⟨gn1, go1⟩ := gm
     have HGM := Lib.hid hgm
     have hcall := HIH.out nn x wr HOX.out HI.out.gg HNN.out.1 (by have := HFN.out; have := HNN.out; omega)
     rw [hgm] at hcall
     obtain ⟨tm, htm⟩ : ∃ tm, go1.getD z26 = tm := ⟨_, rfl⟩
     have HTM := Lib.hid htm
     obtain ⟨g2, hg2⟩ : ∃ g2 : Int, (gn1 : Int) = g2 := ⟨_, rfl⟩
     simp only [hg2] at hcall
     have HG2 := Lib.hid hg2
     have HCALL := Lib.hid hcall
     clear hcall hg2 htm hgm hx hp hpl hvm his
     go_upto_region 29 with (first | (go_at_call 57; (with_reducible refine HCALL.out.mono ?_); rintro e w6 ⟨u2, u5, u6, rfl, h2, h5, h6, hg6, hf6⟩; rw [HTM.out] at h2 h5 h6 ⊢; obtain ⟨B2, b2, rfl⟩ := Kd.R_slice h2; obtain ⟨B5, b5, rfl⟩ := Kd.R_slice h5; obtain ⟨B6, b6, rfl⟩ := Kd.R_slice h6; have H2 := Lib.hid h2; have H5 := Lib.hid h5; have H6 := Lib.hid h6; have HG6 := Lib.hid hg6; have HF6 := Lib.hid hf6; clear h2 h5 h6 hg6 hf6))
     obtain ⟨F, hF⟩ : ∃ F, w6.heap.size = F := ⟨_, rfl⟩
     obtain ⟨w7, hw7⟩ : ∃ w7, w6.alloc (.cells #[.int .i64 tm.f0, .bool tm.f1, .slice B2 tm.f2.length b2, .string tm.f3, .int .i64 tm.f4, .slice B5 tm.f5.length b5, .slice B6 tm.f6.length b6] 26) = w7 := ⟨_, rfl⟩
     have HFB : Hid (w7.heap[F]? = some (.cells #[.int .i64 tm.f0, .bool tm.f1, .slice B2 tm.f2.length b2, .string tm.f3, .int .i64 tm.f4, .slice B5 tm.f5.length b5, .slice B6 tm.f6.length b6] 26 (0, 0))) := Lib.hid (by rw [← hw7, ← hF]; exact blk_new _ _ _)
     have f67 : Fr w6 w7 (fun _ => False) := by rw [← hw7]; exact (Fr.refl w6 _).alloc _
     have f07 : Fr wr w7 (fun i => i = X.g) := HF6.out.trans (f67.mono (fun _ h _ => h.elim))
     have HF07 := Lib.hid f07
     have neg : ∀ {i : Nat} {c : Array Value} {T' : TypeId}, wr.heap[i]? = some (.cells c T' (0, 0)) → T' ≠ 115 → i ≠ X.g := fun hc ne => ne_of_types hc HI.out.gg.gblk ne
     have HSW : Hid (wr.heap.size ≤ F ∧ F < w7.heap.size ∧ E < wr.heap.size ∧ D < wr.heap.size ∧ B < wr.heap.size) := Lib.hid ⟨by rw [← hF]; exact HF6.out.size, fr_lt HFB.out, fr_lt HI.out.e, fr_lt HI.out.d, fr_lt HI.out.bz⟩
     have HG7 := Lib.hid (HG6.out.fr f67)
     have HD7 := Lib.hid (f07.blk HI.out.d (neg HI.out.d (by decide)))
     have HB7 := Lib.hid (f07.blk HI.out.bz (neg HI.out.bz (by decide)))
     have HE7 := Lib.hid (f07.blk HI.out.e (neg HI.out.e (by decide)))
     have HFW7 := Lib.hid (HI.out.fr.trans f07)
     have HR7 : Hid (k26.R 26 w7 (E + 1) (fun k => E < k) (.slice A5 j c5) xs) := Lib.hid (Kd.R_mono (Kd.R_step (Kd.R_types HI.out.r HI.out.gg.gblk (by decide)) (fun k hk hlt => f07.block k hlt (fun e => hk.2 e))) (fun k hk => hk.1))
     have H27 : Hid ((Kd.int .u32).R 123 w7 (E + 1) (fun k => wr.heap.size ≤ k) (.slice B2 tm.f2.length b2) tm.f2) := Lib.hid (Kd.R_lower (Kd.R_step H2.out (fun k hk hlt => f67.block k hlt (fun h => h))) (by have := HSW.out; omega))
     have H57 : Hid (k26.R 26 w7 (E + 1) (fun k => wr.heap.size ≤ k) (.slice B5 tm.f5.length b5) tm.f5) := Lib.hid (Kd.R_lower (Kd.R_step H5.out (fun k hk hlt => f67.block k hlt (fun h => h))) (by have := HSW.out; omega))
     have H67 : Hid ((Kd.int .u8).R 5 w7 (E + 1) (fun k => wr.heap.size ≤ k) (.slice B6 tm.f6.length b6) tm.f6) := Lib.hid (Kd.R_lower (Kd.R_step H6.out (fun k hk hlt => f67.block k hlt (fun h => h))) (by have := HSW.out; omega))
     have HVE : Hid (∀ k, (Value.slice A5 j c5).ownBlock = some k → E < k) := Lib.hid (fun k hk => HI.out.r.1 k hk)
     have HLN : Hid ((xs ++ [tm]).length = j + 1) := Lib.hid (by rw [List.length_append, HI.out.len]; rfl)
     have HOKT : Hid (OkT (f + 2) tm) := Lib.hid (by
      rw [← HTM.out]
      cases hgo : go1 with
      | none => exact okT_z.mono (by omega)
      | some t => exact (okT_getM HOKW.out f nn x t HOX.out (by rw [HGM.out, hgo])).mono (by omega))
     have HVB : Hid (∀ k, (Value.slice A5 j c5).ownBlock = some k → k < wr.heap.size) := Lib.hid (fun k hk => Kd.R_lt HI.out.r k hk)
     have HLX : Hid ((xs.length + 1) * 112 ≤ 140737488355328) := Lib.hid (by have := HI.out.len; have := HI.out.jl; have := HFL.out; have := HSZ.out; omega)
     (try simp only [hw7, hF])
     clear hw7 hF f67 f07 neg x0 x1 x2 x3 x4 xf3 xf4 k0 k1 k2 k3 kf0 kf1 kf2 kf3 cw cq hwp qp d1 d2 H2 H5 H6 HG6 HF6
     have ec0 : w7.cell? ⟨E, 0, none⟩ = some (.int .i64 6) := by simp [World.cell?, HE7.out]
     have ecf0 : w7.frozen? ⟨E, 0, none⟩ = false := by simp [World.frozen?, HE7.out]
     have ec1 : w7.cell? ⟨E, 1, none⟩ = some (.bool false) := by simp [World.cell?, HE7.out]
     have ecf1 : w7.frozen? ⟨E, 1, none⟩ = false := by simp [World.frozen?, HE7.out]
     have ec2 : w7.cell? ⟨E, 2, none⟩ = some (.slice none 0 0) := by simp [World.cell?, HE7.out]
     have ecf2 : w7.frozen? ⟨E, 2, none⟩ = false := by simp [World.frozen?, HE7.out]
     have ec3 : w7.cell? ⟨E, 3, none⟩ = some (.string ⟨#[]⟩) := by simp [World.cell?, HE7.out]
     have ecf3 : w7.frozen? ⟨E, 3, none⟩ = false := by simp [World.frozen?, HE7.out]
     have ec4 : w7.cell? ⟨E, 4, none⟩ = some (.int .i64 0) := by simp [World.cell?, HE7.out]
     have ecf4 : w7.frozen? ⟨E, 4, none⟩ = false := by simp [World.frozen?, HE7.out]
     have ec5 : w7.cell? ⟨E, 5, none⟩ = some (.slice A5 j c5) := by simp [World.cell?, HE7.out]
     have ecf5 : w7.frozen? ⟨E, 5, none⟩ = false := by simp [World.frozen?, HE7.out]
     have ec6 : w7.cell? ⟨E, 6, none⟩ = some (.slice none 0 0) := by simp [World.cell?, HE7.out]
     have ecf6 : w7.frozen? ⟨E, 6, none⟩ = false := by simp [World.frozen?, HE7.out]
     have mc0 : w7.cell? ⟨F, 0, none⟩ = some (.int .i64 tm.f0) := by simp [World.cell?, HFB.out]
     have mcf0 : w7.frozen? ⟨F, 0, none⟩ = false := by simp [World.frozen?, HFB.out]
     have mc1 : w7.cell? ⟨F, 1, none⟩ = some (.bool tm.f1) := by simp [World.cell?, HFB.out]
     have mcf1 : w7.frozen? ⟨F, 1, none⟩ = false := by simp [World.frozen?, HFB.out]
     have mc2 : w7.cell? ⟨F, 2, none⟩ = some (.slice B2 tm.f2.length b2) := by simp [World.cell?, HFB.out]
     have mcf2 : w7.frozen? ⟨F, 2, none⟩ = false := by simp [World.frozen?, HFB.out]
     have mc3 : w7.cell? ⟨F, 3, none⟩ = some (.string tm.f3) := by simp [World.cell?, HFB.out]
     have mcf3 : w7.frozen? ⟨F, 3, none⟩ = false := by simp [World.frozen?, HFB.out]
     have mc4 : w7.cell? ⟨F, 4, none⟩ = some (.int .i64 tm.f4) := by simp [World.cell?, HFB.out]
     have mcf4 : w7.frozen? ⟨F, 4, none⟩ = false := by simp [World.frozen?, HFB.out]
     have mc5 : w7.cell? ⟨F, 5, none⟩ = some (.slice B5 tm.f5.length b5) := by simp [World.cell?, HFB.out]
     have mcf5 : w7.frozen? ⟨F, 5, none⟩ = false := by simp [World.frozen?, HFB.out]
     have mc6 : w7.cell? ⟨F, 6, none⟩ = some (.slice B6 tm.f6.length b6) := by simp [World.cell?, HFB.out]
     have mcf6 : w7.frozen? ⟨F, 6, none⟩ = false := by simp [World.frozen?, HFB.out]
     go_upto_region 30 with (first | (at_builtin; refine Kd.R_append k26 (w0 := w7) (W := w7) (E + 1) rfl (.tmp 152) (.tmp 154) 23 26 (.agg #[.int .i64 0, .bool false, .slice none 0 0, .string ⟨#[]⟩, .int .i64 0, .slice none 0 0, .slice none 0 0]) 112 rfl Tryd.underlying23 infoT rfl (by decide) (by omega) (.slice A5 j c5) xs tm [.int .i64 tm.f0, .bool tm.f1, .slice B2 tm.f2.length b2, .string tm.f3, .int .i64 tm.f4, .slice B5 tm.f5.length b5, .slice B6 tm.f6.length b6] (fun k => E < k) (fun k => wr.heap.size ≤ k) rfl rfl (k26_mkM _ _ _ tm H27.out H57.out H67.out) (fun k hk => ⟨by have := HSW.out; omega, fun e => absurd (HVB.out k e.symm) (Nat.not_lt.2 hk)⟩) (fun k hk => by have := HSW.out; omega) HR7.out (Below.refl _ _) (by have := HSW.out; omega) HLX.out ?_; intro v8 w8 hr8 hb8 hg8 hat8; obtain ⟨A8, c8, e8⟩ := Kd.R_slice hr8; (rw [HLN.out] at e8); subst e8; have HR8 := Lib.hid hr8; have HGR := Lib.hid hg8; have hbe := (hg8.block E (by have := HSW.out; omega) (fun e => absurd (HVE.out E e.symm) (Nat.lt_irrefl _))).trans HE7.out; have HE8 := Lib.hid hbe; have hn5 : w8.cell? ⟨E, 5, none⟩ = some (.slice A5 j c5) := (by simp [World.cell?, hbe]); have hn5f : w8.frozen? ⟨E, 5, none⟩ = false := (by simp [World.frozen?, hbe]); clear hr8 hb8 hg8 hat8 hbe))
     clear hn5 hn5f ec0 ecf0 ec1 ecf1 ec2 ecf2 ec3 ecf3 ec4 ecf4 ec5 ecf5 ec6 ecf6 mc0 mcf0 mc1 mcf1 mc2 mcf2 mc3 mcf3 mc4 mcf4 mc5 mcf5 mc6 mcf6
     have f78 : Fr w7 w8 (fun k => k = E ∨ (Value.slice A5 j c5).ownBlock = some k) := (Fr.refl w7 _).grown HGR.out (fun k hk _ => .inr hk)
     have f79 : Fr w7 (w8.setCell ⟨E, 5, none⟩ (.slice A8 (j + 1) c8)) (fun k => k = E ∨ (Value.slice A5 j c5).ownBlock = some k) := f78.setCell (a := ⟨E, 5, none⟩) (fun _ => .inl rfl) _
     have HE9 : Hid ((w8.setCell ⟨E, 5, none⟩ (.slice A8 (j + 1) c8)).heap[E]? = some (.cells #[.int .i64 6, .bool false, .slice none 0 0, .string ⟨#[]⟩, .int .i64 0, .slice A8 (j + 1) c8, .slice none 0 0] 26 (0, 0))) := Lib.hid (blk_put HE8.out 5 _ rfl)
     have HR9 : Hid (k26.R 26 (w8.setCell ⟨E, 5, none⟩ (.slice A8 (j + 1) c8)) (E + 1) (fun k => E < k) (.slice A8 (j + 1) c8) (xs ++ [tm])) := Lib.hid (Kd.R_far (p := ⟨E, 5, none⟩) HR8.out (fun k hk e => absurd (show E < k from hk) (by rw [e]; exact Nat.lt_irrefl _)) _)
     obtain ⟨w9, hw9⟩ : ∃ w9, w8.setCell ⟨E, 5, none⟩ (.slice A8 (j + 1) c8) = w9 := ⟨_, rfl⟩
     rw [hw9] at f79 HE9 HR9
     (try simp only [hw9])
     have HF79 := Lib.hid f79
     have hap : ∀ k, wr.heap.size ≤ k → ¬ (k = E ∨ (Value.slice A5 j c5).ownBlock = some k) := fun k hk e => by
      rcases e with e | e
      ·have := HSW.out; omega
      ·have := HVB.out k e; omega
     have HG9 := Lib.hid (HG7.out.farS f79 (fun i c T' hi hc => by
      rcases hi with hi | hi
      ·rw [hi, HE7.out] at hc; simp at hc; exact hc.2.symm
      ·obtain ⟨inner, ho⟩ := Kd.R_own HR7.out
       obtain ⟨cells, hc2⟩ := own_typed ho i hi
       rw [hc2] at hc; simp at hc; exact hc.2.symm))
     have HD9 := Lib.hid (f79.blk HD7.out (fun e => by
      rcases e with e | e
      ·have := HEW.out; omega
      ·have := HVE.out _ e; have := HEW.out; omega))
     have HB9 := Lib.hid (f79.blk HB7.out (fun e => by
      rcases e with e | e
      ·have := HEW.out; omega
      ·have := HVE.out _ e; have := HEW.out; omega))
     have HFB9 := Lib.hid (f79.blk HFB.out (hap F HSW.out.1))
     have HFW9 := Lib.hid (HFW7.out.then_ f79 (fun i hi hl => by
      rcases hi with hi | hi
      ·have := HEW.out; omega
      ·have := HVE.out _ hi; have := HEW.out; omega))
     have r2 := Kd.R_reads' (Kd.R_step H27.out (fun k hk hlt => f79.block k hlt (hap k hk)))
     have r5 := Kd.R_reads' (Kd.R_step H57.out (fun k hk hlt => f79.block k hlt (hap k hk)))
     have r6 := Kd.R_reads' (Kd.R_step H67.out (fun k hk hlt => f79.block k hlt (hap k hk)))
     have HRD := Lib.hid (And.intro r2 (And.intro r5 r6))
     have htb := trT_bd HOKT.out
     have htb1 := htb.1
     have htb2 := htb.2
     clear hw9 f78 f79 hap r2 r5 r6 htb HG7 HD7 HB7 HE7 HFB HFW7 HR7 H27 H57 H67 HE8 HR8
     have mc0 : w9.cell? ⟨F, 0, none⟩ = some (.int .i64 tm.f0) := by simp [World.cell?, HFB9.out]
     have mcf0 : w9.frozen? ⟨F, 0, none⟩ = false := by simp [World.frozen?, HFB9.out]
     have mc1 : w9.cell? ⟨F, 1, none⟩ = some (.bool tm.f1) := by simp [World.cell?, HFB9.out]
     have mcf1 : w9.frozen? ⟨F, 1, none⟩ = false := by simp [World.frozen?, HFB9.out]
     have mc2 : w9.cell? ⟨F, 2, none⟩ = some (.slice B2 tm.f2.length b2) := by simp [World.cell?, HFB9.out]
     have mcf2 : w9.frozen? ⟨F, 2, none⟩ = false := by simp [World.frozen?, HFB9.out]
     have mc3 : w9.cell? ⟨F, 3, none⟩ = some (.string tm.f3) := by simp [World.cell?, HFB9.out]
     have mcf3 : w9.frozen? ⟨F, 3, none⟩ = false := by simp [World.frozen?, HFB9.out]
     have mc4 : w9.cell? ⟨F, 4, none⟩ = some (.int .i64 tm.f4) := by simp [World.cell?, HFB9.out]
     have mcf4 : w9.frozen? ⟨F, 4, none⟩ = false := by simp [World.frozen?, HFB9.out]
     have mc5 : w9.cell? ⟨F, 5, none⟩ = some (.slice B5 tm.f5.length b5) := by simp [World.cell?, HFB9.out]
     have mcf5 : w9.frozen? ⟨F, 5, none⟩ = false := by simp [World.frozen?, HFB9.out]
     have mc6 : w9.cell? ⟨F, 6, none⟩ = some (.slice B6 tm.f6.length b6) := by simp [World.cell?, HFB9.out]
     have mcf6 : w9.frozen? ⟨F, 6, none⟩ = false := by simp [World.frozen?, HFB9.out]
     go_wp2_with (first | (go_at_call 30; (with_reducible refine (tree_call HOKT.out w9 HRD.out.1.2.2 HRD.out.1.2.1 HRD.out.2.1.2.2 HRD.out.2.1.2.1 HRD.out.2.2.2.2 HRD.out.2.2.2.1).mono ?_); rintro e w10 ⟨rfl, hf10⟩; have HF10 := Lib.hid hf10; clear hf10))
     go_roundg (gk - 1)
     case measure => have := HGJ.out; have := HIS.out; omega
     case rel =>
      have f10 := HF10.out
      have hjs : j < fs.length := by have := HGJ.out; have := HIS.out; have := HFL.out; omega
      have hsn := getsM_snoc hjs HNN.out.2.2.2
      rw [HXJ.out, HGM.out] at hsn
      have hle := getM_le (ws := ws) (nm := nmAB) (lk := lookM) (tr := trT) f nn x HNN.out.1
      rw [HGM.out] at hle
      refine ⟨tree + trT tm, i + 1, j + 1, gn1, go1.isNone, xs ++ [tm], _, by first | rfl | go_num, by first | rfl | go_num, by have := HGJ.out; have := HIS.out; omega, by have := HGJ.out; omega, Lib.hid ⟨?_, f10.blk HD9.out (fun h => h), f10.blk HB9.out (fun h => h), f10.blk HE9.out (fun h => h), HFW9.out.trans (f10.mono (fun _ h _ => h.elim)), Kd.R_step HR9.out (fun k _ hlt => f10.block k hlt (fun h => h)), ?_, by omega, ?_, ?_, fun hb => ?_, fun hb => ?_⟩⟩
      ·rw [HG2.out]; exact HG9.out.fr f10
      ·rw [List.length_append, HI.out.len]; rfl
      ·intro y hy
       rcases List.mem_append.1 hy with hy | hy
       ·exact HI.out.ok y hy
       ·simp at hy; rw [hy]; exact HOKT.out
      ·have h1 := HI.out.tl
       have h2 := trT_bd HOKT.out
       constructor
       ·omega
       ·push_cast; omega
      ·cases hgo : go1 with
       | none => rw [hgo] at hb; cases hb
       | some t =>
        rw [hgo] at hsn hle
        have ht : tm = t := by rw [← HTM.out, hgo]; rfl
        subst ht
        exact ⟨hle.2.2 (by simp), Nat.le_trans HNN.out.2.1 (Nat.le_of_lt hle.1), by rw [sum_snoc, HNN.out.2.2.1]; omega, hsn.2 _ rfl⟩
      ·cases hgo : go1 with
       | none => rw [hgo] at hsn; exact hsn.1 rfl
       | some t => rw [hgo] at hb; cases hb
    ·have key : (b = true ∧ i ≤ sz) ∨ (b = true ∧ ¬ i ≤ sz) ∨ (b = false ∧ ¬ i ≤ sz) := by
      cases b with
      | true => by_cases h : i ≤ sz; exact .inl ⟨rfl, h⟩; exact .inr (.inl ⟨rfl, h⟩)
      | false => exact .inr (.inr ⟨rfl, fun h => hi ⟨rfl, h⟩⟩)
     clear hi
     rcases key with ⟨rfl, his⟩ | ⟨rfl, his⟩ | ⟨rfl, his⟩
     ·have d1 : decide (i ≤ sz) = true := decide_eq_true his
      have d2 : decide ((i : Int) ≤ sz) = true := decide_eq_true (by omega)
      have HWR : Hid (GG wr X ws size (nn : Int) true) := Lib.hid HI.out.gg
      have HBR := Lib.hid HI.out.bz
      have HFR := Lib.hid HI.out.fr
      have HE : Hid (gr = none ∧ (gN : Int) = (nn : Int)) := Lib.hid (by
       have e := HROW.out
       rw [HI.out.yb rfl] at e
       injection e with e1 e2
       exact ⟨e2, by rw [e1]⟩)
      clear his HROW
      by_cases hth : tree = th
      ·have d3 : (tree != th) = false := by simpa using hth
       have d4 : (tree == th) = true := by simpa using hth
       clear hth
       obtain ⟨gz0, gz1, gz2, gz3, gz4, gz5, gz6, gzf0, gzf1, gzf2, gzf3, gzf4, gzf5, gzf6⟩ := cells7 HBR.out
       go_wp2
       have hlt : ¬ B < w.heap.size := by have := HEW.out; omega
       refine bodyPost_ret (results_cell_row rfl _ _ B 26 #[.int .i64 0, .bool false, .slice none 0 0, .string ⟨#[]⟩, .int .i64 0, .slice none 0 0, .slice none 0 0] (0, 0) _ rfl (st7_blk (.int .i64 0) (.bool false) (.slice none 0 0) (.string ⟨#[]⟩) (.int .i64 0) (.slice none 0 0) (.slice none 0 0) HBR.out) Tryd.underlying26 rfl (by kernel_rfl)) rfl ?_
       have f7 := st7_fr wr B (.int .i64 0) (.bool false) (.slice none 0 0) (.string ⟨#[]⟩) (.int .i64 0) (.slice none 0 0) (.slice none 0 0)
       rw [HE.out.1, HE.out.2]
       exact ⟨_, _, _, rfl, Kd.R_nil _ _ _ _ _, Kd.R_nil _ _ _ _ _, Kd.R_nil _ _ _ _ _, HWR.out.far f7 (fun c T hc => by rw [HBR.out] at hc; simp at hc; exact hc.2.symm) ⟨_, _, HBR.out⟩, HFR.out.then_ f7 (fun i hi hl => absurd hl (by rw [hi]; exact hlt))⟩
      ·have d3 : (tree != th) = true := by simpa using hth
       have d4 : (tree == th) = false := by simpa using hth
       clear hth
       go_upto_region 33 with (fail)
       have HG9 := Lib.hid (HWR.out.setbad true)
       have HB9 := Lib.hid ((HWR.out.setbad true).2.blk HBR.out (fun e => ne_of_types HBR.out HWR.out.gblk (by decide) e))
       have HF9 := Lib.hid (HFR.out.trans (HWR.out.setbad true).2)
       obtain ⟨W9, hW9⟩ : ∃ W9, wr.setCell ⟨X.g, 4, none⟩ (.bool true) = W9 := ⟨_, rfl⟩
       rw [hW9] at HG9 HB9 HF9
       (try simp only [hW9])
       clear hW9
       have HG10 := Lib.hid HG9.out.1
       clear HG9
       obtain ⟨z0, z1, z2, z3, z4, zf3, zf4⟩ := HG10.out.cells
       clear x0 x1 x2 x3 x4 xf3 xf4
       obtain ⟨gz0, gz1, gz2, gz3, gz4, gz5, gz6, gzf0, gzf1, gzf2, gzf3, gzf4, gzf5, gzf6⟩ := cells7 HB9.out
       go_wp2
       have hlt : ¬ B < w.heap.size := by have := HEW.out; omega
       refine bodyPost_ret (results_cell_row rfl _ _ B 26 #[.int .i64 0, .bool false, .slice none 0 0, .string ⟨#[]⟩, .int .i64 0, .slice none 0 0, .slice none 0 0] (0, 0) _ rfl (st7_blk (.int .i64 0) (.bool false) (.slice none 0 0) (.string ⟨#[]⟩) (.int .i64 0) (.slice none 0 0) (.slice none 0 0) HB9.out) Tryd.underlying26 rfl (by kernel_rfl)) rfl ?_
       have f7 := st7_fr W9 B (.int .i64 0) (.bool false) (.slice none 0 0) (.string ⟨#[]⟩) (.int .i64 0) (.slice none 0 0) (.slice none 0 0)
       rw [HE.out.1, HE.out.2]
       exact ⟨_, _, _, rfl, Kd.R_nil _ _ _ _ _, Kd.R_nil _ _ _ _ _, Kd.R_nil _ _ _ _ _, HG10.out.far f7 (fun c T hc => by rw [HB9.out] at hc; simp at hc; exact hc.2.symm) ⟨_, _, HB9.out⟩, HF9.out.then_ f7 (fun i hi hl => absurd hl (by rw [hi]; exact hlt))⟩
     ·have d1 : decide (i ≤ sz) = false := decide_eq_false his
      have d2 : decide ((i : Int) ≤ sz) = false := decide_eq_false (by omega)
      have HWR : Hid (GG wr X ws size (nn : Int) true) := Lib.hid HI.out.gg
      have HBR := Lib.hid HI.out.bz
      have HFR := Lib.hid HI.out.fr
      have HE : Hid (gr = none ∧ (gN : Int) = (nn : Int)) := Lib.hid (by
       have e := HROW.out
       rw [HI.out.yb rfl] at e
       injection e with e1 e2
       exact ⟨e2, by rw [e1]⟩)
      clear his HROW
      by_cases hth : tree = th
      ·have d3 : (tree != th) = false := by simpa using hth
       have d4 : (tree == th) = true := by simpa using hth
       clear hth
       obtain ⟨gz0, gz1, gz2, gz3, gz4, gz5, gz6, gzf0, gzf1, gzf2, gzf3, gzf4, gzf5, gzf6⟩ := cells7 HBR.out
       go_wp2
       have hlt : ¬ B < w.heap.size := by have := HEW.out; omega
       refine bodyPost_ret (results_cell_row rfl _ _ B 26 #[.int .i64 0, .bool false, .slice none 0 0, .string ⟨#[]⟩, .int .i64 0, .slice none 0 0, .slice none 0 0] (0, 0) _ rfl (st7_blk (.int .i64 0) (.bool false) (.slice none 0 0) (.string ⟨#[]⟩) (.int .i64 0) (.slice none 0 0) (.slice none 0 0) HBR.out) Tryd.underlying26 rfl (by kernel_rfl)) rfl ?_
       have f7 := st7_fr wr B (.int .i64 0) (.bool false) (.slice none 0 0) (.string ⟨#[]⟩) (.int .i64 0) (.slice none 0 0) (.slice none 0 0)
       rw [HE.out.1, HE.out.2]
       exact ⟨_, _, _, rfl, Kd.R_nil _ _ _ _ _, Kd.R_nil _ _ _ _ _, Kd.R_nil _ _ _ _ _, HWR.out.far f7 (fun c T hc => by rw [HBR.out] at hc; simp at hc; exact hc.2.symm) ⟨_, _, HBR.out⟩, HFR.out.then_ f7 (fun i hi hl => absurd hl (by rw [hi]; exact hlt))⟩
      ·have d3 : (tree != th) = true := by simpa using hth
       have d4 : (tree == th) = false := by simpa using hth
       clear hth
       go_upto_region 33 with (fail)
       have HG9 := Lib.hid (HWR.out.setbad true)
       have HB9 := Lib.hid ((HWR.out.setbad true).2.blk HBR.out (fun e => ne_of_types HBR.out HWR.out.gblk (by decide) e))
       have HF9 := Lib.hid (HFR.out.trans (HWR.out.setbad true).2)
       obtain ⟨W9, hW9⟩ : ∃ W9, wr.setCell ⟨X.g, 4, none⟩ (.bool true) = W9 := ⟨_, rfl⟩
       rw [hW9] at HG9 HB9 HF9
       (try simp only [hW9])
       clear hW9
       have HG10 := Lib.hid HG9.out.1
       clear HG9
       obtain ⟨z0, z1, z2, z3, z4, zf3, zf4⟩ := HG10.out.cells
       clear x0 x1 x2 x3 x4 xf3 xf4
       obtain ⟨gz0, gz1, gz2, gz3, gz4, gz5, gz6, gzf0, gzf1, gzf2, gzf3, gzf4, gzf5, gzf6⟩ := cells7 HB9.out
       go_wp2
       have hlt : ¬ B < w.heap.size := by have := HEW.out; omega
       refine bodyPost_ret (results_cell_row rfl _ _ B 26 #[.int .i64 0, .bool false, .slice none 0 0, .string ⟨#[]⟩, .int .i64 0, .slice none 0 0, .slice none 0 0] (0, 0) _ rfl (st7_blk (.int .i64 0) (.bool false) (.slice none 0 0) (.string ⟨#[]⟩) (.int .i64 0) (.slice none 0 0) (.slice none 0 0) HB9.out) Tryd.underlying26 rfl (by kernel_rfl)) rfl ?_
       have f7 := st7_fr W9 B (.int .i64 0) (.bool false) (.slice none 0 0) (.string ⟨#[]⟩) (.int .i64 0) (.slice none 0 0) (.slice none 0 0)
       rw [HE.out.1, HE.out.2]
       exact ⟨_, _, _, rfl, Kd.R_nil _ _ _ _ _, Kd.R_nil _ _ _ _ _, Kd.R_nil _ _ _ _ _, HG10.out.far f7 (fun c T hc => by rw [HB9.out] at hc; simp at hc; exact hc.2.symm) ⟨_, _, HB9.out⟩, HF9.out.then_ f7 (fun i hi hl => absurd hl (by rw [hi]; exact hlt))⟩
     ·have d1 : decide (i ≤ sz) = false := decide_eq_false his
      have d2 : decide ((i : Int) ≤ sz) = false := decide_eq_false (by omega)
      have HWR : Hid (GG wr X ws size (nn : Int) false) := Lib.hid HI.out.gg
      have HBR := Lib.hid HI.out.bz
      have HFR := Lib.hid HI.out.fr
      have hjs : j = sz := by have := HGJ.out; have := HI.out.jl; have := HFL.out; omega
      have HNB := Lib.hid (HI.out.nb rfl)
      have HRES : Hid (gr = (if tree = th then some ⟨6, false, [], eStr, 0, xs, []⟩ else none) ∧ (gN : Int) = (nn : Int)) := Lib.hid (by
       have e := HROW.out
       have e2 := HNB.out.2.2.2
       rw [hjs, ← HFL.out, List.drop_length] at e2
       simp only [getsM, Option.map_some, List.append_nil] at e2
       rw [e2] at e
       simp only [Option.bind_some] at e
       rw [← HNB.out.2.2.1] at e
       injection e with e1 e3
       exact ⟨e3, by rw [e1]⟩)
      have HJS := Lib.hid hjs
      clear his HROW hjs
      by_cases hth : tree = th
      ·have d3 : (tree != th) = false := by simpa using hth
       have d4 : (tree == th) = true := by simpa using hth
       have HE : Hid (gr = some ⟨6, false, [], eStr, 0, xs, []⟩ ∧ (gN : Int) = (nn : Int)) := Lib.hid ⟨by rw [HRES.out.1, if_pos hth], HRES.out.2⟩
       have HRX := Lib.hid HI.out.r
       have HLX := Lib.hid HI.out.len
       clear hth HRES
       have ec0 : wr.cell? ⟨E, 0, none⟩ = some (.int .i64 6) := by simp [World.cell?, HI.out.e]
       have ecf0 : wr.frozen? ⟨E, 0, none⟩ = false := by simp [World.frozen?, HI.out.e]
       have ec1 : wr.cell? ⟨E, 1, none⟩ = some (.bool false) := by simp [World.cell?, HI.out.e]
       have ecf1 : wr.frozen? ⟨E, 1, none⟩ = false := by simp [World.frozen?, HI.out.e]
       have ec2 : wr.cell? ⟨E, 2, none⟩ = some (.slice none 0 0) := by simp [World.cell?, HI.out.e]
       have ecf2 : wr.frozen? ⟨E, 2, none⟩ = false := by simp [World.frozen?, HI.out.e]
       have ec3 : wr.cell? ⟨E, 3, none⟩ = some (.string ⟨#[]⟩) := by simp [World.cell?, HI.out.e]
       have ecf3 : wr.frozen? ⟨E, 3, none⟩ = false := by simp [World.frozen?, HI.out.e]
       have ec4 : wr.cell? ⟨E, 4, none⟩ = some (.int .i64 0) := by simp [World.cell?, HI.out.e]
       have ecf4 : wr.frozen? ⟨E, 4, none⟩ = false := by simp [World.frozen?, HI.out.e]
       have ec5 : wr.cell? ⟨E, 5, none⟩ = some (.slice A5 j c5) := by simp [World.cell?, HI.out.e]
       have ecf5 : wr.frozen? ⟨E, 5, none⟩ = false := by simp [World.frozen?, HI.out.e]
       have ec6 : wr.cell? ⟨E, 6, none⟩ = some (.slice none 0 0) := by simp [World.cell?, HI.out.e]
       have ecf6 : wr.frozen? ⟨E, 6, none⟩ = false := by simp [World.frozen?, HI.out.e]
       obtain ⟨gz0, gz1, gz2, gz3, gz4, gz5, gz6, gzf0, gzf1, gzf2, gzf3, gzf4, gzf5, gzf6⟩ := cells7 HBR.out
       go_wp2
       have hlt : ¬ B < w.heap.size := by have := HEW.out; omega
       refine bodyPost_ret (results_cell_row rfl _ _ B 26 #[.int .i64 6, .bool false, .slice none 0 0, .string ⟨#[]⟩, .int .i64 0, .slice A5 j c5, .slice none 0 0] (0, 0) _ rfl (st7_blk (.int .i64 6) (.bool false) (.slice none 0 0) (.string ⟨#[]⟩) (.int .i64 0) (.slice A5 j c5) (.slice none 0 0) HBR.out) Tryd.underlying26 rfl (by kernel_rfl)) rfl ?_
       have f7 := st7_fr wr B (.int .i64 6) (.bool false) (.slice none 0 0) (.string ⟨#[]⟩) (.int .i64 0) (.slice A5 j c5) (.slice none 0 0)
       rw [HE.out.1, HE.out.2]
       exact ⟨_, _, _, rfl, Kd.R_nil _ _ _ _ _, Kd.R_mono (Kd.R_lower (Kd.R_step HRX.out (fun k hk hlt => f7.block k hlt (fun e => absurd hk (by rw [e]; have := HEW.out; omega)))) (by have := HEW.out; omega)) (fun k hk => by have := HEW.out; omega), Kd.R_nil _ _ _ _ _, HWR.out.far f7 (fun c T hc => by rw [HBR.out] at hc; simp at hc; exact hc.2.symm) ⟨_, _, HBR.out⟩, HFR.out.then_ f7 (fun i hi hl => absurd hl (by rw [hi]; exact hlt))⟩
      ·have d3 : (tree != th) = true := by simpa using hth
       have d4 : (tree == th) = false := by simpa using hth
       have HE : Hid (gr = none ∧ (gN : Int) = (nn : Int)) := Lib.hid ⟨by rw [HRES.out.1, if_neg hth], HRES.out.2⟩
       clear hth HRES
       go_upto_region 33 with (fail)
       have HG9 := Lib.hid (HWR.out.setbad true)
       have HB9 := Lib.hid ((HWR.out.setbad true).2.blk HBR.out (fun e => ne_of_types HBR.out HWR.out.gblk (by decide) e))
       have HF9 := Lib.hid (HFR.out.trans (HWR.out.setbad true).2)
       obtain ⟨W9, hW9⟩ : ∃ W9, wr.setCell ⟨X.g, 4, none⟩ (.bool true) = W9 := ⟨_, rfl⟩
       rw [hW9] at HG9 HB9 HF9
       (try simp only [hW9])
       clear hW9
       have HG10 := Lib.hid HG9.out.1
       clear HG9
       obtain ⟨z0, z1, z2, z3, z4, zf3, zf4⟩ := HG10.out.cells
       clear x0 x1 x2 x3 x4 xf3 xf4
       obtain ⟨gz0, gz1, gz2, gz3, gz4, gz5, gz6, gzf0, gzf1, gzf2, gzf3, gzf4, gzf5, gzf6⟩ := cells7 HB9.out
       go_wp2
       have hlt : ¬ B < w.heap.size := by have := HEW.out; omega
       refine bodyPost_ret (results_cell_row rfl _ _ B 26 #[.int .i64 0, .bool false, .slice none 0 0, .string ⟨#[]⟩, .int .i64 0, .slice none 0 0, .slice none 0 0] (0, 0) _ rfl (st7_blk (.int .i64 0) (.bool false) (.slice none 0 0) (.string ⟨#[]⟩) (.int .i64 0) (.slice none 0 0) (.slice none 0 0) HB9.out) Tryd.underlying26 rfl (by kernel_rfl)) rfl ?_
       have f7 := st7_fr W9 B (.int .i64 0) (.bool false) (.slice none 0 0) (.string ⟨#[]⟩) (.int .i64 0) (.slice none 0 0) (.slice none 0 0)
       rw [HE.out.1, HE.out.2]
       exact ⟨_, _, _, rfl, Kd.R_nil _ _ _ _ _, Kd.R_nil _ _ _ _ _, Kd.R_nil _ _ _ _ _, HG10.out.far f7 (fun c T hc => by rw [HB9.out] at hc; simp at hc; exact hc.2.symm) ⟨_, _, HB9.out⟩, HF9.out.then_ f7 (fun i hi hl => absurd hl (by rw [hi]; exact hlt))⟩
 ·go_enter Tryd.func81, Tryd.ntmps81
  go_upto_region 1 with (fail)
  (try simp only [hw1, hw2, hB, hD])
  clear hw1 hw2 hB hD
  go_upto_region 19 with (fail)
  obtain ⟨E, hE⟩ : ∃ E, w2.heap.size = E := ⟨_, rfl⟩
  obtain ⟨w3, hw3⟩ : ∃ w3, w2.alloc (.cells #[.int .i64 4, .bool false, .slice none 0 0, .string ⟨#[]⟩, .int .i64 0, .slice none 0 0, .slice none 0 0] 26) = w3 := ⟨_, rfl⟩
  have HE3 : Hid (w3.heap[E]? = some (.cells #[.int .i64 4, .bool false, .slice none 0 0, .string ⟨#[]⟩, .int .i64 0, .slice none 0 0, .slice none 0 0] 26 (0, 0))) := Lib.hid (by rw [← hw3, ← hE]; exact blk_new _ _ _)
  have HEB : Hid (E = B + 1 ∧ w3.heap.size = E + 1) := Lib.hid ⟨by rw [← hE]; exact HBW.out.2.2, by rw [← hw3, ← hE]; simp⟩
  have f23 : Fr w2 w3 (fun _ => False) := by rw [← hw3]; exact (Fr.refl w2 _).alloc _
  have HG3 := Lib.hid (HG2.out.fr f23)
  have HB3 := Lib.hid (f23.blk HB1.out (fun h => h))
  have HD3 := Lib.hid (f23.blk HB0.out (fun h => h))
  have HF3 := Lib.hid (HF2.out.trans (f23.mono (fun _ h _ => h.elim)))
  (try simp only [hw3, hE])
  clear f23 hw3 hE x0 x1 x2 x3 x4 xf3 xf4 k0 k1 k2 k3 kf0 kf1 kf2 kf3 HG2 HB1 HB0 HF2
  have ec0 : w3.cell? ⟨E, 0, none⟩ = some (.int .i64 4) := by simp [World.cell?, HE3.out]
  have ecf0 : w3.frozen? ⟨E, 0, none⟩ = false := by simp [World.frozen?, HE3.out]
  have ec1 : w3.cell? ⟨E, 1, none⟩ = some (.bool false) := by simp [World.cell?, HE3.out]
  have ecf1 : w3.frozen? ⟨E, 1, none⟩ = false := by simp [World.frozen?, HE3.out]
  have ec2 : w3.cell? ⟨E, 2, none⟩ = some (.slice none 0 0) := by simp [World.cell?, HE3.out]
  have ecf2 : w3.frozen? ⟨E, 2, none⟩ = false := by simp [World.frozen?, HE3.out]
  have ec3 : w3.cell? ⟨E, 3, none⟩ = some (.string ⟨#[]⟩) := by simp [World.cell?, HE3.out]
  have ecf3 : w3.frozen? ⟨E, 3, none⟩ = false := by simp [World.frozen?, HE3.out]
  have ec4 : w3.cell? ⟨E, 4, none⟩ = some (.int .i64 0) := by simp [World.cell?, HE3.out]
  have ecf4 : w3.frozen? ⟨E, 4, none⟩ = false := by simp [World.frozen?, HE3.out]
  have ec5 : w3.cell? ⟨E, 5, none⟩ = some (.slice none 0 0) := by simp [World.cell?, HE3.out]
  have ecf5 : w3.frozen? ⟨E, 5, none⟩ = false := by simp [World.frozen?, HE3.out]
  have ec6 : w3.cell? ⟨E, 6, none⟩ = some (.slice none 0 0) := by simp [World.cell?, HE3.out]
  have ecf6 : w3.frozen? ⟨E, 6, none⟩ = false := by simp [World.frozen?, HE3.out]
  have k0 : w3.cell? ⟨D, 0, none⟩ = some (.int .i64 1) := by simp [World.cell?, HD3.out]
  have kf0 : w3.frozen? ⟨D, 0, none⟩ = false := by simp [World.frozen?, HD3.out]
  have k1 : w3.cell? ⟨D, 1, none⟩ = some (.int .i64 sz) := by simp [World.cell?, HD3.out]
  have kf1 : w3.frozen? ⟨D, 1, none⟩ = false := by simp [World.frozen?, HD3.out]
  have k2 : w3.cell? ⟨D, 2, none⟩ = some (.int .i64 th) := by simp [World.cell?, HD3.out]
  have kf2 : w3.frozen? ⟨D, 2, none⟩ = false := by simp [World.frozen?, HD3.out]
  have k3 : w3.cell? ⟨D, 3, none⟩ = some (.bool nn) := by simp [World.cell?, HD3.out]
  have kf3 : w3.frozen? ⟨D, 3, none⟩ = false := by simp [World.frozen?, HD3.out]
  go_upto_region 21 with (fail)
  obtain ⟨w4, hw4⟩ : ∃ w4, w4 = w3 := ⟨_, rfl⟩
  subst hw4
  have HG4 := HG3
  have HB4 := HB3
  have HD4 := HD3
  have HF4 := HF3
  have HE4 := HE3
  have HS4 : Hid (w4.heap.size = E + 1) := Lib.hid HEB.out.2
  clear k0 k1 k2 k3 kf0 kf1 kf2 kf3 HG3 HB3 HD3 HF3 HE3 ec0 ec1 ec2 ec3 ec4 ec5 ec6 ecf0 ecf1 ecf2 ecf3 ecf4 ecf5 ecf6
  have k0 : w4.cell? ⟨D, 0, none⟩ = some (.int .i64 1) := by simp [World.cell?, HD4.out]
  have kf0 : w4.frozen? ⟨D, 0, none⟩ = false := by simp [World.frozen?, HD4.out]
  have k1 : w4.cell? ⟨D, 1, none⟩ = some (.int .i64 sz) := by simp [World.cell?, HD4.out]
  have kf1 : w4.frozen? ⟨D, 1, none⟩ = false := by simp [World.frozen?, HD4.out]
  have k2 : w4.cell? ⟨D, 2, none⟩ = some (.int .i64 th) := by simp [World.cell?, HD4.out]
  have kf2 : w4.frozen? ⟨D, 2, none⟩ = false := by simp [World.frozen?, HD4.out]
  have k3 : w4.cell? ⟨D, 3, none⟩ = some (.bool nn) := by simp [World.cell?, HD4.out]
  have kf3 : w4.frozen? ⟨D, 3, none⟩ = false := by simp [World.frozen?, HD4.out]
  obtain ⟨x0, x1, x2, x3, x4, xf3, xf4⟩ := HG4.out.cells
  by_cases hbad : nn = true ∨ ((1 : Int) = 0 ∧ (sz : Int) ≠ 2) ∨ (255 : Int) < sz
  ·have HE : Hid (gr = none ∧ (gN : Int) = (n : Int)) := Lib.hid (by
    have e := HGA.out
    unfold rowM at e
    rw [if_pos hbad] at e
    injection e with e1 e2
    exact ⟨e2.symm, by rw [← e1]⟩)
   clear HGA
   have key : nn = true ∨ (nn = false ∧ decide ((255 : Int) < sz) = true) := by
    cases nn with
    | true => exact .inl rfl
    | false =>
     refine .inr ⟨rfl, ?_⟩
     rcases hbad with h | h | h
     ·cases h
     ·exact absurd h.1 (by decide)
     ·exact decide_eq_true h
   clear hbad
   rcases key with rfl | ⟨rfl, c3⟩
   ·go_upto_region 23 with (fail)
    have HG9 := Lib.hid (HG4.out.setbad true)
    have HB9 := Lib.hid ((HG4.out.setbad true).2.blk HB4.out (fun e => ne_of_types HB4.out HG4.out.gblk (by decide) e))
    have HF9 := Lib.hid (HF4.out.trans (HG4.out.setbad true).2)
    obtain ⟨W9, hW9⟩ : ∃ W9, w4.setCell ⟨X.g, 4, none⟩ (.bool true) = W9 := ⟨_, rfl⟩
    rw [hW9] at HG9 HB9 HF9
    (try simp only [hW9])
    clear hW9
    have HG10 := Lib.hid HG9.out.1
    clear HG9
    obtain ⟨z0, z1, z2, z3, z4, zf3, zf4⟩ := HG10.out.cells
    clear x0 x1 x2 x3 x4 xf3 xf4
    obtain ⟨gz0, gz1, gz2, gz3, gz4, gz5, gz6, gzf0, gzf1, gzf2, gzf3, gzf4, gzf5, gzf6⟩ := cells7 HB9.out
    go_wp2
    have hlt : ¬ B < w.heap.size := by have := HBW.out; omega
    refine bodyPost_ret (results_cell_row rfl _ _ B 26 #[.int .i64 0, .bool false, .slice none 0 0, .string ⟨#[]⟩, .int .i64 0, .slice none 0 0, .slice none 0 0] (0, 0) _ rfl (st7_blk (.int .i64 0) (.bool false) (.slice none 0 0) (.string ⟨#[]⟩) (.int .i64 0) (.slice none 0 0) (.slice none 0 0) HB9.out) Tryd.underlying26 rfl (by kernel_rfl)) rfl ?_
    have f7 := st7_fr W9 B (.int .i64 0) (.bool false) (.slice none 0 0) (.string ⟨#[]⟩) (.int .i64 0) (.slice none 0 0) (.slice none 0 0)
    rw [HE.out.1, HE.out.2]
    exact ⟨_, _, _, rfl, Kd.R_nil _ _ _ _ _, Kd.R_nil _ _ _ _ _, Kd.R_nil _ _ _ _ _, HG10.out.far f7 (fun c T hc => by rw [HB9.out] at hc; simp at hc; exact hc.2.symm) ⟨_, _, HB9.out⟩, HF9.out.then_ f7 (fun i hi hl => absurd hl (by rw [hi]; exact hlt))⟩
   ·go_upto_region 23 with (fail)
    have HG9 := Lib.hid (HG4.out.setbad true)
    have HB9 := Lib.hid ((HG4.out.setbad true).2.blk HB4.out (fun e => ne_of_types HB4.out HG4.out.gblk (by decide) e))
    have HF9 := Lib.hid (HF4.out.trans (HG4.out.setbad true).2)
    obtain ⟨W9, hW9⟩ : ∃ W9, w4.setCell ⟨X.g, 4, none⟩ (.bool true) = W9 := ⟨_, rfl⟩
    rw [hW9] at HG9 HB9 HF9
    (try simp only [hW9])
    clear hW9
    have HG10 := Lib.hid HG9.out.1
    clear HG9
    obtain ⟨z0, z1, z2, z3, z4, zf3, zf4⟩ := HG10.out.cells
    clear x0 x1 x2 x3 x4 xf3 xf4
    obtain ⟨gz0, gz1, gz2, gz3, gz4, gz5, gz6, gzf0, gzf1, gzf2, gzf3, gzf4, gzf5, gzf6⟩ := cells7 HB9.out
    go_wp2
    have hlt : ¬ B < w.heap.size := by have := HBW.out; omega
    refine bodyPost_ret (results_cell_row rfl _ _ B 26 #[.int .i64 0, .bool false, .slice none 0 0, .string ⟨#[]⟩, .int .i64 0, .slice none 0 0, .slice none 0 0] (0, 0) _ rfl (st7_blk (.int .i64 0) (.bool false) (.slice none 0 0) (.string ⟨#[]⟩) (.int .i64 0) (.slice none 0 0) (.slice none 0 0) HB9.out) Tryd.underlying26 rfl (by kernel_rfl)) rfl ?_
    have f7 := st7_fr W9 B (.int .i64 0) (.bool false) (.slice none 0 0) (.string ⟨#[]⟩) (.int .i64 0) (.slice none 0 0) (.slice none 0 0)
    rw [HE.out.1, HE.out.2]
    exact ⟨_, _, _, rfl, Kd.R_nil _ _ _ _ _, Kd.R_nil _ _ _ _ _, Kd.R_nil _ _ _ _ _, HG10.out.far f7 (fun c T hc => by rw [HB9.out] at hc; simp at hc; exact hc.2.symm) ⟨_, _, HB9.out⟩, HF9.out.then_ f7 (fun i hi hl => absurd hl (by rw [hi]; exact hlt))⟩
  ·have e1 : nn = false := by cases nn with
    | true => exact absurd (.inl rfl) hbad
    | false => rfl
   subst e1
   have HSZ : Hid (sz ≤ 255) := Lib.hid (by have : ¬ (255 : Int) < sz := fun h => hbad (.inr (.inr h)); omega)
   have c3 : decide ((255 : Int) < sz) = false := decide_eq_false (by have := HSZ.out; omega)
   have HROW : Hid ((gN, gr) = ((getsM (getM ws nmAB lookM trT f) n fs).1, (getsM (getM ws nmAB lookM trT f) n fs).2.bind fun ts => if 1 + (ts.map trT).sum = th then some ⟨4, false, [], eStr, 0, ts, []⟩ else none)) := Lib.hid (by
    have e := HGA.out
    unfold rowM at e
    rw [if_neg hbad] at e
    rw [← e]
    rfl)
   clear hbad HGA
   go_upto_block 0 with (fail)
   have H0 : Hid (RW w w4 X ws size D B E 1 sz th 4 (.slice none 0 0) f n fs 0 n 1 false []) := Lib.hid ⟨HG4.out, HD4.out, HB4.out, HE4.out, HF4.out, Kd.R_nil _ _ _ _ _, rfl, Nat.zero_le _, fun x hx => by simp at hx, ⟨Int.le_refl _, by omega⟩, fun _ => ⟨HN.out, Nat.le_refl _, by simp, by simp⟩, fun e => by cases e⟩
   have HEW : Hid (B = D + 1 ∧ D = w.heap.size ∧ E = B + 1) := Lib.hid ⟨HBW.out.1, HBW.out.2.1, HEB.out.1⟩
   clear x0 x1 x2 x3 x4 xf3 xf4 k0 k1 k2 k3 kf0 kf1 kf2 kf3 c3 HG4 HD4 HB4 HE4 HF4 HEB HS4
   go_loopg [12, 13] (sz + 1) (fun g a12 a13 wr => ∃ (tree : Int) (i j nn : Nat) (b : Bool) (xs : List S26) (v5 : Value), a12 = .int .i64 tree ∧ a13 = .int .i64 i ∧ g + j = sz + 1 ∧ i = j + 1 ∧ Hid (RW w wr X ws size D B E 1 sz th 4 v5 f n fs j nn tree b xs))
   case atStart => exact ⟨1, 1, 0, n, false, [], _, rfl, rfl, by omega, rfl, H0⟩
   case round =>
    clear H0
    obtain ⟨tree, i, j, nn, b, xs, v5, rfl, rfl, hgj, hij, HI⟩ := hrel
    have HGJ : Hid (gk + j = sz + 1 ∧ i = j + 1) := Lib.hid ⟨hgj, hij⟩
    clear hgj hij
    obtain ⟨A5, c5, e5⟩ := Kd.R_slice HI.out.r
    rw [HI.out.len] at e5
    subst e5
    have k0 : wr.cell? ⟨D, 0, none⟩ = some (.int .i64 1) := by simp [World.cell?, HI.out.d]
    have kf0 : wr.frozen? ⟨D, 0, none⟩ = false := by simp [World.frozen?, HI.out.d]
    have k1 : wr.cell? ⟨D, 1, none⟩ = some (.int .i64 sz) := by simp [World.cell?, HI.out.d]
    have kf1 : wr.frozen? ⟨D, 1, none⟩ = false := by simp [World.frozen?, HI.out.d]
    have k2 : wr.cell? ⟨D, 2, none⟩ = some (.int .i64 th) := by simp [World.cell?, HI.out.d]
    have kf2 : wr.frozen? ⟨D, 2, none⟩ = false := by simp [World.frozen?, HI.out.d]
    have k3 : wr.cell? ⟨D, 3, none⟩ = some (.bool false) := by simp [World.cell?, HI.out.d]
    have kf3 : wr.frozen? ⟨D, 3, none⟩ = false := by simp [World.frozen?, HI.out.d]
    obtain ⟨x0, x1, x2, x3, x4, xf3, xf4⟩ := HI.out.gg.cells
    have qt0 : 1 ≤ tree := HI.out.tl.1
    have qt1 : tree ≤ 16777472 := by have := HI.out.tl.2; have := HI.out.jl; have := HFL.out; have := HSZ.out; omega
    have qi0 : (0 : Int) ≤ i := by omega
    have qi1 : (i : Int) ≤ 1048576 := by have := HGJ.out; have := HI.out.jl; have := HFL.out; have := HSZ.out; omega
    by_cases hi : b = false ∧ i ≤ sz
    ·obtain ⟨hb, his⟩ := hi
     subst hb
     have HIS := Lib.hid his
     have d1 : decide (i ≤ sz) = true := decide_eq_true his
     have d2 : decide ((i : Int) ≤ sz) = true := decide_eq_true (by omega)
     obtain ⟨p, hp⟩ : ∃ p, a + i = p := ⟨_, rfl⟩
     have hpl : p < ws.length := by have := HA.out; omega
     obtain ⟨gw, cap, hvm, cw, cq⟩ := HI.out.gg.word p hpl
     obtain ⟨x, hx⟩ : ∃ x, ws.getD p 0 = x := ⟨_, rfl⟩
     have HOX : Hid (okW x) := Lib.hid (by rw [← hx]; exact okWs_getD HOKW.out _ (by omega))
     rw [hx] at cw
     have HXJ : Hid (fs.getD j 0 = x) := Lib.hid (by have h1 := HGJ.out; rw [HFG.out j (by omega), ← hx, ← hp, h1.2])
     have qp : (p : Int) < ws.length := by omega
     have hwp : wrap64 ((a : Int) + (i : Int)) = (p : Int) := by have := HMX.out; unfold wrap64; omega
     have HNN := Lib.hid (HI.out.nb rfl)
     obtain ⟨gm, hgm⟩ : ∃ gm, getM ws nmAB lookM trT f nn x = gm := ⟨_, rfl⟩
     obtain ⟨gn1, go1⟩ := gm
     have HGM := Lib.hid hgm
     have hcall := HIH.out nn x wr HOX.out HI.out.gg HNN.out.1 (by have := HFN.out; have := HNN.out; omega)
     rw [hgm] at hcall
     obtain ⟨tm, htm⟩ : ∃ tm, go1.getD z26 = tm := ⟨_, rfl⟩
     have HTM := Lib.hid htm
     obtain ⟨g2, hg2⟩ : ∃ g2 : Int, (gn1 : Int) = g2 := ⟨_, rfl⟩
     simp only [hg2] at hcall
     have HG2 := Lib.hid hg2
     have HCALL := Lib.hid hcall
     clear hcall hg2 htm hgm hx hp hpl hvm his
     go_upto_region 29 with (first | (go_at_call 57; (with_reducible refine HCALL.out.mono ?_); rintro e w6 ⟨u2, u5, u6, rfl, h2, h5, h6, hg6, hf6⟩; rw [HTM.out] at h2 h5 h6 ⊢; obtain ⟨B2, b2, rfl⟩ := Kd.R_slice h2; obtain ⟨B5, b5, rfl⟩ := Kd.R_slice h5; obtain ⟨B6, b6, rfl⟩ := Kd.R_slice h6; have H2 := Lib.hid h2; have H5 := Lib.hid h5; have H6 := Lib.hid h6; have HG6 := Lib.hid hg6; have HF6 := Lib.hid hf6; clear h2 h5 h6 hg6 hf6))
     obtain ⟨F, hF⟩ : ∃ F, w6.heap.size = F := ⟨_, rfl⟩
     obtain ⟨w7, hw7⟩ : ∃ w7, w6.alloc (.cells #[.int .i64 tm.f0, .bool tm.f1, .slice B2 tm.f2.length b2, .string tm.f3, .int .i64 tm.f4, .slice B5 tm.f5.length b5, .slice B6 tm.f6.length b6] 26) = w7 := ⟨_, rfl⟩
     have HFB : Hid (w7.heap[F]? = some (.cells #[.int .i64 tm.f0, .bool tm.f1, .slice B2 tm.f2.length b2, .string tm.f3, .int .i64 tm.f4, .slice B5 tm.f5.length b5, .slice B6 tm.f6.length b6] 26 (0, 0))) := Lib.hid (by rw [← hw7, ← hF]; exact blk_new _ _ _)
     have f67 : Fr w6 w7 (fun _ => False) := by rw [← hw7]; exact (Fr.refl w6 _).alloc _
     have f07 : Fr wr w7 (fun i => i = X.g) := HF6.out.trans (f67.mono (fun _ h _ => h.elim))
     have HF07 := Lib.hid f07
     have neg : ∀ {i : Nat} {c : Array Value} {T' : TypeId}, wr.heap[i]? = some (.cells c T' (0, 0)) → T' ≠ 115 → i ≠ X.g := fun hc ne => ne_of_types hc HI.out.gg.gblk ne
     have HSW : Hid (wr.heap.size ≤ F ∧ F < w7.heap.size ∧ E < wr.heap.size ∧ D < wr.heap.size ∧ B < wr.heap.size) := Lib.hid ⟨by rw [← hF]; exact HF6.out.size, fr_lt HFB.out, fr_lt HI.out.e, fr_lt HI.out.d, fr_lt HI.out.bz⟩
     have HG7 := Lib.hid (HG6.out.fr f67)
     have HD7 := Lib.hid (f07.blk HI.out.d (neg HI.out.d (by decide)))
     have HB7 := Lib.hid (f07.blk HI.out.bz (neg HI.out.bz (by decide)))
     have HE7 := Lib.hid (f07.blk HI.out.e (neg HI.out.e (by decide)))
     have HFW7 := Lib.hid (HI.out.fr.trans f07)
     have HR7 : Hid (k26.R 26 w7 (E + 1) (fun k => E < k) (.slice A5 j c5) xs) := Lib.hid (Kd.R_mono (Kd.R_step (Kd.R_types HI.out.r HI.out.gg.gblk (by decide)) (fun k hk hlt => f07.block k hlt (fun e => hk.2 e))) (fun k hk => hk.1))
     have H27 : Hid ((Kd.int .u32).R 123 w7 (E + 1) (fun k => wr.heap.size ≤ k) (.slice B2 tm.f2.length b2) tm.f2) := Lib.hid (Kd.R_lower (Kd.R_step H2.out (fun k hk hlt => f67.block k hlt (fun h => h))) (by have := HSW.out; omega))
     have H57 : Hid (k26.R 26 w7 (E + 1) (fun k => wr.heap.size ≤ k) (.slice B5 tm.f5.length b5) tm.f5) := Lib.hid (Kd.R_lower (Kd.R_step H5.out (fun k hk hlt => f67.block k hlt (fun h => h))) (by have := HSW.out; omega))
     have H67 : Hid ((Kd.int .u8).R 5 w7 (E + 1) (fun k => wr.heap.size ≤ k) (.slice B6 tm.f6.length b6) tm.f6) := Lib.hid (Kd.R_lower (Kd.R_step H6.out (fun k hk hlt => f67.block k hlt (fun h => h))) (by have := HSW.out; omega))
     have HVE : Hid (∀ k, (Value.slice A5 j c5).ownBlock = some k → E < k) := Lib.hid (fun k hk => HI.out.r.1 k hk)
     have HLN : Hid ((xs ++ [tm]).length = j + 1) := Lib.hid (by rw [List.length_append, HI.out.len]; rfl)
     have HOKT : Hid (OkT (f + 2) tm) := Lib.hid (by
      rw [← HTM.out]
      cases hgo : go1 with
      | none => exact okT_z.mono (by omega)
      | some t => exact (okT_getM HOKW.out f nn x t HOX.out (by rw [HGM.out, hgo])).mono (by omega))
     have HVB : Hid (∀ k, (Value.slice A5 j c5).ownBlock = some k → k < wr.heap.size) := Lib.hid (fun k hk => Kd.R_lt HI.out.r k hk)
     have HLX : Hid ((xs.length + 1) * 112 ≤ 140737488355328) := Lib.hid (by have := HI.out.len; have := HI.out.jl; have := HFL.out; have := HSZ.out; omega)
     (try simp only [hw7, hF])
     clear hw7 hF f67 f07 neg x0 x1 x2 x3 x4 xf3 xf4 k0 k1 k2 k3 kf0 kf1 kf2 kf3 cw cq hwp qp d1 d2 H2 H5 H6 HG6 HF6
     have ec0 : w7.cell? ⟨E, 0, none⟩ = some (.int .i64 4) := by simp [World.cell?, HE7.out]
     have ecf0 : w7.frozen? ⟨E, 0, none⟩ = false := by simp [World.frozen?, HE7.out]
     have ec1 : w7.cell? ⟨E, 1, none⟩ = some (.bool false) := by simp [World.cell?, HE7.out]
     have ecf1 : w7.frozen? ⟨E, 1, none⟩ = false := by simp [World.frozen?, HE7.out]
     have ec2 : w7.cell? ⟨E, 2, none⟩ = some (.slice none 0 0) := by simp [World.cell?, HE7.out]
     have ecf2 : w7.frozen? ⟨E, 2, none⟩ = false := by simp [World.frozen?, HE7.out]
     have ec3 : w7.cell? ⟨E, 3, none⟩ = some (.string ⟨#[]⟩) := by simp [World.cell?, HE7.out]
     have ecf3 : w7.frozen? ⟨E, 3, none⟩ = false := by simp [World.frozen?, HE7.out]
     have ec4 : w7.cell? ⟨E, 4, none⟩ = some (.int .i64 0) := by simp [World.cell?, HE7.out]
     have ecf4 : w7.frozen? ⟨E, 4, none⟩ = false := by simp [World.frozen?, HE7.out]
     have ec5 : w7.cell? ⟨E, 5, none⟩ = some (.slice A5 j c5) := by simp [World.cell?, HE7.out]
     have ecf5 : w7.frozen? ⟨E, 5, none⟩ = false := by simp [World.frozen?, HE7.out]
     have ec6 : w7.cell? ⟨E, 6, none⟩ = some (.slice none 0 0) := by simp [World.cell?, HE7.out]
     have ecf6 : w7.frozen? ⟨E, 6, none⟩ = false := by simp [World.frozen?, HE7.out]
     have mc0 : w7.cell? ⟨F, 0, none⟩ = some (.int .i64 tm.f0) := by simp [World.cell?, HFB.out]
     have mcf0 : w7.frozen? ⟨F, 0, none⟩ = false := by simp [World.frozen?, HFB.out]
     have mc1 : w7.cell? ⟨F, 1, none⟩ = some (.bool tm.f1) := by simp [World.cell?, HFB.out]
     have mcf1 : w7.frozen? ⟨F, 1, none⟩ = false := by simp [World.frozen?, HFB.out]
     have mc2 : w7.cell? ⟨F, 2, none⟩ = some (.slice B2 tm.f2.length b2) := by simp [World.cell?, HFB.out]
     have mcf2 : w7.frozen? ⟨F, 2, none⟩ = false := by simp [World.frozen?, HFB.out]
     have mc3 : w7.cell? ⟨F, 3, none⟩ = some (.string tm.f3) := by simp [World.cell?, HFB.out]
     have mcf3 : w7.frozen? ⟨F, 3, none⟩ = false := by simp [World.frozen?, HFB.out]
     have mc4 : w7.cell? ⟨F, 4, none⟩ = some (.int .i64 tm.f4) := by simp [World.cell?, HFB.out]
     have mcf4 : w7.frozen? ⟨F, 4, none⟩ = false := by simp [World.frozen?, HFB.out]
     have mc5 : w7.cell? ⟨F, 5, none⟩ = some (.slice B5 tm.f5.length b5) := by simp [World.cell?, HFB.out]
     have mcf5 : w7.frozen? ⟨F, 5, none⟩ = false := by simp [World.frozen?, HFB.out]
     have mc6 : w7.cell? ⟨F, 6, none⟩ = some (.slice B6 tm.f6.length b6) := by simp [World.cell?, HFB.out]
     have mcf6 : w7.frozen? ⟨F, 6, none⟩ = false := by simp [World.frozen?, HFB.out]
     go_upto_region 30 with (first | (at_builtin; refine Kd.R_append k26 (w0 := w7) (W := w7) (E + 1) rfl (.tmp 152) (.tmp 154) 23 26 (.agg #[.int .i64 0, .bool false, .slice none 0 0, .string ⟨#[]⟩, .int .i64 0, .slice none 0 0, .slice none 0 0]) 112 rfl Tryd.underlying23 infoT rfl (by decide) (by omega) (.slice A5 j c5) xs tm [.int .i64 tm.f0, .bool tm.f1, .slice B2 tm.f2.length b2, .string tm.f3, .int .i64 tm.f4, .slice B5 tm.f5.length b5, .slice B6 tm.f6.length b6] (fun k => E < k) (fun k => wr.heap.size ≤ k) rfl rfl (k26_mkM _ _ _ tm H27.out H57.out H67.out) (fun k hk => ⟨by have := HSW.out; omega, fun e => absurd (HVB.out k e.symm) (Nat.not_lt.2 hk)⟩) (fun k hk => by have := HSW.out; omega) HR7.out (Below.refl _ _) (by have := HSW.out; omega) HLX.out ?_; intro v8 w8 hr8 hb8 hg8 hat8; obtain ⟨A8, c8, e8⟩ := Kd.R_slice hr8; (rw [HLN.out] at e8); subst e8; have HR8 := Lib.hid hr8; have HGR := Lib.hid hg8; have hbe := (hg8.block E (by have := HSW.out; omega) (fun e => absurd (HVE.out E e.symm) (Nat.lt_irrefl _))).trans HE7.out; have HE8 := Lib.hid hbe; have hn5 : w8.cell? ⟨E, 5, none⟩ = some (.slice A5 j c5) := (by simp [World.cell?, hbe]); have hn5f : w8.frozen? ⟨E, 5, none⟩ = false := (by simp [World.frozen?, hbe]); clear hr8 hb8 hg8 hat8 hbe))
     clear hn5 hn5f ec0 ecf0 ec1 ecf1 ec2 ecf2 ec3 ecf3 ec4 ecf4 ec5 ecf5 ec6 ecf6 mc0 mcf0 mc1 mcf1 mc2 mcf2 mc3 mcf3 mc4 mcf4 mc5 mcf5 mc6 mcf6
     have f78 : Fr w7 w8 (fun k => k = E ∨ (Value.slice A5 j c5).ownBlock = some k) := (Fr.refl w7 _).grown HGR.out (fun k hk _ => .inr hk)
     have f79 : Fr w7 (w8.setCell ⟨E, 5, none⟩ (.slice A8 (j + 1) c8)) (fun k => k = E ∨ (Value.slice A5 j c5).ownBlock = some k) := f78.setCell (a := ⟨E, 5, none⟩) (fun _ => .inl rfl) _
     have HE9 : Hid ((w8.setCell ⟨E, 5, none⟩ (.slice A8 (j + 1) c8)).heap[E]? = some (.cells #[.int .i64 4, .bool false, .slice none 0 0, .string ⟨#[]⟩, .int .i64 0, .slice A8 (j + 1) c8, .slice none 0 0] 26 (0, 0))) := Lib.hid (blk_put HE8.out 5 _ rfl)
     have HR9 : Hid (k26.R 26 (w8.setCell ⟨E, 5, none⟩ (.slice A8 (j + 1) c8)) (E + 1) (fun k => E < k) (.slice A8 (j + 1) c8) (xs ++ [tm])) := Lib.hid (Kd.R_far (p := ⟨E, 5, none⟩) HR8.out (fun k hk e => absurd (show E < k from hk) (by rw [e]; exact Nat.lt_irrefl _)) _)
     obtain ⟨w9, hw9⟩ : ∃ w9, w8.setCell ⟨E, 5, none⟩ (.slice A8 (j + 1) c8) = w9 := ⟨_, rfl⟩
     rw [hw9] at f79 HE9 HR9
     (try simp only [hw9])
     have HF79 := Lib.hid f79
     have hap : ∀ k, wr.heap.size ≤ k → ¬ (k = E ∨ (Value.slice A5 j c5).ownBlock = some k) := fun k hk e => by
      rcases e with e | e
      ·have := HSW.out; omega
      ·have := HVB.out k e; omega
     have HG9 := Lib.hid (HG7.out.farS f79 (fun i c T' hi hc => by
      rcases hi with hi | hi
      ·rw [hi, HE7.out] at hc; simp at hc; exact hc.2.symm
      ·obtain ⟨inner, ho⟩ := Kd.R_own HR7.out
       obtain ⟨cells, hc2⟩ := own_typed ho i hi
       rw [hc2] at hc; simp at hc; exact hc.2.symm))
     have HD9 := Lib.hid (f79.blk HD7.out (fun e => by
      rcases e with e | e
      ·have := HEW.out; omega
      ·have := HVE.out _ e; have := HEW.out; omega))
     have HB9 := Lib.hid (f79.blk HB7.out (fun e => by
      rcases e with e | e
      ·have := HEW.out; omega
      ·have := HVE.out _ e; have := HEW.out; omega))
     have HFB9 := Lib.hid (f79.blk HFB.out (hap F HSW.out.1))
     have HFW9 := Lib.hid (HFW7.out.then_ f79 (fun i hi hl => by
      rcases hi with hi | hi
      ·have := HEW.out; omega
      ·have := HVE.out _ hi; have := HEW.out; omega))
     have r2 := Kd.R_reads' (Kd.R_step H27.out (fun k hk hlt => f79.block k hlt (hap k hk)))
     have r5 := Kd.R_reads' (Kd.R_step H57.out (fun k hk hlt => f79.block k hlt (hap k hk)))
     have r6 := Kd.R_reads' (Kd.R_step H67.out (fun k hk hlt => f79.block k hlt (hap k hk)))
     have HRD := Lib.hid (And.intro r2 (And.intro r5 r6))
     have htb := trT_bd HOKT.out
     have htb1 := htb.1
     have htb2 := htb.2
     clear hw9 f78 f79 hap r2 r5 r6 htb HG7 HD7 HB7 HE7 HFB HFW7 HR7 H27 H57 H67 HE8 HR8
     have mc0 : w9.cell? ⟨F, 0, none⟩ = some (.int .i64 tm.f0) := by simp [World.cell?, HFB9.out]
     have mcf0 : w9.frozen? ⟨F, 0, none⟩ = false := by simp [World.frozen?, HFB9.out]
     have mc1 : w9.cell? ⟨F, 1, none⟩ = some (.bool tm.f1) := by simp [World.cell?, HFB9.out]
     have mcf1 : w9.frozen? ⟨F, 1, none⟩ = false := by simp [World.frozen?, HFB9.out]
     have mc2 : w9.cell? ⟨F, 2, none⟩ = some (.slice B2 tm.f2.length b2) := by simp [World.cell?, HFB9.out]
     have mcf2 : w9.frozen? ⟨F, 2, none⟩ = false := by simp [World.frozen?, HFB9.out]
     have mc3 : w9.cell? ⟨F, 3, none⟩ = some (.string tm.f3) := by simp [World.cell?, HFB9.out]
     have mcf3 : w9.frozen? ⟨F, 3, none⟩ = false := by simp [World.frozen?, HFB9.out]
     have mc4 : w9.cell? ⟨F, 4, none⟩ = some (.int .i64 tm.f4) := by simp [World.cell?, HFB9.out]
     have mcf4 : w9.frozen? ⟨F, 4, none⟩ = false := by simp [World.frozen?, HFB9.out]
     have mc5 : w9.cell? ⟨F, 5, none⟩ = some (.slice B5 tm.f5.length b5) := by simp [World.cell?, HFB9.out]
     have mcf5 : w9.frozen? ⟨F, 5, none⟩ = false := by simp [World.frozen?, HFB9.out]
     have mc6 : w9.cell? ⟨F, 6, none⟩ = some (.slice B6 tm.f6.length b6) := by simp [World.cell?, HFB9.out]
     have mcf6 : w9.frozen? ⟨F, 6, none⟩ = false := by simp [World.frozen?, HFB9.out]
     go_wp2_with (first | (go_at_call 30; (with_reducible refine (tree_call HOKT.out w9 HRD.out.1.2.2 HRD.out.1.2.1 HRD.out.2.1.2.2 HRD.out.2.1.2.1 HRD.out.2.2.2.2 HRD.out.2.2.2.1).mono ?_); rintro e w10 ⟨rfl, hf10⟩; have HF10 := Lib.hid hf10; clear hf10))
     go_roundg (gk - 1)
     case measure => have := HGJ.out; have := HIS.out; omega
     case rel =>
      have f10 := HF10.out
      have hjs : j < fs.length := by have := HGJ.out; have := HIS.out; have := HFL.out; omega
      have hsn := getsM_snoc hjs HNN.out.2.2.2
      rw [HXJ.out, HGM.out] at hsn
      have hle := getM_le (ws := ws) (nm := nmAB) (lk := lookM) (tr := trT) f nn x HNN.out.1
      rw [HGM.out] at hle
      refine ⟨tree + trT tm, i + 1, j + 1, gn1, go1.isNone, xs ++ [tm], _, by first | rfl | go_num, by first | rfl | go_num, by have := HGJ.out; have := HIS.out; omega, by have := HGJ.out; omega, Lib.hid ⟨?_, f10.blk HD9.out (fun h => h), f10.blk HB9.out (fun h => h), f10.blk HE9.out (fun h => h), HFW9.out.trans (f10.mono (fun _ h _ => h.elim)), Kd.R_step HR9.out (fun k _ hlt => f10.block k hlt (fun h => h)), ?_, by omega, ?_, ?_, fun hb => ?_, fun hb => ?_⟩⟩
      ·rw [HG2.out]; exact HG9.out.fr f10
      ·rw [List.length_append, HI.out.len]; rfl
      ·intro y hy
       rcases List.mem_append.1 hy with hy | hy
       ·exact HI.out.ok y hy
       ·simp at hy; rw [hy]; exact HOKT.out
      ·have h1 := HI.out.tl
       have h2 := trT_bd HOKT.out
       constructor
       ·omega
       ·push_cast; omega
      ·cases hgo : go1 with
       | none => rw [hgo] at hb; cases hb
       | some t =>
        rw [hgo] at hsn hle
        have ht : tm = t := by rw [← HTM.out, hgo]; rfl
        subst ht
        exact ⟨hle.2.2 (by simp), Nat.le_trans HNN.out.2.1 (Nat.le_of_lt hle.1), by rw [sum_snoc, HNN.out.2.2.1]; omega, hsn.2 _ rfl⟩
      ·cases hgo : go1 with
       | none => rw [hgo] at hsn; exact hsn.1 rfl
       | some t => rw [hgo] at hb; cases hb
    ·have key : (b = true ∧ i ≤ sz) ∨ (b = true ∧ ¬ i ≤ sz) ∨ (b = false ∧ ¬ i ≤ sz) := by
      cases b with
      | true => by_cases h : i ≤ sz; exact .inl ⟨rfl, h⟩; exact .inr (.inl ⟨rfl, h⟩)
      | false => exact .inr (.inr ⟨rfl, fun h => hi ⟨rfl, h⟩⟩)
     clear hi
     rcases key with ⟨rfl, his⟩ | ⟨rfl, his⟩ | ⟨rfl, his⟩
     ·have d1 : decide (i ≤ sz) = true := decide_eq_true his
      have d2 : decide ((i : Int) ≤ sz) = true := decide_eq_true (by omega)
      have HWR : Hid (GG wr X ws size (nn : Int) true) := Lib.hid HI.out.gg
      have HBR := Lib.hid HI.out.bz
      have HFR := Lib.hid HI.out.fr
      have HE : Hid (gr = none ∧ (gN : Int) = (nn : Int)) := Lib.hid (by
       have e := HROW.out
       rw [HI.out.yb rfl] at e
       injection e with e1 e2
       exact ⟨e2, by rw [e1]⟩)
      clear his HROW
      by_cases hth : tree = th
      ·have d3 : (tree != th) = false := by simpa using hth
       have d4 : (tree == th) = true := by simpa using hth
       clear hth
       obtain ⟨gz0, gz1, gz2, gz3, gz4, gz5, gz6, gzf0, gzf1, gzf2, gzf3, gzf4, gzf5, gzf6⟩ := cells7 HBR.out
       go_wp2
       have hlt : ¬ B < w.heap.size := by have := HEW.out; omega
       refine bodyPost_ret (results_cell_row rfl _ _ B 26 #[.int .i64 0, .bool false, .slice none 0 0, .string ⟨#[]⟩, .int .i64 0, .slice none 0 0, .slice none 0 0] (0, 0) _ rfl (st7_blk (.int .i64 0) (.bool false) (.slice none 0 0) (.string ⟨#[]⟩) (.int .i64 0) (.slice none 0 0) (.slice none 0 0) HBR.out) Tryd.underlying26 rfl (by kernel_rfl)) rfl ?_
       have f7 := st7_fr wr B (.int .i64 0) (.bool false) (.slice none 0 0) (.string ⟨#[]⟩) (.int .i64 0) (.slice none 0 0) (.slice none 0 0)
       rw [HE.out.1, HE.out.2]
       exact ⟨_, _, _, rfl, Kd.R_nil _ _ _ _ _, Kd.R_nil _ _ _ _ _, Kd.R_nil _ _ _ _ _, HWR.out.far f7 (fun c T hc => by rw [HBR.out] at hc; simp at hc; exact hc.2.symm) ⟨_, _, HBR.out⟩, HFR.out.then_ f7 (fun i hi hl => absurd hl (by rw [hi]; exact hlt))⟩
      ·have d3 : (tree != th) = true := by simpa using hth
       have d4 : (tree == th) = false := by simpa using hth
       clear hth
       go_upto_region 33 with (fail)
       have HG9 := Lib.hid (HWR.out.setbad true)
       have HB9 := Lib.hid ((HWR.out.setbad true).2.blk HBR.out (fun e => ne_of_types HBR.out HWR.out.gblk (by decide) e))
       have HF9 := Lib.hid (HFR.out.trans (HWR.out.setbad true).2)
       obtain ⟨W9, hW9⟩ : ∃ W9, wr.setCell ⟨X.g, 4, none⟩ (.bool true) = W9 := ⟨_, rfl⟩
       rw [hW9] at HG9 HB9 HF9
       (try simp only [hW9])
       clear hW9
       have HG10 := Lib.hid HG9.out.1
       clear HG9
       obtain ⟨z0, z1, z2, z3, z4, zf3, zf4⟩ := HG10.out.cells
       clear x0 x1 x2 x3 x4 xf3 xf4
       obtain ⟨gz0, gz1, gz2, gz3, gz4, gz5, gz6, gzf0, gzf1, gzf2, gzf3, gzf4, gzf5, gzf6⟩ := cells7 HB9.out
       go_wp2
       have hlt : ¬ B < w.heap.size := by have := HEW.out; omega
       refine bodyPost_ret (results_cell_row rfl _ _ B 26 #[.int .i64 0, .bool false, .slice none 0 0, .string ⟨#[]⟩, .int .i64 0, .slice none 0 0, .slice none 0 0] (0, 0) _ rfl (st7_blk (.int .i64 0) (.bool false) (.slice none 0 0) (.string ⟨#[]⟩) (.int .i64 0) (.slice none 0 0) (.slice none 0 0) HB9.out) Tryd.underlying26 rfl (by kernel_rfl)) rfl ?_
       have f7 := st7_fr W9 B (.int .i64 0) (.bool false) (.slice none 0 0) (.string ⟨#[]⟩) (.int .i64 0) (.slice none 0 0) (.slice none 0 0)
       rw [HE.out.1, HE.out.2]
       exact ⟨_, _, _, rfl, Kd.R_nil _ _ _ _ _, Kd.R_nil _ _ _ _ _, Kd.R_nil _ _ _ _ _, HG10.out.far f7 (fun c T hc => by rw [HB9.out] at hc; simp at hc; exact hc.2.symm) ⟨_, _, HB9.out⟩, HF9.out.then_ f7 (fun i hi hl => absurd hl (by rw [hi]; exact hlt))⟩
     ·have d1 : decide (i ≤ sz) = false := decide_eq_false his
      have d2 : decide ((i : Int) ≤ sz) = false := decide_eq_false (by omega)
      have HWR : Hid (GG wr X ws size (nn : Int) true) := Lib.hid HI.out.gg
      have HBR := Lib.hid HI.out.bz
      have HFR := Lib.hid HI.out.fr
      have HE : Hid (gr = none ∧ (gN : Int) = (nn : Int)) := Lib.hid (by
       have e := HROW.out
       rw [HI.out.yb rfl] at e
       injection e with e1 e2
       exact ⟨e2, by rw [e1]⟩)
      clear his HROW
      by_cases hth : tree = th
      ·have d3 : (tree != th) = false := by simpa using hth
       have d4 : (tree == th) = true := by simpa using hth
       clear hth
       obtain ⟨gz0, gz1, gz2, gz3, gz4, gz5, gz6, gzf0, gzf1, gzf2, gzf3, gzf4, gzf5, gzf6⟩ := cells7 HBR.out
       go_wp2
       have hlt : ¬ B < w.heap.size := by have := HEW.out; omega
       refine bodyPost_ret (results_cell_row rfl _ _ B 26 #[.int .i64 0, .bool false, .slice none 0 0, .string ⟨#[]⟩, .int .i64 0, .slice none 0 0, .slice none 0 0] (0, 0) _ rfl (st7_blk (.int .i64 0) (.bool false) (.slice none 0 0) (.string ⟨#[]⟩) (.int .i64 0) (.slice none 0 0) (.slice none 0 0) HBR.out) Tryd.underlying26 rfl (by kernel_rfl)) rfl ?_
       have f7 := st7_fr wr B (.int .i64 0) (.bool false) (.slice none 0 0) (.string ⟨#[]⟩) (.int .i64 0) (.slice none 0 0) (.slice none 0 0)
       rw [HE.out.1, HE.out.2]
       exact ⟨_, _, _, rfl, Kd.R_nil _ _ _ _ _, Kd.R_nil _ _ _ _ _, Kd.R_nil _ _ _ _ _, HWR.out.far f7 (fun c T hc => by rw [HBR.out] at hc; simp at hc; exact hc.2.symm) ⟨_, _, HBR.out⟩, HFR.out.then_ f7 (fun i hi hl => absurd hl (by rw [hi]; exact hlt))⟩
      ·have d3 : (tree != th) = true := by simpa using hth
       have d4 : (tree == th) = false := by simpa using hth
       clear hth
       go_upto_region 33 with (fail)
       have HG9 := Lib.hid (HWR.out.setbad true)
       have HB9 := Lib.hid ((HWR.out.setbad true).2.blk HBR.out (fun e => ne_of_types HBR.out HWR.out.gblk (by decide) e))
       have HF9 := Lib.hid (HFR.out.trans (HWR.out.setbad true).2)
       obtain ⟨W9, hW9⟩ : ∃ W9, wr.setCell ⟨X.g, 4, none⟩ (.bool true) = W9 := ⟨_, rfl⟩
       rw [hW9] at HG9 HB9 HF9
       (try simp only [hW9])
       clear hW9
       have HG10 := Lib.hid HG9.out.1
       clear HG9
       obtain ⟨z0, z1, z2, z3, z4, zf3, zf4⟩ := HG10.out.cells
       clear x0 x1 x2 x3 x4 xf3 xf4
       obtain ⟨gz0, gz1, gz2, gz3, gz4, gz5, gz6, gzf0, gzf1, gzf2, gzf3, gzf4, gzf5, gzf6⟩ := cells7 HB9.out
       go_wp2
       have hlt : ¬ B < w.heap.size := by have := HEW.out; omega
       refine bodyPost_ret (results_cell_row rfl _ _ B 26 #[.int .i64 0, .bool false, .slice none 0 0, .string ⟨#[]⟩, .int .i64 0, .slice none 0 0, .slice none 0 0] (0, 0) _ rfl (st7_blk (.int .i64 0) (.bool false) (.slice none 0 0) (.string ⟨#[]⟩) (.int .i64 0) (.slice none 0 0) (.slice none 0 0) HB9.out) Tryd.underlying26 rfl (by kernel_rfl)) rfl ?_
       have f7 := st7_fr W9 B (.int .i64 0) (.bool false) (.slice none 0 0) (.string ⟨#[]⟩) (.int .i64 0) (.slice none 0 0) (.slice none 0 0)
       rw [HE.out.1, HE.out.2]
       exact ⟨_, _, _, rfl, Kd.R_nil _ _ _ _ _, Kd.R_nil _ _ _ _ _, Kd.R_nil _ _ _ _ _, HG10.out.far f7 (fun c T hc => by rw [HB9.out] at hc; simp at hc; exact hc.2.symm) ⟨_, _, HB9.out⟩, HF9.out.then_ f7 (fun i hi hl => absurd hl (by rw [hi]; exact hlt))⟩
     ·have d1 : decide (i ≤ sz) = false := decide_eq_false his
      have d2 : decide ((i : Int) ≤ sz) = false := decide_eq_false (by omega)
      have HWR : Hid (GG wr X ws size (nn : Int) false) := Lib.hid HI.out.gg
      have HBR := Lib.hid HI.out.bz
      have HFR := Lib.hid HI.out.fr
      have hjs : j = sz := by have := HGJ.out; have := HI.out.jl; have := HFL.out; omega
      have HNB := Lib.hid (HI.out.nb rfl)
      have HRES : Hid (gr = (if tree = th then some ⟨4, false, [], eStr, 0, xs, []⟩ else none) ∧ (gN : Int) = (nn : Int)) := Lib.hid (by
       have e := HROW.out
       have e2 := HNB.out.2.2.2
       rw [hjs, ← HFL.out, List.drop_length] at e2
       simp only [getsM, Option.map_some, List.append_nil] at e2
       rw [e2] at e
       simp only [Option.bind_some] at e
       rw [← HNB.out.2.2.1] at e
       injection e with e1 e3
       exact ⟨e3, by rw [e1]⟩)
      have HJS := Lib.hid hjs
      clear his HROW hjs
      by_cases hth : tree = th
      ·have d3 : (tree != th) = false := by simpa using hth
       have d4 : (tree == th) = true := by simpa using hth
       have HE : Hid (gr = some ⟨4, false, [], eStr, 0, xs, []⟩ ∧ (gN : Int) = (nn : Int)) := Lib.hid ⟨by rw [HRES.out.1, if_pos hth], HRES.out.2⟩
       have HRX := Lib.hid HI.out.r
       have HLX := Lib.hid HI.out.len
       clear hth HRES
       have ec0 : wr.cell? ⟨E, 0, none⟩ = some (.int .i64 4) := by simp [World.cell?, HI.out.e]
       have ecf0 : wr.frozen? ⟨E, 0, none⟩ = false := by simp [World.frozen?, HI.out.e]
       have ec1 : wr.cell? ⟨E, 1, none⟩ = some (.bool false) := by simp [World.cell?, HI.out.e]
       have ecf1 : wr.frozen? ⟨E, 1, none⟩ = false := by simp [World.frozen?, HI.out.e]
       have ec2 : wr.cell? ⟨E, 2, none⟩ = some (.slice none 0 0) := by simp [World.cell?, HI.out.e]
       have ecf2 : wr.frozen? ⟨E, 2, none⟩ = false := by simp [World.frozen?, HI.out.e]
       have ec3 : wr.cell? ⟨E, 3, none⟩ = some (.string ⟨#[]⟩) := by simp [World.cell?, HI.out.e]
       have ecf3 : wr.frozen? ⟨E, 3, none⟩ = false := by simp [World.frozen?, HI.out.e]
       have ec4 : wr.cell? ⟨E, 4, none⟩ = some (.int .i64 0) := by simp [World.cell?, HI.out.e]
       have ecf4 : wr.frozen? ⟨E, 4, none⟩ = false := by simp [World.frozen?, HI.out.e]
       have ec5 : wr.cell? ⟨E, 5, none⟩ = some (.slice A5 j c5) := by simp [World.cell?, HI.out.e]
       have ecf5 : wr.frozen? ⟨E, 5, none⟩ = false := by simp [World.frozen?, HI.out.e]
       have ec6 : wr.cell? ⟨E, 6, none⟩ = some (.slice none 0 0) := by simp [World.cell?, HI.out.e]
       have ecf6 : wr.frozen? ⟨E, 6, none⟩ = false := by simp [World.frozen?, HI.out.e]
       obtain ⟨gz0, gz1, gz2, gz3, gz4, gz5, gz6, gzf0, gzf1, gzf2, gzf3, gzf4, gzf5, gzf6⟩ := cells7 HBR.out
       go_wp2
       have hlt : ¬ B < w.heap.size := by have := HEW.out; omega
       refine bodyPost_ret (results_cell_row rfl _ _ B 26 #[.int .i64 4, .bool false, .slice none 0 0, .string ⟨#[]⟩, .int .i64 0, .slice A5 j c5, .slice none 0 0] (0, 0) _ rfl (st7_blk (.int .i64 4) (.bool false) (.slice none 0 0) (.string ⟨#[]⟩) (.int .i64 0) (.slice A5 j c5) (.slice none 0 0) HBR.out) Tryd.underlying26 rfl (by kernel_rfl)) rfl ?_
       have f7 := st7_fr wr B (.int .i64 4) (.bool false) (.slice none 0 0) (.string ⟨#[]⟩) (.int .i64 0) (.slice A5 j c5) (.slice none 0 0)
       rw [HE.out.1, HE.out.2]
       exact ⟨_, _, _, rfl, Kd.R_nil _ _ _ _ _, Kd.R_mono (Kd.R_lower (Kd.R_step HRX.out (fun k hk hlt => f7.block k hlt (fun e => absurd hk (by rw [e]; have := HEW.out; omega)))) (by have := HEW.out; omega)) (fun k hk => by have := HEW.out; omega), Kd.R_nil _ _ _ _ _, HWR.out.far f7 (fun c T hc => by rw [HBR.out] at hc; simp at hc; exact hc.2.symm) ⟨_, _, HBR.out⟩, HFR.out.then_ f7 (fun i hi hl => absurd hl (by rw [hi]; exact hlt))⟩
      ·have d3 : (tree != th) = true := by simpa using hth
       have d4 : (tree == th) = false := by simpa using hth
       have HE : Hid (gr = none ∧ (gN : Int) = (nn : Int)) := Lib.hid ⟨by rw [HRES.out.1, if_neg hth], HRES.out.2⟩
       clear hth HRES
       go_upto_region 33 with (fail)
       have HG9 := Lib.hid (HWR.out.setbad true)
       have HB9 := Lib.hid ((HWR.out.setbad true).2.blk HBR.out (fun e => ne_of_types HBR.out HWR.out.gblk (by decide) e))
       have HF9 := Lib.hid (HFR.out.trans (HWR.out.setbad true).2)
       obtain ⟨W9, hW9⟩ : ∃ W9, wr.setCell ⟨X.g, 4, none⟩ (.bool true) = W9 := ⟨_, rfl⟩
       rw [hW9] at HG9 HB9 HF9
       (try simp only [hW9])
       clear hW9
       have HG10 := Lib.hid HG9.out.1
       clear HG9
       obtain ⟨z0, z1, z2, z3, z4, zf3, zf4⟩ := HG10.out.cells
       clear x0 x1 x2 x3 x4 xf3 xf4
       obtain ⟨gz0, gz1, gz2, gz3, gz4, gz5, gz6, gzf0, gzf1, gzf2, gzf3, gzf4, gzf5, gzf6⟩ := cells7 HB9.out
       go_wp2
       have hlt : ¬ B < w.heap.size := by have := HEW.out; omega
       refine bodyPost_ret (results_cell_row rfl _ _ B 26 #[.int .i64 0, .bool false, .slice none 0 0, .string ⟨#[]⟩, .int .i64 0, .slice none 0 0, .slice none 0 0] (0, 0) _ rfl (st7_blk (.int .i64 0) (.bool false) (.slice none 0 0) (.string ⟨#[]⟩) (.int .i64 0) (.slice none 0 0) (.slice none 0 0) HB9.out) Tryd.underlying26 rfl (by kernel_rfl)) rfl ?_
       have f7 := st7_fr W9 B (.int .i64 0) (.bool false) (.slice none 0 0) (.string ⟨#[]⟩) (.int .i64 0) (.slice none 0 0) (.slice none 0 0)
       rw [HE.out.1, HE.out.2]
       exact ⟨_, _, _, rfl, Kd.R_nil _ _ _ _ _, Kd.R_nil _ _ _ _ _, Kd.R_nil _ _ _ _ _, HG10.out.far f7 (fun c T hc => by rw [HB9.out] at hc; simp at hc; exact hc.2.symm) ⟨_, _, HB9.out⟩, HF9.out.then_ f7 (fun i hi hl => absurd hl (by rw [hi]; exact hlt))⟩
end Go.Proofs.YtjiaaefpepdoeaaDoor
namespace Go.Proofs.YtjiaaefpepdoeaaDoor
open Go.RowKit Md Go.Proofs.YtjiaaefpepdoeaaDoorW.PrintWords
open Go.Proofs.YtjiaaefpepdoeaaDoor.PSlideMeans (S26 z26 k26 k26_mkM tenementref1_SameNum.f tenementref1_SameNum.l0 tenementref1_SameNum.j0)
set_option linter.unusedVariables false
theorem u32_push {W : World} {u : Value} {acc : List Int} (x : Int) (h : Own W 123 u (nw .u32 acc)) (hlen : acc.length ≤ 1073741823) :
  ∃ v' w1, (Builtin.append_ #[22, 22] 22 #[u, .slice (some ⟨W.heap.size, 0, none⟩) 1 1]).run Tryd.prog (W.alloc (.cells #[.int .u32 x] 123)) = .ok v' w1 ∧ Own w1 123 v' (nw .u32 (acc ++ [x])) ∧ Fr W w1 (fun i => InBlk u i) ∧ ∀ k, InBlk v' k → InBlk u k ∨ W.heap.size ≤ k := by
 obtain ⟨i0, hi, hz0, hz1, hzb⟩ := info_parts infoU32
 have hf3 : Fr W (W.alloc (.cells #[.int .u32 x] 123)) (fun _ => False) := (Fr.refl _ _).alloc _
 have hone : Rd (W.alloc (.cells #[.int .u32 x] 123)) (.slice (some ⟨W.heap.size, 0, none⟩) 1 1) (nw .u32 [x]) := .inr ⟨W.heap.size, 0, 1, rfl, by simp [nw], by simp [nw], by decide, by simp, fun i hi => by
  have : i = 0 := by simp [nw] at hi; exact hi
  subst this
  simp only [World.cell?, blk_new]; rfl⟩
 obtain ⟨v', w1, hr, ho, hg, hn⟩ := run_append_rd (P := Tryd.prog) _ 22 22 123 i0 (.int .u32 0) Tryd.underlying22 hi hz0 hz1 (by omega) rfl _ _ (nw .u32 acc) (nw .u32 [x]) (h.keep hf3 (fun _ _ h => h)) hone (nw_one .u32 [x]) (by rw [nw_length, nw_length]; simp; omega)
 have e : nw .u32 acc ++ nw .u32 [x] = nw .u32 (acc ++ [x]) := by simp [nw]
 rw [e] at ho
 have hf4 : Fr W w1 (fun i => InBlk u i) := (hf3.mono fun _ h _ => h.elim).grown hg (fun k hk _ => hk)
 refine ⟨v', w1, hr, ho, hf4, fun k hk => ?_⟩
 rcases hn k hk with h1 | h1
 ·exact .inl h1
 ·right
  have h3 : (W.alloc (.cells #[.int .u32 x] 123)).heap.size = W.heap.size + 1 := Array.size_push _
  omega
theorem same_ev {b1 b2 : Bool} {l1 l2 : List Int} (hl : l1.length = l2.length) (hm : l1.length ≤ 1048576) : ∀ (j i : Nat), i + j = l1.length → ∃ k, tenementref1_SameNum.l0 k i b1 l1 b2 l2 = some (decide (l1.drop i = l2.drop i)) := by
 intro j
 induction j with
 | zero =>
  intro i hi
  have e1 : l1.drop i = [] := List.drop_eq_nil_of_le (by omega)
  have e2 : l2.drop i = [] := List.drop_eq_nil_of_le (by omega)
  exact ⟨1, by simp only [tenementref1_SameNum.l0]; rw [if_neg (by omega), e1, e2]; simp⟩
 | succ j ih =>
  intro i hi
  have d1 : l1.drop i = l1.getD i 0 :: l1.drop (i + 1) := by rw [List.drop_eq_getElem_cons (by omega)]; simp [List.getD_eq_getElem?_getD, show i < l1.length by omega]
  have d2 : l2.drop i = l2.getD i 0 :: l2.drop (i + 1) := by rw [List.drop_eq_getElem_cons (by omega)]; simp [List.getD_eq_getElem?_getD, show i < l2.length by omega]
  have r1 : rd l1 (i : Int) = l1.getD i 0 := rfl
  have r2 : rd l2 (i : Int) = l2.getD i 0 := rfl
  by_cases he : l1.getD i 0 = l2.getD i 0
  ·obtain ⟨k, hk⟩ := ih (i + 1) (by omega)
   have w2 : wrap64 ((i : Int) + 1) = ((i + 1 : Nat) : Int) := by unfold wrap64; omega
   refine ⟨k + 1, ?_⟩
   simp only [tenementref1_SameNum.l0]
   rw [if_pos (by omega), if_pos (by omega), if_pos (by omega), r1, r2, if_pos he, w2, hk, d1, d2, he]
   simp
  ·refine ⟨1, ?_⟩
   simp only [tenementref1_SameNum.l0]
   rw [if_pos (by omega), if_pos (by omega), if_pos (by omega), r1, r2, if_neg he, d1, d2]
   simp [-List.getD_eq_getElem?_getD, he]
theorem samenum_c (b1 b2 : Bool) (l1 l2 : List Int) (hm : l1.length ≤ 1048576) (A1 A2 : Option Addr) (c1 c2 : Nat) (w : World) (h1 : Rd w (.slice A1 l1.length c1) (nw .u32 l1)) (h2 : Rd w (.slice A2 l2.length c2) (nw .u32 l2)) :
  Calls Tryd.prog 62 #[.agg #[.bool b1, .slice A1 l1.length c1], .agg #[.bool b2, .slice A2 l2.length c2]] w fun e w' => e = .returned (.bool (decide (b1 = b2) && decide (l1 = l2))) ∧ Fr w w' (fun _ => False) := by
 have key : ∃ k, tenementref1_SameNum.f k b1 l1 b2 l2 = some (decide (b1 = b2) && decide (l1 = l2)) := by
  by_cases hb : b1 = b2
  ·by_cases hl : l1.length = l2.length
   ·obtain ⟨k, hk⟩ := same_ev (b1 := b1) (b2 := b2) hl hm l1.length 0 (by omega)
    refine ⟨k + 1, ?_⟩
    unfold tenementref1_SameNum.f
    rw [if_neg (by simp [hb])]
    simp only [tenementref1_SameNum.j0]
    rw [if_neg (by simp [hl])]
    simp only [List.drop_zero] at hk
    rw [show ((0 : Nat) : Int) = 0 from rfl] at hk
    rw [hk]
    simp [hb]
   ·refine ⟨1, ?_⟩
    unfold tenementref1_SameNum.f
    rw [if_neg (by simp [hb])]
    simp only [tenementref1_SameNum.j0]
    have hn : ((l1.length : Int) != (l2.length : Int)) = true := by simp; omega
    have hne : l1 ≠ l2 := fun e => hl (by rw [e])
    rw [if_pos hn]
    simp [hne]
  ·refine ⟨1, ?_⟩
   unfold tenementref1_SameNum.f
   rw [if_pos (by simp [hb])]
   simp [tenementref1_SameNum.j0, hb]
 obtain ⟨k, hk⟩ := key
 have cof : ∀ {l : List Int} {A : Option Addr} {c : Nat}, Rd w (.slice A l.length c) (nw .u32 l) → (Kd.int .u32).C w A l.length l ∧ l.length ≤ c := fun {l A c} h => by
  rcases h with ⟨h0, A', c', e, hA⟩ | ⟨b, off, cap, e, h0, hl, hmm, hb, hc⟩
  ·have hl0 : l = [] := by unfold nw at h0; exact List.map_eq_nil_iff.1 h0
   subst hl0
   exact ⟨⟨rfl, by simp, fun h => absurd h (by simp)⟩, by simp⟩
  ·injection e with e1 e2 e3
   subst e1; subst e3
   rw [nw_length] at hl h0 hc
   refine ⟨Kd.C_of_reads (enc := Value.int .u32) (d := (0 : Int)) (h1 := fun _ => rfl) ⟨rfl, by unfold maxLen at hmm; omega, fun _ => ⟨_, rfl, fun j hj => ?_⟩⟩, hl⟩
   have h3 := hc j hj
   rw [nw_get hj] at h3
   rw [Addr.add_lit]
   exact h3
 exact (PSlideMeans.tenementref1_SameNum.calls k b1 A1 c1 l1 b2 A2 c2 l2 _ w (cof h1).1 (cof h1).2 (cof h2).1 (cof h2).2 hk).mono fun e w' h => ⟨h.1, Fr.of_below h.2 _⟩
theorem GG.farT {W W1 : World} {X : Gx} {ws : List Int} {size n : Int} {bad : Bool} {S : Nat → Prop} (TS : List TypeId) (h : GG W X ws size n bad) (hf : Fr W W1 S) (hS : ∀ i c T', S i → W.heap[i]? = some (.cells c T' (0, 0)) → T' ∈ TS) (hd : ∀ t ∈ ([46, 39, 35, 9, 79, 5, 3, 115] : List TypeId), t ∉ TS) : GG W1 X ws size n bad := by
 have key : ∀ {i : Nat} {c : Array Value} {T' : TypeId}, W.heap[i]? = some (.cells c T' (0, 0)) → T' ∉ TS → ¬ S i := fun hc ne hs => ne (hS _ _ _ hs hc)
 have own : ∀ {g n c : Nat} {e : TypeId} {xs : List Value}, Own W e (.slice (some ⟨g, 0, none⟩) n c) xs → e ∉ TS → ¬ S g := by
  intro g n c e xs ho ne
  obtain ⟨cur, hc⟩ := ho.elem g (by simp [InBlk, Value.ownBlock])
  exact key hc ne
 refine ⟨h.mem.keep hf (key h.mem.blk (hd _ (by simp))) (fun i hi e => ?_), hf.blk h.nblk (key h.nblk (hd _ (by simp))), h.nown.keep hf (fun i hi e => ?_), h.sto.keep hf (key h.sto.blk (hd _ (by simp))) (own h.sto.ob (hd _ (by simp))) (own h.sto.op (hd _ (by simp))) (own h.sto.os (hd _ (by simp))) (own h.sto.oc (hd _ (by simp))), hf.blk h.gblk (key h.gblk (hd _ (by simp)))⟩
 ·obtain ⟨cur, hc⟩ := h.mem.own.elem i hi
  exact key hc (hd _ (by simp)) e
 ·obtain ⟨cur, hc⟩ := h.nown.elem i hi
  exact key hc (hd _ (by simp)) e
structure RB (w W : World) (X : Gx) (ws : List Int) (size n : Int) (D B M : Nat) (sz : Nat) (th : Int) (nn : Bool) (dv : Value) (fs : List Int) (j : Nat) : Prop where
 gg : GG W X ws size n false
 d : W.heap[D]? = some (.cells #[.int .i64 2, .int .i64 sz, .int .i64 th, .bool nn] 68 (0, 0))
 bz : W.heap[B]? = some (.cells #[.int .i64 0, .bool false, .slice none 0 0, .string ⟨#[]⟩, .int .i64 0, .slice none 0 0, .slice none 0 0] 26 (0, 0))
 m : W.heap[M]? = some (.cells #[.bool nn, dv] 76 (0, 0))
 fr : Fr w W (fun i => i = X.g)
 own : Own W 123 dv (nw .u32 (fs.take j))
 inv : ∀ k, InBlk dv k → M < k
 small : ∀ x ∈ fs.take j, ¬ 4294967295 < x
set_option maxRecDepth 100000 in
set_option maxHeartbeats 8000000 in
theorem obj_big (X : Gx) (ws : List Int) (size : Int) (th : Int) (sz : Nat) (nn : Bool) (a : Nat) (n : Int) (w : World) (hg : GG w X ws size n false) (ha : a + 1 + sz ≤ ws.length) :
  Calls Tryd.prog 81 #[.pointer (some ⟨X.g, 0, none⟩), .agg #[.int .i64 2, .int .i64 sz, .int .i64 th, .bool nn], .int .i64 a] w fun e w' => GA w w' X ws size n (bigM ⟨2, sz, th, nn⟩ (fieldsAt ws a sz)) e := by
 have hmx : ws.length ≤ 1048576 := by have := hg.mem.le; have := hg.mem.mx; omega
 have hokw : okWs ws := hg.mem.ok
 obtain ⟨fs, hfs⟩ : ∃ fs, fieldsAt ws a sz = fs := ⟨_, rfl⟩
 have hfl : fs.length = sz := by rw [← hfs]; simp [fieldsAt]
 have hfok : okWs fs := by rw [← hfs]; exact okWs_fields hokw _ _
 have hfg : ∀ j, j < sz → fs.getD j 0 = ws.getD (a + (j + 1)) 0 := fun j hj => by
  rw [← hfs]
  unfold fieldsAt
  have e : (a : Int) + 1 + (j : Nat) = ((a + (j + 1) : Nat) : Int) := by omega
  simp only [List.getD_eq_getElem?_getD, List.getElem?_map, List.getElem?_range hj, Option.map_some, Option.getD_some]
  rw [e, rd0_getD (by omega) (by omega)]
  rw [Int.toNat_natCast, List.getD_eq_getElem?_getD]
 have HFL := Lib.hid hfl
 have HFG := Lib.hid hfg
 have HFO := Lib.hid hfok
 have HA := Lib.hid ha
 have HMX := Lib.hid hmx
 have HLE : Hid (fs.length ≤ 1048576) := Lib.hid (by omega)
 rw [hfs]
 obtain ⟨gr, hgr⟩ : ∃ gr, bigM ⟨2, sz, th, nn⟩ fs = gr := ⟨_, rfl⟩
 rw [hgr]
 have HGA := Lib.hid hgr
 clear hmx hokw hfs hfl hfg ha hgr hfok
 have hb0 : (w.alloc (.cells #[.int .i64 2, .int .i64 sz, .int .i64 th, .bool nn] 68)).heap[w.heap.size]? = some (.cells #[.int .i64 2, .int .i64 sz, .int .i64 th, .bool nn] 68 (0, 0)) := blk_new _ _ _
 obtain ⟨D, hD⟩ : ∃ D, w.heap.size = D := ⟨_, rfl⟩
 obtain ⟨w1, hw1⟩ : ∃ w1, w.alloc (.cells #[.int .i64 2, .int .i64 sz, .int .i64 th, .bool nn] 68) = w1 := ⟨_, rfl⟩
 have hf1 : Fr w w1 (fun _ => False) := by rw [← hw1]; exact (Fr.refl w _).alloc _
 have hs1 : w1.heap.size = D + 1 := by rw [← hw1, ← hD]; simp
 have hb1 : (w1.alloc (.cells #[.int .i64 0, .bool false, .slice none 0 0, .string ⟨#[]⟩, .int .i64 0, .slice none 0 0, .slice none 0 0] 26)).heap[w1.heap.size]? = some (.cells #[.int .i64 0, .bool false, .slice none 0 0, .string ⟨#[]⟩, .int .i64 0, .slice none 0 0, .slice none 0 0] 26 (0, 0)) := blk_new _ _ _
 obtain ⟨B, hB⟩ : ∃ B, w1.heap.size = B := ⟨_, rfl⟩
 obtain ⟨w2, hw2⟩ : ∃ w2, w1.alloc (.cells #[.int .i64 0, .bool false, .slice none 0 0, .string ⟨#[]⟩, .int .i64 0, .slice none 0 0, .slice none 0 0] 26) = w2 := ⟨_, rfl⟩
 have hf2 : Fr w w2 (fun _ => False) := by rw [← hw2]; exact hf1.alloc _
 have hb02 : w2.heap[D]? = some (.cells #[.int .i64 2, .int .i64 sz, .int .i64 th, .bool nn] 68 (0, 0)) := by
  rw [← hw2, ← hD]; exact ((Fr.refl w1 (fun _ => False)).alloc _).blk (by rw [← hw1]; exact hb0) (fun h => h)
 rw [hw2, hB] at hb1
 have HB0 := Lib.hid hb02
 have HB1 := Lib.hid hb1
 have HF2 : Hid (Fr w w2 (fun i => i = X.g)) := Lib.hid (hf2.mono (fun _ h _ => h.elim))
 have HG2 := Lib.hid (hg.fr hf2)
 have HBW : Hid (B = D + 1 ∧ D = w.heap.size ∧ w2.heap.size = B + 1) := Lib.hid ⟨by rw [← hB, hs1], hD.symm, by rw [← hw2, ← hB]; simp⟩
 clear hf1 hs1 hf2 hb02 hb1 hb0 hg
 have k0 : w2.cell? ⟨D, 0, none⟩ = some (.int .i64 2) := by simp [World.cell?, HB0.out]
 have kf0 : w2.frozen? ⟨D, 0, none⟩ = false := by simp [World.frozen?, HB0.out]
 have k1 : w2.cell? ⟨D, 1, none⟩ = some (.int .i64 sz) := by simp [World.cell?, HB0.out]
 have kf1 : w2.frozen? ⟨D, 1, none⟩ = false := by simp [World.frozen?, HB0.out]
 have k2 : w2.cell? ⟨D, 2, none⟩ = some (.int .i64 th) := by simp [World.cell?, HB0.out]
 have kf2 : w2.frozen? ⟨D, 2, none⟩ = false := by simp [World.frozen?, HB0.out]
 have k3 : w2.cell? ⟨D, 3, none⟩ = some (.bool nn) := by simp [World.cell?, HB0.out]
 have kf3 : w2.frozen? ⟨D, 3, none⟩ = false := by simp [World.frozen?, HB0.out]
 obtain ⟨x0, x1, x2, x3, x4, xf3, xf4⟩ := HG2.out.cells
 go_enter Tryd.func81, Tryd.ntmps81
 go_upto_region 1 with (fail)
 (try simp only [hw1, hw2, hB, hD])
 clear hw1 hw2 hB hD
 go_upto_region 4 with (fail)
 obtain ⟨M, hM⟩ : ∃ M, w2.heap.size = M := ⟨_, rfl⟩
 obtain ⟨w3, hw3⟩ : ∃ w3, w2.alloc (.cells #[.bool nn, .slice none 0 0] 76) = w3 := ⟨_, rfl⟩
 have hm3 : w3.heap[M]? = some (.cells #[.bool nn, .slice none 0 0] 76 (0, 0)) := by rw [← hw3, ← hM]; exact blk_new _ _ _
 have f23 : Fr w2 w3 (fun _ => False) := by rw [← hw3]; exact (Fr.refl w2 _).alloc _
 have HEW : Hid (B = D + 1 ∧ D = w.heap.size ∧ M = B + 1) := Lib.hid ⟨HBW.out.1, HBW.out.2.1, by rw [← hM]; exact HBW.out.2.2⟩
 have H0 : Hid (RB w w3 X ws size n D B M sz th nn (.slice none 0 0) fs 0) := Lib.hid ⟨HG2.out.fr f23, f23.blk HB0.out (fun h => h), f23.blk HB1.out (fun h => h), hm3, HF2.out.trans (f23.mono (fun _ h _ => h.elim)), Own.nil _ _, fun k hk => by simp [InBlk, Value.ownBlock] at hk, fun x hx => by simp at hx⟩
 (try simp only [hw3, hM])
 clear hw3 hM f23 hm3 x0 x1 x2 x3 x4 xf3 xf4 k0 k1 k2 k3 kf0 kf1 kf2 kf3 HG2 HB0 HB1 HF2
 go_upto_block 0 with (fail)
 go_loopg [8] sz (fun g a8 wr => ∃ (i j : Nat) (dv : Value), a8 = .int .i64 i ∧ g + j = sz ∧ i = j + 1 ∧ Hid (RB w wr X ws size n D B M sz th nn dv fs j))
 case atStart => exact ⟨1, 0, _, rfl, by omega, rfl, H0⟩
 case round =>
  clear H0
  obtain ⟨i, j, dv, rfl, hgj, hij, HI⟩ := hrel
  have HGJ : Hid (gk + j = sz ∧ i = j + 1) := Lib.hid ⟨hgj, hij⟩
  have hjl : (fs.take j).length = j := by rw [List.length_take]; have := HFL.out; omega
  obtain ⟨Ad, cd, e5⟩ := HI.out.own.rd.len
  rw [nw_length, hjl] at e5
  subst e5
  have HJL := Lib.hid hjl
  clear hgj hij hjl
  have k0 : wr.cell? ⟨D, 0, none⟩ = some (.int .i64 2) := by simp [World.cell?, HI.out.d]
  have kf0 : wr.frozen? ⟨D, 0, none⟩ = false := by simp [World.frozen?, HI.out.d]
  have k1 : wr.cell? ⟨D, 1, none⟩ = some (.int .i64 sz) := by simp [World.cell?, HI.out.d]
  have kf1 : wr.frozen? ⟨D, 1, none⟩ = false := by simp [World.frozen?, HI.out.d]
  have k2 : wr.cell? ⟨D, 2, none⟩ = some (.int .i64 th) := by simp [World.cell?, HI.out.d]
  have kf2 : wr.frozen? ⟨D, 2, none⟩ = false := by simp [World.frozen?, HI.out.d]
  have k3 : wr.cell? ⟨D, 3, none⟩ = some (.bool nn) := by simp [World.cell?, HI.out.d]
  have kf3 : wr.frozen? ⟨D, 3, none⟩ = false := by simp [World.frozen?, HI.out.d]
  have mc0 : wr.cell? ⟨M, 0, none⟩ = some (.bool nn) := by simp [World.cell?, HI.out.m]
  have mcf0 : wr.frozen? ⟨M, 0, none⟩ = false := by simp [World.frozen?, HI.out.m]
  have mc1 : wr.cell? ⟨M, 1, none⟩ = some (.slice Ad j cd) := by simp [World.cell?, HI.out.m]
  have mcf1 : wr.frozen? ⟨M, 1, none⟩ = false := by simp [World.frozen?, HI.out.m]
  obtain ⟨x0, x1, x2, x3, x4, xf3, xf4⟩ := HI.out.gg.cells
  have qi0 : (0 : Int) ≤ i := by omega
  have qi1 : (i : Int) ≤ 1048577 := by have := HGJ.out; have := HA.out; have := HMX.out; omega
  by_cases hi : i ≤ sz
  ·have HIS := Lib.hid hi
   have d1 : decide (i ≤ sz) = true := decide_eq_true hi
   have d2 : decide ((i : Int) ≤ sz) = true := decide_eq_true (by omega)
   obtain ⟨p, hp⟩ : ∃ p, a + i = p := ⟨_, rfl⟩
   have hpl : p < ws.length := by have := HA.out; omega
   obtain ⟨gw, cap, hvm, cw, cq⟩ := HI.out.gg.word p hpl
   obtain ⟨x, hx⟩ : ∃ x, ws.getD p 0 = x := ⟨_, rfl⟩
   rw [hx] at cw
   have HXJ : Hid (fs.getD j 0 = x) := Lib.hid (by have h1 := HGJ.out; rw [HFG.out j (by omega), ← hx, ← hp, h1.2])
   have HXM : Hid (x ∈ fs) := Lib.hid (by rw [← HXJ.out]; exact getD_mem (by have := HGJ.out; have := HFL.out; omega))
   have qp : (p : Int) < ws.length := by omega
   have hwp : wrap64 ((a : Int) + (i : Int)) = (p : Int) := by have := HMX.out; unfold wrap64; omega
   have HPA := Lib.hid hp
   have HVM := Lib.hid hvm
   clear hp hpl hvm hx hi
   by_cases hbig : 4294967295 < x
   ·have d3 : decide (4294967295 < x) = true := decide_eq_true hbig
    have HE : Hid (gr = none) := Lib.hid (by rw [← HGA.out]; unfold bigM; rw [if_pos (List.any_eq_true.2 ⟨x, HXM.out, d3⟩)])
    have HGR := Lib.hid HI.out.gg
    have HBR := Lib.hid HI.out.bz
    have HFR := Lib.hid HI.out.fr
    clear hbig HGA
    go_upto_region 9 with (fail)
    have HG9 := Lib.hid (HGR.out.setbad true)
    have HB9 := Lib.hid ((HGR.out.setbad true).2.blk HBR.out (fun e => ne_of_types HBR.out HGR.out.gblk (by decide) e))
    have HF9 := Lib.hid (HFR.out.trans (HGR.out.setbad true).2)
    obtain ⟨W9, hW9⟩ : ∃ W9, wr.setCell ⟨X.g, 4, none⟩ (.bool true) = W9 := ⟨_, rfl⟩
    rw [hW9] at HG9 HB9 HF9
    (try simp only [hW9])
    clear hW9
    have HG10 := Lib.hid HG9.out.1
    clear HG9
    obtain ⟨z0, z1, z2, z3, z4, zf3, zf4⟩ := HG10.out.cells
    clear x0 x1 x2 x3 x4 xf3 xf4
    obtain ⟨gz0, gz1, gz2, gz3, gz4, gz5, gz6, gzf0, gzf1, gzf2, gzf3, gzf4, gzf5, gzf6⟩ := cells7 HB9.out
    go_wp2
    have hlt : ¬ B < w.heap.size := by have := HEW.out; omega
    refine bodyPost_ret (results_cell_row rfl _ _ B 26 #[.int .i64 0, .bool false, .slice none 0 0, .string ⟨#[]⟩, .int .i64 0, .slice none 0 0, .slice none 0 0] (0, 0) _ rfl (st7_blk (.int .i64 0) (.bool false) (.slice none 0 0) (.string ⟨#[]⟩) (.int .i64 0) (.slice none 0 0) (.slice none 0 0) HB9.out) Tryd.underlying26 rfl (by kernel_rfl)) rfl ?_
    have f7 := st7_fr W9 B (.int .i64 0) (.bool false) (.slice none 0 0) (.string ⟨#[]⟩) (.int .i64 0) (.slice none 0 0) (.slice none 0 0)
    rw [HE.out]
    exact ⟨_, _, _, rfl, Kd.R_nil _ _ _ _ _, Kd.R_nil _ _ _ _ _, Kd.R_nil _ _ _ _ _, HG10.out.far f7 (fun c T hc => by rw [HB9.out] at hc; simp at hc; exact hc.2.symm) ⟨_, _, HB9.out⟩, HF9.out.then_ f7 (fun i hi hl => absurd hl (by rw [hi]; exact hlt))⟩
   ·have d3 : decide (4294967295 < x) = false := decide_eq_false hbig
    have HXB : Hid (¬ 4294967295 < x) := Lib.hid hbig
    have hx0 := (HFO.out x HXM.out).1
    have hwx : IntKind.u32.wrap x = x := by unfold IntKind.wrap; simp [IntKind.bits, IntKind.signed]; omega
    have hwi : IntKind.i64.wrap ((a : Int) + (i : Int)) = (p : Int) := by have h1 := HMX.out; have h2 := HPA.out; clear hwp hwx; rw [IntWalk.i64_in _ (by omega)]; omega
    clear hbig hx0
    go_upto_region 10 with (fail)
    obtain ⟨v', w4, hrun, ho, hf, hn⟩ := u32_push (W := wr.drew) x (HI.out.own.keep ((Fr.refl wr (fun _ => False)).drew) (fun _ _ h => h)) (by have := HJL.out; have := HGJ.out; have := HA.out; have := HMX.out; omega)
    obtain ⟨A4, c4, e4⟩ := ho.rd.len
    rw [nw_length, List.length_append, HJL.out] at e4
    subst e4
    have HNB : Hid (∀ k, InBlk (.slice Ad j cd) k → M < k ∧ k < wr.heap.size) := Lib.hid (fun k hk => ⟨HI.out.inv k hk, HI.out.own.lt k hk⟩)
    have HO4 := Lib.hid ho
    have HN4 := Lib.hid hn
    have f4 : Fr wr w4 (fun k => InBlk (.slice Ad j cd) k) := ((Fr.refl wr _).drew).trans hf
    have HF4 := Lib.hid f4
    have fa : Fr wr (wr.alloc (.cells #[.int .u32 x] 123)) (fun _ => False) := (Fr.refl wr _).alloc _
    have ng : ¬ InBlk (.slice Ad j cd) X.g := fun e => by obtain ⟨cur, hc⟩ := HI.out.own.elem _ e; rw [HI.out.gg.gblk] at hc; simp at hc
    have nq : ¬ InBlk (.slice Ad j cd) X.q := fun e => by obtain ⟨cur, hc⟩ := HI.out.own.elem _ e; rw [HI.out.gg.mem.blk] at hc; simp at hc
    have nw_ : ¬ InBlk (.slice Ad j cd) gw := fun e => by
     obtain ⟨cur, hc⟩ := HI.out.own.elem _ e
     rcases HI.out.gg.mem.form with ⟨_, h0⟩ | ⟨gw', cap', hv', _⟩
     ·rw [h0] at qp; simp at qp; omega
     ·obtain ⟨gw2, cap2, hv2, _⟩ := HI.out.gg.word p (by omega)
      have hin : InBlk X.vm gw := by
       have := HVM.out
       rw [this]; simp [InBlk, Value.ownBlock]
      obtain ⟨cur2, hc2⟩ := HI.out.gg.mem.own.elem gw hin
      rw [hc2] at hc; simp at hc
    have nm_ : ¬ InBlk (.slice Ad j cd) M := fun e => absurd (HNB.out M e).1 (Nat.lt_irrefl _)
    have a0 := fa.cell (a := ⟨X.g, 0, none⟩) x0 (fun h => h)
    have a1 := fa.cell (a := ⟨X.q, 0, none⟩) cq (fun h => h)
    have a2 := fa.cell (a := ⟨gw, p, none⟩) cw (fun h => h)
    have a3 := fa.cell (a := ⟨M, 1, none⟩) mc1 (fun h => h)
    have b0 := f4.cell (a := ⟨X.g, 0, none⟩) x0 ng
    have b1 := f4.cell (a := ⟨X.q, 0, none⟩) cq nq
    have b2 := f4.cell (a := ⟨gw, p, none⟩) cw nw_
    have b3 := f4.cell (a := ⟨M, 1, none⟩) mc1 nm_
    have hm4 := f4.blk HI.out.m nm_
    have b3f : w4.frozen? ⟨M, 1, none⟩ = false := by simp [World.frozen?, hm4]
    have HM4 := Lib.hid hm4
    have hgM : X.g ≠ M := fun e => by have h1 := HI.out.m; rw [← e, HI.out.gg.gblk] at h1; simp at h1
    have hqM : X.q ≠ M := fun e => by have h1 := HI.out.m; rw [← e, HI.out.gg.mem.blk] at h1; simp at h1
    have hwM : gw ≠ M := fun e => by
     have hin : InBlk X.vm gw := by rw [HVM.out]; simp [InBlk, Value.ownBlock]
     obtain ⟨cur2, hc2⟩ := HI.out.gg.mem.own.elem gw hin
     rw [e, HI.out.m] at hc2; simp at hc2
    have f5 : Fr w4 (w4.setCell ⟨M, 1, none⟩ (.slice A4 (j + 1) c4)) (fun i => i = M) := (Fr.refl w4 (fun i => i = M)).setCell (a := ⟨M, 1, none⟩) (fun _ => rfl) _
    have s0 := f5.cell (a := ⟨X.g, 0, none⟩) b0 hgM
    have s1 := f5.cell (a := ⟨X.q, 0, none⟩) b1 hqM
    have s2 := f5.cell (a := ⟨gw, p, none⟩) b2 hwM
    have HF5 := Lib.hid f5
    clear ho hf hn f4 fa ng nq nw_ nm_ hm4 f5 hgM hqM hwM
    go_region_law (first | (refine step_append_run _ (by rfl) _ _ _ _ (by rfl) _ _ (by rfl) (by rfl) _ _ hrun ?_))
    all_goals
     clear hrun a0 a1 a2 a3 b0 b1 b2 b3 b3f s0 s1 s2 hwi hwx
     go_wp2
     go_roundg (gk - 1)
     case measure => have := HGJ.out; have := HIS.out; omega
     case rel =>
      have hjf : j < fs.length := by have := HGJ.out; have := HIS.out; have := HFL.out; omega
      have htk : fs.take (j + 1) = fs.take j ++ [x] := by
       rw [List.take_succ_eq_append_getElem hjf]
       have h1 := HXJ.out
       rw [List.getD_eq_getElem?_getD, List.getElem?_eq_getElem hjf] at h1
       simp only [Option.getD_some] at h1
       rw [h1]
      have hMs : M < wr.heap.size := fr_lt HI.out.m
      have hw := HEW.out
      refine ⟨i + 1, j + 1, .slice A4 (j + 1) c4, by first | rfl | go_num, by have := HGJ.out; have := HIS.out; omega, by have := HGJ.out; omega, Lib.hid ⟨?_, ?_, ?_, ?_, ?_, ?_, ?_, ?_⟩⟩
      ·refine (HI.out.gg.farT [123] HF4.out (fun i c T' hi hc => ?_) (by decide)).farT [76] HF5.out (fun i c T' hi hc => ?_) (by decide)
       ·obtain ⟨cur, hc2⟩ := HI.out.own.elem i hi
        rw [hc2] at hc; simp at hc; simp [hc.2.symm]
       ·rw [hi, HM4.out] at hc; simp at hc; simp [hc.2.symm]
      ·exact HF5.out.blk (HF4.out.blk HI.out.d (fun e => by have := (HNB.out _ e).1; omega)) (by omega)
      ·exact HF5.out.blk (HF4.out.blk HI.out.bz (fun e => by have := (HNB.out _ e).1; omega)) (by omega)
      ·exact blk_put HM4.out 1 _ rfl
      ·exact (HI.out.fr.then_ HF4.out (fun k hk hlt => by have := (HNB.out k hk).1; omega)).then_ HF5.out (fun k hk hlt => by omega)
      ·rw [htk]
       exact HO4.out.keep HF5.out (fun k hk e => by
        rcases HN4.out k hk with h1 | h1
        ·have := (HNB.out k h1).1; omega
        ·have h2 : wr.drew.heap.size = wr.heap.size := rfl
         omega)
      ·intro k hk
       rcases HN4.out k hk with h1 | h1
       ·exact (HNB.out k h1).1
       ·have h2 : wr.drew.heap.size = wr.heap.size := rfl
        omega
      ·rw [htk]
       intro y hy
       rcases List.mem_append.1 hy with hy | hy
       ·exact HI.out.small y hy
       ·simp at hy; rw [hy]; have := HXB.out; omega
  ·have d1 : decide (i ≤ sz) = false := decide_eq_false hi
   have d2 : decide ((i : Int) ≤ sz) = false := decide_eq_false (by omega)
   have hjf : j = fs.length := by have := HGJ.out; have := HFL.out; omega
   have htk : fs.take j = fs := by rw [hjf, List.take_length]
   have HANY : Hid (fs.any (fun x => decide (4294967295 < x)) = false) := Lib.hid (by
    cases hb : fs.any (fun x => decide (4294967295 < x)) with
    | false => rfl
    | true =>
     obtain ⟨x, hx, hd⟩ := List.any_eq_true.1 hb
     exact absurd (of_decide_eq_true hd) (HI.out.small x (by rw [htk]; exact hx)))
   have HOD : Hid (okD fs) := Lib.hid (okD_of HFO.out HANY.out)
   have how := HI.out.own
   rw [htk] at how
   have HOW0 := Lib.hid how
   have HM0 := Lib.hid HI.out.m
   have HD0 := Lib.hid HI.out.d
   have HB0 := Lib.hid HI.out.bz
   have HG0 := Lib.hid HI.out.gg
   have HF0 := Lib.hid HI.out.fr
   clear HI how hi HGJ HJL
   subst hjf
   clear htk
   have HOW := HOW0
   obtain ⟨sb, hsb⟩ : ∃ sb, smallB nn fs = sb := ⟨_, rfl⟩
   have HSB := Lib.hid hsb
   clear hsb
   have HGB : Hid (gr = if sb = true ∨ 64 < (sz : Int) ∨ ¬ (nn = normB nn fs ∧ fs = normD fs) ∨ th ≠ 1 then none else some (termNum nn fs)) := Lib.hid (by
    rw [← HGA.out]
    unfold bigM
    rw [HANY.out, ← HSB.out]
    rfl)
   clear HGA
   go_upto_region 12 with (first | (go_at_call 32; (with_reducible refine (small_c nn Ad cd fs _ HOW.out.rd HLE.out HOD.out).mono ?_); rintro e w5 ⟨sv, rfl, hf5⟩; have HF45 := Lib.hid hf5; clear hf5))
   rw [HSB.out]
   have HM5 := Lib.hid (HF45.out.blk HM0.out (fun h => h))
   have HD5 := Lib.hid (HF45.out.blk HD0.out (fun h => h))
   have HB5 := Lib.hid (HF45.out.blk HB0.out (fun h => h))
   have HG5 := Lib.hid (HG0.out.fr HF45.out)
   have HO5 := Lib.hid (HOW.out.rd.keep HF45.out (fun _ _ h => h))
   have HF5 := Lib.hid (HF0.out.trans (HF45.out.mono (fun _ h _ => h.elim)))
   clear HM0 HD0 HB0 HG0 HF0 HOW0 x0 x1 x2 x3 x4 xf3 xf4 k0 k1 k2 k3 kf0 kf1 kf2 kf3 mc0 mc1 mcf0 mcf1 d1 d2 qi0 qi1
   have k0 : w5.cell? ⟨D, 0, none⟩ = some (.int .i64 2) := by simp [World.cell?, HD5.out]
   have kf0 : w5.frozen? ⟨D, 0, none⟩ = false := by simp [World.frozen?, HD5.out]
   have k1 : w5.cell? ⟨D, 1, none⟩ = some (.int .i64 sz) := by simp [World.cell?, HD5.out]
   have kf1 : w5.frozen? ⟨D, 1, none⟩ = false := by simp [World.frozen?, HD5.out]
   have k2 : w5.cell? ⟨D, 2, none⟩ = some (.int .i64 th) := by simp [World.cell?, HD5.out]
   have kf2 : w5.frozen? ⟨D, 2, none⟩ = false := by simp [World.frozen?, HD5.out]
   have k3 : w5.cell? ⟨D, 3, none⟩ = some (.bool nn) := by simp [World.cell?, HD5.out]
   have kf3 : w5.frozen? ⟨D, 3, none⟩ = false := by simp [World.frozen?, HD5.out]
   have mc0 : w5.cell? ⟨M, 0, none⟩ = some (.bool nn) := by simp [World.cell?, HM5.out]
   have mcf0 : w5.frozen? ⟨M, 0, none⟩ = false := by simp [World.frozen?, HM5.out]
   have mc1 : w5.cell? ⟨M, 1, none⟩ = some (.slice Ad fs.length cd) := by simp [World.cell?, HM5.out]
   have mcf1 : w5.frozen? ⟨M, 1, none⟩ = false := by simp [World.frozen?, HM5.out]
   cases sb with
   | true =>
    have HE : Hid (gr = none) := Lib.hid (by rw [HGB.out, if_pos (.inl rfl)])
    go_quiet (fail)
    have HFQ := Lib.hid ((Fr.refl w5 (fun _ => False)).drewN nq)
    have HG6 := Lib.hid (HG5.out.fr HFQ.out)
    have HB6 := Lib.hid (HFQ.out.blk HB5.out (fun h => h))
    have HF6 := Lib.hid (HF5.out.trans (HFQ.out.mono (fun _ h _ => h.elim)))
    obtain ⟨w6, hw6⟩ : ∃ w6, w5.drewN nq = w6 := ⟨_, rfl⟩
    rw [hw6] at HG6 HB6 HF6
    (try simp only [hw6])
    clear hw6 HFQ k0 k1 k2 k3 kf0 kf1 kf2 kf3 mc0 mc1 mcf0 mcf1
    obtain ⟨x0, x1, x2, x3, x4, xf3, xf4⟩ := HG6.out.cells
    go_upto_region 14 with (fail)
    have HG9 := Lib.hid (HG6.out.setbad true)
    have HB9 := Lib.hid ((HG6.out.setbad true).2.blk HB6.out (fun e => ne_of_types HB6.out HG6.out.gblk (by decide) e))
    have HF9 := Lib.hid (HF6.out.trans (HG6.out.setbad true).2)
    obtain ⟨W9, hW9⟩ : ∃ W9, w6.setCell ⟨X.g, 4, none⟩ (.bool true) = W9 := ⟨_, rfl⟩
    rw [hW9] at HG9 HB9 HF9
    (try simp only [hW9])
    clear hW9
    have HG10 := Lib.hid HG9.out.1
    clear HG9
    obtain ⟨z0, z1, z2, z3, z4, zf3, zf4⟩ := HG10.out.cells
    clear x0 x1 x2 x3 x4 xf3 xf4
    obtain ⟨gz0, gz1, gz2, gz3, gz4, gz5, gz6, gzf0, gzf1, gzf2, gzf3, gzf4, gzf5, gzf6⟩ := cells7 HB9.out
    go_wp2
    have hlt : ¬ B < w.heap.size := by have := HEW.out; omega
    refine bodyPost_ret (results_cell_row rfl _ _ B 26 #[.int .i64 0, .bool false, .slice none 0 0, .string ⟨#[]⟩, .int .i64 0, .slice none 0 0, .slice none 0 0] (0, 0) _ rfl (st7_blk (.int .i64 0) (.bool false) (.slice none 0 0) (.string ⟨#[]⟩) (.int .i64 0) (.slice none 0 0) (.slice none 0 0) HB9.out) Tryd.underlying26 rfl (by kernel_rfl)) rfl ?_
    have f7 := st7_fr W9 B (.int .i64 0) (.bool false) (.slice none 0 0) (.string ⟨#[]⟩) (.int .i64 0) (.slice none 0 0) (.slice none 0 0)
    rw [HE.out]
    exact ⟨_, _, _, rfl, Kd.R_nil _ _ _ _ _, Kd.R_nil _ _ _ _ _, Kd.R_nil _ _ _ _ _, HG10.out.far f7 (fun c T hc => by rw [HB9.out] at hc; simp at hc; exact hc.2.symm) ⟨_, _, HB9.out⟩, HF9.out.then_ f7 (fun i hi hl => absurd hl (by rw [hi]; exact hlt))⟩
   | false =>
    by_cases h64 : (64 : Int) < sz
    ·have e1 : decide ((64 : Int) < sz) = true := decide_eq_true h64
     have e1' : decide (64 < sz) = true := decide_eq_true (by omega)
     have HE : Hid (gr = none) := Lib.hid (by rw [HGB.out, if_pos (.inr (.inl h64))])
     clear h64
     go_quiet (fail)
     have HFQ := Lib.hid ((Fr.refl w5 (fun _ => False)).drewN nq)
     have HG6 := Lib.hid (HG5.out.fr HFQ.out)
     have HB6 := Lib.hid (HFQ.out.blk HB5.out (fun h => h))
     have HF6 := Lib.hid (HF5.out.trans (HFQ.out.mono (fun _ h _ => h.elim)))
     obtain ⟨w6, hw6⟩ : ∃ w6, w5.drewN nq = w6 := ⟨_, rfl⟩
     rw [hw6] at HG6 HB6 HF6
     (try simp only [hw6])
     clear hw6 HFQ k0 k1 k2 k3 kf0 kf1 kf2 kf3 mc0 mc1 mcf0 mcf1
     obtain ⟨x0, x1, x2, x3, x4, xf3, xf4⟩ := HG6.out.cells
     go_upto_region 14 with (fail)
     have HG9 := Lib.hid (HG6.out.setbad true)
     have HB9 := Lib.hid ((HG6.out.setbad true).2.blk HB6.out (fun e => ne_of_types HB6.out HG6.out.gblk (by decide) e))
     have HF9 := Lib.hid (HF6.out.trans (HG6.out.setbad true).2)
     obtain ⟨W9, hW9⟩ : ∃ W9, w6.setCell ⟨X.g, 4, none⟩ (.bool true) = W9 := ⟨_, rfl⟩
     rw [hW9] at HG9 HB9 HF9
     (try simp only [hW9])
     clear hW9
     have HG10 := Lib.hid HG9.out.1
     clear HG9
     obtain ⟨z0, z1, z2, z3, z4, zf3, zf4⟩ := HG10.out.cells
     clear x0 x1 x2 x3 x4 xf3 xf4
     obtain ⟨gz0, gz1, gz2, gz3, gz4, gz5, gz6, gzf0, gzf1, gzf2, gzf3, gzf4, gzf5, gzf6⟩ := cells7 HB9.out
     go_wp2
     have hlt : ¬ B < w.heap.size := by have := HEW.out; omega
     refine bodyPost_ret (results_cell_row rfl _ _ B 26 #[.int .i64 0, .bool false, .slice none 0 0, .string ⟨#[]⟩, .int .i64 0, .slice none 0 0, .slice none 0 0] (0, 0) _ rfl (st7_blk (.int .i64 0) (.bool false) (.slice none 0 0) (.string ⟨#[]⟩) (.int .i64 0) (.slice none 0 0) (.slice none 0 0) HB9.out) Tryd.underlying26 rfl (by kernel_rfl)) rfl ?_
     have f7 := st7_fr W9 B (.int .i64 0) (.bool false) (.slice none 0 0) (.string ⟨#[]⟩) (.int .i64 0) (.slice none 0 0) (.slice none 0 0)
     rw [HE.out]
     exact ⟨_, _, _, rfl, Kd.R_nil _ _ _ _ _, Kd.R_nil _ _ _ _ _, Kd.R_nil _ _ _ _ _, HG10.out.far f7 (fun c T hc => by rw [HB9.out] at hc; simp at hc; exact hc.2.symm) ⟨_, _, HB9.out⟩, HF9.out.then_ f7 (fun i hi hl => absurd hl (by rw [hi]; exact hlt))⟩
    ·have e1 : decide ((64 : Int) < sz) = false := decide_eq_false h64
     have e1' : decide (64 < sz) = false := decide_eq_false (by omega)
     have HGC : Hid (gr = if ¬ (nn = normB nn fs ∧ fs = normD fs) ∨ th ≠ 1 then none else some (termNum nn fs)) := Lib.hid (by
      rw [HGB.out]
      by_cases hc : ¬ (nn = normB nn fs ∧ fs = normD fs) ∨ th ≠ 1
      ·rw [if_pos (.inr (.inr hc)), if_pos hc]
      ·rw [if_neg (by rintro (h | h | h); exact Bool.noConfusion h; exact h64 h; exact hc h), if_neg hc])
     clear HGB h64
     obtain ⟨nb, hnb⟩ : ∃ nb, normB nn fs = nb := ⟨_, rfl⟩
     obtain ⟨L, hL⟩ : ∃ L, normD fs = L := ⟨_, rfl⟩
     obtain ⟨sm, hsm⟩ : ∃ sm, (decide (nn = nb) && decide (fs = L)) = sm := ⟨_, rfl⟩
     have HNB := Lib.hid hnb
     have HNL := Lib.hid hL
     have HSM := Lib.hid hsm
     have HGD : Hid (gr = if sm = false ∨ th ≠ 1 then none else some (termNum nn fs)) := Lib.hid (by
      rw [HGC.out, hnb, hL]
      have h1 : (¬ (nn = nb ∧ fs = L)) ↔ sm = false := by
       rw [← hsm]
       simp
      by_cases h2 : sm = false
      ·rw [if_pos (.inl (h1.2 h2)), if_pos (.inl h2)]
      ·have h3 : ¬ ¬ (nn = nb ∧ fs = L) := fun h => h2 (h1.1 h)
       by_cases h4 : th ≠ 1
       ·rw [if_pos (.inr h4), if_pos (.inr h4)]
       ·rw [if_neg (by rintro (h | h); exact h3 h; exact h4 h), if_neg (by rintro (h | h); exact h2 h; exact h4 h)])
     clear hnb hL hsm HGC
     have HOR : Hid (Rd w5.drew (.slice Ad fs.length cd) (nw .u32 fs)) := Lib.hid (HO5.out.keep ((Fr.refl w5 (fun _ => False)).drew) (fun _ _ h => h))
     go_upto_region 12 with (fail)
     go_cut [85] (fun a85 wx => a85 = .bool (!sm || (th != 1)) ∧ Hid (Fr w5 wx (fun _ => False)))
     case first =>
      cases sm with
      | true =>
       cases hth : (th != 1) with
       | true => 
        (first | (go_region_held3 (fun w' => w'.cell? ⟨M, 0, none⟩ = some (.bool nn) ∧ w'.cell? ⟨M, 1, none⟩ = some (.slice Ad fs.length cd) ∧ w'.cell? ⟨D, 1, none⟩ = some (.int .i64 sz) ∧ w'.cell? ⟨D, 2, none⟩ = some (.int .i64 th))
         (first | exact ⟨r0, r1, r2, r3⟩ | exact ⟨g0, g1, g2, g3⟩ | exact ⟨mc0, mc1, k1, k2⟩)
         (first
          | (go_at_call 33; (with_reducible refine (norm_c nn Ad cd fs _ HOR.out HLE.out).mono ?_); rintro e w6 ⟨v, rfl, hn⟩; (rw [HNB.out]; rw [HNL.out] at hn); obtain ⟨Av, cv, rfl⟩ := hn.1.rd.len; rw [nw_length] at hn ⊢; have HN6 := Lib.hid hn.2.1; have HR6 := Lib.hid (HOR.out.keep hn.2.1 (fun _ _ h => h)); have HQ6 := Lib.hid hn.1.rd; have g0 := hn.2.1.cell (w := w5.drew) (a := ⟨M, 0, none⟩) mc0 (fun h => h); have g1 := hn.2.1.cell (w := w5.drew) (a := ⟨M, 1, none⟩) mc1 (fun h => h); have g2 := hn.2.1.cell (w := w5.drew) (a := ⟨D, 1, none⟩) k1 (fun h => h); have g3 := hn.2.1.cell (w := w5.drew) (a := ⟨D, 2, none⟩) k2 (fun h => h); clear hn)
          | (go_at_call 62; (with_reducible refine (samenum_c nn nb fs L HLE.out Ad Av cd cv _ HR6.out HQ6.out).mono ?_); rintro e w7 ⟨rfl, hf7⟩; rw [HSM.out]; have r0 := hf7.cell (a := ⟨M, 0, none⟩) g0 (fun h => h); have r1 := hf7.cell (a := ⟨M, 1, none⟩) g1 (fun h => h); have r2 := hf7.cell (a := ⟨D, 1, none⟩) g2 (fun h => h); have r3 := hf7.cell (a := ⟨D, 2, none⟩) g3 (fun h => h); have HFE := Lib.hid ((((Fr.refl w5 (fun _ => False)).drew).trans HN6.out).trans hf7); clear hf7))) | fail)
        all_goals (go_wp2_with (fail); go_meet; exact ⟨by first | rfl | (simp; done) | (simp [*]; done), HFE⟩)
       | false => 
        (first | (go_region_held3 (fun w' => w'.cell? ⟨M, 0, none⟩ = some (.bool nn) ∧ w'.cell? ⟨M, 1, none⟩ = some (.slice Ad fs.length cd) ∧ w'.cell? ⟨D, 1, none⟩ = some (.int .i64 sz) ∧ w'.cell? ⟨D, 2, none⟩ = some (.int .i64 th))
         (first | exact ⟨r0, r1, r2, r3⟩ | exact ⟨g0, g1, g2, g3⟩ | exact ⟨mc0, mc1, k1, k2⟩)
         (first
          | (go_at_call 33; (with_reducible refine (norm_c nn Ad cd fs _ HOR.out HLE.out).mono ?_); rintro e w6 ⟨v, rfl, hn⟩; (rw [HNB.out]; rw [HNL.out] at hn); obtain ⟨Av, cv, rfl⟩ := hn.1.rd.len; rw [nw_length] at hn ⊢; have HN6 := Lib.hid hn.2.1; have HR6 := Lib.hid (HOR.out.keep hn.2.1 (fun _ _ h => h)); have HQ6 := Lib.hid hn.1.rd; have g0 := hn.2.1.cell (w := w5.drew) (a := ⟨M, 0, none⟩) mc0 (fun h => h); have g1 := hn.2.1.cell (w := w5.drew) (a := ⟨M, 1, none⟩) mc1 (fun h => h); have g2 := hn.2.1.cell (w := w5.drew) (a := ⟨D, 1, none⟩) k1 (fun h => h); have g3 := hn.2.1.cell (w := w5.drew) (a := ⟨D, 2, none⟩) k2 (fun h => h); clear hn)
          | (go_at_call 62; (with_reducible refine (samenum_c nn nb fs L HLE.out Ad Av cd cv _ HR6.out HQ6.out).mono ?_); rintro e w7 ⟨rfl, hf7⟩; rw [HSM.out]; have r0 := hf7.cell (a := ⟨M, 0, none⟩) g0 (fun h => h); have r1 := hf7.cell (a := ⟨M, 1, none⟩) g1 (fun h => h); have r2 := hf7.cell (a := ⟨D, 1, none⟩) g2 (fun h => h); have r3 := hf7.cell (a := ⟨D, 2, none⟩) g3 (fun h => h); have HFE := Lib.hid ((((Fr.refl w5 (fun _ => False)).drew).trans HN6.out).trans hf7); clear hf7))) | fail)
        all_goals (go_wp2_with (fail); go_meet; exact ⟨by first | rfl | (simp; done) | (simp [*]; done), HFE⟩)
      | false => 
        (first | (go_region_with
         (first
          | (go_at_call 33; (with_reducible refine (norm_c nn Ad cd fs _ HOR.out HLE.out).mono ?_); rintro e w6 ⟨v, rfl, hn⟩; (rw [HNB.out]; rw [HNL.out] at hn); obtain ⟨Av, cv, rfl⟩ := hn.1.rd.len; rw [nw_length] at hn ⊢; have HN6 := Lib.hid hn.2.1; have HR6 := Lib.hid (HOR.out.keep hn.2.1 (fun _ _ h => h)); have HQ6 := Lib.hid hn.1.rd; have g0 := hn.2.1.cell (w := w5.drew) (a := ⟨M, 0, none⟩) mc0 (fun h => h); have g1 := hn.2.1.cell (w := w5.drew) (a := ⟨M, 1, none⟩) mc1 (fun h => h); have g2 := hn.2.1.cell (w := w5.drew) (a := ⟨D, 1, none⟩) k1 (fun h => h); have g3 := hn.2.1.cell (w := w5.drew) (a := ⟨D, 2, none⟩) k2 (fun h => h); clear hn)
          | (go_at_call 62; (with_reducible refine (samenum_c nn nb fs L HLE.out Ad Av cd cv _ HR6.out HQ6.out).mono ?_); rintro e w7 ⟨rfl, hf7⟩; rw [HSM.out]; have r0 := hf7.cell (a := ⟨M, 0, none⟩) g0 (fun h => h); have r1 := hf7.cell (a := ⟨M, 1, none⟩) g1 (fun h => h); have r2 := hf7.cell (a := ⟨D, 1, none⟩) g2 (fun h => h); have r3 := hf7.cell (a := ⟨D, 2, none⟩) g3 (fun h => h); have HFE := Lib.hid ((((Fr.refl w5 (fun _ => False)).drew).trans HN6.out).trans hf7); clear hf7))) | fail)
        all_goals (go_wp2_with (fail); go_meet; exact ⟨by first | rfl | (simp; done) | (simp [*]; done), HFE⟩)
     case rest =>
      obtain ⟨rfl, HC⟩ := hcut
      have HM6 := Lib.hid (HC.out.blk HM5.out (fun h => h))
      have HB6 := Lib.hid (HC.out.blk HB5.out (fun h => h))
      have HG6 := Lib.hid (HG5.out.fr HC.out)
      have HF6 := Lib.hid (HF5.out.trans (HC.out.mono (fun _ h _ => h.elim)))
      have HO6 := Lib.hid (HO5.out.keep HC.out (fun _ _ h => h))
      clear k0 k1 k2 k3 kf0 kf1 kf2 kf3 mc0 mc1 mcf0 mcf1 e1 e1' HOR
      by_cases hq : sm = false ∨ th ≠ 1
      ·have hb : (!sm || (th != 1)) = true := by
        rcases hq with h | h
        ·rw [h]; rfl
        ·simp [h]
       rw [hb]
       have HE : Hid (gr = none) := Lib.hid (by rw [HGD.out, if_pos hq])
       obtain ⟨x0, x1, x2, x3, x4, xf3, xf4⟩ := HG6.out.cells
       clear hq hb HGD
       go_upto_region 14 with (fail)
       have HG9 := Lib.hid (HG6.out.setbad true)
       have HB9 := Lib.hid ((HG6.out.setbad true).2.blk HB6.out (fun e => ne_of_types HB6.out HG6.out.gblk (by decide) e))
       have HF9 := Lib.hid (HF6.out.trans (HG6.out.setbad true).2)
       obtain ⟨W9, hW9⟩ : ∃ W9, wc.setCell ⟨X.g, 4, none⟩ (.bool true) = W9 := ⟨_, rfl⟩
       rw [hW9] at HG9 HB9 HF9
       (try simp only [hW9])
       clear hW9
       have HG10 := Lib.hid HG9.out.1
       clear HG9
       obtain ⟨z0, z1, z2, z3, z4, zf3, zf4⟩ := HG10.out.cells
       clear x0 x1 x2 x3 x4 xf3 xf4
       obtain ⟨gz0, gz1, gz2, gz3, gz4, gz5, gz6, gzf0, gzf1, gzf2, gzf3, gzf4, gzf5, gzf6⟩ := cells7 HB9.out
       go_wp2
       have hlt : ¬ B < w.heap.size := by have := HEW.out; omega
       refine bodyPost_ret (results_cell_row rfl _ _ B 26 #[.int .i64 0, .bool false, .slice none 0 0, .string ⟨#[]⟩, .int .i64 0, .slice none 0 0, .slice none 0 0] (0, 0) _ rfl (st7_blk (.int .i64 0) (.bool false) (.slice none 0 0) (.string ⟨#[]⟩) (.int .i64 0) (.slice none 0 0) (.slice none 0 0) HB9.out) Tryd.underlying26 rfl (by kernel_rfl)) rfl ?_
       have f7 := st7_fr W9 B (.int .i64 0) (.bool false) (.slice none 0 0) (.string ⟨#[]⟩) (.int .i64 0) (.slice none 0 0) (.slice none 0 0)
       rw [HE.out]
       exact ⟨_, _, _, rfl, Kd.R_nil _ _ _ _ _, Kd.R_nil _ _ _ _ _, Kd.R_nil _ _ _ _ _, HG10.out.far f7 (fun c T hc => by rw [HB9.out] at hc; simp at hc; exact hc.2.symm) ⟨_, _, HB9.out⟩, HF9.out.then_ f7 (fun i hi hl => absurd hl (by rw [hi]; exact hlt))⟩
      ·have hb : (!sm || (th != 1)) = false := by
        cases sm with
        | false => exact absurd (.inl rfl) hq
        | true =>
         by_cases h : th = 1
         ·rw [h]; rfl
         ·exact absurd (.inr h) hq
       rw [hb]
       have HE : Hid (gr = some (termNum nn fs)) := Lib.hid (by rw [HGD.out, if_neg hq])
       clear hq hb HGD
       have HW6 : Hid (w.heap.size ≤ wc.heap.size ∧ B < wc.heap.size) := Lib.hid ⟨HF6.out.size, fr_lt HB6.out⟩
       have mc0 : wc.cell? ⟨M, 0, none⟩ = some (.bool nn) := by simp [World.cell?, HM6.out]
       have mcf0 : wc.frozen? ⟨M, 0, none⟩ = false := by simp [World.frozen?, HM6.out]
       have mc1 : wc.cell? ⟨M, 1, none⟩ = some (.slice Ad fs.length cd) := by simp [World.cell?, HM6.out]
       have mcf1 : wc.frozen? ⟨M, 1, none⟩ = false := by simp [World.frozen?, HM6.out]
       go_wp2_with (first | (go_at_call 90; (with_reducible refine (termnum_c nn Ad cd fs _ HO6.out HLE.out).mono ?_); rintro e w7 ⟨v, rfl, hn⟩; obtain ⟨Av, cv, rfl⟩ := hn.1.rd.len; rw [nw_length] at hn ⊢; have HN7 := Lib.hid hn; have HG7 := Lib.hid (HG6.out.fr hn.2.1); have HB7 := Lib.hid (hn.2.1.blk HB6.out (fun h => h)); have HF7 := Lib.hid (HF6.out.trans (hn.2.1.mono (fun _ h _ => h.elim))); clear hn; have gz0 : w7.cell? ⟨B, 0, none⟩ = some (.int .i64 0) := (by simp [World.cell?, HB7.out]); have gzf0 : w7.frozen? ⟨B, 0, none⟩ = false := (by simp [World.frozen?, HB7.out]); have gz1 : w7.cell? ⟨B, 1, none⟩ = some (.bool false) := (by simp [World.cell?, HB7.out]); have gzf1 : w7.frozen? ⟨B, 1, none⟩ = false := (by simp [World.frozen?, HB7.out]); have gz2 : w7.cell? ⟨B, 2, none⟩ = some (.slice none 0 0) := (by simp [World.cell?, HB7.out]); have gzf2 : w7.frozen? ⟨B, 2, none⟩ = false := (by simp [World.frozen?, HB7.out]); have gz3 : w7.cell? ⟨B, 3, none⟩ = some (.string ⟨#[]⟩) := (by simp [World.cell?, HB7.out]); have gzf3 : w7.frozen? ⟨B, 3, none⟩ = false := (by simp [World.frozen?, HB7.out]); have gz4 : w7.cell? ⟨B, 4, none⟩ = some (.int .i64 0) := (by simp [World.cell?, HB7.out]); have gzf4 : w7.frozen? ⟨B, 4, none⟩ = false := (by simp [World.frozen?, HB7.out]); have gz5 : w7.cell? ⟨B, 5, none⟩ = some (.slice none 0 0) := (by simp [World.cell?, HB7.out]); have gzf5 : w7.frozen? ⟨B, 5, none⟩ = false := (by simp [World.frozen?, HB7.out]); have gz6 : w7.cell? ⟨B, 6, none⟩ = some (.slice none 0 0) := (by simp [World.cell?, HB7.out]); have gzf6 : w7.frozen? ⟨B, 6, none⟩ = false := (by simp [World.frozen?, HB7.out])))
       have hlt : ¬ B < w.heap.size := by have := HEW.out; omega
       refine bodyPost_ret (results_cell_row rfl _ _ B 26 #[.int .i64 0, .bool (normB nn fs), .slice Av (normD fs).length cv, .string eStr, .int .i64 0, .slice none 0 0, .slice none 0 0] (0, 0) _ rfl (st7_blk (.int .i64 0) (.bool (normB nn fs)) (.slice Av (normD fs).length cv) (.string eStr) (.int .i64 0) (.slice none 0 0) (.slice none 0 0) HB7.out) Tryd.underlying26 rfl (by kernel_rfl)) rfl ?_
       have f7 := st7_fr w7 B (.int .i64 0) (.bool (normB nn fs)) (.slice Av (normD fs).length cv) (.string eStr) (.int .i64 0) (.slice none 0 0) (.slice none 0 0)
       rw [HE.out]
       exact ⟨_, _, _, rfl, R_tail HN7.out.R HW6.out.1 HW6.out.2 f7, Kd.R_nil _ _ _ _ _, Kd.R_nil _ _ _ _ _, HG7.out.far f7 (fun c T hc => by rw [HB7.out] at hc; simp at hc; exact hc.2.symm) ⟨_, _, HB7.out⟩, HF7.out.then_ f7 (fun i hi hl => absurd hl (by rw [hi]; exact hlt))⟩
end Go.Proofs.YtjiaaefpepdoeaaDoor
namespace Go.Proofs.YtjiaaefpepdoeaaDoor
open Go.RowKit Md Go.Proofs.YtjiaaefpepdoeaaDoorW.PrintWords
open Go.Proofs.YtjiaaefpepdoeaaDoor.PSlideMeans (S26 z26 k26 k26_mkM)
set_option linter.unusedVariables false
set_option maxRecDepth 100000 in
set_option maxHeartbeats 8000000 in
theorem obj_bin (X : Gx) (ws : List Int) (size z th : Int) (nn : Bool) (a : Nat) (n : Int) (w : World) (hg : GG w X ws size n false) (ha : (a : Int) + 1 + z ≤ ws.length) :
  Calls Tryd.prog 81 #[.pointer (some ⟨X.g, 0, none⟩), .agg #[.int .i64 3, .int .i64 z, .int .i64 th, .bool nn], .int .i64 a] w fun e w' => GA w w' X ws size n (binM lookM ⟨3, z, th, nn⟩ (fieldsAt ws a z.toNat)) e := by
 have HA := Lib.hid ha
 obtain ⟨gr, hgr⟩ : ∃ gr, binM lookM ⟨3, z, th, nn⟩ (fieldsAt ws a z.toNat) = gr := ⟨_, rfl⟩
 rw [hgr]
 have HGA := Lib.hid hgr
 clear ha hgr
 have hb0 : (w.alloc (.cells #[.int .i64 3, .int .i64 z, .int .i64 th, .bool nn] 68)).heap[w.heap.size]? = some (.cells #[.int .i64 3, .int .i64 z, .int .i64 th, .bool nn] 68 (0, 0)) := blk_new _ _ _
 obtain ⟨D, hD⟩ : ∃ D, w.heap.size = D := ⟨_, rfl⟩
 obtain ⟨w1, hw1⟩ : ∃ w1, w.alloc (.cells #[.int .i64 3, .int .i64 z, .int .i64 th, .bool nn] 68) = w1 := ⟨_, rfl⟩
 have hf1 : Fr w w1 (fun _ => False) := by rw [← hw1]; exact (Fr.refl w _).alloc _
 have hs1 : w1.heap.size = D + 1 := by rw [← hw1, ← hD]; simp
 have hb1 : (w1.alloc (.cells #[.int .i64 0, .bool false, .slice none 0 0, .string ⟨#[]⟩, .int .i64 0, .slice none 0 0, .slice none 0 0] 26)).heap[w1.heap.size]? = some (.cells #[.int .i64 0, .bool false, .slice none 0 0, .string ⟨#[]⟩, .int .i64 0, .slice none 0 0, .slice none 0 0] 26 (0, 0)) := blk_new _ _ _
 obtain ⟨B, hB⟩ : ∃ B, w1.heap.size = B := ⟨_, rfl⟩
 obtain ⟨w2, hw2⟩ : ∃ w2, w1.alloc (.cells #[.int .i64 0, .bool false, .slice none 0 0, .string ⟨#[]⟩, .int .i64 0, .slice none 0 0, .slice none 0 0] 26) = w2 := ⟨_, rfl⟩
 have hf2 : Fr w w2 (fun _ => False) := by rw [← hw2]; exact hf1.alloc _
 have hb02 : w2.heap[D]? = some (.cells #[.int .i64 3, .int .i64 z, .int .i64 th, .bool nn] 68 (0, 0)) := by
  rw [← hw2, ← hD]; exact ((Fr.refl w1 (fun _ => False)).alloc _).blk (by rw [← hw1]; exact hb0) (fun h => h)
 rw [hw2, hB] at hb1
 have HB0 := Lib.hid hb02
 have HB1 := Lib.hid hb1
 have HF2 : Hid (Fr w w2 (fun i => i = X.g)) := Lib.hid (hf2.mono (fun _ h _ => h.elim))
 have HG2 := Lib.hid (hg.fr hf2)
 have HBW : Hid (B = D + 1 ∧ D = w.heap.size ∧ w2.heap.size = B + 1) := Lib.hid ⟨by rw [← hB, hs1], hD.symm, by rw [← hw2, ← hB]; simp⟩
 clear hf1 hs1 hf2 hb02 hb1 hb0 hg
 have k0 : w2.cell? ⟨D, 0, none⟩ = some (.int .i64 3) := by simp [World.cell?, HB0.out]
 have kf0 : w2.frozen? ⟨D, 0, none⟩ = false := by simp [World.frozen?, HB0.out]
 have k1 : w2.cell? ⟨D, 1, none⟩ = some (.int .i64 z) := by simp [World.cell?, HB0.out]
 have kf1 : w2.frozen? ⟨D, 1, none⟩ = false := by simp [World.frozen?, HB0.out]
 have k2 : w2.cell? ⟨D, 2, none⟩ = some (.int .i64 th) := by simp [World.cell?, HB0.out]
 have kf2 : w2.frozen? ⟨D, 2, none⟩ = false := by simp [World.frozen?, HB0.out]
 have k3 : w2.cell? ⟨D, 3, none⟩ = some (.bool nn) := by simp [World.cell?, HB0.out]
 have kf3 : w2.frozen? ⟨D, 3, none⟩ = false := by simp [World.frozen?, HB0.out]
 obtain ⟨x0, x1, x2, x3, x4, xf3, xf4⟩ := HG2.out.cells
 go_enter Tryd.func81, Tryd.ntmps81
 go_upto_region 1 with (fail)
 (try simp only [hw1, hw2, hB, hD])
 clear hw1 hw2 hB hD
 have HW2 : Hid (w.heap.size ≤ w2.heap.size ∧ B < w2.heap.size) := Lib.hid ⟨HF2.out.size, fr_lt HB1.out⟩
 have HBC := Lib.hid (bin_c X ⟨3, z, th, nn⟩ a n size ws w2 HG2.out HA.out)
 obtain ⟨tm, htm⟩ : ∃ tm, gr.getD z26 = tm := ⟨_, rfl⟩
 have HTM := Lib.hid htm
 clear htm
 go_wp2_with (first | (go_at_call 92; (with_reducible refine HBC.out.mono ?_); rintro e w6 ⟨v2, v5, v6, rfl, h2, h5, h6, hg6, hf6⟩; rw [HGA.out, HTM.out] at h2 h5 h6 ⊢; obtain ⟨A2, c2, rfl⟩ := Kd.R_slice h2; obtain ⟨A5, c5, rfl⟩ := Kd.R_slice h5; obtain ⟨A6, c6, rfl⟩ := Kd.R_slice h6; rw [HGA.out] at hg6; have H2 := Lib.hid h2; have H5 := Lib.hid h5; have H6 := Lib.hid h6; have HG6 := Lib.hid hg6; have HB6 := Lib.hid (hf6.blk HB1.out (fun e => ne_of_types HB1.out HG2.out.gblk (by decide) e)); have HF6 := Lib.hid (HF2.out.trans hf6); clear h2 h5 h6 hg6 hf6; have gz0 : w6.cell? ⟨B, 0, none⟩ = some (.int .i64 0) := (by simp [World.cell?, HB6.out]); have gzf0 : w6.frozen? ⟨B, 0, none⟩ = false := (by simp [World.frozen?, HB6.out]); have gz1 : w6.cell? ⟨B, 1, none⟩ = some (.bool false) := (by simp [World.cell?, HB6.out]); have gzf1 : w6.frozen? ⟨B, 1, none⟩ = false := (by simp [World.frozen?, HB6.out]); have gz2 : w6.cell? ⟨B, 2, none⟩ = some (.slice none 0 0) := (by simp [World.cell?, HB6.out]); have gzf2 : w6.frozen? ⟨B, 2, none⟩ = false := (by simp [World.frozen?, HB6.out]); have gz3 : w6.cell? ⟨B, 3, none⟩ = some (.string ⟨#[]⟩) := (by simp [World.cell?, HB6.out]); have gzf3 : w6.frozen? ⟨B, 3, none⟩ = false := (by simp [World.frozen?, HB6.out]); have gz4 : w6.cell? ⟨B, 4, none⟩ = some (.int .i64 0) := (by simp [World.cell?, HB6.out]); have gzf4 : w6.frozen? ⟨B, 4, none⟩ = false := (by simp [World.frozen?, HB6.out]); have gz5 : w6.cell? ⟨B, 5, none⟩ = some (.slice none 0 0) := (by simp [World.cell?, HB6.out]); have gzf5 : w6.frozen? ⟨B, 5, none⟩ = false := (by simp [World.frozen?, HB6.out]); have gz6 : w6.cell? ⟨B, 6, none⟩ = some (.slice none 0 0) := (by simp [World.cell?, HB6.out]); have gzf6 : w6.frozen? ⟨B, 6, none⟩ = false := (by simp [World.frozen?, HB6.out])))
 have hlt : ¬ B < w.heap.size := by have := HBW.out; omega
 refine bodyPost_ret (results_cell_row rfl _ _ B 26 #[.int .i64 tm.f0, .bool tm.f1, .slice A2 tm.f2.length c2, .string tm.f3, .int .i64 tm.f4, .slice A5 tm.f5.length c5, .slice A6 tm.f6.length c6] (0, 0) _ rfl (st7_blk (.int .i64 tm.f0) (.bool tm.f1) (.slice A2 tm.f2.length c2) (.string tm.f3) (.int .i64 tm.f4) (.slice A5 tm.f5.length c5) (.slice A6 tm.f6.length c6) HB6.out) Tryd.underlying26 rfl (by kernel_rfl)) rfl ?_
 have f7 := st7_fr w6 B (.int .i64 tm.f0) (.bool tm.f1) (.slice A2 tm.f2.length c2) (.string tm.f3) (.int .i64 tm.f4) (.slice A5 tm.f5.length c5) (.slice A6 tm.f6.length c6)
 unfold GA
 rw [HTM.out]
 exact ⟨_, _, _, rfl, R_tail H2.out HW2.out.1 HW2.out.2 f7, R_tail H5.out HW2.out.1 HW2.out.2 f7, R_tail H6.out HW2.out.1 HW2.out.2 f7, HG6.out.far f7 (fun c T hc => by rw [HB6.out] at hc; simp at hc; exact hc.2.symm) ⟨_, _, HB6.out⟩, HF6.out.then_ f7 (fun i hi hl => absurd hl (by rw [hi]; exact hlt))⟩
theorem obj_of (X : Gx) (ws : List Int) (size : Int) (f : Nat) (ih : GetC X ws size f) : ObjC X ws size f := by
 intro h a n w hob hg hn hf
 obtain ⟨h0, h1, hrd, hz0, hz1, hz2⟩ := obj_facts hob
 obtain ⟨k, rfl⟩ := Int.eq_ofNat_of_zero_le h0
 obtain ⟨kd, z, th, nn⟩ := h
 simp only at hz0 hz1 hz2 ⊢
 have hkd : 0 ≤ kd ∧ kd ≤ 3 := by
  unfold readH at hrd
  split at hrd
  ·injection hrd with hrd
   have hkk : kd = valW (ws.getD (k : Int).toNat 0) % 4 := by
    have := congrArg Hdr.kind hrd
    exact this.symm
   omega
  ·cases hrd
 obtain ⟨sz, rfl⟩ := Int.eq_ofNat_of_zero_le hz0
 rw [Int.toNat_natCast]
 have key : kd = 2 ∨ kd = 3 ∨ (kd = 0 ∨ kd = 1) := by omega
 rcases key with rfl | rfl | hk
 ·have := obj_big X ws size th sz nn k n w hg (by omega)
  exact this
 ·have := obj_bin X ws size sz th nn k n w hg (by omega)
  exact this
 ·have := obj_row X ws size f ih kd th sz nn k n w hk hg (by omega) hn hf
  have e : objM lookM trT (getM ws nmAB lookM trT f) n ⟨kd, sz, th, nn⟩ (fieldsAt ws k sz) = rowM trT (getM ws nmAB lookM trT f) n ⟨kd, sz, th, nn⟩ (fieldsAt ws k sz) := by
   unfold objM
   rw [if_neg (by show kd ≠ 2; omega), if_neg (by show kd ≠ 3; omega)]
  rw [e]
  exact this
theorem gget_c (X : Gx) (ws : List Int) (size : Int) : ∀ f, GetC X ws size f
 | 0 => fun n x w hx hg hn hf => absurd hf (by omega)
 | f + 1 => get_of X ws size f (obj_of X ws size f (gget_c X ws size f))
end Go.Proofs.YtjiaaefpepdoeaaDoor
namespace Go.Proofs.YtjiaaefpepdoeaaDoor
open Go.RowKit Md Go.Proofs.YtjiaaefpepdoeaaDoorW.PrintWords
open Go.Proofs.YtjiaaefpepdoeaaDoor.PSlideMeans (S26 z26 k26 k26_mkM)
set_option linter.unusedVariables false
structure GS (W : World) (X : Gx) (ws : List Int) (size : Int) : Prop where
 mem : Ar 46 W X.q X.vm ws size
 nblk : W.heap[X.t]? = some (.cells #[.slice (some ⟨X.gn, 0, none⟩) 2 X.cn] 35 (0, 0))
 nown : Own W 9 (.slice (some ⟨X.gn, 0, none⟩) 2 X.cn) [.string sA, .string sB]
 sto : StS W X.s X.gb X.cb X.gp X.cp X.gs X.cs X.gc X.cc
theorem GS.fr {W W1 : World} {X : Gx} {ws : List Int} {size : Int} (h : GS W X ws size) (hf : Fr W W1 fun _ => False) : GS W1 X ws size := ⟨h.mem.fr hf, hf.blk h.nblk (fun h => h), h.nown.keep hf (fun _ _ h => h), h.sto.fr hf⟩
theorem GS.gg {W : World} {X : Gx} {ws : List Int} {size : Int} (h : GS W X ws size) {g : Nat} (hg : W.heap[g]? = some (.cells #[.pointer (some ⟨X.q, 0, none⟩), .pointer (some ⟨X.t, 0, none⟩), .pointer (some ⟨X.s, 0, none⟩), .int .i64 0, .bool false] 115 (0, 0))) : GG W { X with g := g } ws size 0 false := ⟨h.mem, h.nblk, h.nown, h.sto, hg⟩
noncomputable def termM (ws : List Int) (x : Int) : Option S26 := (getM ws nmAB lookM trT 65537 0 x).2
theorem okT_termM {ws : List Int} (hok : okWs ws) {x : Int} (hx : okW x) : OkT 65538 ((termM ws x).getD z26) := by
 cases h : termM ws x with
 | none => exact okT_z.mono (by omega)
 | some t => exact okT_getM hok _ _ _ _ hx h
def GTA (w w' : World) (r : Option S26) (e : Ending) : Prop :=
 ∃ v2 v5 v6, e = .returned (.tuple #[.agg #[.int .i64 (r.getD z26).f0, .bool (r.getD z26).f1, v2, .string (r.getD z26).f3, .int .i64 (r.getD z26).f4, v5, v6], .bool r.isSome]) ∧ (Kd.int .u32).R 123 w' w.heap.size (fun k => w.heap.size ≤ k) v2 (r.getD z26).f2 ∧ k26.R 26 w' w.heap.size (fun k => w.heap.size ≤ k) v5 (r.getD z26).f5 ∧ (Kd.int .u8).R 5 w' w.heap.size (fun k => w.heap.size ≤ k) v6 (r.getD z26).f6 ∧ Fr w w' (fun _ => False)
set_option maxRecDepth 100000 in
set_option maxHeartbeats 8000000 in
theorem getterm_c (X : Gx) (ws : List Int) (size x : Int) (w : World) (hg : GS w X ws size) (hx : okW x) :
  Calls Tryd.prog 23 #[.pointer (some ⟨X.q, 0, none⟩), .pointer (some ⟨X.t, 0, none⟩), .int .u64 x, .pointer (some ⟨X.s, 0, none⟩)] w (fun e w' => GTA w w' (termM ws x) e) := by
 have hb1 : (w.alloc (.cells #[.int .i64 0, .bool false, .slice none 0 0, .string ⟨#[]⟩, .int .i64 0, .slice none 0 0, .slice none 0 0] 26)).heap[w.heap.size]? = some (.cells #[.int .i64 0, .bool false, .slice none 0 0, .string ⟨#[]⟩, .int .i64 0, .slice none 0 0, .slice none 0 0] 26 (0, 0)) := blk_new _ _ _
 obtain ⟨B, hB⟩ : ∃ B, w.heap.size = B := ⟨_, rfl⟩
 obtain ⟨w1, hw1⟩ : ∃ w1, w.alloc (.cells #[.int .i64 0, .bool false, .slice none 0 0, .string ⟨#[]⟩, .int .i64 0, .slice none 0 0, .slice none 0 0] 26) = w1 := ⟨_, rfl⟩
 have hf1 : Fr w w1 (fun _ => False) := by rw [← hw1]; exact (Fr.refl w _).alloc _
 have hs1 : w1.heap.size = B + 1 := by rw [← hw1, ← hB]; simp
 rw [hw1, hB] at hb1
 have hb2 : (w1.alloc (.cells #[.pointer (some ⟨X.q, 0, none⟩), .pointer (some ⟨X.t, 0, none⟩), .pointer (some ⟨X.s, 0, none⟩), .int .i64 0, .bool false] 115)).heap[w1.heap.size]? = some (.cells #[.pointer (some ⟨X.q, 0, none⟩), .pointer (some ⟨X.t, 0, none⟩), .pointer (some ⟨X.s, 0, none⟩), .int .i64 0, .bool false] 115 (0, 0)) := blk_new _ _ _
 obtain ⟨G, hG⟩ : ∃ G, w1.heap.size = G := ⟨_, rfl⟩
 obtain ⟨w2, hw2⟩ : ∃ w2, w1.alloc (.cells #[.pointer (some ⟨X.q, 0, none⟩), .pointer (some ⟨X.t, 0, none⟩), .pointer (some ⟨X.s, 0, none⟩), .int .i64 0, .bool false] 115) = w2 := ⟨_, rfl⟩
 have hf12 : Fr w1 w2 (fun _ => False) := by rw [← hw2]; exact (Fr.refl w1 _).alloc _
 rw [hw2, hG] at hb2
 have HB2 := Lib.hid (hf12.blk hb1 (fun h => h))
 have HF2 := Lib.hid (hf1.trans hf12)
 have HG2 := Lib.hid ((hg.fr (hf1.trans hf12)).gg hb2)
 have HBG : Hid (B = w.heap.size ∧ G = B + 1 ∧ w2.heap.size = G + 1) := Lib.hid ⟨hB.symm, by rw [← hG]; exact hs1, by rw [← hw2, ← hG]; simp⟩
 have HX := Lib.hid hx
 obtain ⟨gm, hgm⟩ : ∃ gm, getM ws nmAB lookM trT 65537 0 x = gm := ⟨_, rfl⟩
 obtain ⟨gN, gr⟩ := gm
 have hcall := gget_c { X with g := G } ws size 65537 0 x w2 hx HG2.out (by omega) (by omega)
 rw [hgm] at hcall
 have hr : termM ws x = gr := by unfold termM; rw [hgm]
 rw [hr]
 obtain ⟨tm, htm⟩ : ∃ tm, gr.getD z26 = tm := ⟨_, rfl⟩
 have HTM := Lib.hid htm
 obtain ⟨g2, hg2⟩ : ∃ g2 : Int, (gN : Int) = g2 := ⟨_, rfl⟩
 simp only [hg2] at hcall
 have HCALL := Lib.hid hcall
 clear hf1 hf12 hb1 hb2 hs1 hg hx hgm hr htm hcall hg2
 go_enter Tryd.func23, Tryd.ntmps23
 go_upto_region 2 with (fail)
 (try simp only [hw1, hB])
 (try simp only [hw2, hG])
 clear hw1 hB hw2 hG
 go_upto_region 3 with (first | (go_at_call 57; (with_reducible refine HCALL.out.mono ?_); rintro e w3 ⟨v2, v5, v6, rfl, h2, h5, h6, hg3, hf3⟩; rw [HTM.out] at h2 h5 h6 ⊢; obtain ⟨B2, b2, rfl⟩ := Kd.R_slice h2; obtain ⟨B5, b5, rfl⟩ := Kd.R_slice h5; obtain ⟨B6, b6, rfl⟩ := Kd.R_slice h6; have H2 := Lib.hid h2; have H5 := Lib.hid h5; have H6 := Lib.hid h6; have HG3 := Lib.hid hg3; have HF3 := Lib.hid hf3; clear h2 h5 h6 hg3 hf3))
 obtain ⟨F, hF⟩ : ∃ F, w3.heap.size = F := ⟨_, rfl⟩
 obtain ⟨w4, hw4⟩ : ∃ w4, w3.alloc (.cells #[.int .i64 tm.f0, .bool tm.f1, .slice B2 tm.f2.length b2, .string tm.f3, .int .i64 tm.f4, .slice B5 tm.f5.length b5, .slice B6 tm.f6.length b6] 26) = w4 := ⟨_, rfl⟩
 have HFB : Hid (w4.heap[F]? = some (.cells #[.int .i64 tm.f0, .bool tm.f1, .slice B2 tm.f2.length b2, .string tm.f3, .int .i64 tm.f4, .slice B5 tm.f5.length b5, .slice B6 tm.f6.length b6] 26 (0, 0))) := Lib.hid (by rw [← hw4, ← hF]; exact blk_new _ _ _)
 have f34 : Fr w3 w4 (fun _ => False) := by rw [← hw4]; exact (Fr.refl w3 _).alloc _
 have HF34 := Lib.hid f34
 have HB4 : Hid (w4.heap[B]? = some (.cells #[.int .i64 0, .bool false, .slice none 0 0, .string ⟨#[]⟩, .int .i64 0, .slice none 0 0, .slice none 0 0] 26 (0, 0))) := Lib.hid (f34.blk (HF3.out.blk HB2.out (fun e => by have := HBG.out; omega)) (fun h => h))
 have HG4 := Lib.hid (HG3.out.fr f34)
 have HF4 : Hid (Fr w w4 (fun _ => False)) := Lib.hid ((HF2.out.then_ HF3.out (fun i hi hl => by have := HBG.out; omega)).trans f34)
 (try simp only [hw4, hF])
 clear hw4 hF f34
 obtain ⟨x0, x1, x2, x3, x4, xf3, xf4⟩ := HG4.out.cells
 simp only at x0 x1 x2 x3 x4 xf3 xf4
 have HWW : Hid (w.heap.size ≤ w2.heap.size ∧ B < w2.heap.size) := Lib.hid (by have := HBG.out; omega)
 have mc0 : w4.cell? ⟨F, 0, none⟩ = some (.int .i64 tm.f0) := by simp [World.cell?, HFB.out]
 have mcf0 : w4.frozen? ⟨F, 0, none⟩ = false := by simp [World.frozen?, HFB.out]
 have mc1 : w4.cell? ⟨F, 1, none⟩ = some (.bool tm.f1) := by simp [World.cell?, HFB.out]
 have mcf1 : w4.frozen? ⟨F, 1, none⟩ = false := by simp [World.frozen?, HFB.out]
 have mc2 : w4.cell? ⟨F, 2, none⟩ = some (.slice B2 tm.f2.length b2) := by simp [World.cell?, HFB.out]
 have mcf2 : w4.frozen? ⟨F, 2, none⟩ = false := by simp [World.frozen?, HFB.out]
 have mc3 : w4.cell? ⟨F, 3, none⟩ = some (.string tm.f3) := by simp [World.cell?, HFB.out]
 have mcf3 : w4.frozen? ⟨F, 3, none⟩ = false := by simp [World.frozen?, HFB.out]
 have mc4 : w4.cell? ⟨F, 4, none⟩ = some (.int .i64 tm.f4) := by simp [World.cell?, HFB.out]
 have mcf4 : w4.frozen? ⟨F, 4, none⟩ = false := by simp [World.frozen?, HFB.out]
 have mc5 : w4.cell? ⟨F, 5, none⟩ = some (.slice B5 tm.f5.length b5) := by simp [World.cell?, HFB.out]
 have mcf5 : w4.frozen? ⟨F, 5, none⟩ = false := by simp [World.frozen?, HFB.out]
 have mc6 : w4.cell? ⟨F, 6, none⟩ = some (.slice B6 tm.f6.length b6) := by simp [World.cell?, HFB.out]
 have mcf6 : w4.frozen? ⟨F, 6, none⟩ = false := by simp [World.frozen?, HFB.out]
 have gz0 : w4.cell? ⟨B, 0, none⟩ = some (.int .i64 0) := by simp [World.cell?, HB4.out]
 have gzf0 : w4.frozen? ⟨B, 0, none⟩ = false := by simp [World.frozen?, HB4.out]
 have gz1 : w4.cell? ⟨B, 1, none⟩ = some (.bool false) := by simp [World.cell?, HB4.out]
 have gzf1 : w4.frozen? ⟨B, 1, none⟩ = false := by simp [World.frozen?, HB4.out]
 have gz2 : w4.cell? ⟨B, 2, none⟩ = some (.slice none 0 0) := by simp [World.cell?, HB4.out]
 have gzf2 : w4.frozen? ⟨B, 2, none⟩ = false := by simp [World.frozen?, HB4.out]
 have gz3 : w4.cell? ⟨B, 3, none⟩ = some (.string ⟨#[]⟩) := by simp [World.cell?, HB4.out]
 have gzf3 : w4.frozen? ⟨B, 3, none⟩ = false := by simp [World.frozen?, HB4.out]
 have gz4 : w4.cell? ⟨B, 4, none⟩ = some (.int .i64 0) := by simp [World.cell?, HB4.out]
 have gzf4 : w4.frozen? ⟨B, 4, none⟩ = false := by simp [World.frozen?, HB4.out]
 have gz5 : w4.cell? ⟨B, 5, none⟩ = some (.slice none 0 0) := by simp [World.cell?, HB4.out]
 have gzf5 : w4.frozen? ⟨B, 5, none⟩ = false := by simp [World.frozen?, HB4.out]
 have gz6 : w4.cell? ⟨B, 6, none⟩ = some (.slice none 0 0) := by simp [World.cell?, HB4.out]
 have gzf6 : w4.frozen? ⟨B, 6, none⟩ = false := by simp [World.frozen?, HB4.out]
 cases gr with
 | none =>
  have htz : tm = z26 := by rw [← HTM.out]; rfl
  subst htz
  simp only [Option.isNone_none] at x4
  go_wp2
  refine bodyPost_ret (results_ct rfl _ _ B 26 #[.int .i64 0, .bool false, .slice none 0 0, .string ⟨#[]⟩, .int .i64 0, .slice none 0 0, .slice none 0 0] (0, 0) _ rfl (st7_blk (.int .i64 0) (.bool false) (.slice none 0 0) (.string ⟨#[]⟩) (.int .i64 0) (.slice none 0 0) (.slice none 0 0) HB4.out) Tryd.underlying26 rfl (by kernel_rfl)) rfl ?_
  have f7 := st7_fr w4 B (.int .i64 0) (.bool false) (.slice none 0 0) (.string ⟨#[]⟩) (.int .i64 0) (.slice none 0 0) (.slice none 0 0)
  exact ⟨_, _, _, rfl, Kd.R_nil _ _ _ _ _, Kd.R_nil _ _ _ _ _, Kd.R_nil _ _ _ _ _, HF4.out.then_ f7 (fun i hi hl => by have := HBG.out; omega)⟩
 | some t =>
  have htz : tm = t := by rw [← HTM.out]; rfl
  subst htz
  simp only [Option.isNone_some] at x4
  go_wp2
  refine bodyPost_ret (results_ct rfl _ _ B 26 #[.int .i64 tm.f0, .bool tm.f1, .slice B2 tm.f2.length b2, .string tm.f3, .int .i64 tm.f4, .slice B5 tm.f5.length b5, .slice B6 tm.f6.length b6] (0, 0) _ rfl (st7_blk (.int .i64 tm.f0) (.bool tm.f1) (.slice B2 tm.f2.length b2) (.string tm.f3) (.int .i64 tm.f4) (.slice B5 tm.f5.length b5) (.slice B6 tm.f6.length b6) HB4.out) Tryd.underlying26 rfl (by kernel_rfl)) rfl ?_
  have f7 := st7_fr w4 B (.int .i64 tm.f0) (.bool tm.f1) (.slice B2 tm.f2.length b2) (.string tm.f3) (.int .i64 tm.f4) (.slice B5 tm.f5.length b5) (.slice B6 tm.f6.length b6)
  have up : ∀ {α : Type} {d : Kd α} {e : TypeId} {v : Value} {xs : List α}, d.R e w3 w2.heap.size (fun k => w2.heap.size ≤ k) v xs → d.R e w4 w2.heap.size (fun k => w2.heap.size ≤ k) v xs := fun h => Kd.R_step h (fun k _ hlt => HF34.out.block k hlt (fun h => h))
  exact ⟨_, _, _, rfl, R_tail (up H2.out) HWW.out.1 HWW.out.2 f7, R_tail (up H5.out) HWW.out.1 HWW.out.2 f7, R_tail (up H6.out) HWW.out.1 HWW.out.2 f7, HF4.out.then_ f7 (fun i hi hl => by have := HBG.out; omega)⟩
end Go.Proofs.YtjiaaefpepdoeaaDoor
