/-
  LAW: WordHeads, some of its cases: the law's walk. Conditions: those of each theorem.
-/
import Derived.Test.YtficfpidodbdcaaHd0
import Derived.Test.YtficfpidodbdcaaCls
import Derived.Lib.Hide
import Derived.Deep.RegionHeld3
namespace Go.Proofs.Ytficfpidodbdcaa.Wd
open Go.RowKit Go.Proofs.Ytficfpidodbdcaa.PWordHeads Go.Proofs.YtficfpidodbdcaaW.PrintWords Go.Proofs.YtficfpidodbdcaaW.PrintLast
open Go.Proofs.Ytficfpidodbdcaa.Md
set_option linter.unusedVariables false
set_option maxRecDepth 100000 in
set_option maxHeartbeats 8000000 in
theorem heads_may_ok (k z t : Int) (n : Bool) (x : Int) (w : World) (ka za ta : Int) (na : Bool) (u f : Int) (hm1 : 0 ≤ k) (hm2 : k ≤ 3) (hm3 : 0 ≤ z) (hm4 : z < 1048576) (hm5 : 0 ≤ t) (hm6 : t < 1048576)
    (Hx : RowKit.Hid (okW x)) (Hu : RowKit.Hid (makeH ⟨k, z, t, n⟩ = u)) (Hku : RowKit.Hid (okW u)) (Hr : RowKit.Hid (readP x = (ka, za, ta, na, true)))
    (Hru : RowKit.Hid (readP u = (k, z, t, n, true))) (Hf : RowKit.Hid (fieldsH ⟨k, z, t, n⟩ = f)) (Hmx : RowKit.Hid (makeH ⟨ka, za, ta, na⟩ = x)):
    Calls Try.prog 6 #[.agg #[.int .i64 k, .int .i64 z, .int .i64 t, .bool n], .int .u64 x] w (HdEnds w) := by
  go_enter Try.func6, Try.ntmps6
  go_wp2_with (first | (go_at_call 7; (with_reducible refine (awake_c _).mono ?_); rintro e w' ⟨rfl, ⟨nd, rfl⟩⟩))
  go_region_held3 (fun w' => w'.cell? ⟨w.heap.size, 0, none⟩ = some (.int .i64 k) ∧ w'.cell? ⟨w.heap.size, 1, none⟩ = some (.int .i64 z) ∧ w'.cell? ⟨w.heap.size, 2, none⟩ = some (.int .i64 t) ∧ w'.cell? ⟨w.heap.size, 3, none⟩ = some (.bool n) ∧ Below w.heap.size w w')
    (first | (obtain ⟨q0, q1, q2, q3, q4⟩ := ‹World.cell? _ _ = some (Value.int IntKind.i64 k) ∧ _›; exact ⟨pw_cell_below hb q0, pw_cell_below hb q1, pw_cell_below hb q2, pw_cell_below hb q3, hd_keep q4 hb⟩) | ((repeat' (with_reducible refine And.intro ?_ ?_)) <;> first | assumption | (refine (World.cell?_alloc_past _ _ _ hz1).trans ?_; assumption) | (refine (World.cell?_alloc_past _ _ _ hz2).trans ?_; assumption) | (refine pw_cell_below hb ?_; first | assumption | (simp [go_sem]; done)) | (refine hd_keep ?_ hb; (repeat (first | exact Below.refl _ _ | assumption | apply pw_below_drewN | apply below_drew | (refine hd_below_alloc ?_ _ (by first | exact b1.size | (simp; done) | (simp; omega))))); done) | (simp [go_sem]; done) | exact below_drew (hd_below_alloc b1 _ b1.size) | (repeat (first | exact Below.refl _ _ | assumption | apply pw_below_drewN | apply below_drew | (refine hd_below_alloc ?_ _ (by first | exact b1.size | (simp; done) | (simp; omega)))))))
    (first
      | (go_at_call 17; (with_reducible refine (header_c k z t n _).mono ?_); rintro e w' ⟨rfl, hb⟩)
      | (go_at_call 16; (with_reducible refine (make_c k z t n u _ Hu.out).mono ?_); rintro e w' ⟨rfl, hb⟩)
      | (go_at_call 20; (with_reducible refine (rmake_c k z t n u _ Hu.out).mono ?_); rintro e w' ⟨rfl, hb⟩))
  rename_i w1 hS1
  obtain ⟨s1, s2, s3, s4, b1⟩ := hS1
  go_wp2_with fail
  (with_reducible refine (read_c x ka za ta na true _ Hx.out Hr.out).mono ?_)
  rintro e w2 ⟨rfl, hb2⟩
  replace s1 := pw_cell_below hb2 s1
  replace s2 := pw_cell_below hb2 s2
  replace s3 := pw_cell_below hb2 s3
  replace s4 := pw_cell_below hb2 s4
  replace b1 := hd_keep b1 hb2
  clear hb2
  go_wp2_with fail
  (with_reducible refine (rread_c x ka za ta na true _ Hx.out Hr.out).mono ?_)
  rintro e w3 ⟨rfl, hb3⟩
  have hw2 := World.block_lt_of_cell? w2 _ s1
  have a1 : w3.cell? ⟨w2.heap.size, 0, none⟩ = some (.int .i64 ka) := pw_cell_below hb3 (by simp [go_sem])
  have a2 : w3.cell? ⟨w2.heap.size, 1, none⟩ = some (.int .i64 za) := pw_cell_below hb3 (by simp [go_sem])
  have a3 : w3.cell? ⟨w2.heap.size, 2, none⟩ = some (.int .i64 ta) := pw_cell_below hb3 (by simp [go_sem])
  have a4 : w3.cell? ⟨w2.heap.size, 3, none⟩ = some (.bool na) := pw_cell_below hb3 (by simp [go_sem])
  replace s1 := pw_cell_below hb3 ((World.cell?_alloc_past _ _ _ hw2).trans s1)
  replace s2 := pw_cell_below hb3 ((World.cell?_alloc_past _ _ _ hw2).trans s2)
  replace s3 := pw_cell_below hb3 ((World.cell?_alloc_past _ _ _ hw2).trans s3)
  replace s4 := pw_cell_below hb3 ((World.cell?_alloc_past _ _ _ hw2).trans s4)
  replace b1 := hd_keep (hd_below_alloc b1 _ b1.size) hb3
  clear hb3 hw2
  have hz1 : w.heap.size < w3.heap.size := World.block_lt_of_cell? w3 _ s1
  have hz2 : w2.heap.size < w3.heap.size := World.block_lt_of_cell? w3 _ a1
  go_wp2_with fail
  go_region_held3 (fun w' => w'.cell? ⟨w.heap.size, 0, none⟩ = some (.int .i64 k) ∧ w'.cell? ⟨w.heap.size, 1, none⟩ = some (.int .i64 z) ∧ w'.cell? ⟨w.heap.size, 2, none⟩ = some (.int .i64 t) ∧ w'.cell? ⟨w.heap.size, 3, none⟩ = some (.bool n) ∧ w'.cell? ⟨w2.heap.size, 0, none⟩ = some (.int .i64 ka) ∧ w'.cell? ⟨w2.heap.size, 1, none⟩ = some (.int .i64 za) ∧ w'.cell? ⟨w2.heap.size, 2, none⟩ = some (.int .i64 ta) ∧ w'.cell? ⟨w2.heap.size, 3, none⟩ = some (.bool na) ∧ w'.cell? ⟨w3.heap.size, 0, none⟩ = some (.int .i64 ka) ∧ w'.cell? ⟨w3.heap.size, 1, none⟩ = some (.int .i64 za) ∧ w'.cell? ⟨w3.heap.size, 2, none⟩ = some (.int .i64 ta) ∧ w'.cell? ⟨w3.heap.size, 3, none⟩ = some (.bool na) ∧ Below w.heap.size w w')
    (first | (obtain ⟨q0, q1, q2, q3, q4, q5, q6, q7, q8, q9, q10, q11, q12⟩ := ‹World.cell? _ _ = some (Value.int IntKind.i64 k) ∧ _›; exact ⟨pw_cell_below hb q0, pw_cell_below hb q1, pw_cell_below hb q2, pw_cell_below hb q3, pw_cell_below hb q4, pw_cell_below hb q5, pw_cell_below hb q6, pw_cell_below hb q7, pw_cell_below hb q8, pw_cell_below hb q9, pw_cell_below hb q10, pw_cell_below hb q11, hd_keep q12 hb⟩) | ((repeat' (with_reducible refine And.intro ?_ ?_)) <;> first | assumption | (refine (World.cell?_alloc_past _ _ _ hz1).trans ?_; assumption) | (refine (World.cell?_alloc_past _ _ _ hz2).trans ?_; assumption) | (refine pw_cell_below hb ?_; first | assumption | (simp [go_sem]; done)) | (refine hd_keep ?_ hb; (repeat (first | exact Below.refl _ _ | assumption | apply pw_below_drewN | apply below_drew | (refine hd_below_alloc ?_ _ (by first | exact b1.size | (simp; done) | (simp; omega))))); done) | (simp [go_sem]; done) | exact below_drew (hd_below_alloc b1 _ b1.size) | (repeat (first | exact Below.refl _ _ | assumption | apply pw_below_drewN | apply below_drew | (refine hd_below_alloc ?_ _ (by first | exact b1.size | (simp; done) | (simp; omega)))))))
    (first
      | (go_at_call 17; (with_reducible refine (header_c ka za ta na _).mono ?_); rintro e w' ⟨rfl, hb⟩)
      | (go_at_call 17; (with_reducible refine (header_c k z t n _).mono ?_); rintro e w' ⟨rfl, hb⟩)
      | (go_at_call 19; (with_reducible refine (fields_c k z t n f _ Hf.out).mono ?_); rintro e w' ⟨rfl, hb⟩)
      | (go_at_call 22; (with_reducible refine (rfields_c k z t n f _ Hf.out).mono ?_); rintro e w' ⟨rfl, hb⟩))
  rename_i w6 hS6
  obtain ⟨s1, s2, s3, s4, a1, a2, a3, a4, _, _, _, _, b1⟩ := hS6
  go_wp2_with fail
  (with_reducible refine (read_c u k z t n true _ Hku.out Hru.out).mono ?_)
  rintro e w7 ⟨rfl, hb7⟩
  replace s1 := pw_cell_below hb7 s1
  replace a1 := pw_cell_below hb7 a1
  replace s2 := pw_cell_below hb7 s2
  replace a2 := pw_cell_below hb7 a2
  replace s3 := pw_cell_below hb7 s3
  replace a3 := pw_cell_below hb7 a3
  replace s4 := pw_cell_below hb7 s4
  replace a4 := pw_cell_below hb7 a4
  replace b1 := hd_keep b1 hb7
  clear hb7
  replace hz1 : w.heap.size < w7.heap.size := World.block_lt_of_cell? w7 _ s1
  replace hz2 : w2.heap.size < w7.heap.size := World.block_lt_of_cell? w7 _ a1
  go_wp2_with fail
  go_region_held3 (fun w' => w'.cell? ⟨w.heap.size, 0, none⟩ = some (.int .i64 k) ∧ w'.cell? ⟨w.heap.size, 1, none⟩ = some (.int .i64 z) ∧ w'.cell? ⟨w.heap.size, 2, none⟩ = some (.int .i64 t) ∧ w'.cell? ⟨w.heap.size, 3, none⟩ = some (.bool n) ∧ w'.cell? ⟨w2.heap.size, 0, none⟩ = some (.int .i64 ka) ∧ w'.cell? ⟨w2.heap.size, 1, none⟩ = some (.int .i64 za) ∧ w'.cell? ⟨w2.heap.size, 2, none⟩ = some (.int .i64 ta) ∧ w'.cell? ⟨w2.heap.size, 3, none⟩ = some (.bool na) ∧ w'.cell? ⟨w7.heap.size, 0, none⟩ = some (.int .i64 k) ∧ w'.cell? ⟨w7.heap.size, 1, none⟩ = some (.int .i64 z) ∧ w'.cell? ⟨w7.heap.size, 2, none⟩ = some (.int .i64 t) ∧ w'.cell? ⟨w7.heap.size, 3, none⟩ = some (.bool n) ∧ Below w.heap.size w w')
    (first | (obtain ⟨q0, q1, q2, q3, q4, q5, q6, q7, q8, q9, q10, q11, q12⟩ := ‹World.cell? _ _ = some (Value.int IntKind.i64 k) ∧ _›; exact ⟨pw_cell_below hb q0, pw_cell_below hb q1, pw_cell_below hb q2, pw_cell_below hb q3, pw_cell_below hb q4, pw_cell_below hb q5, pw_cell_below hb q6, pw_cell_below hb q7, pw_cell_below hb q8, pw_cell_below hb q9, pw_cell_below hb q10, pw_cell_below hb q11, hd_keep q12 hb⟩) | ((repeat' (with_reducible refine And.intro ?_ ?_)) <;> first | assumption | (refine (World.cell?_alloc_past _ _ _ hz1).trans ?_; assumption) | (refine (World.cell?_alloc_past _ _ _ hz2).trans ?_; assumption) | (refine pw_cell_below hb ?_; first | assumption | (simp [go_sem]; done)) | (refine hd_keep ?_ hb; (repeat (first | exact Below.refl _ _ | assumption | apply pw_below_drewN | apply below_drew | (refine hd_below_alloc ?_ _ (by first | exact b1.size | (simp; done) | (simp; omega))))); done) | (simp [go_sem]; done) | exact below_drew (hd_below_alloc b1 _ b1.size) | (repeat (first | exact Below.refl _ _ | assumption | apply pw_below_drewN | apply below_drew | (refine hd_below_alloc ?_ _ (by first | exact b1.size | (simp; done) | (simp; omega)))))))
    (first
      | (go_at_call 17; (with_reducible refine (header_c k z t n _).mono ?_); rintro e w' ⟨rfl, hb⟩)
      | (go_at_call 16; (with_reducible refine (make_c ka za ta na x _ Hmx.out).mono ?_); rintro e w' ⟨rfl, hb⟩))
  rename_i w9 hS9
  obtain ⟨_, _, _, _, _, _, _, _, _, _, _, _, b9⟩ := hS9
  go_wp2
  go_ret
  exact ⟨by first | rfl | (simp; done), by first | assumption | exact pw_below_drewN b9 _⟩
set_option maxRecDepth 100000 in
set_option maxHeartbeats 8000000 in
theorem heads_may_no (k z t : Int) (n : Bool) (x : Int) (w : World) (u f : Int) (hm1 : 0 ≤ k) (hm2 : k ≤ 3) (hm3 : 0 ≤ z) (hm4 : z < 1048576) (hm5 : 0 ≤ t) (hm6 : t < 1048576)
    (Hx : RowKit.Hid (okW x)) (Hu : RowKit.Hid (makeH ⟨k, z, t, n⟩ = u)) (Hku : RowKit.Hid (okW u)) (Hr : RowKit.Hid (readP x = (0, 0, 0, false, false)))
    (Hru : RowKit.Hid (readP u = (k, z, t, n, true))) (Hf : RowKit.Hid (fieldsH ⟨k, z, t, n⟩ = f)):
    Calls Try.prog 6 #[.agg #[.int .i64 k, .int .i64 z, .int .i64 t, .bool n], .int .u64 x] w (HdEnds w) := by
  go_enter Try.func6, Try.ntmps6
  go_wp2_with (first | (go_at_call 7; (with_reducible refine (awake_c _).mono ?_); rintro e w' ⟨rfl, ⟨nd, rfl⟩⟩))
  go_region_held3 (fun w' => w'.cell? ⟨w.heap.size, 0, none⟩ = some (.int .i64 k) ∧ w'.cell? ⟨w.heap.size, 1, none⟩ = some (.int .i64 z) ∧ w'.cell? ⟨w.heap.size, 2, none⟩ = some (.int .i64 t) ∧ w'.cell? ⟨w.heap.size, 3, none⟩ = some (.bool n) ∧ Below w.heap.size w w')
    (first | (obtain ⟨q0, q1, q2, q3, q4⟩ := ‹World.cell? _ _ = some (Value.int IntKind.i64 k) ∧ _›; exact ⟨pw_cell_below hb q0, pw_cell_below hb q1, pw_cell_below hb q2, pw_cell_below hb q3, hd_keep q4 hb⟩) | ((repeat' (with_reducible refine And.intro ?_ ?_)) <;> first | assumption | (refine (World.cell?_alloc_past _ _ _ hz1).trans ?_; assumption) | (refine (World.cell?_alloc_past _ _ _ hz2).trans ?_; assumption) | (refine pw_cell_below hb ?_; first | assumption | (simp [go_sem]; done)) | (refine hd_keep ?_ hb; (repeat (first | exact Below.refl _ _ | assumption | apply pw_below_drewN | apply below_drew | (refine hd_below_alloc ?_ _ (by first | exact b1.size | (simp; done) | (simp; omega))))); done) | (simp [go_sem]; done) | exact below_drew (hd_below_alloc b1 _ b1.size) | (repeat (first | exact Below.refl _ _ | assumption | apply pw_below_drewN | apply below_drew | (refine hd_below_alloc ?_ _ (by first | exact b1.size | (simp; done) | (simp; omega)))))))
    (first
      | (go_at_call 17; (with_reducible refine (header_c k z t n _).mono ?_); rintro e w' ⟨rfl, hb⟩)
      | (go_at_call 16; (with_reducible refine (make_c k z t n u _ Hu.out).mono ?_); rintro e w' ⟨rfl, hb⟩)
      | (go_at_call 20; (with_reducible refine (rmake_c k z t n u _ Hu.out).mono ?_); rintro e w' ⟨rfl, hb⟩))
  rename_i w1 hS1
  obtain ⟨s1, s2, s3, s4, b1⟩ := hS1
  go_wp2_with fail
  (with_reducible refine (read_c x 0 0 0 false false _ Hx.out Hr.out).mono ?_)
  rintro e w2 ⟨rfl, hb2⟩
  replace s1 := pw_cell_below hb2 s1
  replace s2 := pw_cell_below hb2 s2
  replace s3 := pw_cell_below hb2 s3
  replace s4 := pw_cell_below hb2 s4
  replace b1 := hd_keep b1 hb2
  clear hb2
  go_wp2_with fail
  (with_reducible refine (rread_c x 0 0 0 false false _ Hx.out Hr.out).mono ?_)
  rintro e w3 ⟨rfl, hb3⟩
  have hw2 := World.block_lt_of_cell? w2 _ s1
  have a1 : w3.cell? ⟨w2.heap.size, 0, none⟩ = some (.int .i64 0) := pw_cell_below hb3 (by simp [go_sem])
  have a2 : w3.cell? ⟨w2.heap.size, 1, none⟩ = some (.int .i64 0) := pw_cell_below hb3 (by simp [go_sem])
  have a3 : w3.cell? ⟨w2.heap.size, 2, none⟩ = some (.int .i64 0) := pw_cell_below hb3 (by simp [go_sem])
  have a4 : w3.cell? ⟨w2.heap.size, 3, none⟩ = some (.bool false) := pw_cell_below hb3 (by simp [go_sem])
  replace s1 := pw_cell_below hb3 ((World.cell?_alloc_past _ _ _ hw2).trans s1)
  replace s2 := pw_cell_below hb3 ((World.cell?_alloc_past _ _ _ hw2).trans s2)
  replace s3 := pw_cell_below hb3 ((World.cell?_alloc_past _ _ _ hw2).trans s3)
  replace s4 := pw_cell_below hb3 ((World.cell?_alloc_past _ _ _ hw2).trans s4)
  replace b1 := hd_keep (hd_below_alloc b1 _ b1.size) hb3
  clear hb3 hw2
  have hz1 : w.heap.size < w3.heap.size := World.block_lt_of_cell? w3 _ s1
  have hz2 : w2.heap.size < w3.heap.size := World.block_lt_of_cell? w3 _ a1
  go_wp2_with fail
  go_region_held3 (fun w' => w'.cell? ⟨w.heap.size, 0, none⟩ = some (.int .i64 k) ∧ w'.cell? ⟨w.heap.size, 1, none⟩ = some (.int .i64 z) ∧ w'.cell? ⟨w.heap.size, 2, none⟩ = some (.int .i64 t) ∧ w'.cell? ⟨w.heap.size, 3, none⟩ = some (.bool n) ∧ w'.cell? ⟨w2.heap.size, 0, none⟩ = some (.int .i64 0) ∧ w'.cell? ⟨w2.heap.size, 1, none⟩ = some (.int .i64 0) ∧ w'.cell? ⟨w2.heap.size, 2, none⟩ = some (.int .i64 0) ∧ w'.cell? ⟨w2.heap.size, 3, none⟩ = some (.bool false) ∧ w'.cell? ⟨w3.heap.size, 0, none⟩ = some (.int .i64 0) ∧ w'.cell? ⟨w3.heap.size, 1, none⟩ = some (.int .i64 0) ∧ w'.cell? ⟨w3.heap.size, 2, none⟩ = some (.int .i64 0) ∧ w'.cell? ⟨w3.heap.size, 3, none⟩ = some (.bool false) ∧ Below w.heap.size w w')
    (first | (obtain ⟨q0, q1, q2, q3, q4, q5, q6, q7, q8, q9, q10, q11, q12⟩ := ‹World.cell? _ _ = some (Value.int IntKind.i64 k) ∧ _›; exact ⟨pw_cell_below hb q0, pw_cell_below hb q1, pw_cell_below hb q2, pw_cell_below hb q3, pw_cell_below hb q4, pw_cell_below hb q5, pw_cell_below hb q6, pw_cell_below hb q7, pw_cell_below hb q8, pw_cell_below hb q9, pw_cell_below hb q10, pw_cell_below hb q11, hd_keep q12 hb⟩) | ((repeat' (with_reducible refine And.intro ?_ ?_)) <;> first | assumption | (refine (World.cell?_alloc_past _ _ _ hz1).trans ?_; assumption) | (refine (World.cell?_alloc_past _ _ _ hz2).trans ?_; assumption) | (refine pw_cell_below hb ?_; first | assumption | (simp [go_sem]; done)) | (refine hd_keep ?_ hb; (repeat (first | exact Below.refl _ _ | assumption | apply pw_below_drewN | apply below_drew | (refine hd_below_alloc ?_ _ (by first | exact b1.size | (simp; done) | (simp; omega))))); done) | (simp [go_sem]; done) | exact below_drew (hd_below_alloc b1 _ b1.size) | (repeat (first | exact Below.refl _ _ | assumption | apply pw_below_drewN | apply below_drew | (refine hd_below_alloc ?_ _ (by first | exact b1.size | (simp; done) | (simp; omega)))))))
    (first
      | (go_at_call 17; (with_reducible refine (header_c 0 0 0 false _).mono ?_); rintro e w' ⟨rfl, hb⟩)
      | (go_at_call 17; (with_reducible refine (header_c k z t n _).mono ?_); rintro e w' ⟨rfl, hb⟩)
      | (go_at_call 19; (with_reducible refine (fields_c k z t n f _ Hf.out).mono ?_); rintro e w' ⟨rfl, hb⟩)
      | (go_at_call 22; (with_reducible refine (rfields_c k z t n f _ Hf.out).mono ?_); rintro e w' ⟨rfl, hb⟩))
  rename_i w6 hS6
  obtain ⟨s1, s2, s3, s4, a1, a2, a3, a4, _, _, _, _, b1⟩ := hS6
  go_wp2_with fail
  (with_reducible refine (read_c u k z t n true _ Hku.out Hru.out).mono ?_)
  rintro e w7 ⟨rfl, hb7⟩
  replace s1 := pw_cell_below hb7 s1
  replace a1 := pw_cell_below hb7 a1
  replace s2 := pw_cell_below hb7 s2
  replace a2 := pw_cell_below hb7 a2
  replace s3 := pw_cell_below hb7 s3
  replace a3 := pw_cell_below hb7 a3
  replace s4 := pw_cell_below hb7 s4
  replace a4 := pw_cell_below hb7 a4
  replace b1 := hd_keep b1 hb7
  clear hb7
  replace hz1 : w.heap.size < w7.heap.size := World.block_lt_of_cell? w7 _ s1
  replace hz2 : w2.heap.size < w7.heap.size := World.block_lt_of_cell? w7 _ a1
  go_wp2_with fail
  refine wp_region_cls (S := fun w' => w'.cell? ⟨w.heap.size, 0, none⟩ = some (.int .i64 k) ∧ w'.cell? ⟨w.heap.size, 1, none⟩ = some (.int .i64 z) ∧ w'.cell? ⟨w.heap.size, 2, none⟩ = some (.int .i64 t) ∧ w'.cell? ⟨w.heap.size, 3, none⟩ = some (.bool n) ∧ w'.cell? ⟨w7.heap.size, 0, none⟩ = some (.int .i64 k) ∧ w'.cell? ⟨w7.heap.size, 1, none⟩ = some (.int .i64 z) ∧ w'.cell? ⟨w7.heap.size, 2, none⟩ = some (.int .i64 t) ∧ w'.cell? ⟨w7.heap.size, 3, none⟩ = some (.bool n) ∧ Below w.heap.size w w') (by kernel_rfl) (by kernel_rfl) ?_ (fun ne => ?_)
  · have e : ∀ i, World.cell? (w7.alloc (.cells #[.int .i64 k, .int .i64 z, .int .i64 t, .bool n] 35)) ⟨w.heap.size, i, none⟩ = w7.cell? ⟨w.heap.size, i, none⟩ := fun i => World.cell?_alloc_past _ _ _ hz1
    refine ⟨(e 0).trans s1, (e 1).trans s2, (e 2).trans s3, (e 3).trans s4, World.cell?_alloc_at _ _ _ 0 rfl, World.cell?_alloc_at _ _ _ 1 rfl, World.cell?_alloc_at _ _ _ 2 rfl, World.cell?_alloc_at _ _ _ 3 rfl, below_drew (hd_below_alloc b1 _ b1.size)⟩
  clear s1 s2 s3 s4 a1 a2 a3 a4 hz1 hz2 b1
  generalize hS : (fun w' : World => w'.cell? ⟨w.heap.size, 0, none⟩ = some (.int .i64 k) ∧ _) = S
  replace ne : Nonempty (Cw S) := by subst hS; exact ne
  have f0 : ∀ x : Cw S, x.val.cell? ⟨w.heap.size, 0, none⟩ = some (.int .i64 k) := by subst hS; exact fun x => x.prop.1
  have f1 : ∀ x : Cw S, x.val.cell? ⟨w.heap.size, 1, none⟩ = some (.int .i64 z) := by subst hS; exact fun x => x.prop.2.1
  have f2 : ∀ x : Cw S, x.val.cell? ⟨w.heap.size, 2, none⟩ = some (.int .i64 t) := by subst hS; exact fun x => x.prop.2.2.1
  have f3 : ∀ x : Cw S, x.val.cell? ⟨w.heap.size, 3, none⟩ = some (.bool n) := by subst hS; exact fun x => x.prop.2.2.2.1
  have f4 : ∀ x : Cw S, x.val.cell? ⟨w7.heap.size, 0, none⟩ = some (.int .i64 k) := by subst hS; exact fun x => x.prop.2.2.2.2.1
  have f5 : ∀ x : Cw S, x.val.cell? ⟨w7.heap.size, 1, none⟩ = some (.int .i64 z) := by subst hS; exact fun x => x.prop.2.2.2.2.2.1
  have f6 : ∀ x : Cw S, x.val.cell? ⟨w7.heap.size, 2, none⟩ = some (.int .i64 t) := by subst hS; exact fun x => x.prop.2.2.2.2.2.2.1
  have f7 : ∀ x : Cw S, x.val.cell? ⟨w7.heap.size, 3, none⟩ = some (.bool n) := by subst hS; exact fun x => x.prop.2.2.2.2.2.2.2.1
  have hB : ∀ w', S w' → Below w.heap.size w w' := by subst hS; exact fun w' h => h.2.2.2.2.2.2.2.2
  have hK : ∀ w1 w2, S w1 → Below w1.heap.size w1 w2 → S w2 := by
    subst hS
    exact fun w1 w2 ⟨q0, q1, q2, q3, q4, q5, q6, q7, qb⟩ hb => ⟨pw_cell_below hb q0, pw_cell_below hb q1, pw_cell_below hb q2, pw_cell_below hb q3, pw_cell_below hb q4, pw_cell_below hb q5, pw_cell_below hb q6, pw_cell_below hb q7, hd_keep qb hb⟩
  clear hS
  have HB := Lib.hid hB
  have HK := Lib.hid hK
  clear hB hK
  repeat (any_goals (first | go_big_quiet_step ((go_at_call 17; exact Cw.call (header_c k z t n _) (fun w' h => HK.out _ _ (Cw.prop _) h))) | quiet_step ((go_at_call 17; exact Cw.call (header_c k z t n _) (fun w' h => HK.out _ _ (Cw.prop _) h)))))
  refine wpQuiet_nil ?_
  intro w9 hw9
  obtain ⟨⟨w9, hS9⟩, rfl⟩ := hw9
  have b9 := HB.out _ hS9
  go_wp2
  go_ret
  exact ⟨by first | rfl | (simp; done), by first | assumption | exact pw_below_drewN b9 _⟩
set_option maxRecDepth 100000 in
set_option maxHeartbeats 8000000 in
theorem heads_c1_ok (k z t : Int) (n : Bool) (x : Int) (w : World) (ka za ta : Int) (na : Bool) (u f : Int) (hm1 : k < 0)
    (Hx : RowKit.Hid (okW x)) (Hu : RowKit.Hid (makeH ⟨k, z, t, n⟩ = u)) (Hku : RowKit.Hid (okW u)) (Hr : RowKit.Hid (readP x = (ka, za, ta, na, true)))
    (Hru : RowKit.Hid (readP u = (0, 0, 0, false, false))) (Hf : RowKit.Hid (fieldsH ⟨k, z, t, n⟩ = f)) (Hmx : RowKit.Hid (makeH ⟨ka, za, ta, na⟩ = x)):
    Calls Try.prog 6 #[.agg #[.int .i64 k, .int .i64 z, .int .i64 t, .bool n], .int .u64 x] w (HdEnds w) := by
  go_enter Try.func6, Try.ntmps6
  go_wp2_with (first | (go_at_call 7; (with_reducible refine (awake_c _).mono ?_); rintro e w' ⟨rfl, ⟨nd, rfl⟩⟩))
  go_region_held3 (fun w' => w'.cell? ⟨w.heap.size, 0, none⟩ = some (.int .i64 k) ∧ w'.cell? ⟨w.heap.size, 1, none⟩ = some (.int .i64 z) ∧ w'.cell? ⟨w.heap.size, 2, none⟩ = some (.int .i64 t) ∧ w'.cell? ⟨w.heap.size, 3, none⟩ = some (.bool n) ∧ Below w.heap.size w w')
    (first | (obtain ⟨q0, q1, q2, q3, q4⟩ := ‹World.cell? _ _ = some (Value.int IntKind.i64 k) ∧ _›; exact ⟨pw_cell_below hb q0, pw_cell_below hb q1, pw_cell_below hb q2, pw_cell_below hb q3, hd_keep q4 hb⟩) | ((repeat' (with_reducible refine And.intro ?_ ?_)) <;> first | assumption | (refine (World.cell?_alloc_past _ _ _ hz1).trans ?_; assumption) | (refine (World.cell?_alloc_past _ _ _ hz2).trans ?_; assumption) | (refine pw_cell_below hb ?_; first | assumption | (simp [go_sem]; done)) | (refine hd_keep ?_ hb; (repeat (first | exact Below.refl _ _ | assumption | apply pw_below_drewN | apply below_drew | (refine hd_below_alloc ?_ _ (by first | exact b1.size | (simp; done) | (simp; omega))))); done) | (simp [go_sem]; done) | exact below_drew (hd_below_alloc b1 _ b1.size) | (repeat (first | exact Below.refl _ _ | assumption | apply pw_below_drewN | apply below_drew | (refine hd_below_alloc ?_ _ (by first | exact b1.size | (simp; done) | (simp; omega)))))))
    (first
      | (go_at_call 17; (with_reducible refine (header_c k z t n _).mono ?_); rintro e w' ⟨rfl, hb⟩)
      | (go_at_call 16; (with_reducible refine (make_c k z t n u _ Hu.out).mono ?_); rintro e w' ⟨rfl, hb⟩)
      | (go_at_call 20; (with_reducible refine (rmake_c k z t n u _ Hu.out).mono ?_); rintro e w' ⟨rfl, hb⟩))
  rename_i w1 hS1
  obtain ⟨s1, s2, s3, s4, b1⟩ := hS1
  go_wp2_with fail
  (with_reducible refine (read_c x ka za ta na true _ Hx.out Hr.out).mono ?_)
  rintro e w2 ⟨rfl, hb2⟩
  replace s1 := pw_cell_below hb2 s1
  replace s2 := pw_cell_below hb2 s2
  replace s3 := pw_cell_below hb2 s3
  replace s4 := pw_cell_below hb2 s4
  replace b1 := hd_keep b1 hb2
  clear hb2
  go_wp2_with fail
  (with_reducible refine (rread_c x ka za ta na true _ Hx.out Hr.out).mono ?_)
  rintro e w3 ⟨rfl, hb3⟩
  have hw2 := World.block_lt_of_cell? w2 _ s1
  have a1 : w3.cell? ⟨w2.heap.size, 0, none⟩ = some (.int .i64 ka) := pw_cell_below hb3 (by simp [go_sem])
  have a2 : w3.cell? ⟨w2.heap.size, 1, none⟩ = some (.int .i64 za) := pw_cell_below hb3 (by simp [go_sem])
  have a3 : w3.cell? ⟨w2.heap.size, 2, none⟩ = some (.int .i64 ta) := pw_cell_below hb3 (by simp [go_sem])
  have a4 : w3.cell? ⟨w2.heap.size, 3, none⟩ = some (.bool na) := pw_cell_below hb3 (by simp [go_sem])
  replace s1 := pw_cell_below hb3 ((World.cell?_alloc_past _ _ _ hw2).trans s1)
  replace s2 := pw_cell_below hb3 ((World.cell?_alloc_past _ _ _ hw2).trans s2)
  replace s3 := pw_cell_below hb3 ((World.cell?_alloc_past _ _ _ hw2).trans s3)
  replace s4 := pw_cell_below hb3 ((World.cell?_alloc_past _ _ _ hw2).trans s4)
  replace b1 := hd_keep (hd_below_alloc b1 _ b1.size) hb3
  clear hb3 hw2
  have hz1 : w.heap.size < w3.heap.size := World.block_lt_of_cell? w3 _ s1
  have hz2 : w2.heap.size < w3.heap.size := World.block_lt_of_cell? w3 _ a1
  go_wp2_with fail
  go_region_held3 (fun w' => w'.cell? ⟨w.heap.size, 0, none⟩ = some (.int .i64 k) ∧ w'.cell? ⟨w.heap.size, 1, none⟩ = some (.int .i64 z) ∧ w'.cell? ⟨w.heap.size, 2, none⟩ = some (.int .i64 t) ∧ w'.cell? ⟨w.heap.size, 3, none⟩ = some (.bool n) ∧ w'.cell? ⟨w2.heap.size, 0, none⟩ = some (.int .i64 ka) ∧ w'.cell? ⟨w2.heap.size, 1, none⟩ = some (.int .i64 za) ∧ w'.cell? ⟨w2.heap.size, 2, none⟩ = some (.int .i64 ta) ∧ w'.cell? ⟨w2.heap.size, 3, none⟩ = some (.bool na) ∧ w'.cell? ⟨w3.heap.size, 0, none⟩ = some (.int .i64 ka) ∧ w'.cell? ⟨w3.heap.size, 1, none⟩ = some (.int .i64 za) ∧ w'.cell? ⟨w3.heap.size, 2, none⟩ = some (.int .i64 ta) ∧ w'.cell? ⟨w3.heap.size, 3, none⟩ = some (.bool na) ∧ Below w.heap.size w w')
    (first | (obtain ⟨q0, q1, q2, q3, q4, q5, q6, q7, q8, q9, q10, q11, q12⟩ := ‹World.cell? _ _ = some (Value.int IntKind.i64 k) ∧ _›; exact ⟨pw_cell_below hb q0, pw_cell_below hb q1, pw_cell_below hb q2, pw_cell_below hb q3, pw_cell_below hb q4, pw_cell_below hb q5, pw_cell_below hb q6, pw_cell_below hb q7, pw_cell_below hb q8, pw_cell_below hb q9, pw_cell_below hb q10, pw_cell_below hb q11, hd_keep q12 hb⟩) | ((repeat' (with_reducible refine And.intro ?_ ?_)) <;> first | assumption | (refine (World.cell?_alloc_past _ _ _ hz1).trans ?_; assumption) | (refine (World.cell?_alloc_past _ _ _ hz2).trans ?_; assumption) | (refine pw_cell_below hb ?_; first | assumption | (simp [go_sem]; done)) | (refine hd_keep ?_ hb; (repeat (first | exact Below.refl _ _ | assumption | apply pw_below_drewN | apply below_drew | (refine hd_below_alloc ?_ _ (by first | exact b1.size | (simp; done) | (simp; omega))))); done) | (simp [go_sem]; done) | exact below_drew (hd_below_alloc b1 _ b1.size) | (repeat (first | exact Below.refl _ _ | assumption | apply pw_below_drewN | apply below_drew | (refine hd_below_alloc ?_ _ (by first | exact b1.size | (simp; done) | (simp; omega)))))))
    (first
      | (go_at_call 17; (with_reducible refine (header_c ka za ta na _).mono ?_); rintro e w' ⟨rfl, hb⟩)
      | (go_at_call 17; (with_reducible refine (header_c k z t n _).mono ?_); rintro e w' ⟨rfl, hb⟩)
      | (go_at_call 19; (with_reducible refine (fields_c k z t n f _ Hf.out).mono ?_); rintro e w' ⟨rfl, hb⟩)
      | (go_at_call 22; (with_reducible refine (rfields_c k z t n f _ Hf.out).mono ?_); rintro e w' ⟨rfl, hb⟩))
  rename_i w6 hS6
  obtain ⟨s1, s2, s3, s4, a1, a2, a3, a4, _, _, _, _, b1⟩ := hS6
  go_wp2_with fail
  (with_reducible refine (read_c u 0 0 0 false false _ Hku.out Hru.out).mono ?_)
  rintro e w7 ⟨rfl, hb7⟩
  replace s1 := pw_cell_below hb7 s1
  replace a1 := pw_cell_below hb7 a1
  replace s2 := pw_cell_below hb7 s2
  replace a2 := pw_cell_below hb7 a2
  replace s3 := pw_cell_below hb7 s3
  replace a3 := pw_cell_below hb7 a3
  replace s4 := pw_cell_below hb7 s4
  replace a4 := pw_cell_below hb7 a4
  replace b1 := hd_keep b1 hb7
  clear hb7
  replace hz1 : w.heap.size < w7.heap.size := World.block_lt_of_cell? w7 _ s1
  replace hz2 : w2.heap.size < w7.heap.size := World.block_lt_of_cell? w7 _ a1
  go_wp2_with fail
  refine wp_region_cls (S := fun w' => w'.cell? ⟨w2.heap.size, 0, none⟩ = some (.int .i64 ka) ∧ w'.cell? ⟨w2.heap.size, 1, none⟩ = some (.int .i64 za) ∧ w'.cell? ⟨w2.heap.size, 2, none⟩ = some (.int .i64 ta) ∧ w'.cell? ⟨w2.heap.size, 3, none⟩ = some (.bool na) ∧ Below w.heap.size w w') (by kernel_rfl) (by kernel_rfl) ?_ (fun ne => ?_)
  · have e : ∀ i, World.cell? (w7.alloc (.cells #[.int .i64 0, .int .i64 0, .int .i64 0, .bool false] 35)) ⟨w2.heap.size, i, none⟩ = w7.cell? ⟨w2.heap.size, i, none⟩ := fun i => World.cell?_alloc_past _ _ _ hz2
    refine ⟨(e 0).trans a1, (e 1).trans a2, (e 2).trans a3, (e 3).trans a4, below_drew (hd_below_alloc b1 _ b1.size)⟩
  clear s1 s2 s3 s4 a1 a2 a3 a4 hz1 hz2 b1
  generalize hS : (fun w' : World => w'.cell? ⟨w2.heap.size, 0, none⟩ = some (.int .i64 ka) ∧ _) = S
  replace ne : Nonempty (Cw S) := by subst hS; exact ne
  have f0 : ∀ x : Cw S, x.val.cell? ⟨w2.heap.size, 0, none⟩ = some (.int .i64 ka) := by subst hS; exact fun x => x.prop.1
  have f1 : ∀ x : Cw S, x.val.cell? ⟨w2.heap.size, 1, none⟩ = some (.int .i64 za) := by subst hS; exact fun x => x.prop.2.1
  have f2 : ∀ x : Cw S, x.val.cell? ⟨w2.heap.size, 2, none⟩ = some (.int .i64 ta) := by subst hS; exact fun x => x.prop.2.2.1
  have f3 : ∀ x : Cw S, x.val.cell? ⟨w2.heap.size, 3, none⟩ = some (.bool na) := by subst hS; exact fun x => x.prop.2.2.2.1
  have hB : ∀ w', S w' → Below w.heap.size w w' := by subst hS; exact fun w' h => h.2.2.2.2
  have hK : ∀ w1 w2, S w1 → Below w1.heap.size w1 w2 → S w2 := by
    subst hS
    exact fun w1 w2 ⟨q0, q1, q2, q3, qb⟩ hb => ⟨pw_cell_below hb q0, pw_cell_below hb q1, pw_cell_below hb q2, pw_cell_below hb q3, hd_keep qb hb⟩
  clear hS
  have HB := Lib.hid hB
  have HK := Lib.hid hK
  clear hB hK
  repeat (any_goals (first | go_big_quiet_step ((go_at_call 16; exact Cw.call (make_c ka za ta na x _ Hmx.out) (fun w' h => HK.out _ _ (Cw.prop _) h))) | quiet_step ((go_at_call 16; exact Cw.call (make_c ka za ta na x _ Hmx.out) (fun w' h => HK.out _ _ (Cw.prop _) h)))))
  refine wpQuiet_nil ?_
  intro w9 hw9
  obtain ⟨⟨w9, hS9⟩, rfl⟩ := hw9
  have b9 := HB.out _ hS9
  go_wp2
  go_ret
  exact ⟨by first | rfl | (simp; done), by first | assumption | exact pw_below_drewN b9 _⟩
set_option maxRecDepth 100000 in
set_option maxHeartbeats 8000000 in
theorem heads_c1_no (k z t : Int) (n : Bool) (x : Int) (w : World) (u f : Int) (hm1 : k < 0)
    (Hx : RowKit.Hid (okW x)) (Hu : RowKit.Hid (makeH ⟨k, z, t, n⟩ = u)) (Hku : RowKit.Hid (okW u)) (Hr : RowKit.Hid (readP x = (0, 0, 0, false, false)))
    (Hru : RowKit.Hid (readP u = (0, 0, 0, false, false))) (Hf : RowKit.Hid (fieldsH ⟨k, z, t, n⟩ = f)):
    Calls Try.prog 6 #[.agg #[.int .i64 k, .int .i64 z, .int .i64 t, .bool n], .int .u64 x] w (HdEnds w) := by
  go_enter Try.func6, Try.ntmps6
  go_wp2_with (first | (go_at_call 7; (with_reducible refine (awake_c _).mono ?_); rintro e w' ⟨rfl, ⟨nd, rfl⟩⟩))
  go_region_held3 (fun w' => w'.cell? ⟨w.heap.size, 0, none⟩ = some (.int .i64 k) ∧ w'.cell? ⟨w.heap.size, 1, none⟩ = some (.int .i64 z) ∧ w'.cell? ⟨w.heap.size, 2, none⟩ = some (.int .i64 t) ∧ w'.cell? ⟨w.heap.size, 3, none⟩ = some (.bool n) ∧ Below w.heap.size w w')
    (first | (obtain ⟨q0, q1, q2, q3, q4⟩ := ‹World.cell? _ _ = some (Value.int IntKind.i64 k) ∧ _›; exact ⟨pw_cell_below hb q0, pw_cell_below hb q1, pw_cell_below hb q2, pw_cell_below hb q3, hd_keep q4 hb⟩) | ((repeat' (with_reducible refine And.intro ?_ ?_)) <;> first | assumption | (refine (World.cell?_alloc_past _ _ _ hz1).trans ?_; assumption) | (refine (World.cell?_alloc_past _ _ _ hz2).trans ?_; assumption) | (refine pw_cell_below hb ?_; first | assumption | (simp [go_sem]; done)) | (refine hd_keep ?_ hb; (repeat (first | exact Below.refl _ _ | assumption | apply pw_below_drewN | apply below_drew | (refine hd_below_alloc ?_ _ (by first | exact b1.size | (simp; done) | (simp; omega))))); done) | (simp [go_sem]; done) | exact below_drew (hd_below_alloc b1 _ b1.size) | (repeat (first | exact Below.refl _ _ | assumption | apply pw_below_drewN | apply below_drew | (refine hd_below_alloc ?_ _ (by first | exact b1.size | (simp; done) | (simp; omega)))))))
    (first
      | (go_at_call 17; (with_reducible refine (header_c k z t n _).mono ?_); rintro e w' ⟨rfl, hb⟩)
      | (go_at_call 16; (with_reducible refine (make_c k z t n u _ Hu.out).mono ?_); rintro e w' ⟨rfl, hb⟩)
      | (go_at_call 20; (with_reducible refine (rmake_c k z t n u _ Hu.out).mono ?_); rintro e w' ⟨rfl, hb⟩))
  rename_i w1 hS1
  obtain ⟨s1, s2, s3, s4, b1⟩ := hS1
  go_wp2_with fail
  (with_reducible refine (read_c x 0 0 0 false false _ Hx.out Hr.out).mono ?_)
  rintro e w2 ⟨rfl, hb2⟩
  replace s1 := pw_cell_below hb2 s1
  replace s2 := pw_cell_below hb2 s2
  replace s3 := pw_cell_below hb2 s3
  replace s4 := pw_cell_below hb2 s4
  replace b1 := hd_keep b1 hb2
  clear hb2
  go_wp2_with fail
  (with_reducible refine (rread_c x 0 0 0 false false _ Hx.out Hr.out).mono ?_)
  rintro e w3 ⟨rfl, hb3⟩
  have hw2 := World.block_lt_of_cell? w2 _ s1
  have a1 : w3.cell? ⟨w2.heap.size, 0, none⟩ = some (.int .i64 0) := pw_cell_below hb3 (by simp [go_sem])
  have a2 : w3.cell? ⟨w2.heap.size, 1, none⟩ = some (.int .i64 0) := pw_cell_below hb3 (by simp [go_sem])
  have a3 : w3.cell? ⟨w2.heap.size, 2, none⟩ = some (.int .i64 0) := pw_cell_below hb3 (by simp [go_sem])
  have a4 : w3.cell? ⟨w2.heap.size, 3, none⟩ = some (.bool false) := pw_cell_below hb3 (by simp [go_sem])
  replace s1 := pw_cell_below hb3 ((World.cell?_alloc_past _ _ _ hw2).trans s1)
  replace s2 := pw_cell_below hb3 ((World.cell?_alloc_past _ _ _ hw2).trans s2)
  replace s3 := pw_cell_below hb3 ((World.cell?_alloc_past _ _ _ hw2).trans s3)
  replace s4 := pw_cell_below hb3 ((World.cell?_alloc_past _ _ _ hw2).trans s4)
  replace b1 := hd_keep (hd_below_alloc b1 _ b1.size) hb3
  clear hb3 hw2
  have hz1 : w.heap.size < w3.heap.size := World.block_lt_of_cell? w3 _ s1
  have hz2 : w2.heap.size < w3.heap.size := World.block_lt_of_cell? w3 _ a1
  go_wp2_with fail
  go_region_held3 (fun w' => w'.cell? ⟨w.heap.size, 0, none⟩ = some (.int .i64 k) ∧ w'.cell? ⟨w.heap.size, 1, none⟩ = some (.int .i64 z) ∧ w'.cell? ⟨w.heap.size, 2, none⟩ = some (.int .i64 t) ∧ w'.cell? ⟨w.heap.size, 3, none⟩ = some (.bool n) ∧ w'.cell? ⟨w2.heap.size, 0, none⟩ = some (.int .i64 0) ∧ w'.cell? ⟨w2.heap.size, 1, none⟩ = some (.int .i64 0) ∧ w'.cell? ⟨w2.heap.size, 2, none⟩ = some (.int .i64 0) ∧ w'.cell? ⟨w2.heap.size, 3, none⟩ = some (.bool false) ∧ w'.cell? ⟨w3.heap.size, 0, none⟩ = some (.int .i64 0) ∧ w'.cell? ⟨w3.heap.size, 1, none⟩ = some (.int .i64 0) ∧ w'.cell? ⟨w3.heap.size, 2, none⟩ = some (.int .i64 0) ∧ w'.cell? ⟨w3.heap.size, 3, none⟩ = some (.bool false) ∧ Below w.heap.size w w')
    (first | (obtain ⟨q0, q1, q2, q3, q4, q5, q6, q7, q8, q9, q10, q11, q12⟩ := ‹World.cell? _ _ = some (Value.int IntKind.i64 k) ∧ _›; exact ⟨pw_cell_below hb q0, pw_cell_below hb q1, pw_cell_below hb q2, pw_cell_below hb q3, pw_cell_below hb q4, pw_cell_below hb q5, pw_cell_below hb q6, pw_cell_below hb q7, pw_cell_below hb q8, pw_cell_below hb q9, pw_cell_below hb q10, pw_cell_below hb q11, hd_keep q12 hb⟩) | ((repeat' (with_reducible refine And.intro ?_ ?_)) <;> first | assumption | (refine (World.cell?_alloc_past _ _ _ hz1).trans ?_; assumption) | (refine (World.cell?_alloc_past _ _ _ hz2).trans ?_; assumption) | (refine pw_cell_below hb ?_; first | assumption | (simp [go_sem]; done)) | (refine hd_keep ?_ hb; (repeat (first | exact Below.refl _ _ | assumption | apply pw_below_drewN | apply below_drew | (refine hd_below_alloc ?_ _ (by first | exact b1.size | (simp; done) | (simp; omega))))); done) | (simp [go_sem]; done) | exact below_drew (hd_below_alloc b1 _ b1.size) | (repeat (first | exact Below.refl _ _ | assumption | apply pw_below_drewN | apply below_drew | (refine hd_below_alloc ?_ _ (by first | exact b1.size | (simp; done) | (simp; omega)))))))
    (first
      | (go_at_call 17; (with_reducible refine (header_c 0 0 0 false _).mono ?_); rintro e w' ⟨rfl, hb⟩)
      | (go_at_call 17; (with_reducible refine (header_c k z t n _).mono ?_); rintro e w' ⟨rfl, hb⟩)
      | (go_at_call 19; (with_reducible refine (fields_c k z t n f _ Hf.out).mono ?_); rintro e w' ⟨rfl, hb⟩)
      | (go_at_call 22; (with_reducible refine (rfields_c k z t n f _ Hf.out).mono ?_); rintro e w' ⟨rfl, hb⟩))
  rename_i w6 hS6
  obtain ⟨s1, s2, s3, s4, a1, a2, a3, a4, _, _, _, _, b1⟩ := hS6
  go_wp2_with fail
  (with_reducible refine (read_c u 0 0 0 false false _ Hku.out Hru.out).mono ?_)
  rintro e w7 ⟨rfl, hb7⟩
  replace s1 := pw_cell_below hb7 s1
  replace a1 := pw_cell_below hb7 a1
  replace s2 := pw_cell_below hb7 s2
  replace a2 := pw_cell_below hb7 a2
  replace s3 := pw_cell_below hb7 s3
  replace a3 := pw_cell_below hb7 a3
  replace s4 := pw_cell_below hb7 s4
  replace a4 := pw_cell_below hb7 a4
  replace b1 := hd_keep b1 hb7
  clear hb7
  replace hz1 : w.heap.size < w7.heap.size := World.block_lt_of_cell? w7 _ s1
  replace hz2 : w2.heap.size < w7.heap.size := World.block_lt_of_cell? w7 _ a1
  go_wp2_with fail
  go_quiet (fail)
  go_wp2
  go_ret
  exact ⟨by first | rfl | (simp; done), by first | repeat (first | exact Below.refl _ _ | assumption | apply pw_below_drewN | apply below_drew | (refine hd_below_alloc ?_ _ (by first | exact b1.size | (simp; done) | (simp; omega))))⟩
end Go.Proofs.Ytficfpidodbdcaa.Wd
