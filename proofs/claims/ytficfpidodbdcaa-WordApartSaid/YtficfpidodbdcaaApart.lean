/-
  LAW: WordApart: for every two tags and numbers and every two headers the law's call returns true and leaves what was there. Conditions: the numbers of the headers are of Go's int.
-/
import Derived.Test.YtficfpidodbdcaaWordH
import Derived.Lib.Hide
import Derived.Deep.RegionHeld3
namespace Go.Proofs.Ytficfpidodbdcaa.Wd
open Go.RowKit Go.Proofs.Ytficfpidodbdcaa.PWordHeads Go.Proofs.YtficfpidodbdcaaW.PrintWords Go.Proofs.YtficfpidodbdcaaW.PrintLast
open Go.Proofs.Ytficfpidodbdcaa.Md
set_option linter.unusedVariables false

theorem and7 (a : Int) : 0 ≤ bits .and .i64 a 7 ∧ bits .and .i64 a 7 ≤ 7 := by
  have h : bits .and .i64 a 7 = IntKind.i64.wrap (((BitVec.ofInt 64 a) &&& (BitVec.ofInt 64 7)).toNat : Int) := rfl
  have h2 : ((BitVec.ofInt 64 a) &&& (BitVec.ofInt 64 7)).toNat ≤ 7 := by
    rw [BitVec.toNat_and]
    exact Nat.and_le_right
  rw [h, IntKind.wrap_i64]
  omega
theorem quiet_of_drawn {P : Program} {f : FuncId} {args : Array Value} {w : World} {n : Nat} {v : Value} (h : Calls P f args (w.drewN n) fun e w' => e = .returned v ∧ Drawn0 (w.drewN n) w') :
    Calls P f args (w.drewN n) fun e w'' => e = .returned v ∧ ∃ m, w'' = w.drewN m := Calls.quiet_of (h.mono fun _ _ ⟨he, hd⟩ => ⟨he, hd.out⟩)
theorem quiet_add_drawn {P : Program} {f : FuncId} {args : Array Value} {w : World} {a n : Nat} {v : Value}
    (h : Calls P f args (w.drewN (a + n)) fun e w' => e = .returned v ∧ Drawn0 (w.drewN (a + n)) w') :
    Calls P f args (w.drewN (a + n)) fun e w'' => e = .returned v ∧ ∃ m, w'' = w.drewN (a + m) :=
  h.mono fun _ _ ⟨he, hd⟩ => by
    obtain ⟨m, hm⟩ := hd.out
    exact ⟨he, n + m, by rw [hm, World.drewN_drewN, Nat.add_assoc]⟩
theorem keep_below {w W W' : World} (h : Below w.heap.size w W) (hb : Below W.heap.size W W') : Below w.heap.size w W' := below_then h h.size hb
def Ends (w : World) (e : Ending) (w' : World) : Prop := e = .returned (.bool true) ∧ Below w.heap.size w w'
theorem below_alloc_ {B : Nat} {w W : World} (h : Below B w W) (o : Obj) (hB : B ≤ W.heap.size) : Below B w (W.alloc o) := h.alloc hB o
set_option maxRecDepth 100000 in
set_option maxHeartbeats 4000000 in
theorem apart_no1 (a0 a1 b0 b1 k0 z0 t0 k1 z1 t1 : Int) (n0 n1 : Bool) (w : World) (Hf : RowKit.Hid (fitsW a1 = false)) : Calls Try.prog 4 #[.agg #[.int .i64 a0, .int .i64 a1], .agg #[.int .i64 b0, .int .i64 b1], .agg #[.int .i64 k0, .int .i64 z0, .int .i64 t0, .bool n0, .int .i64 k1, .int .i64 z1, .int .i64 t1, .bool n1]] w (Ends w) := by
  go_enter Try.func4, Try.ntmps4
  go_wp2_with (first | (go_at_call 7; (with_reducible refine (awake_c _).mono ?_); rintro e w' ⟨rfl, ⟨nd, rfl⟩⟩))
  go_quiet (fail)
  go_wp2_with (first | (go_at_call 9; (with_reducible refine (fits_c a1 false _ Hf.out).mono ?_); rintro e w' ⟨rfl, ⟨nd, rfl⟩⟩))
  go_ret
  exact ⟨rfl, by repeat (first | exact Below.refl _ _ | apply pw_below_drewN | (refine below_alloc_ ?_ _ (by first | (simp; done) | (simp; omega))))⟩
set_option maxRecDepth 100000 in
set_option maxHeartbeats 4000000 in
theorem apart_no2 (a0 a1 b0 b1 k0 z0 t0 k1 z1 t1 : Int) (n0 n1 : Bool) (w : World) (Hf : RowKit.Hid (fitsW a1 = true)) (Hg : RowKit.Hid (fitsW b1 = false)) : Calls Try.prog 4 #[.agg #[.int .i64 a0, .int .i64 a1], .agg #[.int .i64 b0, .int .i64 b1], .agg #[.int .i64 k0, .int .i64 z0, .int .i64 t0, .bool n0, .int .i64 k1, .int .i64 z1, .int .i64 t1, .bool n1]] w (Ends w) := by
  go_enter Try.func4, Try.ntmps4
  go_wp2_with (first | (go_at_call 7; (with_reducible refine (awake_c _).mono ?_); rintro e w' ⟨rfl, ⟨nd, rfl⟩⟩))
  go_quiet (fail)
  go_wp2_with (first | (go_at_call 9; (with_reducible refine (fits_c a1 true _ Hf.out).mono ?_); rintro e w' ⟨rfl, ⟨nd, rfl⟩⟩) | (go_at_call 9; (with_reducible refine (fits_c b1 false _ Hg.out).mono ?_); rintro e w' ⟨rfl, ⟨nd, rfl⟩⟩))
  go_ret
  exact ⟨rfl, by repeat (first | exact Below.refl _ _ | apply pw_below_drewN | (refine below_alloc_ ?_ _ (by first | (simp; done) | (simp; omega))))⟩
set_option maxRecDepth 100000 in
set_option maxHeartbeats 4000000 in
theorem apart_yes (a0 a1 b0 b1 k0 z0 t0 k1 z1 t1 : Int) (n0 n1 : Bool) (w : World) (Hf : RowKit.Hid (fitsW a1 = true)) (Hg : RowKit.Hid (fitsW b1 = true))
    (s t x y u v : Int) (tu tv : Int) (Htu : RowKit.Hid (tagW u = tu)) (Htv : RowKit.Hid (tagW v = tv)) (Hku : RowKit.Hid (okW u)) (Hkv : RowKit.Hid (okW v)) (Hxy : RowKit.Hid (x = y ↔ s = t ∧ a1 = b1)) (Huv : RowKit.Hid (tu = 6 → tv = 6 → (u = v ↔ k0 = k1 ∧ z0 = z1 ∧ t0 = t1 ∧ n0 = n1))) (hs : bits .and .i64 a0 7 = s) (ht : bits .and .i64 b0 7 = t) (Hx : RowKit.Hid (ofW s a1 = x)) (Hy : RowKit.Hid (ofW t b1 = y)) (Hu : RowKit.Hid (makeH ⟨k0, z0, t0, n0⟩ = u)) (Hv : RowKit.Hid (makeH ⟨k1, z1, t1, n1⟩ = v)) : Calls Try.prog 4 #[.agg #[.int .i64 a0, .int .i64 a1], .agg #[.int .i64 b0, .int .i64 b1], .agg #[.int .i64 k0, .int .i64 z0, .int .i64 t0, .bool n0, .int .i64 k1, .int .i64 z1, .int .i64 t1, .bool n1]] w (Ends w) := by
  go_enter Try.func4, Try.ntmps4
  go_wp2_with (first | (go_at_call 7; (with_reducible refine (awake_c _).mono ?_); rintro e w' ⟨rfl, ⟨nd, rfl⟩⟩))
  go_quiet (fail)
  go_wp2_with (first | (go_at_call 9; (with_reducible refine (fits_c a1 true _ Hf.out).mono ?_); rintro e w' ⟨rfl, ⟨nd, rfl⟩⟩) | (go_at_call 9; (with_reducible refine (fits_c b1 true _ Hg.out).mono ?_); rintro e w' ⟨rfl, ⟨nd, rfl⟩⟩))
  go_quiet (first | (go_at_call 8; with_reducible exact quiet_add_drawn (of_c s a1 x _ Hx.out)) | (go_at_call 8; with_reducible exact quiet_add_drawn (of_c t b1 y _ Hy.out)))
  go_wp2_with fail
  go_region_held3 (fun w' => w'.cell? ⟨w.heap.size, 1, none⟩ = some (.int .i64 a1) ∧ w'.cell? ⟨w.heap.size + 1, 1, none⟩ = some (.int .i64 b1) ∧ w'.cell? ⟨w.heap.size + 2, 0, none⟩ = some (.int .i64 k0) ∧ w'.cell? ⟨w.heap.size + 2, 1, none⟩ = some (.int .i64 z0) ∧ w'.cell? ⟨w.heap.size + 2, 2, none⟩ = some (.int .i64 t0) ∧ w'.cell? ⟨w.heap.size + 2, 3, none⟩ = some (.bool n0) ∧ w'.cell? ⟨w.heap.size + 2, 4, none⟩ = some (.int .i64 k1) ∧ w'.cell? ⟨w.heap.size + 2, 5, none⟩ = some (.int .i64 z1) ∧ w'.cell? ⟨w.heap.size + 2, 6, none⟩ = some (.int .i64 t1) ∧ w'.cell? ⟨w.heap.size + 2, 7, none⟩ = some (.bool n1) ∧ Below w.heap.size w w') (first | (obtain ⟨q1, q2, q3, q4, q5, q6, q7, q8, q9, q10, q11⟩ := ‹World.cell? _ _ = some (Value.int IntKind.i64 a1) ∧ _›; exact ⟨pw_cell_below hb q1, pw_cell_below hb q2, pw_cell_below hb q3, pw_cell_below hb q4, pw_cell_below hb q5, pw_cell_below hb q6, pw_cell_below hb q7, pw_cell_below hb q8, pw_cell_below hb q9, pw_cell_below hb q10, keep_below q11 hb⟩) | (refine ⟨?_, ?_, ?_, ?_, ?_, ?_, ?_, ?_, ?_, ?_, ?_⟩ <;> first | (refine pw_cell_below hb ?_; simp [go_sem]; done) | (refine keep_below ?_ hb; (repeat (first | exact Below.refl _ _ | apply pw_below_drewN | apply below_drew | (refine below_alloc_ ?_ _ (by first | (simp; done) | (simp; omega))))); done) | (simp [go_sem]; done) | (repeat (first | exact Below.refl _ _ | apply pw_below_drewN | apply below_drew | (refine below_alloc_ ?_ _ (by first | (simp; done) | (simp; omega)))))))
    (first
      | (go_at_call 17; with_reducible refine (header_c k0 z0 t0 n0 _).mono ?_; rintro e w' ⟨rfl, hb⟩)
      | (go_at_call 17; with_reducible refine (header_c k1 z1 t1 n1 _).mono ?_; rintro e w' ⟨rfl, hb⟩)
      | (go_at_call 16; with_reducible refine (make_c k0 z0 t0 n0 u _ Hu.out).mono ?_; rintro e w' ⟨rfl, hb⟩)
      | (go_at_call 16; with_reducible refine (make_c k1 z1 t1 n1 v _ Hv.out).mono ?_; rintro e w' ⟨rfl, hb⟩) | (exact ⟨(by first | assumption | (simp [go_sem, World.cell?_alloc_past]; done)), (by first | assumption | (simp [go_sem, World.cell?_alloc_past]; done)), (by first | assumption | (simp [go_sem, World.cell?_alloc_past]; done)), (by first | assumption | (simp [go_sem, World.cell?_alloc_past]; done)), (by first | assumption | (simp [go_sem, World.cell?_alloc_past]; done)), (by first | assumption | (simp [go_sem, World.cell?_alloc_past]; done)), (by first | assumption | (simp [go_sem, World.cell?_alloc_past]; done)), (by first | assumption | (simp [go_sem, World.cell?_alloc_past]; done)), (by first | assumption | (simp [go_sem, World.cell?_alloc_past]; done)), (by first | assumption | (simp [go_sem, World.cell?_alloc_past]; done)), (by first | assumption | (repeat (first | exact Below.refl _ _ | apply pw_below_drewN | apply below_drew | (refine below_alloc_ ?_ _ (by first | (simp; done) | (simp; omega))))))⟩))
  go_wp2_with (first | (go_at_call 10; (with_reducible refine (tag_c u tu _ Hku.out Htu.out).mono ?_); rintro e w' ⟨rfl, ⟨nd, rfl⟩⟩) | (go_at_call 10; (with_reducible refine (tag_c v tv _ Hkv.out Htv.out).mono ?_); rintro e w' ⟨rfl, ⟨nd, rfl⟩⟩))
  all_goals
    obtain ⟨_, _, _, _, _, _, _, _, _, _, q11⟩ := ‹World.cell? _ _ = some (Value.int IntKind.i64 a1) ∧ _›
    have h1 := Hxy.out
    have h2 := Huv.out
    go_ret
    refine ⟨?_, by first | assumption | exact pw_below_drewN q11 _⟩
    clear q11 Hx Hy Hu Hv Hku Hkv Hf Hg Htu Htv Hxy Huv
    have h3 : s = t → (x == y) = (a1 == b1) := fun e => by
      by_cases ha : a1 = b1
      · rw [show x = y from h1.2 ⟨e, ha⟩, ha]; simp
      · rw [beq_eq_false_iff_ne.2 (fun h => ha (h1.1 h).2), beq_eq_false_iff_ne.2 ha]
    first | rfl | (exact absurd (h3 (by assumption)) (by assumption)) | (simp_all; done) | (by_cases hx : x = y <;> by_cases hu : u = v <;> by_cases ha : a1 = b1 <;> simp_all; done)
theorem apart (a0 a1 b0 b1 k0 z0 t0 k1 z1 t1 : Int) (n0 n1 : Bool) (w : World) : Calls Try.prog 4 #[.agg #[.int .i64 a0, .int .i64 a1], .agg #[.int .i64 b0, .int .i64 b1], .agg #[.int .i64 k0, .int .i64 z0, .int .i64 t0, .bool n0, .int .i64 k1, .int .i64 z1, .int .i64 t1, .bool n1]] w (Ends w) := by
  cases hf : fitsW a1 with
  | false => exact apart_no1 a0 a1 b0 b1 k0 z0 t0 k1 z1 t1 n0 n1 w hf
  | true =>
    cases hg : fitsW b1 with
    | false => exact apart_no2 a0 a1 b0 b1 k0 z0 t0 k1 z1 t1 n0 n1 w hf hg
    | true =>
      obtain ⟨s0, s7⟩ := and7 a0
      obtain ⟨r0, r7⟩ := and7 b0
      refine apart_yes a0 a1 b0 b1 k0 z0 t0 k1 z1 t1 n0 n1 w hf hg _ _ (ofW (bits .and .i64 a0 7) a1) (ofW (bits .and .i64 b0 7) b1) (makeH ⟨k0, z0, t0, n0⟩) (makeH ⟨k1, z1, t1, n1⟩) _ _ rfl rfl (okW_makeH _) (okW_makeH _) ?_ ?_ rfl rfl rfl rfl rfl rfl
      · constructor
        · intro e
          have h1 := tag_ofW s0 s7 hf
          have h2 := val_ofW s0 s7 hf
          rw [e] at h1 h2
          exact ⟨h1.symm.trans (tag_ofW r0 r7 hg), h2.symm.trans (val_ofW r0 r7 hg)⟩
        · rintro ⟨e1, e2⟩
          rw [e1, e2]
      · intro h6 h7
        have m0 := may_of_tag h6
        have m1 := may_of_tag h7
        constructor
        · intro e
          have := make_inj m0 m1 e
          simpa using this
        · rintro ⟨rfl, rfl, rfl, rfl⟩; rfl
end Go.Proofs.Ytficfpidodbdcaa.Wd
