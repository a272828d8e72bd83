/-
  CONTRACTS: Object of both arenas. No condition but that the arena stands.
-/
import Derived.Test.YtjiaaefpepdoeaaPure
import Derived.Test.YtjiaaefpepdoeaaUni
namespace Go.Proofs.Ytjiaaefpepdoeaa
open Go.RowKit Md Go.Proofs.YtjiaaefpepdoeaaW.PrintWords
set_option linter.unusedVariables false
theorem objAt_some {ws : List Int} {i : Int} {h : Hdr} (hh : objAt ws i = some h) : ∃ k : Nat, i = k ∧ k < ws.length ∧ readH (ws.getD k 0) = some h ∧ h.size < ws.length - k := by
  unfold objAt at hh
  cases hr : rdAt ws i with
  | none => rw [hr] at hh; cases hh
  | some x =>
    obtain ⟨k, rfl, hk, hx⟩ := rdAt_some hr
    rw [hr] at hh
    simp only at hh
    cases hq : readH x with
    | none => rw [hq] at hh; cases hh
    | some h' =>
      rw [hq] at hh
      simp only at hh
      split at hh
      · rename_i hs; cases hh; exact ⟨k, rfl, hk, by rw [hx, hq], hs⟩
      · cases hh
theorem objAt_none {ws : List Int} {i : Int} (hh : objAt ws i = none) : ¬ (0 ≤ i ∧ i < ws.length) ∨ ∃ k : Nat, i = k ∧ k < ws.length ∧ (readH (ws.getD k 0) = none ∨ ∃ h, readH (ws.getD k 0) = some h ∧ (ws.length : Int) - k ≤ h.size) := by
  unfold objAt at hh
  cases hr : rdAt ws i with
  | none => exact .inl (rdAt_none hr)
  | some x =>
    obtain ⟨k, rfl, hk, hx⟩ := rdAt_some hr
    rw [hr] at hh
    simp only at hh
    refine .inr ⟨k, rfl, hk, ?_⟩
    rw [hx]
    cases hq : readH x with
    | none => exact .inl rfl
    | some h' =>
      rw [hq] at hh
      simp only at hh
      split at hh
      · cases hh
      · rename_i hs; exact .inr ⟨h', rfl, by omega⟩
theorem objAt_of {ws : List Int} {k : Nat} {h : Hdr} (hk : k < ws.length) (hr : readH (ws.getD k 0) = some h) (hs : h.size < (ws.length : Int) - k) : objAt ws k = some h := by
  unfold objAt
  rw [rdAt_of hk]
  simp only [hr]
  rw [if_pos hs]
theorem readH_size {x : Int} {h : Hdr} (hr : readH x = some h) : 0 ≤ h.size ∧ h.size < 1048576 := by
  obtain ⟨h1, h2, h3, h4⟩ := read_some hr
  rw [h4]; unfold unpackH; simp only; omega
set_option maxHeartbeats 1000000 in
theorem obj_some (p : Nat) (v : Value) (ws : List Int) (size i : Int) (h : Hdr) (w : World) (ha : Ar 101 w p v ws size) (hh : objAt ws i = some h) :
    Calls Try.prog 62 #[.pointer (some ⟨p, 0, none⟩), .int .i64 i] w fun e w' => e = .returned (.tuple #[.agg #[.int .i64 h.kind, .int .i64 h.size, .int .i64 h.tree, .bool h.neg], .bool true]) ∧ Fr w w' (fun _ => False) := by
  obtain ⟨k, rfl, hk, hr, hs⟩ := objAt_some hh
  clear hh
  rcases ha.form with ⟨_, rfl⟩ | ⟨g, cap, rfl, hl, hm, hg, hgp, hc, hf⟩
  · simp at hk
  have c0 := ha.c0
  have ck := hc k hk
  have hx := okWs_getD ha.ok k hk
  obtain ⟨x, hxe⟩ : ∃ x, ws.getD k 0 = x := ⟨_, rfl⟩
  rw [hxe] at ck hr hx
  have hrp : Wd.readP x = (h.kind, h.size, h.tree, h.neg, true) := by unfold Wd.readP; rw [hr]
  obtain ⟨hz0, hz1⟩ := readH_size hr
  obtain ⟨hkd, hsz, htr, hng⟩ := h
  simp only at hrp hz0 hz1 hs ⊢
  have HRP := Lib.hid hrp
  have hle := ha.le
  have hmx := ha.mx
  have hpw := ha.lt
  have HX := Lib.hid hx
  have d1 : decide ((k : Int) < 0) = false := decide_eq_false (by omega)
  have d2 : decide ((ws.length : Int) ≤ (k : Int)) = false := decide_eq_false (by omega)
  have d2' : decide (ws.length ≤ k) = false := decide_eq_false (by omega)
  have d3 : decide ((ws.length : Int) - (k : Int) ≤ hsz) = false := decide_eq_false (by omega)
  have hw1 : IntKind.i64.wrap ((ws.length : Int) - (k : Int)) = ws.length - k := by rw [IntKind.wrap_i64]; omega
  have hw3 : wrap64 ((ws.length : Int) - (k : Int)) = ws.length - k := by unfold wrap64; omega
  clear ha hc hf hgp hm hx hrp hr hxe hle
  go_enter Try.func62, Try.ntmps62
  go_wp2_with (first | (go_at_call 82; (with_reducible refine (Wd.read_c x hkd hsz htr hng true _ HX.out HRP.out).mono ?_); rintro e w1 ⟨rfl, hb⟩))
  have c0w := pw_cell_below hb ((World.cell?_alloc_past _ _ _ hpw).trans c0)
  have hpw1 : p < w1.heap.size := World.block_lt_of_cell? w1 _ c0w
  have HB := Lib.hid hb
  clear hb ck c0
  have hbk : w1.heap[w.heap.size]? = some (.cells #[.int .i64 0, .int .i64 0, .int .i64 0, .bool false] 104 (0, 0)) := (HB.out.block w.heap.size (by simp)).trans (by show (w.heap.push _)[w.heap.size]? = _; exact Array.getElem?_push_size)
  have gw1 : w.heap.size < w1.heap.size := (Array.getElem?_eq_some_iff.1 hbk).1
  have fz : ∀ i, w1.frozen? ⟨w.heap.size, i, none⟩ = false := fun i => by simp [World.frozen?, hbk]
  have e0 : w1.cell? ⟨w.heap.size, 0, none⟩ = some (.int .i64 0) := by simp [World.cell?, hbk]
  have e1 : w1.cell? ⟨w.heap.size, 1, none⟩ = some (.int .i64 0) := by simp [World.cell?, hbk]
  have e2 : w1.cell? ⟨w.heap.size, 2, none⟩ = some (.int .i64 0) := by simp [World.cell?, hbk]
  have e3 : w1.cell? ⟨w.heap.size, 3, none⟩ = some (.bool false) := by simp [World.cell?, hbk]
  have HBK := Lib.hid hbk
  clear hbk
  go_quiet (fail)
  go_wp2
  refine bodyPost_ret (results_ct rfl _ _ w.heap.size 104 #[.int .i64 hkd, .int .i64 hsz, .int .i64 htr, .bool hng] (0, 0) _ rfl (by
    refine blk_put (cs := #[.int .i64 hkd, .int .i64 hsz, .int .i64 htr, .bool false]) ?_ 3 _ rfl
    refine blk_put (cs := #[.int .i64 hkd, .int .i64 hsz, .int .i64 0, .bool false]) ?_ 2 _ rfl
    refine blk_put (cs := #[.int .i64 hkd, .int .i64 0, .int .i64 0, .bool false]) ?_ 1 _ rfl
    refine blk_put (cs := #[.int .i64 0, .int .i64 0, .int .i64 0, .bool false]) ?_ 0 _ rfl
    refine blk_drewN ?_ _
    refine blk_alloc ?_ _
    exact HBK.out) Try.underlying104 rfl (by kernel_rfl)) rfl ?_
  exact ⟨rfl, (((((((((Fr.refl w _).alloc _).trans (Fr.of_below HB.out _)).alloc _).drewN _).setCell (fun h => absurd h (Nat.lt_irrefl _)) _).setCell (fun h => absurd h (Nat.lt_irrefl _)) _).setCell (fun h => absurd h (Nat.lt_irrefl _)) _).setCell (fun h => absurd h (Nat.lt_irrefl _)) _)⟩
set_option maxHeartbeats 1000000 in
theorem obj_far (p : Nat) (v : Value) (ws : List Int) (size i : Int) (w : World) (ha : Ar 101 w p v ws size) (hh : ¬ (0 ≤ i ∧ i < ws.length)) :
    Calls Try.prog 62 #[.pointer (some ⟨p, 0, none⟩), .int .i64 i] w fun e w' => e = .returned (.tuple #[.agg #[.int .i64 0, .int .i64 0, .int .i64 0, .bool false], .bool false]) ∧ Fr w w' (fun _ => False) := by
  obtain ⟨A, cap, rfl⟩ := ha.val
  have c0 := ha.c0
  have hpw := ha.lt
  clear ha
  have key : decide (i < 0) = true ∨ (decide (i < 0) = false ∧ decide ((ws.length : Int) ≤ i) = true) := by
    by_cases h0 : i < 0
    · exact .inl (decide_eq_true h0)
    · exact .inr ⟨decide_eq_false h0, decide_eq_true (by omega)⟩
  clear hh
  have hbk : (w.alloc (.cells #[.int .i64 0, .int .i64 0, .int .i64 0, .bool false] 104)).heap[w.heap.size]? = some (.cells #[.int .i64 0, .int .i64 0, .int .i64 0, .bool false] 104 (0, 0)) := by show (w.heap.push _)[w.heap.size]? = _; exact Array.getElem?_push_size
  have HBK := Lib.hid hbk
  clear hbk
  rcases key with d1 | ⟨d1, d2⟩
  · go_enter Try.func62, Try.ntmps62
    go_wp2
    refine bodyPost_ret (results_ct rfl _ _ w.heap.size 104 #[.int .i64 0, .int .i64 0, .int .i64 0, .bool false] (0, 0) _ rfl HBK.out Try.underlying104 rfl (by kernel_rfl)) rfl ?_
    exact ⟨rfl, (Fr.refl w _).alloc _⟩
  · go_enter Try.func62, Try.ntmps62
    go_wp2
    refine bodyPost_ret (results_ct rfl _ _ w.heap.size 104 #[.int .i64 0, .int .i64 0, .int .i64 0, .bool false] (0, 0) _ rfl HBK.out Try.underlying104 rfl (by kernel_rfl)) rfl ?_
    exact ⟨rfl, (Fr.refl w _).alloc _⟩
set_option maxHeartbeats 1000000 in
theorem obj_bad (p : Nat) (v : Value) (ws : List Int) (size : Int) (k : Nat) (w : World) (ha : Ar 101 w p v ws size) (hk : k < ws.length) (hr : readH (ws.getD k 0) = none) :
    Calls Try.prog 62 #[.pointer (some ⟨p, 0, none⟩), .int .i64 k] w fun e w' => e = .returned (.tuple #[.agg #[.int .i64 0, .int .i64 0, .int .i64 0, .bool false], .bool false]) ∧ Fr w w' (fun _ => False) := by
  rcases ha.form with ⟨_, rfl⟩ | ⟨g, cap, rfl, hl, hm, hg, hgp, hc, hf⟩
  · simp at hk
  have c0 := ha.c0
  have ck := hc k hk
  have hx := okWs_getD ha.ok k hk
  obtain ⟨x, hxe⟩ : ∃ x, ws.getD k 0 = x := ⟨_, rfl⟩
  rw [hxe] at ck hr hx
  have hrp : Wd.readP x = (0, 0, 0, false, false) := by unfold Wd.readP; rw [hr]
  have HRP := Lib.hid hrp
  have hle := ha.le
  have hmx := ha.mx
  have hpw := ha.lt
  have HX := Lib.hid hx
  have d1 : decide ((k : Int) < 0) = false := decide_eq_false (by omega)
  have d2 : decide ((ws.length : Int) ≤ (k : Int)) = false := decide_eq_false (by omega)
  have d2' : decide (ws.length ≤ k) = false := decide_eq_false (by omega)
  clear ha hc hf hgp hm hx hrp hr hxe hle
  go_enter Try.func62, Try.ntmps62
  go_wp2_with (first | (go_at_call 82; (with_reducible refine (Wd.read_c x 0 0 0 false false _ HX.out HRP.out).mono ?_); rintro e w1 ⟨rfl, hb⟩))
  have c0w := pw_cell_below hb ((World.cell?_alloc_past _ _ _ hpw).trans c0)
  have hpw1 : p < w1.heap.size := World.block_lt_of_cell? w1 _ c0w
  have HB := Lib.hid hb
  clear hb ck c0
  have hbk : w1.heap[w.heap.size]? = some (.cells #[.int .i64 0, .int .i64 0, .int .i64 0, .bool false] 104 (0, 0)) := (HB.out.block w.heap.size (by simp)).trans (by show (w.heap.push _)[w.heap.size]? = _; exact Array.getElem?_push_size)
  have gw1 : w.heap.size < w1.heap.size := (Array.getElem?_eq_some_iff.1 hbk).1
  have fz : ∀ i, w1.frozen? ⟨w.heap.size, i, none⟩ = false := fun i => by simp [World.frozen?, hbk]
  have e0 : w1.cell? ⟨w.heap.size, 0, none⟩ = some (.int .i64 0) := by simp [World.cell?, hbk]
  have e1 : w1.cell? ⟨w.heap.size, 1, none⟩ = some (.int .i64 0) := by simp [World.cell?, hbk]
  have e2 : w1.cell? ⟨w.heap.size, 2, none⟩ = some (.int .i64 0) := by simp [World.cell?, hbk]
  have e3 : w1.cell? ⟨w.heap.size, 3, none⟩ = some (.bool false) := by simp [World.cell?, hbk]
  have HBK := Lib.hid hbk
  clear hbk
  go_quiet (fail)
  go_wp2
  refine bodyPost_ret (results_ct rfl _ _ w.heap.size 104 #[.int .i64 0, .int .i64 0, .int .i64 0, .bool false] (0, 0) _ rfl (by
    refine blk_put (cs := #[.int .i64 0, .int .i64 0, .int .i64 0, .bool false]) ?_ 3 _ rfl
    refine blk_put (cs := #[.int .i64 0, .int .i64 0, .int .i64 0, .bool false]) ?_ 2 _ rfl
    refine blk_put (cs := #[.int .i64 0, .int .i64 0, .int .i64 0, .bool false]) ?_ 1 _ rfl
    refine blk_put (cs := #[.int .i64 0, .int .i64 0, .int .i64 0, .bool false]) ?_ 0 _ rfl
    refine blk_drewN ?_ _
    refine blk_alloc ?_ _
    exact HBK.out) Try.underlying104 rfl (by kernel_rfl)) rfl ?_
  exact ⟨rfl, (((((((((Fr.refl w _).alloc _).trans (Fr.of_below HB.out _)).alloc _).drewN _).setCell (fun h => absurd h (Nat.lt_irrefl _)) _).setCell (fun h => absurd h (Nat.lt_irrefl _)) _).setCell (fun h => absurd h (Nat.lt_irrefl _)) _).setCell (fun h => absurd h (Nat.lt_irrefl _)) _)⟩
set_option maxHeartbeats 1000000 in
theorem obj_long (p : Nat) (v : Value) (ws : List Int) (size : Int) (k : Nat) (h : Hdr) (w : World) (ha : Ar 101 w p v ws size) (hk : k < ws.length) (hr : readH (ws.getD k 0) = some h) (hs : (ws.length : Int) - k ≤ h.size) :
    Calls Try.prog 62 #[.pointer (some ⟨p, 0, none⟩), .int .i64 k] w fun e w' => e = .returned (.tuple #[.agg #[.int .i64 0, .int .i64 0, .int .i64 0, .bool false], .bool false]) ∧ Fr w w' (fun _ => False) := by
  rcases ha.form with ⟨_, rfl⟩ | ⟨g, cap, rfl, hl, hm, hg, hgp, hc, hf⟩
  · simp at hk
  have c0 := ha.c0
  have ck := hc k hk
  have hx := okWs_getD ha.ok k hk
  obtain ⟨x, hxe⟩ : ∃ x, ws.getD k 0 = x := ⟨_, rfl⟩
  rw [hxe] at ck hr hx
  have hrp : Wd.readP x = (h.kind, h.size, h.tree, h.neg, true) := by unfold Wd.readP; rw [hr]
  obtain ⟨hz0, hz1⟩ := readH_size hr
  obtain ⟨hkd, hsz, htr, hng⟩ := h
  simp only at hrp hz0 hz1 hs ⊢
  have HRP := Lib.hid hrp
  have hle := ha.le
  have hmx := ha.mx
  have hpw := ha.lt
  have HX := Lib.hid hx
  have d1 : decide ((k : Int) < 0) = false := decide_eq_false (by omega)
  have d2 : decide ((ws.length : Int) ≤ (k : Int)) = false := decide_eq_false (by omega)
  have d2' : decide (ws.length ≤ k) = false := decide_eq_false (by omega)
  have d3 : decide ((ws.length : Int) - (k : Int) ≤ hsz) = true := decide_eq_true (by omega)
  have hw1 : IntKind.i64.wrap ((ws.length : Int) - (k : Int)) = ws.length - k := by rw [IntKind.wrap_i64]; omega
  have hw3 : wrap64 ((ws.length : Int) - (k : Int)) = ws.length - k := by unfold wrap64; omega
  clear ha hc hf hgp hm hx hrp hr hxe hle
  go_enter Try.func62, Try.ntmps62
  go_wp2_with (first | (go_at_call 82; (with_reducible refine (Wd.read_c x hkd hsz htr hng true _ HX.out HRP.out).mono ?_); rintro e w1 ⟨rfl, hb⟩))
  have c0w := pw_cell_below hb ((World.cell?_alloc_past _ _ _ hpw).trans c0)
  have hpw1 : p < w1.heap.size := World.block_lt_of_cell? w1 _ c0w
  have HB := Lib.hid hb
  clear hb ck c0
  have hbk : w1.heap[w.heap.size]? = some (.cells #[.int .i64 0, .int .i64 0, .int .i64 0, .bool false] 104 (0, 0)) := (HB.out.block w.heap.size (by simp)).trans (by show (w.heap.push _)[w.heap.size]? = _; exact Array.getElem?_push_size)
  have gw1 : w.heap.size < w1.heap.size := (Array.getElem?_eq_some_iff.1 hbk).1
  have fz : ∀ i, w1.frozen? ⟨w.heap.size, i, none⟩ = false := fun i => by simp [World.frozen?, hbk]
  have e0 : w1.cell? ⟨w.heap.size, 0, none⟩ = some (.int .i64 0) := by simp [World.cell?, hbk]
  have e1 : w1.cell? ⟨w.heap.size, 1, none⟩ = some (.int .i64 0) := by simp [World.cell?, hbk]
  have e2 : w1.cell? ⟨w.heap.size, 2, none⟩ = some (.int .i64 0) := by simp [World.cell?, hbk]
  have e3 : w1.cell? ⟨w.heap.size, 3, none⟩ = some (.bool false) := by simp [World.cell?, hbk]
  have HBK := Lib.hid hbk
  clear hbk
  go_quiet (fail)
  go_wp2
  refine bodyPost_ret (results_ct rfl _ _ w.heap.size 104 #[.int .i64 0, .int .i64 0, .int .i64 0, .bool false] (0, 0) _ rfl (by
    refine blk_put (cs := #[.int .i64 0, .int .i64 0, .int .i64 0, .bool false]) ?_ 3 _ rfl
    refine blk_put (cs := #[.int .i64 0, .int .i64 0, .int .i64 0, .bool false]) ?_ 2 _ rfl
    refine blk_put (cs := #[.int .i64 0, .int .i64 0, .int .i64 0, .bool false]) ?_ 1 _ rfl
    refine blk_put (cs := #[.int .i64 0, .int .i64 0, .int .i64 0, .bool false]) ?_ 0 _ rfl
    refine blk_drewN ?_ _
    refine blk_alloc ?_ _
    exact HBK.out) Try.underlying104 rfl (by kernel_rfl)) rfl ?_
  exact ⟨rfl, (((((((((Fr.refl w _).alloc _).trans (Fr.of_below HB.out _)).alloc _).drewN _).setCell (fun h => absurd h (Nat.lt_irrefl _)) _).setCell (fun h => absurd h (Nat.lt_irrefl _)) _).setCell (fun h => absurd h (Nat.lt_irrefl _)) _).setCell (fun h => absurd h (Nat.lt_irrefl _)) _)⟩
theorem obj_none (p : Nat) (v : Value) (ws : List Int) (size i : Int) (w : World) (ha : Ar 101 w p v ws size) (hh : objAt ws i = none) :
    Calls Try.prog 62 #[.pointer (some ⟨p, 0, none⟩), .int .i64 i] w fun e w' => e = .returned (.tuple #[.agg #[.int .i64 0, .int .i64 0, .int .i64 0, .bool false], .bool false]) ∧ Fr w w' (fun _ => False) := by
  rcases objAt_none hh with h | ⟨k, rfl, hk, h | ⟨hd, h, hs⟩⟩
  · exact obj_far p v ws size i w ha h
  · exact obj_bad p v ws size k w ha hk h
  · exact obj_long p v ws size k hd w ha hk h hs
set_option maxHeartbeats 1000000 in
theorem mobj_some (p : Nat) (v : Value) (ws : List Int) (size i : Int) (h : Hdr) (w : World) (ha : Ar 41 w p v ws size) (hh : objAt ws i = some h) :
    Calls Try.prog 41 #[.pointer (some ⟨p, 0, none⟩), .int .i64 i] w fun e w' => e = .returned (.tuple #[.agg #[.int .i64 h.kind, .int .i64 h.size, .int .i64 h.tree, .bool h.neg], .bool true]) ∧ Fr w w' (fun _ => False) := by
  obtain ⟨k, rfl, hk, hr, hs⟩ := objAt_some hh
  clear hh
  rcases ha.form with ⟨_, rfl⟩ | ⟨g, cap, rfl, hl, hm, hg, hgp, hc, hf⟩
  · simp at hk
  have c0 := ha.c0
  have ck := hc k hk
  have hx := okWs_getD ha.ok k hk
  obtain ⟨x, hxe⟩ : ∃ x, ws.getD k 0 = x := ⟨_, rfl⟩
  rw [hxe] at ck hr hx
  have hrp : Wd.readP x = (h.kind, h.size, h.tree, h.neg, true) := by unfold Wd.readP; rw [hr]
  obtain ⟨hz0, hz1⟩ := readH_size hr
  obtain ⟨hkd, hsz, htr, hng⟩ := h
  simp only at hrp hz0 hz1 hs ⊢
  have HRP := Lib.hid hrp
  have hle := ha.le
  have hmx := ha.mx
  have hpw := ha.lt
  have HX := Lib.hid hx
  have d1 : decide ((k : Int) < 0) = false := decide_eq_false (by omega)
  have d2 : decide ((ws.length : Int) ≤ (k : Int)) = false := decide_eq_false (by omega)
  have d2' : decide (ws.length ≤ k) = false := decide_eq_false (by omega)
  have d3 : decide ((ws.length : Int) - (k : Int) - 1 < hsz) = false := decide_eq_false (by omega)
  have hw2 : IntKind.i64.wrap ((ws.length : Int) - (k : Int) - 1) = ws.length - k - 1 := by rw [IntKind.wrap_i64]; omega
  have hw4 : wrap64 ((ws.length : Int) - (k : Int) - 1) = ws.length - k - 1 := by unfold wrap64; omega
  have hw1 : IntKind.i64.wrap ((ws.length : Int) - (k : Int)) = ws.length - k := by rw [IntKind.wrap_i64]; omega
  have hw3 : wrap64 ((ws.length : Int) - (k : Int)) = ws.length - k := by unfold wrap64; omega
  clear ha hc hf hgp hm hx hrp hr hxe hle
  go_enter Try.func41, Try.ntmps41
  go_wp2_with (first | (go_at_call 63; (with_reducible refine (Wd.rread_c x hkd hsz htr hng true _ HX.out HRP.out).mono ?_); rintro e w1 ⟨rfl, hb⟩))
  have c0w := pw_cell_below hb ((World.cell?_alloc_past _ _ _ hpw).trans c0)
  have hpw1 : p < w1.heap.size := World.block_lt_of_cell? w1 _ c0w
  have HB := Lib.hid hb
  clear hb ck c0
  have hbk : w1.heap[w.heap.size]? = some (.cells #[.int .i64 0, .int .i64 0, .int .i64 0, .bool false] 50 (0, 0)) := (HB.out.block w.heap.size (by simp)).trans (by show (w.heap.push _)[w.heap.size]? = _; exact Array.getElem?_push_size)
  have gw1 : w.heap.size < w1.heap.size := (Array.getElem?_eq_some_iff.1 hbk).1
  have fz : ∀ i, w1.frozen? ⟨w.heap.size, i, none⟩ = false := fun i => by simp [World.frozen?, hbk]
  have e0 : w1.cell? ⟨w.heap.size, 0, none⟩ = some (.int .i64 0) := by simp [World.cell?, hbk]
  have e1 : w1.cell? ⟨w.heap.size, 1, none⟩ = some (.int .i64 0) := by simp [World.cell?, hbk]
  have e2 : w1.cell? ⟨w.heap.size, 2, none⟩ = some (.int .i64 0) := by simp [World.cell?, hbk]
  have e3 : w1.cell? ⟨w.heap.size, 3, none⟩ = some (.bool false) := by simp [World.cell?, hbk]
  have HBK := Lib.hid hbk
  clear hbk
  go_quiet (fail)
  go_wp2
  refine bodyPost_ret (results_ct rfl _ _ w.heap.size 50 #[.int .i64 hkd, .int .i64 hsz, .int .i64 htr, .bool hng] (0, 0) _ rfl (by
    refine blk_put (cs := #[.int .i64 hkd, .int .i64 hsz, .int .i64 htr, .bool false]) ?_ 3 _ rfl
    refine blk_put (cs := #[.int .i64 hkd, .int .i64 hsz, .int .i64 0, .bool false]) ?_ 2 _ rfl
    refine blk_put (cs := #[.int .i64 hkd, .int .i64 0, .int .i64 0, .bool false]) ?_ 1 _ rfl
    refine blk_put (cs := #[.int .i64 0, .int .i64 0, .int .i64 0, .bool false]) ?_ 0 _ rfl
    refine blk_drewN ?_ _
    refine blk_alloc ?_ _
    exact HBK.out) Try.underlying50 rfl (by kernel_rfl)) rfl ?_
  exact ⟨rfl, (((((((((Fr.refl w _).alloc _).trans (Fr.of_below HB.out _)).alloc _).drewN _).setCell (fun h => absurd h (Nat.lt_irrefl _)) _).setCell (fun h => absurd h (Nat.lt_irrefl _)) _).setCell (fun h => absurd h (Nat.lt_irrefl _)) _).setCell (fun h => absurd h (Nat.lt_irrefl _)) _)⟩
set_option maxHeartbeats 1000000 in
theorem mobj_far (p : Nat) (v : Value) (ws : List Int) (size i : Int) (w : World) (ha : Ar 41 w p v ws size) (hh : ¬ (0 ≤ i ∧ i < ws.length)) :
    Calls Try.prog 41 #[.pointer (some ⟨p, 0, none⟩), .int .i64 i] w fun e w' => e = .returned (.tuple #[.agg #[.int .i64 0, .int .i64 0, .int .i64 0, .bool false], .bool false]) ∧ Fr w w' (fun _ => False) := by
  obtain ⟨A, cap, rfl⟩ := ha.val
  have c0 := ha.c0
  have hpw := ha.lt
  clear ha
  have key : decide (i < 0) = true ∨ (decide (i < 0) = false ∧ decide ((ws.length : Int) ≤ i) = true) := by
    by_cases h0 : i < 0
    · exact .inl (decide_eq_true h0)
    · exact .inr ⟨decide_eq_false h0, decide_eq_true (by omega)⟩
  clear hh
  have hbk : (w.alloc (.cells #[.int .i64 0, .int .i64 0, .int .i64 0, .bool false] 50)).heap[w.heap.size]? = some (.cells #[.int .i64 0, .int .i64 0, .int .i64 0, .bool false] 50 (0, 0)) := by show (w.heap.push _)[w.heap.size]? = _; exact Array.getElem?_push_size
  have HBK := Lib.hid hbk
  clear hbk
  rcases key with d1 | ⟨d1, d2⟩
  · go_enter Try.func41, Try.ntmps41
    go_wp2
    refine bodyPost_ret (results_ct rfl _ _ w.heap.size 50 #[.int .i64 0, .int .i64 0, .int .i64 0, .bool false] (0, 0) _ rfl HBK.out Try.underlying50 rfl (by kernel_rfl)) rfl ?_
    exact ⟨rfl, (Fr.refl w _).alloc _⟩
  · go_enter Try.func41, Try.ntmps41
    go_wp2
    refine bodyPost_ret (results_ct rfl _ _ w.heap.size 50 #[.int .i64 0, .int .i64 0, .int .i64 0, .bool false] (0, 0) _ rfl HBK.out Try.underlying50 rfl (by kernel_rfl)) rfl ?_
    exact ⟨rfl, (Fr.refl w _).alloc _⟩
set_option maxHeartbeats 1000000 in
theorem mobj_bad (p : Nat) (v : Value) (ws : List Int) (size : Int) (k : Nat) (w : World) (ha : Ar 41 w p v ws size) (hk : k < ws.length) (hr : readH (ws.getD k 0) = none) :
    Calls Try.prog 41 #[.pointer (some ⟨p, 0, none⟩), .int .i64 k] w fun e w' => e = .returned (.tuple #[.agg #[.int .i64 0, .int .i64 0, .int .i64 0, .bool false], .bool false]) ∧ Fr w w' (fun _ => False) := by
  rcases ha.form with ⟨_, rfl⟩ | ⟨g, cap, rfl, hl, hm, hg, hgp, hc, hf⟩
  · simp at hk
  have c0 := ha.c0
  have ck := hc k hk
  have hx := okWs_getD ha.ok k hk
  obtain ⟨x, hxe⟩ : ∃ x, ws.getD k 0 = x := ⟨_, rfl⟩
  rw [hxe] at ck hr hx
  have hrp : Wd.readP x = (0, 0, 0, false, false) := by unfold Wd.readP; rw [hr]
  have HRP := Lib.hid hrp
  have hle := ha.le
  have hmx := ha.mx
  have hpw := ha.lt
  have HX := Lib.hid hx
  have d1 : decide ((k : Int) < 0) = false := decide_eq_false (by omega)
  have d2 : decide ((ws.length : Int) ≤ (k : Int)) = false := decide_eq_false (by omega)
  have d2' : decide (ws.length ≤ k) = false := decide_eq_false (by omega)
  clear ha hc hf hgp hm hx hrp hr hxe hle
  go_enter Try.func41, Try.ntmps41
  go_wp2_with (first | (go_at_call 63; (with_reducible refine (Wd.rread_c x 0 0 0 false false _ HX.out HRP.out).mono ?_); rintro e w1 ⟨rfl, hb⟩))
  have c0w := pw_cell_below hb ((World.cell?_alloc_past _ _ _ hpw).trans c0)
  have hpw1 : p < w1.heap.size := World.block_lt_of_cell? w1 _ c0w
  have HB := Lib.hid hb
  clear hb ck c0
  have hbk : w1.heap[w.heap.size]? = some (.cells #[.int .i64 0, .int .i64 0, .int .i64 0, .bool false] 50 (0, 0)) := (HB.out.block w.heap.size (by simp)).trans (by show (w.heap.push _)[w.heap.size]? = _; exact Array.getElem?_push_size)
  have gw1 : w.heap.size < w1.heap.size := (Array.getElem?_eq_some_iff.1 hbk).1
  have fz : ∀ i, w1.frozen? ⟨w.heap.size, i, none⟩ = false := fun i => by simp [World.frozen?, hbk]
  have e0 : w1.cell? ⟨w.heap.size, 0, none⟩ = some (.int .i64 0) := by simp [World.cell?, hbk]
  have e1 : w1.cell? ⟨w.heap.size, 1, none⟩ = some (.int .i64 0) := by simp [World.cell?, hbk]
  have e2 : w1.cell? ⟨w.heap.size, 2, none⟩ = some (.int .i64 0) := by simp [World.cell?, hbk]
  have e3 : w1.cell? ⟨w.heap.size, 3, none⟩ = some (.bool false) := by simp [World.cell?, hbk]
  have HBK := Lib.hid hbk
  clear hbk
  go_quiet (fail)
  go_wp2
  refine bodyPost_ret (results_ct rfl _ _ w.heap.size 50 #[.int .i64 0, .int .i64 0, .int .i64 0, .bool false] (0, 0) _ rfl (by
    refine blk_put (cs := #[.int .i64 0, .int .i64 0, .int .i64 0, .bool false]) ?_ 3 _ rfl
    refine blk_put (cs := #[.int .i64 0, .int .i64 0, .int .i64 0, .bool false]) ?_ 2 _ rfl
    refine blk_put (cs := #[.int .i64 0, .int .i64 0, .int .i64 0, .bool false]) ?_ 1 _ rfl
    refine blk_put (cs := #[.int .i64 0, .int .i64 0, .int .i64 0, .bool false]) ?_ 0 _ rfl
    refine blk_drewN ?_ _
    refine blk_alloc ?_ _
    exact HBK.out) Try.underlying50 rfl (by kernel_rfl)) rfl ?_
  exact ⟨rfl, (((((((((Fr.refl w _).alloc _).trans (Fr.of_below HB.out _)).alloc _).drewN _).setCell (fun h => absurd h (Nat.lt_irrefl _)) _).setCell (fun h => absurd h (Nat.lt_irrefl _)) _).setCell (fun h => absurd h (Nat.lt_irrefl _)) _).setCell (fun h => absurd h (Nat.lt_irrefl _)) _)⟩
set_option maxHeartbeats 1000000 in
theorem mobj_long (p : Nat) (v : Value) (ws : List Int) (size : Int) (k : Nat) (h : Hdr) (w : World) (ha : Ar 41 w p v ws size) (hk : k < ws.length) (hr : readH (ws.getD k 0) = some h) (hs : (ws.length : Int) - k ≤ h.size) :
    Calls Try.prog 41 #[.pointer (some ⟨p, 0, none⟩), .int .i64 k] w fun e w' => e = .returned (.tuple #[.agg #[.int .i64 0, .int .i64 0, .int .i64 0, .bool false], .bool false]) ∧ Fr w w' (fun _ => False) := by
  rcases ha.form with ⟨_, rfl⟩ | ⟨g, cap, rfl, hl, hm, hg, hgp, hc, hf⟩
  · simp at hk
  have c0 := ha.c0
  have ck := hc k hk
  have hx := okWs_getD ha.ok k hk
  obtain ⟨x, hxe⟩ : ∃ x, ws.getD k 0 = x := ⟨_, rfl⟩
  rw [hxe] at ck hr hx
  have hrp : Wd.readP x = (h.kind, h.size, h.tree, h.neg, true) := by unfold Wd.readP; rw [hr]
  obtain ⟨hz0, hz1⟩ := readH_size hr
  obtain ⟨hkd, hsz, htr, hng⟩ := h
  simp only at hrp hz0 hz1 hs ⊢
  have HRP := Lib.hid hrp
  have hle := ha.le
  have hmx := ha.mx
  have hpw := ha.lt
  have HX := Lib.hid hx
  have d1 : decide ((k : Int) < 0) = false := decide_eq_false (by omega)
  have d2 : decide ((ws.length : Int) ≤ (k : Int)) = false := decide_eq_false (by omega)
  have d2' : decide (ws.length ≤ k) = false := decide_eq_false (by omega)
  have d3 : decide ((ws.length : Int) - (k : Int) - 1 < hsz) = true := decide_eq_true (by omega)
  have hw2 : IntKind.i64.wrap ((ws.length : Int) - (k : Int) - 1) = ws.length - k - 1 := by rw [IntKind.wrap_i64]; omega
  have hw4 : wrap64 ((ws.length : Int) - (k : Int) - 1) = ws.length - k - 1 := by unfold wrap64; omega
  have hw1 : IntKind.i64.wrap ((ws.length : Int) - (k : Int)) = ws.length - k := by rw [IntKind.wrap_i64]; omega
  have hw3 : wrap64 ((ws.length : Int) - (k : Int)) = ws.length - k := by unfold wrap64; omega
  clear ha hc hf hgp hm hx hrp hr hxe hle
  go_enter Try.func41, Try.ntmps41
  go_wp2_with (first | (go_at_call 63; (with_reducible refine (Wd.rread_c x hkd hsz htr hng true _ HX.out HRP.out).mono ?_); rintro e w1 ⟨rfl, hb⟩))
  have c0w := pw_cell_below hb ((World.cell?_alloc_past _ _ _ hpw).trans c0)
  have hpw1 : p < w1.heap.size := World.block_lt_of_cell? w1 _ c0w
  have HB := Lib.hid hb
  clear hb ck c0
  have hbk : w1.heap[w.heap.size]? = some (.cells #[.int .i64 0, .int .i64 0, .int .i64 0, .bool false] 50 (0, 0)) := (HB.out.block w.heap.size (by simp)).trans (by show (w.heap.push _)[w.heap.size]? = _; exact Array.getElem?_push_size)
  have gw1 : w.heap.size < w1.heap.size := (Array.getElem?_eq_some_iff.1 hbk).1
  have fz : ∀ i, w1.frozen? ⟨w.heap.size, i, none⟩ = false := fun i => by simp [World.frozen?, hbk]
  have e0 : w1.cell? ⟨w.heap.size, 0, none⟩ = some (.int .i64 0) := by simp [World.cell?, hbk]
  have e1 : w1.cell? ⟨w.heap.size, 1, none⟩ = some (.int .i64 0) := by simp [World.cell?, hbk]
  have e2 : w1.cell? ⟨w.heap.size, 2, none⟩ = some (.int .i64 0) := by simp [World.cell?, hbk]
  have e3 : w1.cell? ⟨w.heap.size, 3, none⟩ = some (.bool false) := by simp [World.cell?, hbk]
  have HBK := Lib.hid hbk
  clear hbk
  go_quiet (fail)
  go_wp2
  refine bodyPost_ret (results_ct rfl _ _ w.heap.size 50 #[.int .i64 0, .int .i64 0, .int .i64 0, .bool false] (0, 0) _ rfl (by
    refine blk_put (cs := #[.int .i64 0, .int .i64 0, .int .i64 0, .bool false]) ?_ 3 _ rfl
    refine blk_put (cs := #[.int .i64 0, .int .i64 0, .int .i64 0, .bool false]) ?_ 2 _ rfl
    refine blk_put (cs := #[.int .i64 0, .int .i64 0, .int .i64 0, .bool false]) ?_ 1 _ rfl
    refine blk_put (cs := #[.int .i64 0, .int .i64 0, .int .i64 0, .bool false]) ?_ 0 _ rfl
    refine blk_drewN ?_ _
    refine blk_alloc ?_ _
    exact HBK.out) Try.underlying50 rfl (by kernel_rfl)) rfl ?_
  exact ⟨rfl, (((((((((Fr.refl w _).alloc _).trans (Fr.of_below HB.out _)).alloc _).drewN _).setCell (fun h => absurd h (Nat.lt_irrefl _)) _).setCell (fun h => absurd h (Nat.lt_irrefl _)) _).setCell (fun h => absurd h (Nat.lt_irrefl _)) _).setCell (fun h => absurd h (Nat.lt_irrefl _)) _)⟩
theorem mobj_none (p : Nat) (v : Value) (ws : List Int) (size i : Int) (w : World) (ha : Ar 41 w p v ws size) (hh : objAt ws i = none) :
    Calls Try.prog 41 #[.pointer (some ⟨p, 0, none⟩), .int .i64 i] w fun e w' => e = .returned (.tuple #[.agg #[.int .i64 0, .int .i64 0, .int .i64 0, .bool false], .bool false]) ∧ Fr w w' (fun _ => False) := by
  rcases objAt_none hh with h | ⟨k, rfl, hk, h | ⟨hd, h, hs⟩⟩
  · exact mobj_far p v ws size i w ha h
  · exact mobj_bad p v ws size k w ha hk h
  · exact mobj_long p v ws size k hd w ha hk h hs
end Go.Proofs.Ytjiaaefpepdoeaa
