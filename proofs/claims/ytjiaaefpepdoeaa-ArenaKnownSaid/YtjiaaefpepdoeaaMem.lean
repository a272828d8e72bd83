/-
  CONTRACTS of the reference's arena (tenementref8.Mem): Take, Cut, Get, Set, New; and of both arenas' Cut where it is refused. Conditions: the arena is one (Ar); numbers are of Go's int.
-/
import Derived.Test.YtjiaaefpepdoeaaAr2
namespace Go.Proofs.Ytjiaaefpepdoeaa
open Go.RowKit Md
set_option linter.unusedVariables false

theorem cut_no (p : Nat) (v : Value) (ws : List Int) (size n size' : Int) (w : World) (h : Ar 101 w p v ws size) (hn : n < 0 ∨ ws.length < n ∨ size' < n ∨ 1048576 < size') :
    Calls Try.prog 25 #[.pointer (some ⟨p, 0, none⟩), .int .i64 n, .int .i64 size'] w fun e w' => e = .returned (.bool false) ∧ w = w' := by
  obtain ⟨A, cap, rfl⟩ := h.val
  have c0 := h.c0
  by_cases h0 : n < 0
  · have d0 : decide (n < 0) = true := decide_eq_true h0
    clear h hn
    go_enter Try.func25, Try.ntmps25
    go_wp2
    go_ret
    exact ⟨rfl, rfl⟩
  by_cases h1 : (ws.length : Int) < n
  · have d0 : decide (n < 0) = false := decide_eq_false h0
    have d1 : decide ((ws.length : Int) < n) = true := decide_eq_true h1
    clear h hn
    go_enter Try.func25, Try.ntmps25
    go_wp2
    go_ret
    exact ⟨rfl, rfl⟩
  by_cases h2 : size' < n
  · have d0 : decide (n < 0) = false := decide_eq_false h0
    have d1 : decide ((ws.length : Int) < n) = false := decide_eq_false h1
    have d2 : decide (size' < n) = true := decide_eq_true h2
    clear h hn
    go_enter Try.func25, Try.ntmps25
    go_wp2
    go_ret
    exact ⟨rfl, rfl⟩
  · have d0 : decide (n < 0) = false := decide_eq_false h0
    have d1 : decide ((ws.length : Int) < n) = false := decide_eq_false h1
    have d2 : decide (size' < n) = false := decide_eq_false h2
    have d3 : decide (1048576 < size') = true := decide_eq_true (by omega)
    clear h hn
    go_enter Try.func25, Try.ntmps25
    go_wp2
    go_ret
    exact ⟨rfl, rfl⟩
theorem mtake_c (p : Nat) (v : Value) (ws : List Int) (size : Int) (n : Nat) (w : World) (h : Ar 41 w p v ws size) (hn : (n : Int) ≤ size - ws.length) :
    Calls Try.prog 20 #[.pointer (some ⟨p, 0, none⟩), .int .i64 n] w fun e w' => e = .returned (.tuple #[.int .i64 ws.length, .bool true]) ∧
      ∃ v', Ar 41 w' p v' (ws ++ List.replicate n 0) size ∧ Fr w w' (fun i => i = p ∨ InBlk v i) ∧ ∀ k, InBlk v' k → InBlk v k ∨ w.heap.size ≤ k := by
  obtain ⟨A, cap, rfl⟩ := h.val
  have c0 := h.c0
  have c1 := h.c1
  have hle := h.le
  have hmx := h.mx
  have d0 : decide ((n : Int) < 0) = false := decide_eq_false (by omega)
  have d1 : decide (size - (ws.length : Int) < (n : Int)) = false := decide_eq_false (by omega)
  have hw1 : wrap64 (size - (ws.length : Int)) = size - ws.length := by unfold wrap64; omega
  have hw2 : IntKind.i64.wrap (size - (ws.length : Int)) = size - ws.length := by rw [IntKind.wrap_i64]; omega
  have H := Lib.hid h
  clear h hle
  have HN := Lib.hid hn
  clear hn
  go_enter Try.func20, Try.ntmps20
  go_wp2
  go_quiet (fail)
  obtain ⟨i0, hi, hz0, hz1, hz2⟩ := info_parts wordInfo
  have hd : Ar 41 (w.drewN nq) p (.slice A ws.length cap) ws size := ⟨H.out.blk, H.out.own, H.out.le, H.out.mx, H.out.ok, H.out.ty⟩
  obtain ⟨v', w1, hr, ho, hg, hnn⟩ := run_append_zeros (P := Try.prog) (w.drewN nq) 39 3 39 29 i0 (.int .u64 0) .i64 .i64 Try.underlying39 Try.underlying3 hi hz0 hz1 (by omega) rfl rfl (.slice A ws.length cap) (uw ws) hd.own n (by have := HN.out; have := hd.mx; rw [uw_length]; omega)
  rw [← uw_replicate, ← uw_append] at ho
  have hst := hd.store hg ho (by have := HN.out; simp; omega) (okWs_append hd.ok (okWs_zeros n)) hnn
  have k0 : w1.cell? ⟨p, 0, none⟩ = some (.slice A ws.length cap) := hg.cell hd.c0 (fun e => hd.ne p e.symm rfl)
  have kf : w1.frozen? ⟨p, 0, none⟩ = false := (World.frozen?_of_block (hg.block p hd.lt (fun e => hd.ne p e.symm rfl))).trans (hd.fz 0)
  have HR := Lib.hid hr
  have HS := Lib.hid hst
  have hform := ho.form
  clear hr hst hg hnn hi hz0 hz1 hz2 ho hd c1 hw1 hw2 d0 d1 hmx
  rcases hform with ⟨rfl, _⟩ | ⟨g, cp, rfl, _⟩
  all_goals
    go_wp2_with (at_builtin; refine Lib.wpList_append_run _ rfl _ _ _ _ rfl _ _ rfl rfl _ w1 HR.out ?_)
    go_ret2
    exact ⟨rfl, _, HS.out.1, ((Fr.refl w _).drewN nq).trans HS.out.2.1, HS.out.2.2⟩
theorem mtake_no (p : Nat) (v : Value) (ws : List Int) (size n : Int) (w : World) (h : Ar 41 w p v ws size) (hn : n < 0 ∨ size - ws.length < n) :
    Calls Try.prog 20 #[.pointer (some ⟨p, 0, none⟩), .int .i64 n] w fun e w' => e = .returned (.tuple #[.int .i64 0, .bool false]) ∧ Drawn w w' := by
  obtain ⟨A, cap, rfl⟩ := h.val
  have c0 := h.c0
  have c1 := h.c1
  have hle := h.le
  have hmx := h.mx
  by_cases h0 : n < 0
  · have d0 : decide (n < 0) = true := decide_eq_true h0
    clear h hle hn
    go_enter Try.func20, Try.ntmps20
    go_wp2
    go_quiet (fail)
    go_wp2
    go_ret2
    exact ⟨rfl, nq, rfl⟩
  · have d0 : decide (n < 0) = false := decide_eq_false h0
    have d1 : decide (size - (ws.length : Int) < n) = true := decide_eq_true (by omega)
    have hw1 : wrap64 (size - (ws.length : Int)) = size - ws.length := by unfold wrap64; omega
    have hw2 : IntKind.i64.wrap (size - (ws.length : Int)) = size - ws.length := by rw [IntKind.wrap_i64]; omega
    clear h hle hn
    go_enter Try.func20, Try.ntmps20
    go_wp2
    go_quiet (fail)
    go_wp2
    go_ret2
    exact ⟨rfl, nq, rfl⟩
theorem mcut_c (p : Nat) (v : Value) (ws : List Int) (size : Int) (n : Nat) (size' : Int) (w : World) (h : Ar 41 w p v ws size) (hn : n ≤ ws.length) (h0 : (n : Int) ≤ size') (h1 : size' ≤ 1048576) :
    Calls Try.prog 26 #[.pointer (some ⟨p, 0, none⟩), .int .i64 n, .int .i64 size'] w fun e w' => e = .returned (.bool true) ∧ ∃ v', Ar 41 w' p v' (ws.take n) size' ∧ Fr w w' (fun i => i = p) ∧ ∀ k, InBlk v' k → InBlk v k := by
  have hmx := h.mx
  have hle := h.le
  have d0 : decide ((n : Int) < 0) = false := decide_eq_false (by omega)
  have d1 : decide ((ws.length : Int) < (n : Int)) = false := decide_eq_false (by omega)
  have d1' : decide (ws.length < n) = false := decide_eq_false (by omega)
  have d2 : decide (size' < (n : Int)) = false := decide_eq_false (by omega)
  have d3 : decide (1048576 < size') = false := decide_eq_false (by omega)
  rcases h.form with ⟨rfl, rfl⟩ | ⟨g, cap, rfl, hl, hm, _⟩
  · have hz : n = 0 := by simpa using hn
    subst hz
    have HC := Lib.hid (h.cut 0 (by simp) h0 h1 (.inl ⟨rfl, rfl⟩))
    have c0 := h.c0
    have c1 := h.c1
    have f0 := h.fz 0
    have f1 := h.fz 1
    clear h hn
    go_enter Try.func26, Try.ntmps26
    go_wp2
    go_ret
    exact ⟨rfl, _, HC.out.1, HC.out.2.1, HC.out.2.2⟩
  · have HC := Lib.hid (h.cut n hn h0 h1 (.inr ⟨g, cap, rfl, rfl⟩))
    have c0 := h.c0
    have c1 := h.c1
    have f0 := h.fz 0
    have f1 := h.fz 1
    have hncap : n ≤ cap := by omega
    have hncap' : (n : Int) ≤ (cap : Int) := by omega
    have hcap : cap ≤ 9223372036854775807 := hm
    clear h hm
    go_enter Try.func26, Try.ntmps26
    go_wp2
    go_ret
    exact ⟨rfl, _, HC.out.1, HC.out.2.1, HC.out.2.2⟩
theorem mcut_no (p : Nat) (v : Value) (ws : List Int) (size n size' : Int) (w : World) (h : Ar 41 w p v ws size) (hn : n < 0 ∨ ws.length < n ∨ size' < n ∨ 1048576 < size') :
    Calls Try.prog 26 #[.pointer (some ⟨p, 0, none⟩), .int .i64 n, .int .i64 size'] w fun e w' => e = .returned (.bool false) ∧ w = w' := by
  obtain ⟨A, cap, rfl⟩ := h.val
  have c0 := h.c0
  by_cases h0 : n < 0
  · have d0 : decide (n < 0) = true := decide_eq_true h0
    clear h hn
    go_enter Try.func26, Try.ntmps26
    go_wp2
    go_ret
    exact ⟨rfl, rfl⟩
  by_cases h1 : (ws.length : Int) < n
  · have d0 : decide (n < 0) = false := decide_eq_false h0
    have d1 : decide ((ws.length : Int) < n) = true := decide_eq_true h1
    clear h hn
    go_enter Try.func26, Try.ntmps26
    go_wp2
    go_ret
    exact ⟨rfl, rfl⟩
  by_cases h2 : size' < n
  · have d0 : decide (n < 0) = false := decide_eq_false h0
    have d1 : decide ((ws.length : Int) < n) = false := decide_eq_false h1
    have d2 : decide (size' < n) = true := decide_eq_true h2
    clear h hn
    go_enter Try.func26, Try.ntmps26
    go_wp2
    go_ret
    exact ⟨rfl, rfl⟩
  · have d0 : decide (n < 0) = false := decide_eq_false h0
    have d1 : decide ((ws.length : Int) < n) = false := decide_eq_false h1
    have d2 : decide (size' < n) = false := decide_eq_false h2
    have d3 : decide (1048576 < size') = true := decide_eq_true (by omega)
    clear h hn
    go_enter Try.func26, Try.ntmps26
    go_wp2
    go_ret
    exact ⟨rfl, rfl⟩
theorem mget_c (p : Nat) (v : Value) (ws : List Int) (size i r : Int) (w : World) (h : Ar 41 w p v ws size) (hr : rdAt ws i = some r) :
    Calls Try.prog 24 #[.pointer (some ⟨p, 0, none⟩), .int .i64 i] w fun e w' => e = .returned (.tuple #[.int .u64 r, .bool true]) ∧ w = w' := by
  obtain ⟨k, rfl, hk, hkr⟩ := rdAt_some hr
  rcases h.form with ⟨_, rfl⟩ | ⟨g, cap, rfl, hl, hm, hg, hgp, hc, hf⟩
  · simp at hk
  have c0 := h.c0
  have ck := hc k hk
  rw [hkr] at ck
  have d0 : decide ((k : Int) < 0) = false := decide_eq_false (by omega)
  have d1 : decide ((ws.length : Int) ≤ (k : Int)) = false := decide_eq_false (by omega)
  have d1' : decide (ws.length ≤ k) = false := decide_eq_false (by omega)
  clear h hc hf hkr hr hgp hg hm
  go_enter Try.func24, Try.ntmps24
  go_wp2
  go_ret2
  exact ⟨rfl, rfl⟩
theorem mget_no (p : Nat) (v : Value) (ws : List Int) (size i : Int) (w : World) (h : Ar 41 w p v ws size) (hr : rdAt ws i = none) :
    Calls Try.prog 24 #[.pointer (some ⟨p, 0, none⟩), .int .i64 i] w fun e w' => e = .returned (.tuple #[.int .u64 0, .bool false]) ∧ w = w' := by
  have hn := rdAt_none hr
  obtain ⟨A, cap, rfl⟩ := h.val
  have c0 := h.c0
  by_cases h0 : i < 0
  · have d0 : decide (i < 0) = true := decide_eq_true h0
    clear h hr hn
    go_enter Try.func24, Try.ntmps24
    go_wp2
    go_ret2
    exact ⟨rfl, rfl⟩
  · have d0 : decide (i < 0) = false := decide_eq_false h0
    have d1 : decide ((ws.length : Int) ≤ i) = true := decide_eq_true (by omega)
    clear h hr hn
    go_enter Try.func24, Try.ntmps24
    go_wp2
    go_ret2
    exact ⟨rfl, rfl⟩
theorem mset_c (p : Nat) (v : Value) (ws : List Int) (size i x : Int) (w : World) (h : Ar 41 w p v ws size) (hx : okW x) (hi : 0 ≤ i ∧ i < ws.length) :
    Calls Try.prog 22 #[.pointer (some ⟨p, 0, none⟩), .int .i64 i, .int .u64 x] w fun e w' => e = .returned (.bool true) ∧ Ar 41 w' p v (wrAt ws i x) size ∧ Fr w w' (InBlk v) := by
  obtain ⟨k, rfl⟩ := Int.eq_ofNat_of_zero_le hi.1
  have hk : k < ws.length := by omega
  have e0 : wrAt ws k x = ws.set k x := by unfold wrAt; rw [if_pos hi]; simp
  rw [e0]
  rcases h.form with ⟨_, rfl⟩ | ⟨g, cap, rfl, hl, hm, hg, hgp, hc, hf⟩
  · simp at hk
  have hs := h.set hk hx
  have c0 := h.c0
  have fk := hf k
  have ck := hc k hk
  have d0 : decide ((k : Int) < 0) = false := decide_eq_false (by omega)
  have d1 : decide ((ws.length : Int) ≤ (k : Int)) = false := decide_eq_false (by omega)
  have d1' : decide (ws.length ≤ k) = false := decide_eq_false (by omega)
  have HS := Lib.hid hs
  clear h hc hf hgp hg hm hs hi e0 hx
  go_enter Try.func22, Try.ntmps22
  go_wp2
  go_ret
  exact ⟨rfl, HS.out.1, HS.out.2.mono fun i hi _ => by simp [InBlk, Value.ownBlock, hi]⟩
theorem mset_no (p : Nat) (v : Value) (ws : List Int) (size i x : Int) (w : World) (h : Ar 41 w p v ws size) (hi : ¬ (0 ≤ i ∧ i < ws.length)) :
    Calls Try.prog 22 #[.pointer (some ⟨p, 0, none⟩), .int .i64 i, .int .u64 x] w fun e w' => e = .returned (.bool false) ∧ w = w' := by
  obtain ⟨A, cap, rfl⟩ := h.val
  have c0 := h.c0
  by_cases h0 : i < 0
  · have d0 : decide (i < 0) = true := decide_eq_true h0
    clear h hi
    go_enter Try.func22, Try.ntmps22
    go_wp2
    go_ret
    exact ⟨rfl, rfl⟩
  · have d0 : decide (i < 0) = false := decide_eq_false h0
    have d1 : decide ((ws.length : Int) ≤ i) = true := decide_eq_true (by omega)
    clear h hi
    go_enter Try.func22, Try.ntmps22
    go_wp2
    go_ret
    exact ⟨rfl, rfl⟩
theorem mnew_c (n : Int) (w : World) : Calls Try.prog 18 #[.int .i64 n] w fun e w' => e = .returned (.pointer (some ⟨w.heap.size, 0, none⟩)) ∧ Ar 41 w' w.heap.size (.slice none 0 0) [] (newSize n) ∧ Fr w w' (fun _ => False) := by
  have key : ∀ m : Int, 0 ≤ m → m ≤ 1048576 → Ar 41 (w.alloc (.cells #[.slice none 0 0, .int .i64 m] 41)) w.heap.size (.slice none 0 0) [] m ∧ Fr w (w.alloc (.cells #[.slice none 0 0, .int .i64 m] 41)) (fun _ => False) := fun m h0 h1 =>
    ⟨⟨heap_alloc_new w _, Own.nil _ _, by simpa using h0, h1, (fun _ h => by cases h), by decide⟩, (Fr.refl w _).alloc _⟩
  by_cases h0 : n < 0
  · have K := Lib.hid (key 0 (by omega) (by omega))
    have e : newSize n = 0 := by unfold newSize; rw [if_pos (.inl h0)]
    rw [e]; clear e key
    go_enter Try.func18, Try.ntmps18
    go_wp2
    go_ret
    exact ⟨rfl, K.out⟩
  by_cases h1 : n > 1048576
  · have K := Lib.hid (key 0 (by omega) (by omega))
    have e : newSize n = 0 := by unfold newSize; rw [if_pos (.inr h1)]
    rw [e]; clear e key
    go_enter Try.func18, Try.ntmps18
    go_wp2
    go_ret
    exact ⟨rfl, K.out⟩
  · have K := Lib.hid (key n (by omega) (by omega))
    have e : newSize n = n := by unfold newSize; rw [if_neg (by omega)]
    rw [e]; clear e key
    have d1 : decide (1048576 < n) = false := by simp; omega
    go_enter Try.func18, Try.ntmps18
    go_wp2
    go_ret
    exact ⟨rfl, K.out⟩
end Go.Proofs.Ytjiaaefpepdoeaa
