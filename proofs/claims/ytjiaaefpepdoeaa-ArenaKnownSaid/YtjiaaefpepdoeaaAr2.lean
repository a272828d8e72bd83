/-
  CONTRACTS of the arena's Take, Cut, Words and of slices.Clone at words. Conditions: the arena is one (Ar); numbers are of Go's int.
-/
import Derived.Test.YtjiaaefpepdoeaaAr
import Derived.Test.YtjiaaefpepdoeaaZer
namespace Go.Proofs.Ytjiaaefpepdoeaa
open Go.RowKit Md
set_option linter.unusedVariables false

/-- The world is the old one, some orders having been drawn. -/
def Drawn (w w' : World) : Prop := ∃ n, w' = w.drewN n
theorem wordInfo : (Try.prog.info? 29).map (fun i => (i.zero, i.size, i.bytes)) = some (some (.int .u64 0), 1, 8) := by kernel_rfl
theorem uw_append (a b : List Int) : uw (a ++ b) = uw a ++ uw b := by simp [uw]
theorem uw_replicate (n : Nat) : uw (List.replicate n 0) = List.replicate n (.int .u64 0) := by simp [uw]
theorem okWs_append {a b : List Int} (ha : okWs a) (hb : okWs b) : okWs (a ++ b) := fun x hx => (List.mem_append.1 hx).elim (ha x) (hb x)
theorem okWs_zeros (n : Nat) : okWs (List.replicate n 0) := fun x hx => by
  have := (List.mem_replicate.1 hx).2
  subst this
  unfold okW
  omega
/-- A new row is stored into the arena. -/
theorem Ar.store {T : TypeId} {w w1 : World} {p : Nat} {v v' : Value} {ws ws' : List Int} {size : Int} (h : Ar T w p v ws size) (hg : w.grownBy w1 v.ownBlock) (ho : Own w1 29 v' (uw ws')) (hl : (ws'.length : Int) ≤ size) (hk : okWs ws') (hn : ∀ k, InBlk v' k → InBlk v k ∨ w.heap.size ≤ k) :
    Ar T (w1.setCell ⟨p, 0, none⟩ v') p v' ws' size ∧ Fr w (w1.setCell ⟨p, 0, none⟩ v') (fun i => i = p ∨ InBlk v i) ∧ ∀ k, InBlk v' k → InBlk v k ∨ w.heap.size ≤ k := by
  have hpv : some p ≠ v.ownBlock := fun e => h.ne p e.symm rfl
  have hb1 : w1.heap[p]? = some (.cells #[v, .int .i64 size] T (0, 0)) := (hg.block p h.lt hpv).trans h.blk
  have hp1 : ∀ k, InBlk v' k → k ≠ p := fun k hk e => by
    obtain ⟨cur, hc⟩ := ho.elem k hk
    rw [e, hb1] at hc
    simp at hc
    exact h.ty hc.2
  refine ⟨⟨?_, ?_, hl, h.mx, hk, h.ty⟩, ?_, hn⟩
  · simp [World.setCell, Array.getElem?_modify, hb1]
  · refine ho.keep (S := fun i => i = p) (Fr.setCell (S := fun i => i = p) (a := ⟨p, 0, none⟩) (Fr.refl w1 _) (fun _ => rfl) _) (fun i hi => hp1 i hi)
  · exact Fr.setCell (S := fun i => i = p ∨ InBlk v i) (a := ⟨p, 0, none⟩) (Fr.grown (Fr.refl w _) hg (fun k hk _ => .inr hk)) (fun _ => .inl rfl) _
theorem take_c (p : Nat) (v : Value) (ws : List Int) (size : Int) (n : Nat) (w : World) (h : Ar 101 w p v ws size) (hn : (n : Int) ≤ size - ws.length) :
    Calls Try.prog 19 #[.pointer (some ⟨p, 0, none⟩), .int .i64 n] w fun e w' => e = .returned (.tuple #[.int .i64 ws.length, .bool true]) ∧
      ∃ v', Ar 101 w' p v' (ws ++ List.replicate n 0) size ∧ Fr w w' (fun i => i = p ∨ InBlk v i) ∧ ∀ k, InBlk v' k → InBlk v k ∨ w.heap.size ≤ k := by
  obtain ⟨A, cap, rfl⟩ := h.val
  have c0 := h.c0
  have c1 := h.c1
  have hle := h.le
  have hmx := h.mx
  have d0 : decide ((n : Int) < 0) = false := decide_eq_false (by omega)
  have d1 : decide (size - (ws.length : Int) < (n : Int)) = false := decide_eq_false (by omega)
  have hw1 : wrap64 (size - (ws.length : Int)) = size - ws.length := by unfold wrap64; omega
  have hw2 : IntKind.i64.wrap (size - (ws.length : Int)) = size - ws.length := by rw [IntKind.wrap_i64]; omega
  have H := Lib.hid h
  clear h hle
  have HN := Lib.hid hn
  clear hn
  go_enter Try.func19, Try.ntmps19
  go_wp2
  go_quiet (fail)
  obtain ⟨i0, hi, hz0, hz1, hz2⟩ := info_parts wordInfo
  have hd : Ar 101 (w.drewN nq) p (.slice A ws.length cap) ws size := ⟨H.out.blk, H.out.own, H.out.le, H.out.mx, H.out.ok, H.out.ty⟩
  obtain ⟨v', w1, hr, ho, hg, hnn⟩ := run_append_zeros (P := Try.prog) (w.drewN nq) 39 3 39 29 i0 (.int .u64 0) .i64 .i64 Try.underlying39 Try.underlying3 hi hz0 hz1 (by omega) rfl rfl (.slice A ws.length cap) (uw ws) hd.own n (by have := HN.out; have := hd.mx; rw [uw_length]; omega)
  rw [← uw_replicate, ← uw_append] at ho
  have hst := hd.store hg ho (by have := HN.out; simp; omega) (okWs_append hd.ok (okWs_zeros n)) hnn
  have k0 : w1.cell? ⟨p, 0, none⟩ = some (.slice A ws.length cap) := hg.cell hd.c0 (fun e => hd.ne p e.symm rfl)
  have kf : w1.frozen? ⟨p, 0, none⟩ = false := (World.frozen?_of_block (hg.block p hd.lt (fun e => hd.ne p e.symm rfl))).trans (hd.fz 0)
  have HR := Lib.hid hr
  have HS := Lib.hid hst
  have hform := ho.form
  clear hr hst hg hnn hi hz0 hz1 hz2 ho hd c1 hw1 hw2 d0 d1 hmx
  rcases hform with ⟨rfl, _⟩ | ⟨g, cp, rfl, _⟩
  all_goals
    go_wp2_with (at_builtin; refine Lib.wpList_append_run _ rfl _ _ _ _ rfl _ _ rfl rfl _ w1 HR.out ?_)
    go_ret2
    exact ⟨rfl, _, HS.out.1, ((Fr.refl w _).drewN nq).trans HS.out.2.1, HS.out.2.2⟩
theorem take_no (p : Nat) (v : Value) (ws : List Int) (size n : Int) (w : World) (h : Ar 101 w p v ws size) (hn : n < 0 ∨ size - ws.length < n) :
    Calls Try.prog 19 #[.pointer (some ⟨p, 0, none⟩), .int .i64 n] w fun e w' => e = .returned (.tuple #[.int .i64 0, .bool false]) ∧ Drawn w w' := by
  obtain ⟨A, cap, rfl⟩ := h.val
  have c0 := h.c0
  have c1 := h.c1
  have hle := h.le
  have hmx := h.mx
  by_cases h0 : n < 0
  · have d0 : decide (n < 0) = true := decide_eq_true h0
    clear h hle hn
    go_enter Try.func19, Try.ntmps19
    go_wp2
    go_quiet (fail)
    go_wp2
    go_ret2
    exact ⟨rfl, nq, rfl⟩
  · have d0 : decide (n < 0) = false := decide_eq_false h0
    have d1 : decide (size - (ws.length : Int) < n) = true := decide_eq_true (by omega)
    have hw1 : wrap64 (size - (ws.length : Int)) = size - ws.length := by unfold wrap64; omega
    have hw2 : IntKind.i64.wrap (size - (ws.length : Int)) = size - ws.length := by rw [IntKind.wrap_i64]; omega
    clear h hle hn
    go_enter Try.func19, Try.ntmps19
    go_wp2
    go_quiet (fail)
    go_wp2
    go_ret2
    exact ⟨rfl, nq, rfl⟩
/-! ### Cut -/
theorem take_len {α : Type} (l : List α) (n : Nat) (h : n ≤ l.length) : (l.take n).length = n := by simp; omega
/-- The row cut: fewer words, the same block. -/
theorem Ar.cut {T : TypeId} {w : World} {p : Nat} {v v' : Value} {ws : List Int} {size size' : Int} (h : Ar T w p v ws size) (n : Nat) (hn : n ≤ ws.length) (h0 : (n : Int) ≤ size') (h1 : size' ≤ 1048576)
    (hv : (v = .slice none 0 0 ∧ v' = .slice none 0 0) ∨ ∃ g cap, v = .slice (some ⟨g, 0, none⟩) ws.length cap ∧ v' = .slice (some ⟨g, 0, none⟩) n cap) :
    Ar T ((w.setCell ⟨p, 0, none⟩ v').setCell ⟨p, 1, none⟩ (.int .i64 size')) p v' (ws.take n) size' ∧ Fr w ((w.setCell ⟨p, 0, none⟩ v').setCell ⟨p, 1, none⟩ (.int .i64 size')) (fun i => i = p) ∧ ∀ k, InBlk v' k → InBlk v k := by
  have hf : Fr w ((w.setCell ⟨p, 0, none⟩ v').setCell ⟨p, 1, none⟩ (.int .i64 size')) (fun i => i = p) :=
    Fr.setCell (S := fun i => i = p) (a := ⟨p, 1, none⟩) (Fr.setCell (S := fun i => i = p) (a := ⟨p, 0, none⟩) (Fr.refl w _) (fun _ => rfl) _) (fun _ => rfl) _
  have hin : ∀ k, InBlk v' k → InBlk v k := by
    intro k hk
    rcases hv with ⟨rfl, rfl⟩ | ⟨g, cap, rfl, rfl⟩
    · exact hk
    · simpa [InBlk, Value.ownBlock] using hk
  refine ⟨⟨?_, ?_, by rw [take_len ws n hn]; exact h0, h1, fun x hx => h.ok x (List.mem_of_mem_take hx), h.ty⟩, hf, hin⟩
  · simp [World.setCell, Array.getElem?_modify, h.blk]
  · have ho := h.own
    refine Own.keep (w := w) ?_ hf (fun i hi => h.ne i (hin i hi))
    rcases hv with ⟨rfl, rfl⟩ | ⟨g, cap, rfl, rfl⟩
    · rcases ho.2 with ⟨_, hz⟩ | ⟨g, cap, cur, hv, _⟩
      · have : ws = [] := List.eq_nil_of_length_eq_zero (by simpa [uw] using hz)
        subst this
        simpa [uw] using Own.nil w 29
      · cases hv
    · rcases ho.2 with ⟨hv, _⟩ | ⟨g', cap', cur, hv, hb, hg, hl, hm, hs, ht⟩
      · cases hv
      · injection hv with e1 e2 e3
        injection e1 with e1
        injection e1 with e1
        subst e1
        subst e3
        have hlen : (uw (ws.take n)).length = n := by rw [uw_length, take_len ws n hn]
        refine ⟨by omega, .inr ⟨g, cap, cur, by rw [hlen], Nat.zero_le _, hg, by rw [hlen]; rw [uw_length] at hl; omega, hm, by simpa using hs, ?_⟩⟩
        rw [hlen, Nat.mul_one]
        rw [Nat.mul_one, uw_length] at ht
        have e4 : cur.toList.take n = (cur.toList.take ws.length).take n := by rw [List.take_take, Nat.min_eq_left hn]
        rw [e4, ht]
        simp [uw]
theorem cut_c (p : Nat) (v : Value) (ws : List Int) (size : Int) (n : Nat) (size' : Int) (w : World) (h : Ar 101 w p v ws size) (hn : n ≤ ws.length) (h0 : (n : Int) ≤ size') (h1 : size' ≤ 1048576) :
    Calls Try.prog 25 #[.pointer (some ⟨p, 0, none⟩), .int .i64 n, .int .i64 size'] w fun e w' => e = .returned (.bool true) ∧ ∃ v', Ar 101 w' p v' (ws.take n) size' ∧ Fr w w' (fun i => i = p) ∧ ∀ k, InBlk v' k → InBlk v k := by
  have hmx := h.mx
  have hle := h.le
  have d0 : decide ((n : Int) < 0) = false := decide_eq_false (by omega)
  have d1 : decide ((ws.length : Int) < (n : Int)) = false := decide_eq_false (by omega)
  have d1' : decide (ws.length < n) = false := decide_eq_false (by omega)
  have d2 : decide (size' < (n : Int)) = false := decide_eq_false (by omega)
  have d3 : decide (1048576 < size') = false := decide_eq_false (by omega)
  rcases h.form with ⟨rfl, rfl⟩ | ⟨g, cap, rfl, hl, hm, _⟩
  · have hz : n = 0 := by simpa using hn
    subst hz
    have HC := Lib.hid (h.cut 0 (by simp) h0 h1 (.inl ⟨rfl, rfl⟩))
    have c0 := h.c0
    have c1 := h.c1
    have f0 := h.fz 0
    have f1 := h.fz 1
    clear h hn
    go_enter Try.func25, Try.ntmps25
    go_wp2
    go_ret
    exact ⟨rfl, _, HC.out.1, HC.out.2.1, HC.out.2.2⟩
  · have HC := Lib.hid (h.cut n hn h0 h1 (.inr ⟨g, cap, rfl, rfl⟩))
    have c0 := h.c0
    have c1 := h.c1
    have f0 := h.fz 0
    have f1 := h.fz 1
    have hncap : n ≤ cap := by omega
    have hncap' : (n : Int) ≤ (cap : Int) := by omega
    have hcap : cap ≤ 9223372036854775807 := hm
    clear h hm
    go_enter Try.func25, Try.ntmps25
    go_wp2
    go_ret
    exact ⟨rfl, _, HC.out.1, HC.out.2.1, HC.out.2.2⟩
end Go.Proofs.Ytjiaaefpepdoeaa
