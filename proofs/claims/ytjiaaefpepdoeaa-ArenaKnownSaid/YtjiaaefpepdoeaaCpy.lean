/-
  CONTRACTS: slices.Clone at words, the arena's Words, the reference's Copy and SameWords. Conditions: rows of at most 2^30 words.
-/
import Derived.Test.YtjiaaefpepdoeaaMem
import Derived.Test.YtjiaaefpepdoeaaRd
import Derived.LoopTactic
namespace Go.Proofs.Ytjiaaefpepdoeaa
open Go.RowKit Md
set_option linter.unusedVariables false

/-- the row that a call has made: it reads so, it is the call's own -/
def New (w w' : World) (e : TypeId) (v : Value) (xs : List Value) : Prop := Own w' e v xs ∧ Fr w w' (fun _ => False) ∧ ∀ k, InBlk v k → w.heap.size ≤ k
theorem uw_one (ws : List Int) : ∀ u ∈ uw ws, u.oneCell' = true := oneCell_all ws
set_option maxRecDepth 100000 in
set_option maxHeartbeats 1000000 in
theorem clone_c (v : Value) (ws : List Int) (w : World) (h : Rd w v (uw ws)) (hb : ws.length ≤ 1073741824) :
    Calls Try.prog 61 #[v] w fun e w' => ∃ v', e = .returned v' ∧ New w w' 29 v' (uw ws) := by
  have key : ∀ v, Rd w v (uw ws) → ∃ v' w1, (Builtin.append_ #[39, 39] 39 #[.slice (some ⟨w.heap.size, 0, none⟩) 0 0, v]).run Try.prog (w.alloc (.cells #[] 29)) = .ok v' w1 ∧ New w w1 29 v' (uw ws) := by
    intro v h
    obtain ⟨i0, hi, hz0, hz1, hz2⟩ := info_parts wordInfo
    have hs : Own (w.alloc (.cells #[] 29)) 29 (.slice (some ⟨w.heap.size, 0, none⟩) 0 0) [] := World.ownsRow_made w #[] 0 (Nat.zero_le _) (Nat.zero_le _) rfl
    have hv : Rd (w.alloc (.cells #[] 29)) v (uw ws) := h.keep ((Fr.refl w (fun _ => False)).alloc _) (fun _ _ h => h)
    obtain ⟨v', w1, hr, ho, hg, hn⟩ := run_append_rd (P := Try.prog) _ 39 39 29 i0 (.int .u64 0) Try.underlying39 hi hz0 hz1 (by omega) rfl _ v [] (uw ws) hs hv (uw_one ws) (by rw [uw_length]; simp; omega)
    refine ⟨v', w1, hr, ho, ?_, fun k hk => ?_⟩
    · exact ((Fr.refl w _).alloc _).grown hg (fun k hk hlt => by simp [Value.ownBlock] at hk; omega)
    · rcases hn k hk with h1 | h1
      · simp [InBlk, Value.ownBlock] at h1; omega
      · simp at h1; omega
  have h2 := h
  rcases h with ⟨hx, A, cap, rfl, hA⟩ | ⟨b, off, cap, rfl, h0, hl, hm, hbb, hc⟩
  · cases A with
    | none =>
      have hcap := hA rfl
      subst hcap
      clear key hA
      have HX := Lib.hid hx
      clear hx h2
      have hq : (binOp .eql 39 (.slice none 0 0) (.slice none 0 0)).run Try.prog w = .ok (.bool true) w := Lib.run_eql_slice_nil (P := Try.prog) w 39 29 (none) (0) (0) 0 0 Try.underlying39
      go_enter Try.func61, Try.ntmps61
      go_wp2
      go_ret
      exact ⟨_, rfl, by rw [HX.out]; exact Own.nil _ _, Fr.refl _ _, fun k hk => by simp [InBlk, Value.ownBlock] at hk⟩
    | some a =>
      obtain ⟨v', w1, hr, hnew⟩ := key _ h2
      have HR := Lib.hid hr
      have HN := Lib.hid hnew
      clear key hA hr hnew hx h2
      have hq : (binOp .eql 39 (.slice (some a) 0 cap) (.slice none 0 0)).run Try.prog w = .ok (.bool false) w := Lib.run_eql_slice_nil (P := Try.prog) w 39 29 ((some a)) (0) (cap) 0 0 Try.underlying39
      go_enter Try.func61, Try.ntmps61
      go_wp2_with (at_builtin; refine Lib.wpList_append_run _ rfl _ _ _ _ rfl _ _ rfl rfl _ w1 HR.out ?_)
      go_ret
      exact ⟨_, rfl, HN.out⟩
  · obtain ⟨v', w1, hr, hnew⟩ := key _ h2
    have HR := Lib.hid hr
    have HN := Lib.hid hnew
    clear key hr hnew h2 hc hm
    have hq : (binOp .eql 39 (.slice (some ⟨b, off, none⟩) (uw ws).length cap) (.slice none 0 0)).run Try.prog w = .ok (.bool false) w := Lib.run_eql_slice_nil (P := Try.prog) w 39 29 ((some ⟨b, off, none⟩)) ((uw ws).length) (cap) 0 0 Try.underlying39
    go_enter Try.func61, Try.ntmps61
    go_wp2_with (at_builtin; refine Lib.wpList_append_run _ rfl _ _ _ _ rfl _ _ rfl rfl _ w1 HR.out ?_)
    go_ret
    exact ⟨_, rfl, HN.out⟩
theorem words_c (p : Nat) (v : Value) (ws : List Int) (size : Int) (w : World) (h : Ar 101 w p v ws size) :
    Calls Try.prog 30 #[.pointer (some ⟨p, 0, none⟩)] w fun e w' => ∃ v', e = .returned v' ∧ New w w' 29 v' (uw ws) := by
  have hb : ws.length ≤ 1073741824 := by have := h.le; have := h.mx; omega
  have HRd := Lib.hid h.own.rd
  have c0 := h.c0
  obtain ⟨A, cap, rfl⟩ := h.val
  clear h
  go_enter Try.func30, Try.ntmps30
  go_wp2_with (first | (go_at_call 61; (with_reducible refine (clone_c _ ws _ HRd.out hb).mono ?_); rintro e w' ⟨v', rfl, hnew⟩))
  go_ret
  exact ⟨_, rfl, hnew⟩
theorem copy_c (v : Value) (ws : List Int) (w : World) (h : Rd w v (uw ws)) (hb : ws.length ≤ 1073741824) :
    Calls Try.prog 40 #[v] w fun e w' => ∃ v', e = .returned v' ∧ New w w' 29 v' (uw ws) := by
  obtain ⟨i0, hi, hz0, hz1, hz2⟩ := info_parts wordInfo
  obtain ⟨v', w1, hr, ho, hg, hn⟩ := run_append_rd (P := Try.prog) w 39 39 29 i0 (.int .u64 0) Try.underlying39 hi hz0 hz1 (by omega) rfl _ v [] (uw ws) (Own.nil w _) h (uw_one ws) (by rw [uw_length]; simp; omega)
  have hnew : New w w1 29 v' (uw ws) := ⟨ho, (Fr.refl w _).grown hg (fun k hk hlt => by simp [Value.ownBlock] at hk), fun k hk => (hn k hk).elim (fun h => by simp [InBlk, Value.ownBlock] at h) id⟩
  have HR := Lib.hid hr
  have HN := Lib.hid hnew
  obtain ⟨A, cap, rfl⟩ := h.len
  clear hr hnew ho hg hn hi hz0 hz1 hz2 h
  go_enter Try.func40, Try.ntmps40
  go_wp2_with (at_builtin; refine Lib.wpList_append_run _ rfl _ _ _ _ rfl _ _ rfl rfl _ w1 HR.out ?_)
  go_ret
  exact ⟨_, rfl, HN.out⟩
/-! ### SameWords -/
theorem Drawn.refl (w : World) : Drawn w w := ⟨0, rfl⟩
theorem Drawn.step {w w' : World} (h : Drawn w w') (n : Nat) : Drawn w (w'.drewN n) := by
  obtain ⟨m, rfl⟩ := h
  exact ⟨m + n, World.drewN_drewN ..⟩
theorem Drawn.fr {w w' : World} (h : Drawn w w') (S : Nat → Prop) : Fr w w' S := by
  obtain ⟨m, rfl⟩ := h
  exact (Fr.refl w S).drewN m
theorem uw_get {ws : List Int} {k : Nat} (h : k < ws.length) : (uw ws)[k]? = some (.int .u64 (ws.getD k 0)) := by simp [uw, List.getD, h]
theorem take_eq_succ {xs ys : List Int} {k : Nat} (hx : k < xs.length) (hy : k < ys.length) (h : xs.take k = ys.take k) (e : xs.getD k 0 = ys.getD k 0) : xs.take (k + 1) = ys.take (k + 1) := by
  rw [List.take_succ_eq_append_getElem hx, List.take_succ_eq_append_getElem hy, h]
  simp [List.getD, hx, hy] at e
  rw [e]
theorem samew_c (va vb : Value) (xs ys : List Int) (w : World) (ha : Rd w va (uw xs)) (hb : Rd w vb (uw ys)) (hl : xs.length ≤ 1073741824) :
    Calls Try.prog 29 #[va, vb] w fun e w' => e = .returned (.bool (decide (xs = ys))) ∧ Drawn w w' := by
  obtain ⟨A, ca, rfl⟩ := ha.len
  obtain ⟨B, cb, rfl⟩ := hb.len
  rw [uw_length] at *
  rw [uw_length] at *
  by_cases hlen : xs.length = ys.length
  · by_cases h0 : xs.length = 0
    · have e1 : xs = [] := List.eq_nil_of_length_eq_zero h0
      have e2 : ys = [] := List.eq_nil_of_length_eq_zero (by omega)
      subst e1
      subst e2
      clear ha hb hlen h0
      go_enter Try.func29, Try.ntmps29
      go_wp2
      refine wp_loop_rounds 1 ?_
      rw [rounds_succ]
      go_wp2
      go_ret
      exact ⟨rfl, Drawn.refl _⟩
    · rcases ha with ⟨hx, _⟩ | ⟨b1, o1, c1, e1, _, hl1, hm1, hb1, hc1⟩
      · have := congrArg List.length hx; rw [uw_length] at this; exact absurd this h0
      rcases hb with ⟨hx, _⟩ | ⟨b2, o2, c2, e2, _, hl2, hm2, hb2, hc2⟩
      · have := congrArg List.length hx; rw [uw_length] at this; exact absurd (hlen.trans this) h0
      injection e1 with e1 _ e3
      injection e2 with e2 _ e4
      subst e1; subst e2; subst e3; subst e4
      have HC1 := Lib.hid hc1
      have HC2 := Lib.hid hc2
      have HL := Lib.hid hlen
      have d0 : (((xs.length : Int)) != (ys.length : Int)) = false := by rw [hlen]; simp
      have d0' : (xs.length != ys.length) = false := by rw [hlen]; simp
      clear hc1 hc2 hl1 hl2 hm1 hm2 hb1 hb2 hlen
      go_enter Try.func29, Try.ntmps29
      go_wp2
      go_loopw [5] (fun i wr => ∃ k : Nat, k ≤ xs.length ∧ i = .int .i64 k ∧ xs.take k = ys.take k ∧ Drawn w wr) (fun i _ => xs.length - (intOf i).toNat)
      case atStart => exact ⟨0, Nat.zero_le _, rfl, rfl, Drawn.refl _⟩
      case round =>
        obtain ⟨k, hk, rfl, ht, nq, rfl⟩ := hrel
        have HT := Lib.hid ht
        clear ht d0 d0'
        by_cases hlt : k < xs.length
        · have hlt2 : k < ys.length := by have := HL.out; omega
          have g1 : w.cell? ⟨b1, o1 + k, none⟩ = some (.int .u64 (xs.getD k 0)) := by rw [HC1.out k (by rw [uw_length]; exact hlt), uw_get hlt]
          have g2 : w.cell? ⟨b2, o2 + k, none⟩ = some (.int .u64 (ys.getD k 0)) := by rw [HC2.out k (by rw [uw_length]; exact hlt2), uw_get hlt2]
          obtain ⟨x, hx⟩ : ∃ x, xs.getD k 0 = x := ⟨_, rfl⟩
          obtain ⟨y, hy⟩ : ∃ y, ys.getD k 0 = y := ⟨_, rfl⟩
          rw [hx] at g1
          rw [hy] at g2
          have HX := Lib.hid hx
          have HY := Lib.hid hy
          clear hx hy
          have q1 : (0 : Int) ≤ k := by omega
          have q2 : (k : Int) < xs.length := by omega
          have q3 : (k : Int) < ys.length := by omega
          by_cases hxy : x = y
          · have dn : (x != y) = false := by simp [hxy]
            have HXY := Lib.hid hxy
            clear hxy
            go_wp2
            go_quiet (fail)
            go_wp2
            go_roundw
            case rel => exact ⟨k + 1, by omega, by go_num, take_eq_succ hlt hlt2 HT.out (by rw [HX.out, HY.out]; exact HXY.out), ⟨_, rfl⟩⟩
            case measure => simp [intOf]; omega
          · have dn : (x != y) = true := by simpa using hxy
            have HXY := Lib.hid hxy
            clear hxy
            go_wp2
            go_quiet (fail)
            go_wp2
            go_ret
            refine ⟨?_, Drawn.step ⟨_, rfl⟩ _⟩
            have : ¬ xs = ys := fun e => HXY.out (by rw [← HX.out, ← HY.out, e])
            simp [this]
        · have hk2 : k = xs.length := by omega
          go_wp2
          go_ret
          refine ⟨?_, nq, rfl⟩
          have h3 := HT.out
          rw [List.take_of_length_le (by omega), List.take_of_length_le (by have := HL.out; omega)] at h3
          simp [h3]
  · have d0 : (((xs.length : Int)) != (ys.length : Int)) = true := by simp; omega
    have d0' : (xs.length != ys.length) = true := by simp; omega
    have hne : decide (xs = ys) = false := decide_eq_false (fun e => hlen (by rw [e]))
    rw [hne]
    clear ha hb hlen
    go_enter Try.func29, Try.ntmps29
    go_wp2
    go_ret
    exact ⟨rfl, Drawn.refl _⟩
end Go.Proofs.Ytjiaaefpepdoeaa
