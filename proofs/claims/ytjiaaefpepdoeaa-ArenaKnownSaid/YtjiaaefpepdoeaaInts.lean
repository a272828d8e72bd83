/-
  CONTRACTS: Ints (two rows of numbers), Mem (the model's arena with words). Conditions: fewer than 2^30 elements; Mem: at most 2^20 words in all.
-/
import Derived.Test.YtjiaaefpepdoeaaObs
import Derived.Test.YtjiaaefpepdoeaaCpy
namespace Go.Proofs.Ytjiaaefpepdoeaa
open Go.RowKit Md
set_option linter.unusedVariables false
theorem iw_length (l : List Int) : (iw l).length = l.length := by simp [iw]
theorem iw_get {ws : List Int} {k : Nat} (h : k < ws.length) : (iw ws)[k]? = some (.int .i64 (ws.getD k 0)) := by simp [iw, List.getD, h]
theorem ints_c (va vb : Value) (xs ys : List Int) (w : World) (ha : Rd w va (iw xs)) (hb : Rd w vb (iw ys)) (hl : xs.length ≤ 1073741824) :
    Calls Try.prog 34 #[va, vb] w fun e w' => e = .returned (.bool (decide (xs = ys))) ∧ Drawn w w' := by
  obtain ⟨A, ca, rfl⟩ := ha.len
  obtain ⟨B, cb, rfl⟩ := hb.len
  rw [iw_length] at *
  rw [iw_length] at *
  by_cases hlen : xs.length = ys.length
  · by_cases h0 : xs.length = 0
    · have e1 : xs = [] := List.eq_nil_of_length_eq_zero h0
      have e2 : ys = [] := List.eq_nil_of_length_eq_zero (by omega)
      subst e1
      subst e2
      clear ha hb hlen h0
      go_enter Try.func34, Try.ntmps34
      go_wp2
      refine wp_loop_rounds 1 ?_
      rw [rounds_succ]
      go_wp2
      go_ret
      exact ⟨rfl, Drawn.refl _⟩
    · rcases ha with ⟨hx, _⟩ | ⟨b1, o1, c1, e1, _, hl1, hm1, hb1, hc1⟩
      · have := congrArg List.length hx; rw [iw_length] at this; exact absurd this h0
      rcases hb with ⟨hx, _⟩ | ⟨b2, o2, c2, e2, _, hl2, hm2, hb2, hc2⟩
      · have := congrArg List.length hx; rw [iw_length] at this; exact absurd (hlen.trans this) h0
      injection e1 with e1 _ e3
      injection e2 with e2 _ e4
      subst e1; subst e2; subst e3; subst e4
      have HC1 := Lib.hid hc1
      have HC2 := Lib.hid hc2
      have HL := Lib.hid hlen
      have d0 : (((xs.length : Int)) != (ys.length : Int)) = false := by rw [hlen]; simp
      have d0' : (xs.length != ys.length) = false := by rw [hlen]; simp
      clear hc1 hc2 hl1 hl2 hm1 hm2 hb1 hb2 hlen
      go_enter Try.func34, Try.ntmps34
      go_wp2
      go_loopw [5] (fun i wr => ∃ k : Nat, k ≤ xs.length ∧ i = .int .i64 k ∧ xs.take k = ys.take k ∧ Drawn w wr) (fun i _ => xs.length - (intOf i).toNat)
      case atStart => exact ⟨0, Nat.zero_le _, rfl, rfl, Drawn.refl _⟩
      case round =>
        obtain ⟨k, hk, rfl, ht, nq, rfl⟩ := hrel
        have HT := Lib.hid ht
        clear ht d0 d0'
        by_cases hlt : k < xs.length
        · have hlt2 : k < ys.length := by have := HL.out; omega
          have g1 : w.cell? ⟨b1, o1 + k, none⟩ = some (.int .i64 (xs.getD k 0)) := by rw [HC1.out k (by rw [iw_length]; exact hlt), iw_get hlt]
          have g2 : w.cell? ⟨b2, o2 + k, none⟩ = some (.int .i64 (ys.getD k 0)) := by rw [HC2.out k (by rw [iw_length]; exact hlt2), iw_get hlt2]
          obtain ⟨x, hx⟩ : ∃ x, xs.getD k 0 = x := ⟨_, rfl⟩
          obtain ⟨y, hy⟩ : ∃ y, ys.getD k 0 = y := ⟨_, rfl⟩
          rw [hx] at g1
          rw [hy] at g2
          have HX := Lib.hid hx
          have HY := Lib.hid hy
          clear hx hy
          have q1 : (0 : Int) ≤ k := by omega
          have q2 : (k : Int) < xs.length := by omega
          have q3 : (k : Int) < ys.length := by omega
          by_cases hxy : x = y
          · have dn : (x != y) = false := by simp [hxy]
            have HXY := Lib.hid hxy
            clear hxy
            go_wp2
            go_quiet (fail)
            go_wp2
            go_roundw
            case rel => exact ⟨k + 1, by omega, by go_num, take_eq_succ hlt hlt2 HT.out (by rw [HX.out, HY.out]; exact HXY.out), ⟨_, rfl⟩⟩
            case measure => simp [intOf]; omega
          · have dn : (x != y) = true := by simpa using hxy
            have HXY := Lib.hid hxy
            clear hxy
            go_wp2
            go_quiet (fail)
            go_wp2
            go_ret
            refine ⟨?_, Drawn.step ⟨_, rfl⟩ _⟩
            have : ¬ xs = ys := fun e => HXY.out (by rw [← HX.out, ← HY.out, e])
            simp [this]
        · have hk2 : k = xs.length := by omega
          go_wp2
          go_ret
          refine ⟨?_, nq, rfl⟩
          have h3 := HT.out
          rw [List.take_of_length_le (by omega), List.take_of_length_le (by have := HL.out; omega)] at h3
          simp [h3]
  · have d0 : (((xs.length : Int)) != (ys.length : Int)) = true := by simp; omega
    have d0' : (xs.length != ys.length) = true := by simp; omega
    have hne : decide (xs = ys) = false := decide_eq_false (fun e => hlen (by rw [e]))
    rw [hne]
    clear ha hb hlen
    go_enter Try.func34, Try.ntmps34
    go_wp2
    go_ret
    exact ⟨rfl, Drawn.refl _⟩
set_option maxHeartbeats 1000000 in
theorem mem_c (v : Value) (l : List Int) (more : Int) (w : World) (h : Rd w v (uw l)) (hok : okWs l) (h0 : 0 ≤ more) (h1 : l.length + more ≤ 1048576) :
    Calls Try.prog 35 #[v, .int .i64 more] w fun e w' => ∃ p v', e = .returned (.pointer (some ⟨p, 0, none⟩)) ∧ NewAr 41 w w' p v' l (l.length + more) := by
  have hw : wrap64 ((l.length : Int) + more) = l.length + more := by unfold wrap64; omega
  have hw2 : IntKind.i64.wrap ((l.length : Int) + more) = l.length + more := by rw [IntKind.wrap_i64]; omega
  have HB : Hid (l.length ≤ 1073741824) := Lib.hid (by omega)
  have H1 := Lib.hid h1
  have HOK := Lib.hid hok
  have HR := Lib.hid h
  have H0 := Lib.hid h0
  obtain ⟨A, cap, rfl⟩ := h.len
  rw [uw_length] at *
  clear h hok h0 h1
  go_enter Try.func35, Try.ntmps35
  go_wp2_with (first | (go_at_call 40; (with_reducible refine (copy_c _ l _ HR.out HB.out).mono ?_); rintro e w1 ⟨v', rfl, hn⟩; obtain ⟨A9, c9, hv⟩ := hn.1.rd.len; subst hv; have HN := Lib.hid hn; clear hn))
  go_ret
  have hn := HN.out
  rw [uw_length] at *
  exact ⟨_, _, rfl, ⟨blk_new _ _ _, hn.1.keep ((Fr.refl _ (fun _ => False)).alloc _) (fun _ _ h => h), by have := H0.out; omega, H1.out, HOK.out, by decide⟩, hn.2.1.alloc _, hn.2.1.size, hn.2.2⟩
end Go.Proofs.Ytjiaaefpepdoeaa
