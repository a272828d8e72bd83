/-
  TEXTS JOINED FOR A CLAIM (ThreadPlays): Rlk Rthd Rlse Rchn Tpa Tpl. What each proves, and under which conditions, stands at its head. Conditions: none beyond those.
-/
import Derived.Test.YtjiaaefpepdoeaaZ2ThreadPlays
import Derived.Test.YtjiaaefpepdoeaaZ3ThreadPlays
import Derived.Deep.DeepCutAuto
import Derived.Deep.CutBlock
import Derived.Test.YtjiaaefpepdoeaaZ0ThreadPlays
import Derived.Test.YtjiaaefpepdoeaaZ1ThreadPlays
/-
  CONTRACTS: the model's link, and linked. Conditions: a place below 2^40.
-/
namespace Go.Proofs.Ytjiaaefpepdoeaa.Wd
open Go.RowKit Go.Proofs.Ytjiaaefpepdoeaa.PSlideRoots Go.Proofs.YtjiaaefpepdoeaaW.PrintWords Go.Proofs.YtjiaaefpepdoeaaW.PrintLast
open Go.Proofs.Ytjiaaefpepdoeaa.Md
set_option linter.unusedVariables false
set_option maxHeartbeats 1000000 in
theorem mlink_c (b : Bool) (i r : Int) (w : World) (h0 : 0 ≤ i) (h1 : i < 1099511627776) (h : linkF ⟨b, i⟩ = r) : Calls Try.prog 76 #[.agg #[.bool b, .int .i64 i]] w fun e w' => e = .returned (.int .u64 r) ∧ Fr w w' (fun _ => False) := by
  cases b with
  | false =>
    have hr : ofW 7 (2 * i) = r := by rw [← h]; unfold linkF; simp
    have HR := Lib.hid hr
    clear h hr
    go_enter Try.func76, Try.ntmps76
    go_wp2_with (first | (go_at_call 46; (with_reducible refine (rof_c 7 (2 * i) r _ HR.out).mono ?_); rintro e w1 ⟨rfl, n1, rfl⟩))
    go_ret
    exact ⟨rfl, ((Fr.refl w _).alloc _).drewN _⟩
  | true =>
    have hr : ofW 7 (2 * i + 1) = r := by rw [← h]; unfold linkF; simp
    have HR := Lib.hid hr
    clear h hr
    go_enter Try.func76, Try.ntmps76
    go_wp2_with (first | (go_at_call 46; (with_reducible refine (rof_c 7 (2 * i + 1) r _ HR.out).mono ?_); rintro e w1 ⟨rfl, n1, rfl⟩))
    go_ret
    exact ⟨rfl, ((Fr.refl w _).alloc _).drewN _⟩
set_option maxHeartbeats 1000000 in
theorem mlinked_c (x : Int) (f : Fld) (w : World) (hx : okW x) (h : Md.linked x = f) : Calls Try.prog 77 #[.int .u64 x] w fun e w' => e = .returned (.agg #[.bool f.root, .int .i64 f.at_]) ∧ Fr w w' (fun _ => False) := by
  obtain ⟨n, hn⟩ : ∃ n, valW x = n := ⟨_, rfl⟩
  have e1 : f.root = (n % 2 == 1) := by rw [← h, ← hn]; unfold Md.linked; simp; rfl
  have e2 : f.at_ = n / 2 := by rw [← h, ← hn]; rfl
  rw [e1, e2]
  have hand := i64_and1_any n
  have HN := Lib.hid hn
  have HX := Lib.hid hx
  have HR : Hid (-9223372036854775808 ≤ n ∧ n ≤ 9223372036854775807) := Lib.hid (by rw [← hn]; unfold valW; unfold okW at hx; split <;> omega)
  obtain ⟨B, hB⟩ : ∃ B, w.heap.size = B := ⟨_, rfl⟩
  have HB0 := Lib.hid hB
  have HBK : Hid ((w.alloc (.cells #[.bool false, .int .i64 0] 83)).heap[w.heap.size]? = some (.cells #[.bool false, .int .i64 0] 83 (0, 0))) := Lib.hid (blk_new _ _ _)
  clear h hn hx e1 e2
  go_enter Try.func77, Try.ntmps77
  go_wp2_with (first | (go_at_call 64; (with_reducible refine (rval_c x n _ HX.out HN.out).mono ?_); rintro e w1 ⟨rfl, n1, rfl⟩))
  refine bodyPost_ret (results_cell_row rfl _ _ B 83 #[.bool (n % 2 == 1), .int .i64 (n / 2)] (0, 0) _ rfl (by
    refine blk_put (cs := #[.bool (n % 2 == 1), .int .i64 0]) ?_ 1 _ rfl
    refine blk_put (cs := #[.bool false, .int .i64 0]) ?_ 0 _ rfl
    refine blk_drewN ?_ _
    rw [← HB0.out]
    exact HBK.out) Try.underlying83 rfl (by kernel_rfl)) rfl ?_
  exact ⟨rfl, (((((Fr.refl w _).alloc _).drewN _).setCell (fun h => by have := HB0.out; simp only at h; omega) _).setCell (fun h => by have := HB0.out; simp only at h; omega) _)⟩
end Go.Proofs.Ytjiaaefpepdoeaa.Wd

/-
  CONTRACT: the model's Thread. Conditions: none but that the model's words and the roots stand.
-/
namespace Go.Proofs.Ytjiaaefpepdoeaa
open Go.RowKit Md
set_option linter.unusedVariables false
set_option maxRecDepth 100000 in
set_option maxHeartbeats 2000000 in
theorem mthread_no (p : Nat) (v r : Value) (ws rs : List Int) (size i : Int) (b : Bool) (w : World) (h : TA 41 w p v ws size r rs) (hn : threadM ws rs ⟨b, i⟩ = none) :
    Calls Try.prog 53 #[.pointer (some ⟨p, 0, none⟩), r, .agg #[.bool b, .int .i64 i]] w fun e w' => e = .returned (.bool false) ∧ Fr w w' (fun _ => False) := by
  have H := Lib.hid (h.fr ((Fr.refl w _).alloc (.cells #[.bool b, .int .i64 i] 83)))
  have hbk : (w.alloc (.cells #[.bool b, .int .i64 i] 83)).heap[w.heap.size]? = some (.cells #[.bool b, .int .i64 i] 83 (0, 0)) := blk_new _ _ _
  have HBK := Lib.hid hbk
  obtain ⟨Av, cv, rfl⟩ := h.ar.val
  cases hg : fGet ws rs ⟨b, i⟩ with
  | none =>
    have HG := Lib.hid hg
    obtain ⟨A, cap, rfl⟩ := h.own.rd.len
    rw [uw_length] at *
    clear h hg hn hbk
    go_enter Try.func53, Try.ntmps53
    go_wp2_with (first | (go_at_call 74; (with_reducible refine (mfget_c p _ _ ws rs size i b _ H.out).mono ?_); rintro e w1 ⟨rfl, hf⟩; rw [HG.out]; have HF := Lib.hid hf; clear hf))
    go_ret
    exact ⟨rfl, ((Fr.refl w _).alloc _).trans HF.out⟩
  | some x =>
    have hx := fGet_ok h.ar.ok h.okr hg
    have HG := Lib.hid hg
    have HX := Lib.hid hx
    obtain ⟨t, ht⟩ : ∃ t, tagW x = t := ⟨_, rfl⟩
    obtain ⟨n, hn2⟩ : ∃ n, valW x = n := ⟨_, rfl⟩
    have key : (t == 5) = false ∨ ((t == 5) = true ∧ n < 0) ∨ ((t == 5) = true ∧ 0 ≤ n ∧ (ws.length : Int) ≤ n) ∨ ((t == 5) = true ∧ 0 ≤ n ∧ n < ws.length ∧ b = false ∧ i = n) := by
      unfold threadM at hn
      rw [hg] at hn
      simp only [ht, hn2] at hn
      split at hn
      · cases hn
      · rename_i hc
        by_cases h5 : t = 5
        · have h5b : (t == 5) = true := by simp [h5]
          by_cases h0 : n < 0
          · exact .inr (.inl ⟨h5b, h0⟩)
          · by_cases h1 : (ws.length : Int) ≤ n
            · exact .inr (.inr (.inl ⟨h5b, by omega, h1⟩))
            · refine .inr (.inr (.inr ⟨h5b, by omega, by omega, ?_⟩))
              cases b with
              | true => exact absurd ⟨h5, by omega, by omega, .inl rfl⟩ hc
              | false =>
                refine ⟨rfl, ?_⟩
                by_cases hi : i = n
                · exact hi
                · exact absurd ⟨h5, by omega, by omega, .inr hi⟩ hc
        · exact .inl (by simp [h5])
    have HT := Lib.hid ht
    have HN := Lib.hid hn2
    have hmx := h.ar.mx
    have hle := h.ar.le
    obtain ⟨A, cap, rfl⟩ := h.own.rd.len
    rw [uw_length] at *
    have LB : Hid ((ws.length : Int) ≤ 1048576) := Lib.hid (by omega)
    have qL : (ws.length : Int) ≤ 1048576 := by omega
    clear h hg hn hx ht hn2 hmx hle hbk
    rcases key with c1 | ⟨c1, c2⟩ | ⟨c1, c2, c3⟩ | ⟨c1, c2, c3, rfl, rfl⟩
    · have c1b : (t != 5) = true := by simpa using c1
      go_enter Try.func53, Try.ntmps53
      go_wp2_with (first | (go_at_call 74; (with_reducible refine (mfget_c p _ _ ws rs size i b _ H.out).mono ?_); rintro e w1 ⟨rfl, hf⟩; rw [HG.out]; have HF := Lib.hid hf; clear hf) | (go_at_call 43; (with_reducible refine (Wd.rtag_c x t _ HX.out HT.out).mono ?_); rintro e w2 ⟨rfl, n2, rfl⟩))
      go_ret
      exact ⟨rfl, (((Fr.refl w _).alloc _).trans HF.out).drewN _⟩
    · have c1b : (t != 5) = false := by simpa using c1
      have d1 : decide (n < 0) = true := decide_eq_true c2
      clear c1 c2
      go_enter Try.func53, Try.ntmps53
      go_upto_region 5 with (first | (go_at_call 74; (with_reducible refine (mfget_c p _ _ ws rs size i b _ H.out).mono ?_); rintro e w1 ⟨rfl, hf⟩; rw [HG.out]; have HF := Lib.hid (((Fr.refl w _).alloc _).trans hf); have H1 := Lib.hid (H.out.fr hf); have HB1 := Lib.hid (hf.blk HBK.out (fun h => h)); clear hf) | (go_at_call 43; (with_reducible refine (Wd.rtag_c x t _ HX.out HT.out).mono ?_); rintro e w2 ⟨rfl, n2, rfl⟩) | (go_at_call 64; (with_reducible refine (Wd.rval_c x n _ HX.out HN.out).mono ?_); rintro e w3 ⟨rfl, n3, rfl⟩; have H3 := Lib.hid (H1.out.fr ((Fr.refl _ _).drewN (n2 + n3))); have HF3 := Lib.hid (HF.out.drewN (n2 + n3))))
      have k0 : (w1.drewN (n2 + n3)).cell? ⟨w.heap.size, 0, none⟩ = some (.bool b) := by simp [World.cell?, HB1.out]
      have k1 : (w1.drewN (n2 + n3)).cell? ⟨w.heap.size, 1, none⟩ = some (.int .i64 i) := by simp [World.cell?, HB1.out]
      have c0 := H3.out.ar.c0
      go_wp2
      go_ret
      exact ⟨rfl, HF3.out⟩
    · have c1b : (t != 5) = false := by simpa using c1
      have d1 : decide (n < 0) = false := decide_eq_false (by omega)
      have d2 : decide ((ws.length : Int) ≤ n) = true := decide_eq_true c3
      clear c1 c2 c3
      go_enter Try.func53, Try.ntmps53
      go_upto_region 5 with (first | (go_at_call 74; (with_reducible refine (mfget_c p _ _ ws rs size i b _ H.out).mono ?_); rintro e w1 ⟨rfl, hf⟩; rw [HG.out]; have HF := Lib.hid (((Fr.refl w _).alloc _).trans hf); have H1 := Lib.hid (H.out.fr hf); have HB1 := Lib.hid (hf.blk HBK.out (fun h => h)); clear hf) | (go_at_call 43; (with_reducible refine (Wd.rtag_c x t _ HX.out HT.out).mono ?_); rintro e w2 ⟨rfl, n2, rfl⟩) | (go_at_call 64; (with_reducible refine (Wd.rval_c x n _ HX.out HN.out).mono ?_); rintro e w3 ⟨rfl, n3, rfl⟩; have H3 := Lib.hid (H1.out.fr ((Fr.refl _ _).drewN (n2 + n3))); have HF3 := Lib.hid (HF.out.drewN (n2 + n3))))
      have k0 : (w1.drewN (n2 + n3)).cell? ⟨w.heap.size, 0, none⟩ = some (.bool b) := by simp [World.cell?, HB1.out]
      have k1 : (w1.drewN (n2 + n3)).cell? ⟨w.heap.size, 1, none⟩ = some (.int .i64 i) := by simp [World.cell?, HB1.out]
      have c0 := H3.out.ar.c0
      go_wp2
      go_ret
      exact ⟨rfl, HF3.out⟩
    · have c1b : (t != 5) = false := by simpa using c1
      have d1 : decide (i < 0) = false := decide_eq_false (by omega)
      have d2 : decide ((ws.length : Int) ≤ i) = false := decide_eq_false (by omega)
      clear c1 c2 c3
      go_enter Try.func53, Try.ntmps53
      go_upto_region 5 with (first | (go_at_call 74; (with_reducible refine (mfget_c p _ _ ws rs size i false _ H.out).mono ?_); rintro e w1 ⟨rfl, hf⟩; rw [HG.out]; have HF := Lib.hid (((Fr.refl w _).alloc _).trans hf); have H1 := Lib.hid (H.out.fr hf); have HB1 := Lib.hid (hf.blk HBK.out (fun h => h)); clear hf) | (go_at_call 43; (with_reducible refine (Wd.rtag_c x t _ HX.out HT.out).mono ?_); rintro e w2 ⟨rfl, n2, rfl⟩) | (go_at_call 64; (with_reducible refine (Wd.rval_c x i _ HX.out HN.out).mono ?_); rintro e w3 ⟨rfl, n3, rfl⟩; have H3 := Lib.hid (H1.out.fr ((Fr.refl _ _).drewN (n2 + n3))); have HF3 := Lib.hid (HF.out.drewN (n2 + n3))))
      have k0 : (w1.drewN (n2 + n3)).cell? ⟨w.heap.size, 0, none⟩ = some (.bool false) := by simp [World.cell?, HB1.out]
      have k1 : (w1.drewN (n2 + n3)).cell? ⟨w.heap.size, 1, none⟩ = some (.int .i64 i) := by simp [World.cell?, HB1.out]
      have c0 := H3.out.ar.c0
      go_wp2
      go_ret
      exact ⟨rfl, HF3.out⟩
/-- A store into the row of words, all that a walk asks of it. -/
theorem TA.wst {T : TypeId} {w : World} {p g n cap k : Nat} {ws rs : List Int} {size x : Int} {r : Value} (h : TA T w p (.slice (some ⟨g, 0, none⟩) n cap) ws size r rs) (hk : k < ws.length) (hx : okW x) :
    TA T (w.setCell ⟨g, k, none⟩ (.int .u64 x)) p (.slice (some ⟨g, 0, none⟩) n cap) (wrAt ws k x) size r rs ∧ Fr w (w.setCell ⟨g, k, none⟩ (.int .u64 x)) (fun i => i = g) ∧ w.cell? ⟨g, k, none⟩ = some (.int .u64 (ws.getD k 0)) ∧ w.frozen? ⟨g, k, none⟩ = false := by
  have e0 : wrAt ws k x = ws.set k x := by unfold wrAt; rw [if_pos (by omega)]; simp
  rw [e0]
  rcases h.ar.form with ⟨hv, _⟩ | ⟨g', cap', hv, hl, hm, hg, hgp, hc, hf⟩
  · cases hv
  · injection hv with h1 h2 h3
    injection h1 with h1
    injection h1 with h1
    subst h1
    subst h2
    subst h3
    have hs := h.ar.set hk hx
    exact ⟨h.chg (Chg.of_set hs.1 (hs.2.mono fun i hi _ => by rw [hi]; simp [InBlk, Value.ownBlock])), hs.2, hc k hk, hf k⟩
/-- A row of words that holds something lies in one block. -/
theorem TA.row {T : TypeId} {w : World} {p k : Nat} {ws rs : List Int} {size : Int} {v r : Value} (h : TA T w p v ws size r rs) (hk : k < ws.length) : ∃ g cap, v = .slice (some ⟨g, 0, none⟩) ws.length cap := by
  rcases h.ar.form with ⟨_, rfl⟩ | ⟨g, cap, rfl, _⟩
  · simp at hk
  · exact ⟨g, cap, rfl⟩
set_option maxRecDepth 100000 in
set_option maxHeartbeats 4000000 in
theorem mthread_yes (p : Nat) (v r : Value) (ws rs ws' rs' : List Int) (size i : Int) (b : Bool) (w : World) (h : TA 41 w p v ws size r rs) (hn : threadM ws rs ⟨b, i⟩ = some (ws', rs')) :
    Calls Try.prog 53 #[.pointer (some ⟨p, 0, none⟩), r, .agg #[.bool b, .int .i64 i]] w fun e w' => e = .returned (.bool true) ∧ TA 41 w' p v ws' size r rs' ∧ Fr w w' (UO v r) := by
  obtain ⟨x, n, hg, ht, hv, hn0, hn1, hne, rfl, rfl⟩ : ∃ x n, fGet ws rs ⟨b, i⟩ = some x ∧ tagW x = 5 ∧ valW x = n ∧ 0 ≤ n ∧ n < ws.length ∧ (b = true ∨ i ≠ n) ∧ ws' = wrAt (fSetW ws ⟨b, i⟩ (rd0 ws n)) n (linkF ⟨b, i⟩) ∧ rs' = fSetR rs ⟨b, i⟩ (rd0 ws n) := by
    unfold threadM at hn
    cases hg : fGet ws rs ⟨b, i⟩ with
    | none => rw [hg] at hn; cases hn
    | some x =>
      rw [hg] at hn
      simp only at hn
      split at hn
      · rename_i hc
        simp only [Option.some.injEq, Prod.mk.injEq] at hn
        exact ⟨x, _, rfl, hc.1, rfl, hc.2.1, hc.2.2.1, hc.2.2.2, hn.1.symm, hn.2.symm⟩
      · cases hn
  have hx := fGet_ok h.ar.ok h.okr hg
  have hmx := h.ar.mx
  have hle := h.ar.le
  have hlr := h.lenr
  have hi : 0 ≤ i ∧ i < 1099511627776 := by
    unfold fGet at hg
    split at hg
    · obtain ⟨k, e, hk, _⟩ := rdAt_some hg; simp only at e; omega
    · obtain ⟨k, e, hk, _⟩ := rdAt_some hg; simp only at e; omega
  obtain ⟨x0, hx0⟩ : ∃ x0, rd0 ws n = x0 := ⟨_, rfl⟩
  obtain ⟨k, rfl⟩ := Int.eq_ofNat_of_zero_le hn0
  have hk : k < ws.length := by omega
  have hr0 : rdAt ws k = some x0 := by rw [← hx0]; unfold rd0; rw [rdAt_of hk]; rfl
  have hx0k : okW x0 := by
    have := okWs_getD h.ar.ok k hk
    have hr1 := hr0
    rw [rdAt_of hk] at hr1
    injection hr1 with e
    rw [← e]; exact this
  rw [hx0]
  obtain ⟨n, hnk⟩ : ∃ n : Int, (k : Int) = n := ⟨_, rfl⟩
  obtain ⟨g, cap0, rfl⟩ := h.row hk
  have HK : Hid (k < (fSetW ws ⟨b, i⟩ x0).length) := Lib.hid (by rw [fSetW_len]; exact hk)
  obtain ⟨L, hL⟩ : ∃ L, linkF ⟨b, i⟩ = L := ⟨_, rfl⟩
  rw [hL]
  have HLK : Hid (okW L) := Lib.hid (by rw [← hL]; exact okW_ofW _ _)
  have HL := Lib.hid hL
  have HX0K := Lib.hid hx0k
  have HGK : Hid ((fSetW ws ⟨b, i⟩ x0).getD k 0 = x0) := Lib.hid (by
    have h0 : ws.getD k 0 = x0 := by rw [rdAt_of hk] at hr0; injection hr0
    unfold fSetW
    split
    · exact h0
    · rename_i hb
      have hik : i ≠ (k : Int) := by
        rcases hne with h1 | h1
        · exact absurd h1 hb
        · exact h1
      unfold wrAt
      split
      · rename_i hh
        have : i.toNat ≠ k := by omega
        simp only [List.getD_eq_getElem?_getD] at h0 ⊢
        rw [List.getElem?_set_ne this]; exact h0
      · exact h0)
  have HX0 : Hid (ws.getD k 0 = x0) := Lib.hid (by rw [rdAt_of hk] at hr0; injection hr0)
  have HI0 := Lib.hid hi.1
  have HI1 := Lib.hid hi.2
  have HX := Lib.hid hx
  have HT := Lib.hid ht
  have HN := Lib.hid hv
  have HG := Lib.hid hg
  have HIS : Hid ((fGet ws rs ⟨b, i⟩).isSome = true) := Lib.hid (by rw [hg]; rfl)
  have HKW := Lib.hid hk
  have d1 : decide ((k : Int) < 0) = false := decide_eq_false (by omega)
  have d2 : decide ((ws.length : Int) ≤ k) = false := decide_eq_false (by omega)
  have d3 : decide (ws.length ≤ k) = false := decide_eq_false (by omega)
  have q2 : (k : Int) < ws.length := by omega
  have hin : b = false → (i == (k : Int)) = false := by
    intro hb; rcases hne with h1 | h1
    · rw [hb] at h1; cases h1
    · simpa using h1
  clear hL hr0 hx0k hi hx ht hv hg hn hx0 hmx hle hlr hnk hk hn0 hn1 hne
  cases b with
  | false =>
    have H := Lib.hid (h.fr ((Fr.refl w _).alloc (.cells #[.bool false, .int .i64 i] 83)))
    have hbk : (w.alloc (.cells #[.bool false, .int .i64 i] 83)).heap[w.heap.size]? = some (.cells #[.bool false, .int .i64 i] 83 (0, 0)) := blk_new _ _ _
    have HBK := Lib.hid hbk
    obtain ⟨A, cap, rfl⟩ := h.own.rd.len
    rw [uw_length] at *
    have hik := hin rfl
    clear h hbk hin
    go_enter Try.func53, Try.ntmps53
    go_upto_region 5 with (first | (go_at_call 74; (with_reducible refine (mfget_c p _ _ ws rs size i false _ H.out).mono ?_); rintro e w1 ⟨rfl, hf⟩; rw [HG.out]; have HF := Lib.hid (((Fr.refl w _).alloc _).trans hf); have H1 := Lib.hid (H.out.fr hf); have HB1 := Lib.hid (hf.blk HBK.out (fun h => h)); clear hf) | (go_at_call 43; (with_reducible refine (Wd.rtag_c x 5 _ HX.out HT.out).mono ?_); rintro e w2 ⟨rfl, n2, rfl⟩) | (go_at_call 64; (with_reducible refine (Wd.rval_c x k _ HX.out HN.out).mono ?_); rintro e w3 ⟨rfl, n3, rfl⟩; have H3 := Lib.hid (H1.out.fr ((Fr.refl _ _).drewN (n2 + n3))); have HF3 := Lib.hid (HF.out.drewN (n2 + n3))))
    have hb3 : (w1.drewN (n2 + n3)).heap[w.heap.size]? = some (.cells #[.bool false, .int .i64 i] 83 (0, 0)) := HB1.out
    obtain ⟨w3, hw3⟩ : ∃ w3, w1.drewN (n2 + n3) = w3 := ⟨_, rfl⟩
    rw [hw3] at hb3 H3 HF3 ⊢
    obtain ⟨D, hD⟩ : ∃ D, w.heap.size = D := ⟨_, rfl⟩
    rw [hD] at hb3 ⊢
    have HDD := Lib.hid hD
    clear hw3 hD
    have k0 : w3.cell? ⟨D, 0, none⟩ = some (.bool false) := by simp [World.cell?, hb3]
    have k1 : w3.cell? ⟨D, 1, none⟩ = some (.int .i64 i) := by simp [World.cell?, hb3]
    have c0 := H3.out.ar.c0
    have ck := (H3.out.wst HKW.out HX0K.out).2.2.1
    rw [HX0.out] at ck
    have hnD : ¬ UO (.slice (some ⟨g, 0, none⟩) ws.length cap0) (.slice A rs.length cap) D := fun e => by
      rcases e with e | e
      · obtain ⟨cur, hc⟩ := H3.out.ar.own.elem D e; rw [hb3] at hc; simp at hc
      · obtain ⟨cur, hc⟩ := H3.out.own.elem D e; rw [hb3] at hc; simp at hc
    have HND := Lib.hid hnD
    have HB3 := Lib.hid hb3
    have H3d := Lib.hid (H3.out.fr ((Fr.refl _ (fun _ => False)).drew))
    clear hnD hb3
    go_upto_region 7 with (fail)
    go_region_held3 (fun w' => w'.cell? ⟨p, 0, none⟩ = some (.slice (some ⟨g, 0, none⟩) ws.length cap0) ∧ w'.cell? ⟨D, 0, none⟩ = some (.bool false) ∧ w'.cell? ⟨D, 1, none⟩ = some (.int .i64 i) ∧ w'.cell? ⟨g, k, none⟩ = some (.int .u64 x0)) (first | exact ⟨c05, k05, k15, ck5⟩ | exact ⟨c0, k0, k1, ck⟩)
      (first | (go_at_call 75; (with_reducible refine (mfset_c p _ _ ws rs size i x0 false _ H3d.out HX0K.out HIS.out).mono ?_); rintro e w5 ⟨rfl, ht5, hf5⟩; have H5 := Lib.hid ht5; have HF5 := Lib.hid hf5; have c05 := ht5.ar.c0; have ck5 := (ht5.wst HK.out HX0K.out).2.2.1; rw [HGK.out] at ck5; have k05 := hf5.cell (a := ⟨D, 0, none⟩) k0 HND.out; have k15 := hf5.cell (a := ⟨D, 1, none⟩) k1 HND.out; clear ht5 hf5))
    have HF5' := Lib.hid ((HF3.out.drew.mono (fun _ h _ => h.elim)).then_ HF5.out (fun j hj _ => hj))
    have H5d := Lib.hid (H5.out.fr ((Fr.refl w5 (fun _ => False)).drew))
    have HF5d := Lib.hid HF5'.out.drew
    clear HGK HG HIS H3 HF3 H1 HF c0 k0 k1 ck H3d HF5 ck5
    go_upto_region 8 with (fail)
    go_region_with (first | (go_at_call 76; (with_reducible refine (Wd.mlink_c false i L _ HI0.out HI1.out HL.out).mono ?_); rintro e w6 ⟨rfl, hf6⟩; have H6 := Lib.hid (H5d.out.fr hf6); have HF6 := Lib.hid (HF5d.out.trans (hf6.mono (fun _ h _ => h.elim))); have c06 := hf6.cell (a := ⟨p, 0, none⟩) c05 (fun h => h); have W6 := Lib.hid (H6.out.wst HK.out HLK.out); have ck6 := W6.out.2.2.1; have fk6 := W6.out.2.2.2; clear hf6))
    all_goals (go_wp2; go_ret)
    all_goals exact ⟨rfl, W6.out.1, HF6.out.then_ W6.out.2.1 (fun j hj _ => .inl (by rw [hj]; simp [InBlk, Value.ownBlock]))⟩
  | true =>
    have H := Lib.hid (h.fr ((Fr.refl w _).alloc (.cells #[.bool true, .int .i64 i] 83)))
    have hbk : (w.alloc (.cells #[.bool true, .int .i64 i] 83)).heap[w.heap.size]? = some (.cells #[.bool true, .int .i64 i] 83 (0, 0)) := blk_new _ _ _
    have HBK := Lib.hid hbk
    obtain ⟨A, cap, rfl⟩ := h.own.rd.len
    rw [uw_length] at *
    have HIK := Lib.hid trivial
    clear h hbk hin
    go_enter Try.func53, Try.ntmps53
    go_upto_region 5 with (first | (go_at_call 74; (with_reducible refine (mfget_c p _ _ ws rs size i true _ H.out).mono ?_); rintro e w1 ⟨rfl, hf⟩; rw [HG.out]; have HF := Lib.hid (((Fr.refl w _).alloc _).trans hf); have H1 := Lib.hid (H.out.fr hf); have HB1 := Lib.hid (hf.blk HBK.out (fun h => h)); clear hf) | (go_at_call 43; (with_reducible refine (Wd.rtag_c x 5 _ HX.out HT.out).mono ?_); rintro e w2 ⟨rfl, n2, rfl⟩) | (go_at_call 64; (with_reducible refine (Wd.rval_c x k _ HX.out HN.out).mono ?_); rintro e w3 ⟨rfl, n3, rfl⟩; have H3 := Lib.hid (H1.out.fr ((Fr.refl _ _).drewN (n2 + n3))); have HF3 := Lib.hid (HF.out.drewN (n2 + n3))))
    have hb3 : (w1.drewN (n2 + n3)).heap[w.heap.size]? = some (.cells #[.bool true, .int .i64 i] 83 (0, 0)) := HB1.out
    obtain ⟨w3, hw3⟩ : ∃ w3, w1.drewN (n2 + n3) = w3 := ⟨_, rfl⟩
    rw [hw3] at hb3 H3 HF3 ⊢
    obtain ⟨D, hD⟩ : ∃ D, w.heap.size = D := ⟨_, rfl⟩
    rw [hD] at hb3 ⊢
    have HDD := Lib.hid hD
    clear hw3 hD
    have k0 : w3.cell? ⟨D, 0, none⟩ = some (.bool true) := by simp [World.cell?, hb3]
    have k1 : w3.cell? ⟨D, 1, none⟩ = some (.int .i64 i) := by simp [World.cell?, hb3]
    have c0 := H3.out.ar.c0
    have ck := (H3.out.wst HKW.out HX0K.out).2.2.1
    rw [HX0.out] at ck
    have hnD : ¬ UO (.slice (some ⟨g, 0, none⟩) ws.length cap0) (.slice A rs.length cap) D := fun e => by
      rcases e with e | e
      · obtain ⟨cur, hc⟩ := H3.out.ar.own.elem D e; rw [hb3] at hc; simp at hc
      · obtain ⟨cur, hc⟩ := H3.out.own.elem D e; rw [hb3] at hc; simp at hc
    have HND := Lib.hid hnD
    have HB3 := Lib.hid hb3
    have H3d := Lib.hid (H3.out.fr ((Fr.refl _ (fun _ => False)).drew))
    clear hnD hb3
    go_upto_region 7 with (fail)
    go_region_held3 (fun w' => w'.cell? ⟨p, 0, none⟩ = some (.slice (some ⟨g, 0, none⟩) ws.length cap0) ∧ w'.cell? ⟨D, 0, none⟩ = some (.bool true) ∧ w'.cell? ⟨D, 1, none⟩ = some (.int .i64 i) ∧ w'.cell? ⟨g, k, none⟩ = some (.int .u64 x0)) (first | exact ⟨c05, k05, k15, ck5⟩ | exact ⟨c0, k0, k1, ck⟩)
      (first | (go_at_call 75; (with_reducible refine (mfset_c p _ _ ws rs size i x0 true _ H3d.out HX0K.out HIS.out).mono ?_); rintro e w5 ⟨rfl, ht5, hf5⟩; have H5 := Lib.hid ht5; have HF5 := Lib.hid hf5; have c05 := ht5.ar.c0; have ck5 := (ht5.wst HK.out HX0K.out).2.2.1; rw [HGK.out] at ck5; have k05 := hf5.cell (a := ⟨D, 0, none⟩) k0 HND.out; have k15 := hf5.cell (a := ⟨D, 1, none⟩) k1 HND.out; clear ht5 hf5))
    have HF5' := Lib.hid ((HF3.out.drew.mono (fun _ h _ => h.elim)).then_ HF5.out (fun j hj _ => hj))
    have H5d := Lib.hid (H5.out.fr ((Fr.refl w5 (fun _ => False)).drew))
    have HF5d := Lib.hid HF5'.out.drew
    clear HGK HG HIS H3 HF3 H1 HF c0 k0 k1 ck H3d HF5 ck5
    go_upto_region 8 with (fail)
    go_region_with (first | (go_at_call 76; (with_reducible refine (Wd.mlink_c true i L _ HI0.out HI1.out HL.out).mono ?_); rintro e w6 ⟨rfl, hf6⟩; have H6 := Lib.hid (H5d.out.fr hf6); have HF6 := Lib.hid (HF5d.out.trans (hf6.mono (fun _ h _ => h.elim))); have c06 := hf6.cell (a := ⟨p, 0, none⟩) c05 (fun h => h); have W6 := Lib.hid (H6.out.wst HK.out HLK.out); have ck6 := W6.out.2.2.1; have fk6 := W6.out.2.2.2; clear hf6))
    all_goals (go_wp2; go_ret)
    all_goals exact ⟨rfl, W6.out.1, HF6.out.then_ W6.out.2.1 (fun j hj _ => .inl (by rw [hj]; simp [InBlk, Value.ownBlock]))⟩
end Go.Proofs.Ytjiaaefpepdoeaa

/-
  CONTRACT: the model's Loose. Conditions: none but that the model's words and the roots stand.
-/
namespace Go.Proofs.Ytjiaaefpepdoeaa
open Go.RowKit Md
set_option linter.unusedVariables false
set_option maxRecDepth 100000 in
set_option maxHeartbeats 2000000 in
theorem mloose_out (p : Nat) (v r : Value) (ws rs : List Int) (size at_ dst : Int) (w : World) (h : TA 41 w p v ws size r rs) (hn : rdAt ws at_ = none) :
    Calls Try.prog 54 #[.pointer (some ⟨p, 0, none⟩), r, .int .i64 at_, .int .i64 dst] w fun e w' => LA 41 w w' p v r size (looseM (ws.length + rs.length) ws rs at_ dst) e := by
  rw [loose_none hn]
  have hno := rdAt_none hn
  have H := Lib.hid h
  have c0 := h.ar.c0
  obtain ⟨Av, cv, rfl⟩ := h.ar.val
  clear h hn
  by_cases ha : at_ < 0
  · have d1 : decide (0 ≤ at_) = false := decide_eq_false (by omega)
    clear hno ha
    go_enter Try.func54, Try.ntmps54
    go_wp2
    go_loopg [10] 0 (fun g nv wr => nv = .int .i64 0 ∧ wr = w)
    case atStart => exact ⟨rfl, rfl⟩
    case round =>
      obtain ⟨rfl, rfl⟩ := hrel
      go_wp2
      go_ret2
      exact ⟨rfl, H.out, Fr.refl _ _⟩
  · have d1 : decide (0 ≤ at_) = true := decide_eq_true (by omega)
    have d2 : decide (at_ < (ws.length : Int)) = false := decide_eq_false (by omega)
    clear hno ha
    go_enter Try.func54, Try.ntmps54
    go_wp2
    go_loopg [10] 0 (fun g nv wr => nv = .int .i64 0 ∧ wr = w)
    case atStart => exact ⟨rfl, rfl⟩
    case round =>
      obtain ⟨rfl, rfl⟩ := hrel
      go_wp2
      go_ret2
      exact ⟨rfl, H.out, Fr.refl _ _⟩
set_option maxRecDepth 100000 in
set_option maxHeartbeats 4000000 in
theorem mloose_in (p g k cap0 : Nat) (r : Value) (ws rs : List Int) (size dst : Int) (w : World) (h : TA 41 w p (.slice (some ⟨g, 0, none⟩) ws.length cap0) ws size r rs) (hk : k < ws.length) :
    Calls Try.prog 54 #[.pointer (some ⟨p, 0, none⟩), r, .int .i64 k, .int .i64 dst] w fun e w' => LA 41 w w' p (.slice (some ⟨g, 0, none⟩) ws.length cap0) r size (looseM (ws.length + rs.length) ws rs k dst) e := by
  have hmx := h.ar.mx
  have hle := h.ar.le
  have hlr := h.lenr
  have HB : Hid (ws.length ≤ 1048576 ∧ rs.length ≤ 1048576) := Lib.hid (by omega)
  have H0 : Hid (LI 41 w w p (.slice (some ⟨g, 0, none⟩) ws.length cap0) r ws rs size k dst (ws.length + rs.length) 0 ws rs) := Lib.hid ⟨h, Fr.refl _ _, by simp, by simp, rfl, rfl⟩
  obtain ⟨A, cap, rfl⟩ := h.own.rd.len
  rw [uw_length] at *
  obtain ⟨Z, hZ⟩ : ∃ Z, looseM (ws.length + rs.length) ws rs k dst = Z := ⟨_, rfl⟩
  rw [hZ]
  have HZ := Lib.hid hZ
  have HKW := Lib.hid hk
  have p1 : decide ((0 : Int) ≤ (k : Int)) = true := decide_eq_true (by omega)
  have p2 : decide (k < ws.length) = true := decide_eq_true hk
  have p3 : decide ((k : Int) < (ws.length : Int)) = true := decide_eq_true (by omega)
  have q2 : (k : Int) < ws.length := by omega
  have HW : Hid (wrap64 ((ws.length : Int) + rs.length) = ws.length + rs.length) := Lib.hid (by unfold wrap64; omega)
  clear h hmx hle hlr hZ hk
  go_enter Try.func54, Try.ntmps54
  go_wp2
  go_loopg [10] (ws.length + rs.length) (fun g1 nv wr => ∃ (n : Nat) (ws1 rs1 : List Int), nv = .int .i64 n ∧ Hid (LI 41 w wr p (.slice (some ⟨g, 0, none⟩) ws.length cap0) (.slice A rs.length cap) ws rs size k dst g1 n ws1 rs1))
  case atStart => exact ⟨0, _, _, rfl, H0⟩
  case round =>
    clear H0
    obtain ⟨n, ws1, rs1, rfl, HI⟩ := hrel
    have hk1 : k < ws1.length := by rw [HI.out.l1]; exact HKW.out
    obtain ⟨x, hx0⟩ : ∃ x, ws1.getD k 0 = x := ⟨_, rfl⟩
    have hx : okW x := by rw [← hx0]; exact okWs_getD HI.out.ta.ar.ok k hk1
    have HX := Lib.hid hx
    have HR : Hid (rdAt ws1 k = some x) := Lib.hid (by rw [rdAt_of hk1, hx0])
    have HK1 := Lib.hid hk1
    have c0 := HI.out.ta.ar.c0
    have ck := (HI.out.ta.wst hk1 hx).2.2.1
    rw [hx0] at ck
    obtain ⟨t, ht⟩ : ∃ t, tagW x = t := ⟨_, rfl⟩
    have HT := Lib.hid ht
    clear hx ht hk1 hx0
    by_cases h7 : t = 7
    · subst h7
      obtain ⟨⟨fb, fi⟩, hfl⟩ : ∃ f, Md.linked x = f := ⟨_, rfl⟩
      have HFL := Lib.hid hfl
      clear hfl
      go_upto_region 3 with (first | (go_at_call 43; (with_reducible refine (Wd.rtag_c x 7 _ HX.out HT.out).mono ?_); rintro e w2 ⟨rfl, n2, rfl⟩))
      go_upto_region 4 with (first | (go_at_call 77; (with_reducible refine (Wd.mlinked_c x ⟨fb, fi⟩ _ HX.out HFL.out).mono ?_); rintro e wl ⟨rfl, hb⟩))
      obtain ⟨W2, hW2⟩ : ∃ W2, wl.alloc (.cells #[.bool fb, .int .i64 fi] 83) = W2 := ⟨_, rfl⟩
      obtain ⟨D, hD⟩ : ∃ D, wl.heap.size = D := ⟨_, rfl⟩
      have hf2 : Fr wr W2 (fun _ => False) := by rw [← hW2]; exact (((Fr.refl _ _).drewN n2).trans hb).alloc _
      have hdb : W2.heap[D]? = some (.cells #[.bool fb, .int .i64 fi] 83 (0, 0)) := by rw [← hW2, ← hD]; exact blk_new _ _ _
      have H2 := Lib.hid (HI.out.ta.fr hf2)
      have HF2 := Lib.hid (HI.out.fr.then_ hf2 (fun _ h _ => h.elim))
      have k0 : W2.cell? ⟨D, 0, none⟩ = some (.bool fb) := by simp [World.cell?, hdb]
      have k1 : W2.cell? ⟨D, 1, none⟩ = some (.int .i64 fi) := by simp [World.cell?, hdb]
      have HDB := Lib.hid hdb
      simp only [hW2, hD]
      clear hW2 hD hb hf2 hdb c0 ck
      cases hfg : fGet ws1 rs1 ⟨fb, fi⟩ with
      | none =>
        have HG := Lib.hid hfg
        clear hfg
        go_wp2_with (first | (go_at_call 74; (with_reducible refine (mfget_c p _ _ ws1 rs1 size fi fb _ H2.out).mono ?_); rintro e w3 ⟨rfl, hf⟩; rw [HG.out]; have HF3 := Lib.hid hf; clear hf))
        go_ret2
        have hz : Z = ⟨n, false, ws1, rs1⟩ := by rw [← HZ.out, HI.out.eq, loose_far HR.out HT.out (by rw [HFL.out]; exact HG.out)]; simp
        rw [hz]
        exact ⟨rfl, H2.out.fr HF3.out, HF2.out.then_ HF3.out (fun _ h _ => h.elim)⟩
      | some y =>
        have HG := Lib.hid hfg
        have HIS : Hid ((fGet ws1 rs1 ⟨fb, fi⟩).isSome = true) := Lib.hid (by rw [hfg]; rfl)
        have HY := Lib.hid (fGet_ok HI.out.ta.ar.ok HI.out.ta.okr hfg)
        have hbd := HB.out
        have hgn := HI.out.gn
        clear hfg
        go_upto_region 5 with (first | (go_at_call 74; (with_reducible refine (mfget_c p _ _ ws1 rs1 size fi fb _ H2.out).mono ?_); rintro e w3 ⟨rfl, hf⟩; rw [HG.out]; have HF3 := Lib.hid hf; have H3 := Lib.hid (H2.out.fr hf); clear hf))
        have c03 := H3.out.ar.c0
        cases gk with
        | zero =>
          have d1 : decide ((ws.length : Int) + rs.length ≤ n) = true := decide_eq_true (by omega)
          clear hbd hgn
          have hw := HW.out
          go_wp2
          go_ret2
          have hz : Z = ⟨n, false, ws1, rs1⟩ := by rw [← HZ.out, HI.out.eq, loose_zero HR.out HT.out]; simp
          rw [hz]
          exact ⟨rfl, H3.out, HF2.out.then_ HF3.out (fun _ h _ => h.elim)⟩
        | succ g' =>
          have d1 : decide ((ws.length : Int) + rs.length ≤ n) = false := decide_eq_false (by omega)
          clear hbd hgn
          have hw := HW.out
          obtain ⟨q, hq⟩ : ∃ q, ofW 5 dst = q := ⟨_, rfl⟩
          have HQ := Lib.hid hq
          have HQK : Hid (okW q) := Lib.hid (by rw [← hq]; exact okW_ofW _ _)
          have HIS2 : Hid ((fGet (wrAt ws1 k y) rs1 ⟨fb, fi⟩).isSome = true) := Lib.hid (by
            have h1 := HIS.out
            unfold fGet at h1 ⊢
            split
            · rename_i hh; rw [if_pos hh] at h1; exact h1
            · rename_i hh; rw [if_neg hh] at h1
              unfold rdAt at h1 ⊢
              rw [wrAt_len]
              split at h1
              · rename_i h3; rw [if_pos h3]; rfl
              · cases h1)
          have W3 := Lib.hid (H3.out.wst HK1.out HY.out)
          have ck3 := W3.out.2.2.1
          have fk3 := W3.out.2.2.2
          have hb3 := HF3.out.blk HDB.out (fun h => h)
          have hnD : ¬ UO (.slice (some ⟨g, 0, none⟩) ws.length cap0) (.slice A rs.length cap) D := fun e => by
            rcases e with e | e
            · obtain ⟨cur, hc⟩ := H3.out.ar.own.elem D e; rw [hb3] at hc; simp at hc
            · obtain ⟨cur, hc⟩ := H3.out.own.elem D e; rw [hb3] at hc; simp at hc
          have hgD : D ≠ g := fun e => hnD (.inl (by rw [e]; simp [InBlk, Value.ownBlock]))
          have HND := Lib.hid hnD
          have hb4 := W3.out.2.1.blk hb3 hgD
          have H4 := Lib.hid W3.out.1
          have HF4 := Lib.hid W3.out.2.1
          have HGD := Lib.hid hgD
          have HB4 := Lib.hid hb4
          clear hq hb3 hnD hgD hb4 k0 k1
          go_upto_region 8 with (fail)
          clear c03 ck3 fk3 hw
          obtain ⟨w4, hw4⟩ : ∃ w4, w3.setCell ⟨g, k, none⟩ (.int .u64 y) = w4 := ⟨_, rfl⟩
          rw [hw4] at H4 HF4 HB4 ⊢
          clear W3 hw4
          have k04 : w4.cell? ⟨D, 0, none⟩ = some (.bool fb) := by simp [World.cell?, HB4.out]
          have k14 : w4.cell? ⟨D, 1, none⟩ = some (.int .i64 fi) := by simp [World.cell?, HB4.out]
          go_region_held3 (fun w' => w'.cell? ⟨D, 0, none⟩ = some (.bool fb) ∧ w'.cell? ⟨D, 1, none⟩ = some (.int .i64 fi)) (first | exact ⟨k06, k16⟩ | exact ⟨k04, k14⟩)
            (first
              | (go_at_call 46; (with_reducible refine (Wd.rof_c 5 dst q _ HQ.out).mono ?_); rintro e w5 ⟨rfl, n5, rfl⟩; have H5 := Lib.hid (H4.out.fr ((Fr.refl w4 (fun _ => False)).drewN (1 + n5))))
              | (go_at_call 75; (with_reducible refine (mfset_c p _ _ (wrAt ws1 k y) rs1 size fi q fb _ H5.out HQK.out HIS2.out).mono ?_); rintro e w6 ⟨rfl, ht6, hf6⟩; have H6 := Lib.hid ht6; have HF6 := Lib.hid hf6; have k06 := hf6.cell (a := ⟨D, 0, none⟩) k04 HND.out; have k16 := hf6.cell (a := ⟨D, 1, none⟩) k14 HND.out; clear ht6 hf6))
          go_wp2
          go_roundg g'
          case measure => exact Nat.lt_succ_self _
          case rel =>
            have hst := loose_step (g := g') (a := k) (t := dst) HR.out HT.out (by rw [HFL.out]; exact HG.out)
            rw [HFL.out, HQ.out] at hst
            have hw1 : wrap64 ((n : Int) + 1) = n + 1 := by have := HI.out.gn; have := HB.out; unfold wrap64; omega
            refine ⟨n + 1, _, _, by first | (simp; done) | (simp; exact hw1), Lib.hid ⟨H6.out, ?_, ?_, ?_, ?_, ?_⟩⟩
            · refine Fr.then_ ((HF2.out.then_ HF3.out (fun _ h _ => h.elim)).then_ HF4.out (fun j hj _ => .inl (by rw [hj]; simp [InBlk, Value.ownBlock]))) (S1 := UO (.slice (some ⟨g, 0, none⟩) ws.length cap0) (.slice A rs.length cap)) ?_ (fun j hj _ => hj)
              exact Fr.trans (Fr.drewN (Fr.refl w4 _) (1 + n5)) HF6.out
            · rw [HI.out.eq, hst]
              simp only [Loosed.mk.injEq, and_self, and_true]
              omega
            · have := HI.out.gn; omega
            · rw [fSetW_len, wrAt_len]; exact HI.out.l1
            · rw [fSetR_len]; exact HI.out.l2
    · have hb : (t == 7) = false := by simpa using h7
      have H7 := Lib.hid h7
      clear h7
      go_wp2_with (first | (go_at_call 43; (with_reducible refine (Wd.rtag_c x t _ HX.out HT.out).mono ?_); rintro e w2 ⟨rfl, n2, rfl⟩))
      go_ret2
      have hz : Z = ⟨n, true, ws1, rs1⟩ := by rw [← HZ.out, HI.out.eq, loose_tag HR.out (by rw [HT.out]; exact H7.out)]; simp
      rw [hz]
      exact ⟨rfl, HI.out.ta.fr ((Fr.refl _ _).drewN _), HI.out.fr.drewN _⟩
theorem mloose_c (p : Nat) (v r : Value) (ws rs : List Int) (size at_ dst : Int) (w : World) (h : TA 41 w p v ws size r rs) :
    Calls Try.prog 54 #[.pointer (some ⟨p, 0, none⟩), r, .int .i64 at_, .int .i64 dst] w fun e w' => LA 41 w w' p v r size (looseM (ws.length + rs.length) ws rs at_ dst) e := by
  cases hn : rdAt ws at_ with
  | none => exact mloose_out p v r ws rs size at_ dst w h hn
  | some x =>
    obtain ⟨k, rfl, hk, _⟩ := rdAt_some hn
    obtain ⟨g, cap, rfl⟩ := h.row hk
    exact mloose_in p g k cap r ws rs size dst w h hk
end Go.Proofs.Ytjiaaefpepdoeaa

/-
  CONTRACT: the model's Chain. Conditions: none but that the model's words and the roots stand.
-/
namespace Go.Proofs.Ytjiaaefpepdoeaa
open Go.RowKit Md
set_option linter.unusedVariables false
set_option maxRecDepth 100000 in
set_option maxHeartbeats 4000000 in
theorem mchain_c (p : Nat) (v r : Value) (ws rs : List Int) (size at_ : Int) (w : World) (h : TA 41 w p v ws size r rs) :
    Calls Try.prog 55 #[.pointer (some ⟨p, 0, none⟩), r, .int .i64 at_] w fun e w' => CA 83 w w' (chainA ws rs at_) e := by
  have hmx := h.ar.mx
  have hle := h.ar.le
  have hlr := h.lenr
  have HB : Hid (ws.length ≤ 1048576 ∧ rs.length ≤ 1048576) := Lib.hid (by omega)
  have H0 : Hid (CI 41 83 w w p v r ws rs size (getR ws at_) (ws.length + rs.length) (.slice none 0 0) [] (getR ws at_)) := Lib.hid ⟨h, Fr.refl _ _, Own2.nil _ _ _, by simp, by simp, okW_getR h.ar.ok _⟩
  have H := Lib.hid h
  obtain ⟨Av, cv, rfl⟩ := h.ar.val
  obtain ⟨A, cap, rfl⟩ := h.own.rd.len
  rw [uw_length] at *
  obtain ⟨x0, hx0⟩ : ∃ x0, getR ws at_ = x0 := ⟨_, rfl⟩
  have HX0 := Lib.hid hx0
  obtain ⟨Z, hZ⟩ : ∃ Z, chainA ws rs at_ = Z := ⟨_, rfl⟩
  rw [hZ]
  have HZ : Hid (chainM ws rs (ws.length + rs.length) x0 = Z) := Lib.hid (by rw [← hZ, ← hx0]; rfl)
  rw [hx0] at H0
  clear h hmx hle hlr hZ hx0
  go_enter Try.func55, Try.ntmps55
  go_wp2_with (first | (go_at_call 24; (with_reducible refine (mget_u p _ ws size at_ _ H.out.ar).mono ?_); rintro e w1 ⟨rfl, rfl⟩; rw [HX0.out]))
  go_loopg [8, 9] (ws.length + rs.length) (fun g a8 a9 wr => ∃ (u : Value) (acc : List Fld) (x : Int), a8 = u ∧ a9 = .int .u64 x ∧ Hid (CI 41 83 w wr p (.slice Av ws.length cv) (.slice A rs.length cap) ws rs size x0 g u acc x))
  case atStart => exact ⟨_, [], x0, rfl, rfl, H0⟩
  case round =>
    clear H0
    obtain ⟨u, acc, x, rfl, rfl, HI⟩ := hrel
    have HX := Lib.hid HI.out.okx
    obtain ⟨t, ht⟩ : ∃ t, tagW x = t := ⟨_, rfl⟩
    have HT := Lib.hid ht
    clear ht
    by_cases h7 : t = 7
    · subst h7
      obtain ⟨⟨fb, fi⟩, hfl⟩ : ∃ f, Md.linked x = f := ⟨_, rfl⟩
      have HFL := Lib.hid hfl
      clear hfl
      go_upto_region 5 with (first | (go_at_call 43; (with_reducible refine (Wd.rtag_c x 7 _ HX.out HT.out).mono ?_); rintro e w2 ⟨rfl, n2, rfl⟩) | (go_at_call 77; (with_reducible refine (Wd.mlinked_c x ⟨fb, fi⟩ _ HX.out HFL.out).mono ?_); rintro e wl ⟨rfl, hb⟩))
      obtain ⟨W2, hW2⟩ : ∃ W2, wl.alloc (.cells #[.bool fb, .int .i64 fi] 83) = W2 := ⟨_, rfl⟩
      obtain ⟨D, hD⟩ : ∃ D, wl.heap.size = D := ⟨_, rfl⟩
      have hf2 : Fr wr W2 (fun _ => False) := by rw [← hW2]; exact (((Fr.refl _ _).drewN n2).trans hb).alloc _
      have hdb : W2.heap[D]? = some (.cells #[.bool fb, .int .i64 fi] 83 (0, 0)) := by rw [← hW2, ← hD]; exact blk_new _ _ _
      have HI2 := Lib.hid (HI.out.frm hf2)
      have k0 : W2.cell? ⟨D, 0, none⟩ = some (.bool fb) := by simp [World.cell?, hdb]
      have k1 : W2.cell? ⟨D, 1, none⟩ = some (.int .i64 fi) := by simp [World.cell?, hdb]
      have HDB := Lib.hid hdb
      simp only [hW2, hD]
      clear hW2 hD hb hf2 hdb HI
      cases hfg : fGet ws rs ⟨fb, fi⟩ with
      | none =>
        have HG := Lib.hid hfg
        clear hfg
        go_wp2_with (first | (go_at_call 74; (with_reducible refine (mfget_c p _ _ ws rs size fi fb _ HI2.out.ta).mono ?_); rintro e w3 ⟨rfl, hf⟩; rw [HG.out]; have HF3 := Lib.hid hf; clear hf))
        go_ret2
        have hz : Z = none := by rw [← HZ.out, HI2.out.eq, chain_far HT.out (by rw [HFL.out]; exact HG.out)]; rfl
        rw [hz]
        exact ⟨_, rfl, Own2.nil _ _ _, HI2.out.fr.trans HF3.out⟩
      | some y =>
        have HG := Lib.hid hfg
        have hbd := HB.out
        have hgn := HI2.out.gn
        have hw : wrap64 ((ws.length : Int) + rs.length) = ws.length + rs.length := by unfold wrap64; omega
        have HW := Lib.hid hw
        obtain ⟨Au, cu, rfl⟩ := HI2.out.ow.len
        clear hfg hw
        cases gk with
        | zero =>
          have d1 : decide ((ws.length : Int) + rs.length ≤ acc.length) = true := decide_eq_true (by omega)
          clear hbd hgn
          have hw := HW.out
          go_wp2_with (first | (go_at_call 74; (with_reducible refine (mfget_c p _ _ ws rs size fi fb _ HI2.out.ta).mono ?_); rintro e w3 ⟨rfl, hf⟩; rw [HG.out]; have HI3 := Lib.hid (HI2.out.frm hf); have c03 := HI3.out.ta.ar.c0; clear hf))
          go_ret2
          have hz : Z = none := by rw [← HZ.out, HI3.out.eq, chain_zero HT.out]; rfl
          rw [hz]
          exact ⟨_, rfl, Own2.nil _ _ _, HI3.out.fr⟩
        | succ g' =>
          have d1 : decide ((ws.length : Int) + rs.length ≤ acc.length) = false := decide_eq_false (by omega)
          clear hbd hgn
          have hw := HW.out
          go_upto_region 8 with (first | (go_at_call 74; (with_reducible refine (mfget_c p _ _ ws rs size fi fb _ HI2.out.ta).mono ?_); rintro e w3 ⟨rfl, hf⟩; rw [HG.out]; have HI3 := Lib.hid (HI2.out.frm hf); have c03 := HI3.out.ta.ar.c0; have hdb3 := hf.blk HDB.out (fun h => h); clear hf))
          have k03 : w3.cell? ⟨D, 0, none⟩ = some (.bool fb) := by simp [World.cell?, hdb3]
          have k13 : w3.cell? ⟨D, 1, none⟩ = some (.int .i64 fi) := by simp [World.cell?, hdb3]
          obtain ⟨v', w5, hrun, hI5⟩ := HI3.out.app (t := 87) (b := fb) (i := fi) (y := y) Try.underlying87 mfldInfo (by decide) (by decide) HT.out HFL.out HG.out
          have HI5 := Lib.hid hI5
          have HRUN := Lib.hid hrun
          clear hdb3 k0 k1 hrun hI5 hw c03
          go_wp2_with (at_builtin; refine Lib.wpList_append_run _ rfl _ _ _ _ rfl _ _ rfl rfl _ w5 HRUN.out ?_)
          go_roundg g'
          case measure => exact Nat.lt_succ_self _
          case rel => exact ⟨_, acc ++ [⟨fb, fi⟩], y, rfl, rfl, HI5⟩
    · have hb : (t == 7) = false := by simpa using h7
      have H7 := Lib.hid h7
      clear h7
      go_wp2_with (first | (go_at_call 43; (with_reducible refine (Wd.rtag_c x t _ HX.out HT.out).mono ?_); rintro e w2 ⟨rfl, n2, rfl⟩))
      go_ret2
      have hz : Z = some acc := by rw [← HZ.out, HI.out.eq, chain_stop (by rw [HT.out]; exact H7.out)]; simp
      rw [hz]
      exact ⟨_, rfl, HI.out.ow.keep ((Fr.refl wr (fun _ => False)).drewN _) (fun _ _ h => h), HI.out.fr.drewN _⟩
end Go.Proofs.Ytjiaaefpepdoeaa

/-
  THREADPLAYS: the state of its rounds (an arena and roots of the program, a memory and roots of the model, blocks of structs beside), the two Threads by one contract each for all arguments, the law's field. Conditions: none.
-/
namespace Go.Proofs.Ytjiaaefpepdoeaa
open Go.RowKit Md
set_option linter.unusedVariables false
theorem TA.keepU {T : TypeId} {W W1 : World} {p : Nat} {v r : Value} {ws rs : List Int} {size : Int} {S : Nat → Prop} (h : TA T W p v ws size r rs) (hf : Fr W W1 S) (hp : ¬ S p) (hn : ∀ k, InBlk v k ∨ InBlk r k → ¬ S k) : TA T W1 p v ws size r rs :=
  ⟨h.ar.keep hf hp (fun k hk => hn k (.inl hk)), h.own.keep hf (fun k hk => hn k (.inr hk)), h.ap, h.okr, h.lenr⟩
def thRes (ws rs : List Int) (f : Fld) : List Int × List Int := (threadM ws rs f).getD (ws, rs)
theorem thread_u (p : Nat) (v r : Value) (ws rs : List Int) (size i : Int) (b : Bool) (w : World) (h : TA 101 w p v ws size r rs) :
    Calls Try.prog 44 #[.pointer (some ⟨p, 0, none⟩), r, .agg #[.bool b, .int .i64 i]] w fun e w' => e = .returned (.bool (threadM ws rs ⟨b, i⟩).isSome) ∧ TA 101 w' p v (thRes ws rs ⟨b, i⟩).1 size r (thRes ws rs ⟨b, i⟩).2 ∧ Fr w w' (UO v r) := by
  unfold thRes
  cases hn : threadM ws rs ⟨b, i⟩ with
  | none => exact (thread_no p v r ws rs size i b w h hn).mono fun e w' ⟨he, hf⟩ => ⟨he, h.fr hf, hf.mono fun _ h _ => h.elim⟩
  | some q => obtain ⟨ws', rs'⟩ := q; exact thread_yes p v r ws rs ws' rs' size i b w h hn
theorem mthread_u (p : Nat) (v r : Value) (ws rs : List Int) (size i : Int) (b : Bool) (w : World) (h : TA 41 w p v ws size r rs) :
    Calls Try.prog 53 #[.pointer (some ⟨p, 0, none⟩), r, .agg #[.bool b, .int .i64 i]] w fun e w' => e = .returned (.bool (threadM ws rs ⟨b, i⟩).isSome) ∧ TA 41 w' p v (thRes ws rs ⟨b, i⟩).1 size r (thRes ws rs ⟨b, i⟩).2 ∧ Fr w w' (UO v r) := by
  unfold thRes
  cases hn : threadM ws rs ⟨b, i⟩ with
  | none => exact (mthread_no p v r ws rs size i b w h hn).mono fun e w' ⟨he, hf⟩ => ⟨he, h.fr hf, hf.mono fun _ h _ => h.elim⟩
  | some q => obtain ⟨ws', rs'⟩ := q; exact mthread_yes p v r ws rs ws' rs' size i b w h hn
/-- The state: the arena a (v) with roots x, the memory m (u) with roots y, boxes bx; nothing that stood in w is touched. -/
structure TP (w W : World) (a m : Nat) (v x u y : Value) (s1 s2 : Int) (ws1 rs1 ws2 rs2 : List Int) (bx : List (Nat × Array Value × TypeId)) : Prop where
  ta : TA 101 W a v ws1 s1 x rs1
  tm : TA 41 W m u ws2 s2 y rs2
  a1 : Apt v u
  a2 : Apt v y
  a3 : Apt x u
  a4 : Apt x y
  fr : Fr w W fun _ => False
  inn : ∀ k, UO v x k ∨ UO u y k → w.heap.size ≤ k
  box : ∀ t ∈ bx, W.heap[t.1]? = some (.cells t.2.1 t.2.2 (0, 0)) ∧ t.2.2 ≠ 29
section
variable {w W W1 : World} {a m : Nat} {v x u y : Value} {s1 s2 : Int} {ws1 rs1 ws2 rs2 ws' rs' : List Int} {bx : List (Nat × Array Value × TypeId)}
theorem TP.onA (h : TP w W a m v x u y s1 s2 ws1 rs1 ws2 rs2 bx) (ht : TA 101 W1 a v ws' s1 x rs') (hf : Fr W W1 (UO v x)) : TP w W1 a m v x u y s1 s2 ws' rs' ws2 rs2 bx :=
  ⟨ht, h.tm.keepU hf (h.ta.not_box h.tm.ar.blk (by decide)) (fun k hk e => by
      rcases hk with hk | hk <;> rcases e with e | e
      · exact h.a1 k e hk
      · exact h.a3 k e hk
      · exact h.a2 k e hk
      · exact h.a4 k e hk), h.a1, h.a2, h.a3, h.a4, h.fr.then_ hf (fun i hi hlt => by have := h.inn i (.inl hi); omega), h.inn, fun t ht => ⟨hf.blk (h.box t ht).1 (h.ta.not_box (h.box t ht).1 (h.box t ht).2), (h.box t ht).2⟩⟩
theorem TP.onM (h : TP w W a m v x u y s1 s2 ws1 rs1 ws2 rs2 bx) (ht : TA 41 W1 m u ws' s2 y rs') (hf : Fr W W1 (UO u y)) : TP w W1 a m v x u y s1 s2 ws1 rs1 ws' rs' bx :=
  ⟨h.ta.keepU hf (h.tm.not_box h.ta.ar.blk (by decide)) (fun k hk e => by
      rcases hk with hk | hk <;> rcases e with e | e
      · exact h.a1 k hk e
      · exact h.a2 k hk e
      · exact h.a3 k hk e
      · exact h.a4 k hk e), ht, h.a1, h.a2, h.a3, h.a4, h.fr.then_ hf (fun i hi hlt => by have := h.inn i (.inr hi); omega), h.inn, fun t ht => ⟨hf.blk (h.box t ht).1 (h.tm.not_box (h.box t ht).1 (h.box t ht).2), (h.box t ht).2⟩⟩
theorem TP.below (h : TP w W a m v x u y s1 s2 ws1 rs1 ws2 rs2 bx) (hf : Fr W W1 fun _ => False) : TP w W1 a m v x u y s1 s2 ws1 rs1 ws2 rs2 bx :=
  ⟨h.ta.fr hf, h.tm.fr hf, h.a1, h.a2, h.a3, h.a4, h.fr.trans hf, h.inn, fun t ht => ⟨hf.blk (h.box t ht).1 (fun h => h), (h.box t ht).2⟩⟩
theorem TP.drew (h : TP w W a m v x u y s1 s2 ws1 rs1 ws2 rs2 bx) : TP w W.drew a m v x u y s1 s2 ws1 rs1 ws2 rs2 bx := h.below ((Fr.refl _ _).drew)
theorem TP.drewN (h : TP w W a m v x u y s1 s2 ws1 rs1 ws2 rs2 bx) (n : Nat) : TP w (W.drewN n) a m v x u y s1 s2 ws1 rs1 ws2 rs2 bx := h.below ((Fr.refl _ _).drewN n)
theorem TP.alloc (h : TP w W a m v x u y s1 s2 ws1 rs1 ws2 rs2 bx) (c : Array Value) (T : TypeId) (ne : T ≠ 29) : TP w (W.alloc (.cells c T)) a m v x u y s1 s2 ws1 rs1 ws2 rs2 ((W.heap.size, c, T) :: bx) := by
  have h2 := h.below ((Fr.refl W _).alloc (.cells c T))
  refine ⟨h2.ta, h2.tm, h2.a1, h2.a2, h2.a3, h2.a4, h2.fr, h2.inn, fun t ht => ?_⟩
  rcases List.mem_cons.1 ht with rfl | ht
  · exact ⟨blk_new _ _ _, ne⟩
  · exact h2.box t ht
theorem TP.bare (h : TP w W a m v x u y s1 s2 ws1 rs1 ws2 rs2 bx) : TP w W a m v x u y s1 s2 ws1 rs1 ws2 rs2 [] := ⟨h.ta, h.tm, h.a1, h.a2, h.a3, h.a4, h.fr, h.inn, fun t ht => by cases ht⟩
theorem TP.tail {t : Nat × Array Value × TypeId} (h : TP w W a m v x u y s1 s2 ws1 rs1 ws2 rs2 (t :: bx)) : TP w W a m v x u y s1 s2 ws1 rs1 ws2 rs2 bx := ⟨h.ta, h.tm, h.a1, h.a2, h.a3, h.a4, h.fr, h.inn, fun t ht => h.box t (List.mem_cons_of_mem _ ht)⟩
theorem TP.e2 {E : Nat} {T : TypeId} {c0 c1 : Value} (h : TP w W a m v x u y s1 s2 ws1 rs1 ws2 rs2 ((E, #[c0, c1], T) :: bx)) : W.cell? ⟨E, 0, none⟩ = some c0 ∧ W.cell? ⟨E, 1, none⟩ = some c1 := by
  have hb := (h.box _ List.mem_cons_self).1
  exact ⟨by simp [World.cell?, hb], by simp [World.cell?, hb]⟩
theorem TP.d4 {E : Nat} {T : TypeId} {c0 c1 c2 c3 : Value} (h : TP w W a m v x u y s1 s2 ws1 rs1 ws2 rs2 ((E, #[c0, c1, c2, c3], T) :: bx)) : W.cell? ⟨E, 0, none⟩ = some c0 ∧ W.cell? ⟨E, 1, none⟩ = some c1 ∧ W.cell? ⟨E, 2, none⟩ = some c2 ∧ W.cell? ⟨E, 3, none⟩ = some c3 := by
  have hb := (h.box _ List.mem_cons_self).1
  exact ⟨by simp [World.cell?, hb], by simp [World.cell?, hb], by simp [World.cell?, hb], by simp [World.cell?, hb]⟩
theorem Own2.at {B g n cap k : Nat} {e : TypeId} {l : List Fld} {b : Bool} {i : Int} (h : Own2 B W e (.slice (some ⟨g, 0, none⟩) n cap) l) (hk : k < l.length) (he : l.getD k ⟨false, 0⟩ = ⟨b, i⟩) : W.cell? ⟨g, k * 2, none⟩ = some (.bool b) ∧ W.cell? ⟨g, k * 2 + 1, none⟩ = some (.int .i64 i) := by
  obtain ⟨b', e1, _, hc⟩ := h.cellAt (by omega)
  injection e1 with e1
  injection e1 with e1
  subst e1
  have := hc k hk
  rw [he] at this
  exact this
theorem Own2.small {B : Nat} {e : TypeId} {u : Value} {l : List Fld} (h : Own2 B W e u l) : l.length ≤ maxLen := by
  rcases h.2 with ⟨_, h1⟩ | ⟨g, cap', cur, e1, hb, hg, hl, hm, hs, ht⟩
  · rw [h1]; exact Nat.zero_le _
  · exact Nat.le_trans hl hm
theorem wrap_succ {j n : Nat} (h : j < n) (hn : n ≤ maxLen) : wrap64 ((j : Int) + 1) = j + 1 := by unfold maxLen at hn; unfold wrap64; omega
theorem idx_step {g j n : Nat} (h : g + j = n) (hl : j < n) : g - 1 + (j + 1) = n := by omega
theorem le_maxLen {n : Nat} (h : n ≤ 1048576) : n ≤ maxLen := by unfold maxLen; omega
end
set_option maxHeartbeats 1000000 in
theorem fldc_c (b : Bool) (i : Int) (w : World) : Calls Try.prog 52 #[.agg #[.bool b, .int .i64 i]] w fun e w' => e = .returned (.agg #[.bool b, .int .i64 i]) ∧ Fr w w' (fun _ => False) := by
  have hb0 : (w.alloc (.cells #[.bool b, .int .i64 i] 83)).heap[w.heap.size]? = some (.cells #[.bool b, .int .i64 i] 83 (0, 0)) := blk_new _ _ _
  obtain ⟨w1, hw1⟩ : ∃ w1, w.alloc (.cells #[.bool b, .int .i64 i] 83) = w1 := ⟨_, rfl⟩
  have hf1 : Fr w w1 (fun _ => False) := by rw [← hw1]; exact (Fr.refl w _).alloc _
  rw [hw1] at hb0
  go_enter Try.func52, Try.ntmps52
  go_upto_region 1 with (fail)
  have hB1 : (w1.alloc (.cells #[.bool false, .int .i64 0] 68)).heap[w1.heap.size]? = some (.cells #[.bool false, .int .i64 0] 68 (0, 0)) := blk_new _ _ _
  have hb2 := ((Fr.refl w1 (fun _ => False)).alloc (.cells #[.bool false, .int .i64 0] 68)).blk hb0 (fun h => h)
  have hf2 := hf1.alloc (.cells #[.bool false, .int .i64 0] 68)
  have hwB : w.heap.size ≤ w1.heap.size := hf1.size
  obtain ⟨B, hB⟩ : ∃ B, w1.heap.size = B := ⟨_, rfl⟩
  obtain ⟨D, hD⟩ : ∃ D, w.heap.size = D := ⟨_, rfl⟩
  obtain ⟨w2, hw2⟩ : ∃ w2, w1.alloc (.cells #[.bool false, .int .i64 0] 68) = w2 := ⟨_, rfl⟩
  rw [hw2] at hB1 hb2 hf2
  simp only [hw2, hB, hD]
  rw [hB] at hB1 hwB
  rw [hD] at hb2 hwB
  have HD := Lib.hid hD
  have k0 : w2.cell? ⟨D, 0, none⟩ = some (.bool b) := by simp [World.cell?, hb2]
  have k1 : w2.cell? ⟨D, 1, none⟩ = some (.int .i64 i) := by simp [World.cell?, hb2]
  have g0 : w2.cell? ⟨B, 0, none⟩ = some (.bool false) := by simp [World.cell?, hB1]
  have g1 : w2.cell? ⟨B, 1, none⟩ = some (.int .i64 0) := by simp [World.cell?, hB1]
  have z0 : w2.frozen? ⟨B, 0, none⟩ = false := by simp [World.frozen?, hB1]
  have z1 : w2.frozen? ⟨B, 1, none⟩ = false := by simp [World.frozen?, hB1]
  clear hw1 hw2 hB hD hb0 hf1
  have HB1 := Lib.hid hB1
  have HF2 := Lib.hid hf2
  have HWB := Lib.hid hwB
  clear hB1 hb2 hf2 hwB
  go_wp2
  refine bodyPost_ret (results_cell_row rfl _ _ B 68 #[.bool b, .int .i64 i] (0, 0) _ rfl (by
    refine Go.Proofs.YtjiaaefpepdoeaaW.PrintWords.blk_put (cs := #[.bool b, .int .i64 0]) ?_ 1 _ rfl
    refine Go.Proofs.YtjiaaefpepdoeaaW.PrintWords.blk_put (cs := #[.bool false, .int .i64 0]) ?_ 0 _ rfl
    exact HB1.out) Try.underlying68 rfl (by kernel_rfl)) rfl ?_
  exact ⟨rfl, ((HF2.out.setCell (fun h => by have := HD.out; have := HWB.out; simp only at h; omega) _).setCell (fun h => by have := HD.out; have := HWB.out; simp only at h; omega) _)⟩
end Go.Proofs.Ytjiaaefpepdoeaa

/-
  WALK: ThreadPlays. Conditions: none but that the arguments read as words and as deeds.
-/
namespace Go.Proofs.Ytjiaaefpepdoeaa
open Go.RowKit Md
set_option linter.unusedVariables false
structure TDeed where
  dd : Int
  at_ : Int
  to_ : Int
  root : Bool
def tdeed0 : TDeed := ⟨0, 0, 0, false⟩
set_option maxRecDepth 100000 in
set_option maxHeartbeats 4000000 in
theorem tp_far (A1 A2 A3 : Option Addr) (n1 c1 n2 c2 n3 c3 : Nat) (w : World) (h : 200 < n1 ∨ 20 < n2 ∨ 60 < n3) :
    Calls Try.prog 11 #[.slice A1 n1 c1, .slice A2 n2 c2, .slice A3 n3 c3] w fun e w' => e = .returned (.bool true) ∧ Fr w w' (fun _ => False) := by
  have key : decide ((200 : Int) < n1) = true ∨ (decide ((200 : Int) < n1) = false ∧ decide ((20 : Int) < n2) = true) ∨ (decide ((200 : Int) < n1) = false ∧ decide ((20 : Int) < n2) = false ∧ decide ((60 : Int) < n3) = true) := by
    by_cases h1 : 200 < n1
    · exact .inl (decide_eq_true (by omega))
    · by_cases h2 : 20 < n2
      · exact .inr (.inl ⟨decide_eq_false (by omega), decide_eq_true (by omega)⟩)
      · exact .inr (.inr ⟨decide_eq_false (by omega), decide_eq_false (by omega), decide_eq_true (by omega)⟩)
  have HK := Lib.hid key
  clear key h
  go_enter Try.func11, Try.ntmps11
  go_upto_region 3 with (first | (go_at_call 37; (with_reducible refine (awake13_c _).mono ?_); rintro e w1 ⟨rfl, hf1⟩))
  have HF1 := Lib.hid hf1
  clear hf1
  rcases HK.out with h1 | ⟨h1, h2⟩ | ⟨h1, h2, h3⟩ <;> (go_wp2; go_ret; exact ⟨rfl, HF1.out⟩)
set_option maxRecDepth 100000 in
set_option maxHeartbeats 8000000 in
theorem tp_any (Al Ar Ad : Option Addr) (cl cr cd : Nat) (l rs0 : List Int) (ds : List TDeed) (w : World) (h1 : l.length ≤ 200) (h2 : rs0.length ≤ 20) (h3 : ds.length ≤ 60)
    (hl : Rd w (.slice Al l.length cl) (uw l)) (hr : Rd w (.slice Ar rs0.length cr) (uw rs0)) (hok : okWs l) (hor : okWs rs0) (hdc : ds.length ≤ cd)
    (hc : 0 < ds.length → ∃ b off, Ad = some ⟨b, off, none⟩ ∧ ∀ i, i < ds.length → w.cell? ⟨b, off + i * 4, none⟩ = some (.int .i64 (ds.getD i tdeed0).dd) ∧ w.cell? ⟨b, off + i * 4 + 1, none⟩ = some (.int .i64 (ds.getD i tdeed0).at_) ∧ w.cell? ⟨b, off + i * 4 + 2, none⟩ = some (.int .i64 (ds.getD i tdeed0).to_) ∧ w.cell? ⟨b, off + i * 4 + 3, none⟩ = some (.bool (ds.getD i tdeed0).root)) :
    Calls Try.prog 11 #[.slice Al l.length cl, .slice Ar rs0.length cr, .slice Ad ds.length cd] w fun e w' => e = .returned (.bool true) ∧ Fr w w' (fun _ => False) := by
  have d1 : decide ((200 : Int) < l.length) = false := decide_eq_false (by omega)
  have d2 : decide ((20 : Int) < rs0.length) = false := decide_eq_false (by omega)
  have d3 : decide ((60 : Int) < ds.length) = false := decide_eq_false (by omega)
  have HL := Lib.hid hl
  have HR := Lib.hid hr
  have HOK := Lib.hid hok
  have HOR := Lib.hid hor
  have HC := Lib.hid hc
  have Z0 : Hid ((0 : Int) ≤ 0) := Lib.hid (Int.le_refl 0)
  have HM : Hid ((l.length : Int) + 0 ≤ 1048576) := Lib.hid (by omega)
  have HLR : Hid (rs0.length ≤ 1048576) := Lib.hid (by omega)
  have HLZ : Hid (rs0.length ≤ 1073741824) := Lib.hid (by omega)
  have HD60 := Lib.hid h3
  clear hl hr hok hor hc h1 h2 h3
  go_enter Try.func11, Try.ntmps11
  go_upto_region 9 with (first
    | (go_at_call 37; (with_reducible refine (awake13_c _).mono ?_); rintro e w1 ⟨rfl, hf⟩; have HF1 := Lib.hid hf; have HL1 := Lib.hid (HL.out.keep hf (fun _ _ h => h)); have HR1 := Lib.hid (HR.out.keep hf (fun _ _ h => h)); clear hf)
    | (go_at_call 31; (with_reducible refine (fill_c _ l 0 _ HL1.out HOK.out Z0.out HM.out).mono ?_); rintro e w2 ⟨p, va, rfl, hn⟩; have HA2 := Lib.hid hn.1; have HF2 := Lib.hid (HF1.out.trans hn.2.1); have HL2 := Lib.hid (HL1.out.keep hn.2.1 (fun _ _ h => h)); have HR2 := Lib.hid (HR1.out.keep hn.2.1 (fun _ _ h => h)); have HNA : Hid (∀ k, InBlk va k → w.heap.size ≤ k) := Lib.hid (fun k hk => Nat.le_trans HF1.out.size (hn.2.2.2 k hk)); clear hn)
    | (go_at_call 35; (with_reducible refine (mem_c _ l 0 _ HL2.out HOK.out Z0.out HM.out).mono ?_); rintro e w3 ⟨q, vm, rfl, hn⟩; have HM3 := Lib.hid hn.1; have HA3 := Lib.hid (HA2.out.fr hn.2.1); have HF3 := Lib.hid (HF2.out.trans hn.2.1); have HR3 := Lib.hid (HR2.out.keep hn.2.1 (fun _ _ h => h)); have HNM : Hid (∀ k, InBlk vm k → w2.heap.size ≤ k) := Lib.hid hn.2.2.2; clear hn)
    | (go_at_call 40; (with_reducible refine (copy_c _ rs0 _ HR4.out HLZ.out).mono ?_); rintro e w5 ⟨yv, rfl, hn⟩; have HY5 := Lib.hid hn.1; have HNY := Lib.hid hn.2.2; have HF5 := Lib.hid (HF4.out.trans hn.2.1); have HA5 := Lib.hid (HA4.out.fr hn.2.1); have HM5 := Lib.hid (HM4.out.fr hn.2.1); have HX5 := Lib.hid (HX4.out.keep hn.2.1 (fun _ _ h => h)); clear hn)
    | (go_at_call 40; (with_reducible refine (copy_c _ rs0 _ HR3.out HLZ.out).mono ?_); rintro e w4 ⟨xv, rfl, hn⟩; have HX4 := Lib.hid hn.1; have HNX := Lib.hid hn.2.2; have HF4 := Lib.hid (HF3.out.trans hn.2.1); have HA4 := Lib.hid (HA3.out.fr hn.2.1); have HM4 := Lib.hid (HM3.out.fr hn.2.1); have HR4 := Lib.hid (HR3.out.keep hn.2.1 (fun _ _ h => h)); clear hn))
  have HS : Hid (TP w w5 p q va xv vm yv (l.length + 0) (l.length + 0) l rs0 l rs0 []) := Lib.hid
    ⟨⟨HA5.out, HX5.out, Apt.new HA3.out.own HNX.out, HOR.out, HLR.out⟩, ⟨HM5.out, HY5.out, Apt.new HM4.out.own HNY.out, HOR.out, HLR.out⟩, Apt.new HA2.out.own HNM.out, Apt.new HA4.out.own HNY.out, (Apt.new HM3.out.own HNX.out).symm, Apt.new HX4.out HNY.out, HF5.out, fun k hk => by
      rcases hk with (hk | hk) | (hk | hk)
      · exact HNA.out k hk
      · exact Nat.le_trans HF3.out.size (HNX.out k hk)
      · exact Nat.le_trans HF2.out.size (HNM.out k hk)
      · exact Nat.le_trans HF4.out.size (HNY.out k hk), fun t ht => by cases ht⟩
  obtain ⟨s1, hs1⟩ : ∃ s1 : Int, (l.length : Int) + 0 = s1 := ⟨_, rfl⟩
  rw [hs1] at HS
  have HBS : Hid (s1 ≤ 1048576) := Lib.hid (by rw [← hs1]; exact HM.out)
  clear HA2 HA3 HA4 HA5 HM3 HM4 HM5 HX4 HX5 HY5 HNA HNM HNX HNY HF1 HF2 HF3 HF4 HF5 HL1 HL2 HR1 HR2 HR3 HR4 HL HR HOK HOR hs1 d1 d2 d3
  go_wp2
  go_loopg [11] ds.length (fun g i wr => ∃ (k : Nat) (ws rs : List Int), g + k = ds.length ∧ i = .int .i64 k ∧ Hid (TP w wr p q va xv vm yv s1 s1 ws rs ws rs []))
  case atStart => exact ⟨0, _, _, rfl, rfl, HS⟩
  case round =>
    clear HS
    obtain ⟨k, ws, rs, hk, rfl, HS⟩ := hrel
    by_cases hlt : k < ds.length
    · obtain ⟨b, off, rfl, hcc⟩ := HC.out (by omega)
      obtain ⟨k0, k1, k2, k3⟩ := hcc k hlt
      clear hcc
      obtain ⟨dd, hdd⟩ : ∃ x, (ds.getD k tdeed0).dd = x := ⟨_, rfl⟩
      obtain ⟨at_, hat⟩ : ∃ x, (ds.getD k tdeed0).at_ = x := ⟨_, rfl⟩
      obtain ⟨to_, hto⟩ : ∃ x, (ds.getD k tdeed0).to_ = x := ⟨_, rfl⟩
      obtain ⟨rb, hrb⟩ : ∃ x, (ds.getD k tdeed0).root = x := ⟨_, rfl⟩
      rw [hdd] at k0
      rw [hat] at k1
      rw [hto] at k2
      rw [hrb] at k3
      replace k0 := HS.out.fr.cell k0 (fun h => h)
      replace k1 := HS.out.fr.cell k1 (fun h => h)
      replace k2 := HS.out.fr.cell k2 (fun h => h)
      replace k3 := HS.out.fr.cell k3 (fun h => h)
      replace HS := Lib.hid (HS.out.alloc #[.int .i64 dd, .int .i64 at_, .int .i64 to_, .bool rb] 82 (by decide))
      clear hdd hat hto hrb
      have q1 : (0 : Int) ≤ k := by omega
      have q2 : (k : Int) < ds.length := by omega
      go_upto_region 13 with (fail)
      clear k0 k1 k2 k3
      obtain ⟨D, hD⟩ : ∃ D, wr.heap.size = D := ⟨_, rfl⟩
      obtain ⟨W2, hW2⟩ : ∃ W2, wr.alloc (.cells #[.int .i64 dd, .int .i64 at_, .int .i64 to_, .bool rb] 82) = W2 := ⟨_, rfl⟩
      rw [hD, hW2] at HS
      simp only [hD, hW2]
      clear hD hW2
      obtain ⟨k0, k1, k2, k3⟩ := HS.out.d4
      go_upto_if 60 with (fail)
      go_cut [] (fun wx => ∃ ws' rs', Hid (TP w wx p q va xv vm yv s1 s1 ws' rs' ws' rs' [(D, #[.int .i64 dd, .int .i64 at_, .int .i64 to_, .bool rb], 82)]))
      case first =>
        by_cases e1 : dd ≤ 3
        · have b1 : decide (dd ≤ 3) = true := decide_eq_true e1
          clear q1 q2
          obtain ⟨tb, htb⟩ : ∃ tb, (threadM ws rs ⟨rb, at_⟩).isSome = tb := ⟨_, rfl⟩
          have hbb : (tb != tb) = false := by cases tb <;> rfl
          go_upto_region 15 with (fail)
          replace HS := Lib.hid (HS.out.alloc #[.bool rb, .int .i64 at_] 83 (by decide))
          obtain ⟨E, hE⟩ : ∃ E, W2.heap.size = E := ⟨_, rfl⟩
          obtain ⟨W3, hW3⟩ : ∃ W3, W2.alloc (.cells #[.bool rb, .int .i64 at_] 83) = W3 := ⟨_, rfl⟩
          rw [hE, hW3] at HS
          simp only [hE, hW3]
          clear hE hW3 k0 k1 k2 k3
          replace HS := Lib.hid HS.out.drew
          go_region_held3 (fun w' => w'.cell? ⟨E, 0, none⟩ = some (.bool rb) ∧ w'.cell? ⟨E, 1, none⟩ = some (.int .i64 at_)) (exact HS.out.e2)
            (first
              | (go_at_call 52; (with_reducible refine (fldc_c rb at_ _).mono ?_); rintro e wf ⟨rfl, hf⟩; replace HS := Lib.hid (HS.out.below hf); clear hf)
              | (go_at_call 44; (with_reducible refine (thread_u p _ _ _ _ _ at_ rb _ HS.out.ta).mono ?_); rintro e wf ⟨rfl, ht, hf⟩; rw [htb]; replace HS := Lib.hid (HS.out.onA ht hf); clear ht hf)
              | (go_at_call 53; (with_reducible refine (mthread_u q _ _ _ _ _ at_ rb _ HS.out.tm).mono ?_); rintro e wf ⟨rfl, ht, hf⟩; rw [htb]; replace HS := Lib.hid (HS.out.onM ht hf); clear ht hf))
          all_goals
            go_wp2
            go_meet
            exact ⟨_, _, Lib.hid HS.out.tail⟩
        · have b1 : decide (dd ≤ 3) = false := decide_eq_false e1
          clear q1 q2
          obtain ⟨⟨zn, zok, zws, zrs⟩, hz⟩ : ∃ z, looseM (ws.length + rs.length) ws rs at_ to_ = z := ⟨_, rfl⟩
          have hbb : (zok != zok) = false := by cases zok <;> rfl
          go_wp2_with (first
              | (go_at_call 45; (with_reducible refine (loose_c p _ _ _ _ _ at_ to_ _ HS.out.ta).mono ?_); rintro e wf ⟨rfl, ht, hf⟩; rw [hz] at ht ⊢; replace HS := Lib.hid (HS.out.onA ht hf); clear ht hf; obtain ⟨k0, k1, k2, k3⟩ := HS.out.d4)
              | (go_at_call 54; (with_reducible refine (mloose_c q _ _ _ _ _ at_ to_ _ HS.out.tm).mono ?_); rintro e wf ⟨rfl, ht, hf⟩; rw [hz] at ht ⊢; replace HS := Lib.hid (HS.out.onM ht hf); clear ht hf; obtain ⟨k0, k1, k2, k3⟩ := HS.out.d4))
          go_meet
          exact ⟨_, _, HS⟩
      case rest =>
        clear HS k0 k1 k2 k3
        obtain ⟨ws', rs', HS⟩ := hcut
        have HLW : Hid (ws'.length ≤ 1073741824) := Lib.hid (by have := HS.out.ta.ar.le; have := HS.out.ta.ar.mx; omega)
        have HLR2 : Hid (rs'.length ≤ 1073741824) := Lib.hid (by have := HS.out.ta.lenr; omega)
        go_upto_region 21 with (fail)
        replace HS := Lib.hid HS.out.drew
        go_region_held3 (fun w' => w'.cell? ⟨q, 0, none⟩ = some vm) (exact HS.out.tm.ar.c0)
          (first
            | (go_at_call 30; (with_reducible refine (words_c p _ _ _ _ HS.out.ta.ar).mono ?_); rintro e wa ⟨v9, rfl, hn⟩; replace HS := Lib.hid (HS.out.below hn.2.1); have HN := Lib.hid hn.1; clear hn)
            | (go_at_call 29; (with_reducible refine (samew_c _ _ ws' ws' _ HN.out.rd HS.out.tm.ar.own.rd HLW.out).mono ?_); rintro e wa ⟨rfl, hd⟩; rw [decide_eq_true (rfl : ws' = ws')]; replace HS := Lib.hid (HS.out.below (hd.fr (fun _ => False))); clear hd)
            | (go_at_call 29; (with_reducible refine (samew_c _ _ rs' rs' _ HS.out.ta.own.rd HS.out.tm.own.rd HLR2.out).mono ?_); rintro e wa ⟨rfl, hd⟩; rw [decide_eq_true (rfl : rs' = rs')]; replace HS := Lib.hid (HS.out.below (hd.fr (fun _ => False))); clear hd))
        obtain ⟨okc, hok⟩ : ∃ okc, (chainA ws' rs' at_).isSome = okc := ⟨_, rfl⟩
        obtain ⟨L, hL⟩ : ∃ L, (chainA ws' rs' at_).getD [] = L := ⟨_, rfl⟩
        obtain ⟨k0, k1, k2, k3⟩ := HS.out.d4
        go_upto_region 25 with (first
          | (go_at_call 47; (with_reducible refine (chain_c p _ _ _ _ _ at_ _ HS.out.ta).mono ?_); rintro e wh ⟨uc, rfl, ho, hf⟩; rw [hok]; rw [hL] at ho; replace HS := Lib.hid (HS.out.below hf); have HU := Lib.hid ho; clear ho hf; obtain ⟨k0, k1, k2, k3⟩ := HS.out.d4)
          | (go_at_call 55; (with_reducible refine (mchain_c q _ _ _ _ _ at_ _ HS.out.tm).mono ?_); rintro e wi ⟨vc, rfl, ho, hf⟩; rw [hok]; rw [hL] at ho; replace HS := Lib.hid (HS.out.below hf); have HV := Lib.hid ho; replace HU := Lib.hid (HU.out.keep hf (fun _ _ h => h)); clear ho hf))
        obtain ⟨Au, cu, rfl⟩ := HU.out.len
        obtain ⟨Av, cv, rfl⟩ := HV.out.len
        have hbb : (okc != okc) = false := by cases okc <;> rfl
        obtain ⟨B1, HU1⟩ : ∃ B, Hid (Own2 B wi 68 (.slice Au L.length cu) L) := ⟨_, HU⟩
        obtain ⟨B2, HV1⟩ : ∃ B, Hid (Own2 B wi 83 (.slice Av L.length cv) L) := ⟨_, HV⟩
        obtain ⟨G, hG⟩ : ∃ G, G = gk := ⟨_, rfl⟩
        clear HU HV hok hL
        go_wp2
        go_loopg [22] L.length (fun g2 a22 wr2 => ∃ j : Nat, g2 + j = L.length ∧ a22 = .int .i64 j ∧ Hid (TP w wr2 p q va xv vm yv s1 s1 ws' rs' ws' rs' [] ∧ Own2 B1 wr2 68 (.slice Au L.length cu) L ∧ Own2 B2 wr2 83 (.slice Av L.length cv) L))
        case atStart => exact ⟨0, rfl, rfl, Lib.hid ⟨HS.out.bare, HU1.out, HV1.out⟩⟩
        case round =>
          clear HS HU1 HV1 k0 k1 k2 k3
          obtain ⟨j, hj, rfl, HI⟩ := hrel
          by_cases hjl : j < L.length
          · obtain ⟨⟨eb, ei⟩, he⟩ : ∃ f, L.getD j ⟨false, 0⟩ = f := ⟨_, rfl⟩
            obtain ⟨bu, rfl, _⟩ := HI.out.2.1.cellAt (by omega)
            obtain ⟨bv, rfl, _⟩ := HI.out.2.2.cellAt (by omega)
            have HS := Lib.hid HI.out.1.drew
            have HU := Lib.hid (HI.out.2.1.keep ((Fr.refl _ (fun _ => False)).drew) (fun _ _ h => h))
            have HV := Lib.hid (HI.out.2.2.keep ((Fr.refl _ (fun _ => False)).drew) (fun _ _ h => h))
            have HE := Lib.hid he
            have HJL := Lib.hid hjl
            have qj : (j : Int) < L.length := by omega
            have qj0 : (0 : Int) ≤ j := by omega
            have HSM := Lib.hid HI.out.2.1.small
            clear he
            go_upto_region 30 with (fail)
            go_region_held3 (fun w' => (w'.cell? ⟨bu, j * 2, none⟩ = some (.bool eb) ∧ w'.cell? ⟨bu, j * 2 + 1, none⟩ = some (.int .i64 ei)) ∧ w'.cell? ⟨bv, j * 2, none⟩ = some (.bool eb) ∧ w'.cell? ⟨bv, j * 2 + 1, none⟩ = some (.int .i64 ei)) (exact ⟨HU.out.at HJL.out HE.out, HV.out.at HJL.out HE.out⟩)
              (first | (go_at_call 52; (with_reducible refine (fldc_c eb ei _).mono ?_); rintro e wf ⟨rfl, hf⟩; replace HS := Lib.hid (HS.out.below hf); replace HU := Lib.hid (HU.out.keep hf (fun _ _ h => h)); replace HV := Lib.hid (HV.out.keep hf (fun _ _ h => h)); clear hf))
            all_goals
              go_wp2
              go_roundg (gk - 1)
              case measure => omega
              case rel =>
                have hw1 := wrap_succ HJL.out HSM.out
                exact ⟨j + 1, idx_step hj HJL.out, by first | (simp; done) | (simp; exact hw1), Lib.hid ⟨HS.out, HU.out, HV.out⟩⟩
          · go_wp2
            go_roundg (G - 1)
            case measure => omega
            case rel =>
              have hw1 := wrap_succ hlt (le_maxLen (Nat.le_trans HD60.out (by decide)))
              exact ⟨k + 1, _, _, by omega, by first | (simp; done) | (simp; exact hw1), Lib.hid HI.out.1⟩
    · go_wp2
      go_ret
      exact ⟨rfl, HS.out.fr⟩
theorem tp_c (Al Ar Ad : Option Addr) (cl cr cd : Nat) (l rs0 : List Int) (ds : List TDeed) (w : World)
    (hl : Rd w (.slice Al l.length cl) (uw l)) (hr : Rd w (.slice Ar rs0.length cr) (uw rs0)) (hok : okWs l) (hor : okWs rs0) (hdc : ds.length ≤ cd)
    (hc : 0 < ds.length → ∃ b off, Ad = some ⟨b, off, none⟩ ∧ ∀ i, i < ds.length → w.cell? ⟨b, off + i * 4, none⟩ = some (.int .i64 (ds.getD i tdeed0).dd) ∧ w.cell? ⟨b, off + i * 4 + 1, none⟩ = some (.int .i64 (ds.getD i tdeed0).at_) ∧ w.cell? ⟨b, off + i * 4 + 2, none⟩ = some (.int .i64 (ds.getD i tdeed0).to_) ∧ w.cell? ⟨b, off + i * 4 + 3, none⟩ = some (.bool (ds.getD i tdeed0).root)) :
    Calls Try.prog 11 #[.slice Al l.length cl, .slice Ar rs0.length cr, .slice Ad ds.length cd] w fun e w' => e = .returned (.bool true) ∧ Fr w w' (fun _ => False) := by
  by_cases h : 200 < l.length ∨ 20 < rs0.length ∨ 60 < ds.length
  · exact tp_far Al Ar Ad l.length cl rs0.length cr ds.length cd w h
  · exact tp_any Al Ar Ad cl cr cd l rs0 ds w (by omega) (by omega) (by omega) hl hr hok hor hdc hc
end Go.Proofs.Ytjiaaefpepdoeaa
