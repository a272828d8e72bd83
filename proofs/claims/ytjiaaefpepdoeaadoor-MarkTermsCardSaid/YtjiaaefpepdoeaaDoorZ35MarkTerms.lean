/-
  TEXTS JOINED FOR A CLAIM (MarkTerms): Gra. Conditions: none beyond those that each theorem states.
-/
import Derived.Test.YtjiaaefpepdoeaaDoorZ33MarkTerms
namespace Go.Proofs.YtjiaaefpepdoeaaDoor
open Go.RowKit Md Go.Proofs.YtjiaaefpepdoeaaDoorW.PrintWords
set_option linter.unusedVariables false
def GraA (n : Nat) (w w' : World) (s : Nat) (bv pv zv cv : Value) (most : Int) (e : Ending) : Prop :=
 ∃ r ok bv' pv' zv' cv' B' P' Z' C', e = .returned (.tuple #[.int .i64 r, .bool ok]) ∧ 0 ≤ r ∧ r ≤ 1048576 ∧ StG w' s bv' pv' zv' cv' most B' P' Z' C' ∧ StO (n + 1) B' P' Z' C' ∧ Fr w w' (StB s bv pv zv cv) ∧ ∀ k, StB s bv' pv' zv' cv' k → StB s bv pv zv cv k ∨ w.heap.size ≤ k
theorem gr_end {n s i : Nat} {w w5 w6 : World} {bv pv zv cv b1 p1 z1 c1 v6 : Value} {most : Int} {B1 b P2 Z2 C2 : List Int} (h5 : StG w5 s b1 p1 z1 c1 most B1 P2 Z2 C2) (hf : StO (n + 1) (B1 ++ b) P2 Z2 C2) (f5 : Fr w w5 (StB s bv pv zv cv)) (f6 : Fr w5 w6 (fun k => InBlk b1 k)) (o6 : Own w6 5 v6 (nw .u8 (B1 ++ b))) (n6 : ∀ k, InBlk v6 k → InBlk b1 k ∨ w5.heap.size ≤ k)
  (hcv : ∀ k, StB s b1 p1 z1 c1 k → StB s bv pv zv cv k ∨ w.heap.size ≤ k) (hi : i ≤ 1000000) : GraA n w (w6.setCell ⟨s, 0, none⟩ v6) s bv pv zv cv most (.returned (.tuple #[.int .i64 ((i : Int) + 1), .bool true])) := by
 have f7 : Fr w6 (w6.setCell ⟨s, 0, none⟩ v6) (fun i => i = s) := (Fr.refl w6 (fun i => i = s)).setCell (a := ⟨s, 0, none⟩) (fun _ => rfl) _
 have nsb : ¬ InBlk b1 s := fun e => h5.ob.not_box h5.blk (by decide) e
 have hb6 := f6.blk h5.blk nsb
 have ns : ∀ {e : TypeId} {v : Value} {xs : List Value}, Own w6 e v xs → e ≠ 79 → ∀ k, InBlk v k → k ≠ s := fun {e v xs} ho ne k hk es => by
  obtain ⟨c, hc⟩ := ho.elem k hk
  rw [es, hb6] at hc
  simp at hc
  exact ne hc.2.symm
 have kp : ∀ {v : Value} {xs : List Int}, Own w5 3 v (iw xs) → Own w6 3 v (iw xs) := fun ho => ho.keep f6 (fun k hk e => by
  obtain ⟨c, hc⟩ := ho.elem k hk
  obtain ⟨c2, hc2⟩ := h5.ob.elem k e
  rw [hc] at hc2; simp at hc2)
 have p1 := kp h5.op
 have p2 := kp h5.oz
 have p3 := kp h5.oc
 have sz5 := f5.size
 have up : ∀ k, (k = s ∨ InBlk b1 k) → k < w.heap.size → StB s bv pv zv cv k := fun k hk hl => by
  rcases hcv k (hk.elim (fun e => .inl e) (fun e => .inr (.inl e))) with h | h
  ·exact h
  ·exact absurd hl (by omega)
 refine ⟨_, _, v6, _, _, _, _, _, _, _, rfl, by omega, by omega, ⟨blk_put (cs := #[b1, .int .i64 most, _, _, _]) hb6 0 _ rfl, o6.keep f7 (ns o6 (by decide)), p1.keep f7 (ns p1 (by decide)), p2.keep f7 (ns p2 (by decide)), p3.keep f7 (ns p3 (by decide)), h5.a1, h5.a2, h5.a3, h5.lp, h5.lz⟩, hf, (f5.then_ f6 (fun k hk hl => up k (.inr hk) hl)).then_ f7 (fun k hk hl => up k (.inl hk) hl), fun k hk => ?_⟩
 rcases hk with hk | hk | hk
 ·exact hcv k (.inl hk)
 ·rcases n6 k hk with h | h
  ·exact hcv k (.inr (.inl h))
  ·right; omega
 ·exact hcv k (.inr (.inr hk))
set_option maxRecDepth 100000 in
set_option maxHeartbeats 16000000 in
theorem grant_no (n s : Nat) (Ab0 Ap Az Ac : Option Addr) (cb0 cp cz cc : Nat) (most : Int) (B P Z C b : List Int) (A : Option Addr) (cap : Nat) (w : World) (h : StG w s (.slice Ab0 B.length cb0) (.slice Ap P.length cp) (.slice Az Z.length cz) (.slice Ac C.length cc) most B P Z C) (ho : StO n B P Z C) (hn : n ≤ 2000) (hb : Rd w (.slice A b.length cap) (nw .u8 b)) (h0 : 0 < b.length) (hb1 : b.length ≤ 4096)
  (apb : ∀ k, InBlk (.slice A b.length cap) k → ¬ StB s (.slice Ab0 B.length cb0) (.slice Ap P.length cp) (.slice Az Z.length cz) (.slice Ac C.length cc) k)  (hm : 0 ≤ most ∧ most ≤ 1048576) (hlv : most - b.length < liveTo Z C C.length) :
  Calls Tryd.prog 15 #[.pointer (some ⟨s, 0, none⟩), .slice A b.length cap] w fun e w' => GraA n w w' s (.slice Ab0 B.length cb0) (.slice Ap P.length cp) (.slice Az Z.length cz) (.slice Ac C.length cc) most e := by
 have H := Lib.hid h
 have HO := Lib.hid ho
 have HNN := Lib.hid hn
 have hz : smallZ Z := fun z hz => by have := ho.z z hz; omega
 have lC := ho.ln
 obtain ⟨lv, hlvv⟩ : ∃ lv, liveTo Z C C.length = lv := ⟨_, rfl⟩
 have hlb := liveTo_bd hz C C.length
 rw [hlvv] at hlb
 have qlb0 := hlb.1
 have qlb1 : lv ≤ 8192000 := by omega
 have HBR := Lib.hid hb
 have HAP := Lib.hid apb
 have HB1 : Hid (0 < b.length ∧ b.length ≤ 4096 ∧ most ≤ 1048576 ∧ C.length ≤ 2000) := Lib.hid ⟨h0, hb1, hm.2, by omega⟩
 have m0 := hm.1
 have m1 := hm.2
 have qb0 : (0 : Int) < b.length := by omega
 have qb1 : (b.length : Int) ≤ 4096 := by omega
 have qB : (B.length : Int) ≤ 8388608 := ho.lb
 have qC : (C.length : Int) ≤ 2000 := by omega
 have d0 : (b.length == 0) = false := beq_eq_false_iff_ne.2 (by omega)
 have d0' : ((b.length : Int) == 0) = false := beq_eq_false_iff_ne.2 (by omega)
 have hw1 : IntKind.i64.wrap (most - (b.length : Int)) = most - b.length := IntWalk.i64_in _ (by omega)
 have HLQ : Hid (∀ n, Calls Tryd.prog 44 #[.pointer (some ⟨s, 0, none⟩)] (w.drewN n) fun e w' => e = .returned (.int .i64 lv) ∧ w' = w.drewN n) := Lib.hid (fun n => by
  have h2 := slive_c s _ _ _ _ most B P Z C (w.drewN n) (h.fr ((Fr.refl w (fun _ => False)).drewN n)) hz (by omega)
  rw [hlvv] at h2
  exact h2.mono fun e w' hh => ⟨hh.1, hh.2.symm⟩)
 have k0 : w.cell? ⟨s, 0, none⟩ = some (.slice Ab0 B.length cb0) := by simp [World.cell?, h.blk]
 have kf0 : w.frozen? ⟨s, 0, none⟩ = false := by simp [World.frozen?, h.blk]
 have k1 : w.cell? ⟨s, 1, none⟩ = some (.int .i64 most) := by simp [World.cell?, h.blk]
 have kf1 : w.frozen? ⟨s, 1, none⟩ = false := by simp [World.frozen?, h.blk]
 have k2 : w.cell? ⟨s, 2, none⟩ = some (.slice Ap P.length cp) := by simp [World.cell?, h.blk]
 have kf2 : w.frozen? ⟨s, 2, none⟩ = false := by simp [World.frozen?, h.blk]
 have k3 : w.cell? ⟨s, 3, none⟩ = some (.slice Az Z.length cz) := by simp [World.cell?, h.blk]
 have kf3 : w.frozen? ⟨s, 3, none⟩ = false := by simp [World.frozen?, h.blk]
 have k4 : w.cell? ⟨s, 4, none⟩ = some (.slice Ac C.length cc) := by simp [World.cell?, h.blk]
 have kf4 : w.frozen? ⟨s, 4, none⟩ = false := by simp [World.frozen?, h.blk]
 rw [hlvv] at hlv
 clear h hb hz hlvv h0 hb1 apb hm ho hn lC hlb
 have d1 : decide (most - (b.length : Int) < lv) = true := decide_eq_true hlv
 clear hlv
 go_enter Tryd.func15, Tryd.ntmps15
 go_upto_region 3 with (fail)
 go_quiet ((go_at_call 44; exact Calls.quiet_of_same (HLQ.out _)))
 have H1 := Lib.hid (H.out.fr ((Fr.refl w (fun _ => False)).drewN nq))
 go_wp2
 go_ret2
 exact ⟨_, _, _, _, _, _, B, P, Z, C, rfl, by omega, by omega, H1.out, HO.out.mono (by omega), (Fr.refl w _).drewN _, fun k hk => .inl hk⟩
set_option maxRecDepth 100000 in
set_option maxHeartbeats 16000000 in
theorem grant_all (n s : Nat) (Ab0 Ap Az Ac : Option Addr) (cb0 cp cz cc : Nat) (most : Int) (B P Z C b : List Int) (A : Option Addr) (cap : Nat) (w : World) (h : StG w s (.slice Ab0 B.length cb0) (.slice Ap P.length cp) (.slice Az Z.length cz) (.slice Ac C.length cc) most B P Z C) (ho : StO n B P Z C) (hn : n ≤ 2000) (hb : Rd w (.slice A b.length cap) (nw .u8 b)) (h0 : 0 < b.length) (hb1 : b.length ≤ 4096)
    (apb : ∀ k, InBlk (.slice A b.length cap) k → ¬ StB s (.slice Ab0 B.length cb0) (.slice Ap P.length cp) (.slice Az Z.length cz) (.slice Ac C.length cc) k)  (hm : 0 ≤ most ∧ most ≤ 1048576) (hlv : ¬ most - b.length < liveTo Z C C.length) (hall : ∀ c ∈ C, 0 < c) :
    Calls Tryd.prog 15 #[.pointer (some ⟨s, 0, none⟩), .slice A b.length cap] w fun e w' => GraA n w w' s (.slice Ab0 B.length cb0) (.slice Ap P.length cp) (.slice Az Z.length cz) (.slice Ac C.length cc) most e := by
  have H := Lib.hid h
  have HO := Lib.hid ho
  have HNN := Lib.hid hn
  have hz : smallZ Z := fun z hz => by have := ho.z z hz; omega
  have lC := ho.ln
  obtain ⟨lv, hlvv⟩ : ∃ lv, liveTo Z C C.length = lv := ⟨_, rfl⟩
  have hlb := liveTo_bd hz C C.length
  rw [hlvv] at hlb
  have qlb0 := hlb.1
  have qlb1 : lv ≤ 8192000 := by omega
  have HBR := Lib.hid hb
  have HAP := Lib.hid apb
  have HB1 : Hid (0 < b.length ∧ b.length ≤ 4096 ∧ most ≤ 1048576 ∧ C.length ≤ 2000) := Lib.hid ⟨h0, hb1, hm.2, by omega⟩
  have m0 := hm.1
  have m1 := hm.2
  have qb0 : (0 : Int) < b.length := by omega
  have qb1 : (b.length : Int) ≤ 4096 := by omega
  have qB : (B.length : Int) ≤ 8388608 := ho.lb
  have qC : (C.length : Int) ≤ 2000 := by omega
  have d0 : (b.length == 0) = false := beq_eq_false_iff_ne.2 (by omega)
  have d0' : ((b.length : Int) == 0) = false := beq_eq_false_iff_ne.2 (by omega)
  have hw1 : IntKind.i64.wrap (most - (b.length : Int)) = most - b.length := IntWalk.i64_in _ (by omega)
  have HLQ : Hid (∀ n, Calls Tryd.prog 44 #[.pointer (some ⟨s, 0, none⟩)] (w.drewN n) fun e w' => e = .returned (.int .i64 lv) ∧ w' = w.drewN n) := Lib.hid (fun n => by
    have h2 := slive_c s _ _ _ _ most B P Z C (w.drewN n) (h.fr ((Fr.refl w (fun _ => False)).drewN n)) hz (by omega)
    rw [hlvv] at h2
    exact h2.mono fun e w' hh => ⟨hh.1, hh.2.symm⟩)
  have k0 : w.cell? ⟨s, 0, none⟩ = some (.slice Ab0 B.length cb0) := by simp [World.cell?, h.blk]
  have kf0 : w.frozen? ⟨s, 0, none⟩ = false := by simp [World.frozen?, h.blk]
  have k1 : w.cell? ⟨s, 1, none⟩ = some (.int .i64 most) := by simp [World.cell?, h.blk]
  have kf1 : w.frozen? ⟨s, 1, none⟩ = false := by simp [World.frozen?, h.blk]
  have k2 : w.cell? ⟨s, 2, none⟩ = some (.slice Ap P.length cp) := by simp [World.cell?, h.blk]
  have kf2 : w.frozen? ⟨s, 2, none⟩ = false := by simp [World.frozen?, h.blk]
  have k3 : w.cell? ⟨s, 3, none⟩ = some (.slice Az Z.length cz) := by simp [World.cell?, h.blk]
  have kf3 : w.frozen? ⟨s, 3, none⟩ = false := by simp [World.frozen?, h.blk]
  have k4 : w.cell? ⟨s, 4, none⟩ = some (.slice Ac C.length cc) := by simp [World.cell?, h.blk]
  have kf4 : w.frozen? ⟨s, 4, none⟩ = false := by simp [World.frozen?, h.blk]
  rw [hlvv] at hlv
  have HALL := Lib.hid hall
  clear hall
  clear h hb hz hlvv h0 hb1 apb hm ho hn lC hlb
  have d1 : decide (most - (b.length : Int) < lv) = false := decide_eq_false hlv
  have HLV := Lib.hid hlv
  clear hlv
  go_enter Tryd.func15, Tryd.ntmps15
  go_upto_region 3 with (fail)
  go_quiet ((go_at_call 44; exact Calls.quiet_of_same (HLQ.out _)))
  have H1 := Lib.hid (H.out.fr ((Fr.refl w (fun _ => False)).drewN nq))
  have HF1 := Lib.hid ((Fr.refl w (fun _ => False)).drewN nq)
  obtain ⟨w1, hw1_⟩ : ∃ w1, w.drewN nq = w1 := ⟨_, rfl⟩
  rw [hw1_] at H1 HF1
  (try simp only [hw1_])
  clear hw1_
  clear k0 kf0 k1 kf1 k2 kf2 k3 kf3 k4 kf4
  have k0 : w1.cell? ⟨s, 0, none⟩ = some (.slice Ab0 B.length cb0) := by simp [World.cell?, H1.out.blk]
  have kf0 : w1.frozen? ⟨s, 0, none⟩ = false := by simp [World.frozen?, H1.out.blk]
  have k1 : w1.cell? ⟨s, 1, none⟩ = some (.int .i64 most) := by simp [World.cell?, H1.out.blk]
  have kf1 : w1.frozen? ⟨s, 1, none⟩ = false := by simp [World.frozen?, H1.out.blk]
  have k2 : w1.cell? ⟨s, 2, none⟩ = some (.slice Ap P.length cp) := by simp [World.cell?, H1.out.blk]
  have kf2 : w1.frozen? ⟨s, 2, none⟩ = false := by simp [World.frozen?, H1.out.blk]
  have k3 : w1.cell? ⟨s, 3, none⟩ = some (.slice Az Z.length cz) := by simp [World.cell?, H1.out.blk]
  have kf3 : w1.frozen? ⟨s, 3, none⟩ = false := by simp [World.frozen?, H1.out.blk]
  have k4 : w1.cell? ⟨s, 4, none⟩ = some (.slice Ac C.length cc) := by simp [World.cell?, H1.out.blk]
  have kf4 : w1.frozen? ⟨s, 4, none⟩ = false := by simp [World.frozen?, H1.out.blk]
  go_upto_region 5 with (fail)
  go_quiet (fail)
  have H2 := Lib.hid (H1.out.fr ((Fr.refl w1 (fun _ => False)).drewN nq))
  have HF2 := Lib.hid (HF1.out.trans ((Fr.refl w1 (fun _ => False)).drewN nq))
  obtain ⟨w2, hw2_⟩ : ∃ w2, w1.drewN nq = w2 := ⟨_, rfl⟩
  rw [hw2_] at H2 HF2
  (try simp only [hw2_])
  clear hw2_ d1 hw1
  clear k0 kf0 k1 kf1 k2 kf2 k3 kf3 k4 kf4
  have k0 : w2.cell? ⟨s, 0, none⟩ = some (.slice Ab0 B.length cb0) := by simp [World.cell?, H2.out.blk]
  have kf0 : w2.frozen? ⟨s, 0, none⟩ = false := by simp [World.frozen?, H2.out.blk]
  have k1 : w2.cell? ⟨s, 1, none⟩ = some (.int .i64 most) := by simp [World.cell?, H2.out.blk]
  have kf1 : w2.frozen? ⟨s, 1, none⟩ = false := by simp [World.frozen?, H2.out.blk]
  have k2 : w2.cell? ⟨s, 2, none⟩ = some (.slice Ap P.length cp) := by simp [World.cell?, H2.out.blk]
  have kf2 : w2.frozen? ⟨s, 2, none⟩ = false := by simp [World.frozen?, H2.out.blk]
  have k3 : w2.cell? ⟨s, 3, none⟩ = some (.slice Az Z.length cz) := by simp [World.cell?, H2.out.blk]
  have kf3 : w2.frozen? ⟨s, 3, none⟩ = false := by simp [World.frozen?, H2.out.blk]
  have k4 : w2.cell? ⟨s, 4, none⟩ = some (.slice Ac C.length cc) := by simp [World.cell?, H2.out.blk]
  have kf4 : w2.frozen? ⟨s, 4, none⟩ = false := by simp [World.frozen?, H2.out.blk]
  go_upto_if 32 with (fail)
  go_cut [34] (fun a34 wx => ∃ (Ab : Option Addr) (cb : Nat) (B1 P1 : List Int), Hid (StG wx s (.slice Ab B1.length cb) (.slice Ap P.length cp) (.slice Az Z.length cz) (.slice Ac C.length cc) most B1 P1 Z C) ∧ Hid (StO n B1 P1 Z C) ∧ Hid ((B1.length : Int) + b.length ≤ 8388608) ∧ Hid (Fr w wx (StB s (.slice Ab0 B.length cb0) (.slice Ap P.length cp) (.slice Az Z.length cz) (.slice Ac C.length cc))) ∧ Hid (∀ k, InBlk (.slice Ab B1.length cb) k → InBlk (.slice Ab0 B.length cb0) k ∨ w.heap.size ≤ k))
  case first =>
    by_cases hd : most - b.length < B.length
    · have d2 : decide (most - (b.length : Int) < (B.length : Int)) = true := decide_eq_true hd
      go_wp2_with (first
        | (go_at_call 45; (with_reducible refine (sslide_c n s _ _ _ _ most B P Z C _ H2.out HO.out (by have := HNN.out; omega)).mono ?_); rintro e w3 ⟨r, bv', B1, P1, rfl, hst, hso, htt, hf, hnb⟩; have HST := Lib.hid hst; have HSO := Lib.hid hso; have HTT := Lib.hid htt; have HF := Lib.hid hf; have HNB := Lib.hid hnb; clear hst hso htt hf hnb))
      go_meet
      obtain ⟨Ax, cx, e⟩ := HST.out.ob.rd.len
      rw [nw_length] at e
      subst e
      exact ⟨Ax, cx, B1, P1, HST, HSO, Lib.hid (by have h1 := HTT.out; have h2 := tot_bd (Z := Z) (C := C) HO.out.z; have h3 := HB1.out; omega), Lib.hid ((HF2.out.mono (fun _ h _ => h.elim)).then_ HF.out (fun k hk _ => hk.elim (fun e => .inl e) (fun e => .inr (.inr (.inl e))))), Lib.hid (fun k hk => .inr (Nat.le_trans HF2.out.size (HNB.out k hk)))⟩
    · have d2 : decide (most - (b.length : Int) < (B.length : Int)) = false := decide_eq_false hd
      have HD := Lib.hid hd
      clear hd
      go_wp2
      go_meet
      exact ⟨Ab0, cb0, B, P, H2, HO, Lib.hid (by have h1 := HD.out; have h3 := HB1.out; omega), Lib.hid (HF2.out.mono (fun _ h _ => h.elim)), Lib.hid (fun k hk => .inl hk)⟩
  case rest =>
    obtain ⟨Ab, cb, B1, P1, H3, HO3, HBL, HF3, HCB⟩ := hcut
    clear k0 kf0 k1 kf1 k2 kf2 k3 kf3 k4 kf4
    clear H H1 H2 HF1 HF2 HO HLQ HLV
    obtain ⟨w2, rfl⟩ : ∃ w2, w2 = wc := ⟨_, rfl⟩
    have H2 := H3
    clear H3
    have HL0 : Hid (C.length ≤ 1048576) := Lib.hid (by omega)
    have HL1 : Hid (P1.length ≤ 1073741823) := Lib.hid (by have := H2.out.lp; omega)
    have HL2 : Hid (Z.length ≤ 1073741823) := Lib.hid (by have := H2.out.lz; omega)
    have HL3 : Hid (C.length ≤ 1073741823) := Lib.hid (by omega)
    have k0 : w2.cell? ⟨s, 0, none⟩ = some (.slice Ab B1.length cb) := by simp [World.cell?, H2.out.blk]
    have kf0 : w2.frozen? ⟨s, 0, none⟩ = false := by simp [World.frozen?, H2.out.blk]
    have k1 : w2.cell? ⟨s, 1, none⟩ = some (.int .i64 most) := by simp [World.cell?, H2.out.blk]
    have kf1 : w2.frozen? ⟨s, 1, none⟩ = false := by simp [World.frozen?, H2.out.blk]
    have k2 : w2.cell? ⟨s, 2, none⟩ = some (.slice Ap P.length cp) := by simp [World.cell?, H2.out.blk]
    have kf2 : w2.frozen? ⟨s, 2, none⟩ = false := by simp [World.frozen?, H2.out.blk]
    have k3 : w2.cell? ⟨s, 3, none⟩ = some (.slice Az Z.length cz) := by simp [World.cell?, H2.out.blk]
    have kf3 : w2.frozen? ⟨s, 3, none⟩ = false := by simp [World.frozen?, H2.out.blk]
    have k4 : w2.cell? ⟨s, 4, none⟩ = some (.slice Ac C.length cc) := by simp [World.cell?, H2.out.blk]
    have kf4 : w2.frozen? ⟨s, 4, none⟩ = false := by simp [World.frozen?, H2.out.blk]
    go_wp2
    go_loopg [6] C.length (fun g a6 wr => ∃ i : Nat, a6 = .int .i64 i ∧ g + i = C.length ∧ w2 = wr)
    case atStart => exact ⟨0, rfl, by omega, rfl⟩
    case round =>
      obtain ⟨i, rfl, hgi, rfl⟩ := hrel
      have HGI := Lib.hid hgi
      clear hgi
      by_cases hi : i < C.length
      · have HIL := Lib.hid hi
        have e1 : decide (i < C.length) = true := decide_eq_true hi
        have qi : (i : Int) < C.length := by omega
        obtain ⟨gc, hgc, _, hcc⟩ := H2.out.oc.cellAt (by rw [iw_length]; omega)
        have ck := (hcc i (by rw [iw_length]; exact hi)).1
        rw [iw_get hi] at ck
        obtain ⟨c, hce⟩ : ∃ c, C.getD i 0 = c := ⟨_, rfl⟩
        rw [hce] at ck
        have HCE := Lib.hid hce
        subst hgc
        clear hcc hce hi
        by_cases hpos : 0 < c
        · have e2 : decide (0 < c) = true := decide_eq_true hpos
          clear hpos
          go_wp2
          go_roundg (gk - 1)
          case measure => have := HGI.out; have := HIL.out; omega
          case rel => exact ⟨i + 1, by first | rfl | go_num, by have := HGI.out; have := HIL.out; omega, rfl⟩
        · exact absurd (HALL.out c (by rw [← HCE.out, List.getD_eq_getElem?_getD, List.getElem?_eq_getElem HIL.out]; exact List.getElem_mem HIL.out)) hpos
      · have e1 : decide (i < C.length) = false := decide_eq_false hi
        have hie : i = C.length := by have := HGI.out; omega
        subst hie
        clear hi HGI
        go_upto_region 11 with (fail)
        go_cut [6] from 61 to 87 (fun a6 wx => a6 = .int .i64 C.length ∧ ∃ A1 c1 A2 c2 A3 c3, Hid (G3E w2 wx s (.slice Ab B1.length cb) (.slice A1 (P1.length + 1) c1) (.slice A2 (Z.length + 1) c2) (.slice A3 (C.length + 1) c3) (.slice Ap P.length cp) (.slice Az Z.length cz) (.slice Ac C.length cc) most B1 P1 Z C))
        case first =>
          have HG0 : Hid (G3 w2 w2.drew (.slice Ap P.length cp) (.slice Az Z.length cz) (.slice Ac C.length cc) P1 Z C .raw .raw .raw) := Lib.hid (G3.drew ⟨H2.out.op, H2.out.oz, H2.out.oc, H2.out.a1, H2.out.a2, H2.out.a3, Fr.refl _ _, fun k hk => .inl hk, fun k hk => .inl hk, fun k hk => .inl hk⟩)
          have HNS1 : Hid (¬ InBlk (.slice Ap P.length cp) s) := Lib.hid (fun e => H2.out.op.not_box H2.out.blk (by decide) e)
          have HNS2 : Hid (¬ InBlk (.slice Az Z.length cz) s) := Lib.hid (fun e => H2.out.oz.not_box H2.out.blk (by decide) e)
          have HNS3 : Hid (¬ InBlk (.slice Ac C.length cc) s) := Lib.hid (fun e => H2.out.oc.not_box H2.out.blk (by decide) e)
          have k2d : w2.drew.cell? ⟨s, 2, none⟩ = some (.slice Ap P.length cp) := k2
          have k3d : w2.drew.cell? ⟨s, 3, none⟩ = some (.slice Az Z.length cz) := k3
          have k4d : w2.drew.cell? ⟨s, 4, none⟩ = some (.slice Ac C.length cc) := k4
          clear k0 kf0 k1 kf1 k2 kf2 k3 kf3 k4 kf4
          skip
          refine wp_region_till (S := fun w' => w'.cell? ⟨s, 2, none⟩ = some (.slice Ap P.length cp) ∧ w'.cell? ⟨s, 3, none⟩ = some (.slice Az Z.length cz) ∧ w'.cell? ⟨s, 4, none⟩ = some (.slice Ac C.length cc)) (T := T3) (by kernel_rfl) ?_
          have hS := And.intro k2d (And.intro k3d k4d)
          obtain ⟨w3, hw3⟩ : ∃ w3, w2.drew = w3 := ⟨_, rfl⟩
          rw [hw3] at hS HG0 ⊢
          clear hw3 k2d k3d k4d
          refine wpTill_pure (i := 0) (v := .pointer (some ⟨s, 0, none⟩)) rfl (by kernel_rfl) (by kernel_rfl) (by kernel_rfl) (fun _ _ _ h => h) (T3_set (by decide) (by decide) (by decide)) (Or.inl ⟨by rfl, ?_⟩) (fun _ => hS) ?_
          · intro w; go_simp; try rfl
          (try simp only [Act.put, List.setIfInBounds_toArray, List.set_cons_zero, List.set_cons_succ])
          refine wpTill_pure (i := 1) (v := .pointer (some ⟨s, 0, none⟩)) rfl (by kernel_rfl) (by kernel_rfl) (by kernel_rfl) (fun _ _ _ h => h) (T3_set (by decide) (by decide) (by decide)) (Or.inl ⟨by rfl, ?_⟩) (fun _ => hS) ?_
          · intro w; go_simp; try rfl
          (try simp only [Act.put, List.setIfInBounds_toArray, List.set_cons_zero, List.set_cons_succ])
          refine wpTill_pure (i := 2) (v := .pointer (some ⟨s, 0, none⟩)) rfl (by kernel_rfl) (by kernel_rfl) (by kernel_rfl) (fun _ _ _ h => h) (T3_set (by decide) (by decide) (by decide)) (Or.inl ⟨by rfl, ?_⟩) (fun _ => hS) ?_
          · intro w; go_simp; try rfl
          (try simp only [Act.put, List.setIfInBounds_toArray, List.set_cons_zero, List.set_cons_succ])
          refine wpTill_pure (i := 3) (v := .pointer (some ⟨s, 0, none⟩)) rfl (by kernel_rfl) (by kernel_rfl) (by kernel_rfl) (fun _ _ _ h => h) (T3_set (by decide) (by decide) (by decide)) (Or.inl ⟨by rfl, ?_⟩) (fun _ => hS) ?_
          · intro w; go_simp; try rfl
          (try simp only [Act.put, List.setIfInBounds_toArray, List.set_cons_zero, List.set_cons_succ])
          refine wpTill_pure (i := 4) (v := .pointer (some ⟨s, 0, none⟩)) rfl (by kernel_rfl) (by kernel_rfl) (by kernel_rfl) (fun _ _ _ h => h) (T3_set (by decide) (by decide) (by decide)) (Or.inl ⟨by rfl, ?_⟩) (fun _ => hS) ?_
          · intro w; go_simp; try rfl
          (try simp only [Act.put, List.setIfInBounds_toArray, List.set_cons_zero, List.set_cons_succ])
          refine wpTill_pure (i := 5) (v := .pointer (some ⟨s, 2, none⟩)) rfl (by kernel_rfl) (by kernel_rfl) (by kernel_rfl) (fun _ _ _ h => h) (T3_set (by decide) (by decide) (by decide)) (Or.inl ⟨by rfl, ?_⟩) (fun _ => hS) ?_
          · intro w; go_simp; try rfl
          (try simp only [Act.put, List.setIfInBounds_toArray, List.set_cons_zero, List.set_cons_succ])
          refine wpTill_read 8 (i := 6) (v := .slice Ap P.length cp) rfl (by kernel_rfl) (by kernel_rfl) (by kernel_rfl) (fun _ _ _ h => h) (T3_set (by decide) (by decide) (by decide)) T3_8 (by kernel_rfl) (by kernel_rfl) (Or.inl ⟨by rfl, ?_⟩) hS ?_
          · intro w hSw; obtain ⟨j2, j3, j4⟩ := hSw; go_simp; try rfl
          (try simp only [Act.put, List.setIfInBounds_toArray, List.set_cons_zero, List.set_cons_succ])
          refine wpTill_pure (i := 9) (v := .pointer (some ⟨s, 0, none⟩)) rfl (by kernel_rfl) (by kernel_rfl) (by kernel_rfl) (fun _ _ _ h => h) (T3_set (by decide) (by decide) (by decide)) (Or.inl ⟨by rfl, ?_⟩) (fun _ => hS) ?_
          · intro w; go_simp; try rfl
          (try simp only [Act.put, List.setIfInBounds_toArray, List.set_cons_zero, List.set_cons_succ])
          refine wpTill_pure (i := 10) (v := .pointer (some ⟨s, 0, none⟩)) rfl (by kernel_rfl) (by kernel_rfl) (by kernel_rfl) (fun _ _ _ h => h) (T3_set (by decide) (by decide) (by decide)) (Or.inl ⟨by rfl, ?_⟩) (fun _ => hS) ?_
          · intro w; go_simp; try rfl
          (try simp only [Act.put, List.setIfInBounds_toArray, List.set_cons_zero, List.set_cons_succ])
          refine wpTill_pure (i := 11) (v := .pointer (some ⟨s, 3, none⟩)) rfl (by kernel_rfl) (by kernel_rfl) (by kernel_rfl) (fun _ _ _ h => h) (T3_set (by decide) (by decide) (by decide)) (Or.inl ⟨by rfl, ?_⟩) (fun _ => hS) ?_
          · intro w; go_simp; try rfl
          (try simp only [Act.put, List.setIfInBounds_toArray, List.set_cons_zero, List.set_cons_succ])
          refine wpTill_read 14 (i := 12) (v := .slice Az Z.length cz) rfl (by kernel_rfl) (by kernel_rfl) (by kernel_rfl) (fun _ _ _ h => h) (T3_set (by decide) (by decide) (by decide)) T3_14 (by kernel_rfl) (by kernel_rfl) (Or.inl ⟨by rfl, ?_⟩) hS ?_
          · intro w hSw; obtain ⟨j2, j3, j4⟩ := hSw; go_simp; try rfl
          (try simp only [Act.put, List.setIfInBounds_toArray, List.set_cons_zero, List.set_cons_succ])
          refine wpTill_pure (i := 15) (v := .pointer (some ⟨s, 0, none⟩)) rfl (by kernel_rfl) (by kernel_rfl) (by kernel_rfl) (fun _ _ _ h => h) (T3_set (by decide) (by decide) (by decide)) (Or.inl ⟨by rfl, ?_⟩) (fun _ => hS) ?_
          · intro w; go_simp; try rfl
          (try simp only [Act.put, List.setIfInBounds_toArray, List.set_cons_zero, List.set_cons_succ])
          refine wpTill_pure (i := 16) (v := .pointer (some ⟨s, 0, none⟩)) rfl (by kernel_rfl) (by kernel_rfl) (by kernel_rfl) (fun _ _ _ h => h) (T3_set (by decide) (by decide) (by decide)) (Or.inl ⟨by rfl, ?_⟩) (fun _ => hS) ?_
          · intro w; go_simp; try rfl
          (try simp only [Act.put, List.setIfInBounds_toArray, List.set_cons_zero, List.set_cons_succ])
          refine wpTill_pure (i := 17) (v := .pointer (some ⟨s, 4, none⟩)) rfl (by kernel_rfl) (by kernel_rfl) (by kernel_rfl) (fun _ _ _ h => h) (T3_set (by decide) (by decide) (by decide)) (Or.inl ⟨by rfl, ?_⟩) (fun _ => hS) ?_
          · intro w; go_simp; try rfl
          (try simp only [Act.put, List.setIfInBounds_toArray, List.set_cons_zero, List.set_cons_succ])
          refine wpTill_read 20 (i := 18) (v := .slice Ac C.length cc) rfl (by kernel_rfl) (by kernel_rfl) (by kernel_rfl) (fun _ _ _ h => h) (T3_set (by decide) (by decide) (by decide)) T3_20 (by kernel_rfl) (by kernel_rfl) (Or.inl ⟨by rfl, ?_⟩) hS ?_
          · intro w hSw; obtain ⟨j2, j3, j4⟩ := hSw; go_simp; try rfl
          (try simp only [Act.put, List.setIfInBounds_toArray, List.set_cons_zero, List.set_cons_succ])
          refine wpTill_all (rs := [7, 13, 19]) (by kernel_rfl) (by simp) ?_
          intro i hi
          simp only [List.mem_cons, List.not_mem_nil, or_false] at hi
          rcases hi with rfl | rfl | rfl
          focus
           refine wpOp_step rfl (fun K hK => ?_)
           go_simp
           have hg := HG0.out.box
           have hS2 := kept3 hS (.cells #[.int .i64 0] 3)
           obtain ⟨b1, hb1⟩ : ∃ b, w3.heap.size = b := ⟨_, rfl⟩
           obtain ⟨W1, hW1⟩ : ∃ W, w3.alloc (.cells #[.int .i64 0] 3) = W := ⟨_, rfl⟩
           rw [hW1] at hg hS2
           rw [hb1] at hg
           (try simp only [hW1, hb1])
           have HG1 := Lib.hid hg
           clear hS hg hW1 hb1
           have hS := hS2
           clear hS2
           refine hK _ _ ⟨fun _ => hS, ?_⟩
           clear hK K
           (try simp only [Act.put, List.setIfInBounds_toArray, List.set_cons_zero, List.set_cons_succ])
           refine wpTill_all (rs := [8, 13, 19]) (by kernel_rfl) (by simp) ?_
           intro i hi
           simp only [List.mem_cons, List.not_mem_nil, or_false] at hi
           rcases hi with rfl | rfl | rfl
           focus
            obtain ⟨v1, W2, hr, hg, hf⟩ := HG1.out.app HL1.out
            obtain ⟨Ax1, cx1, ex1⟩ := len_app hg.i1
            subst ex1
            refine wpOp_step rfl (fun K hK => ?_)
            refine step_append_run W1 (by rfl) _ _ _ _ (by rfl) _ _ (by rfl) (by rfl) _ _ hr ?_
            have hS2 := kept3f hS hf HNS1.out
            have HG2 := Lib.hid hg
            clear hS hg hr hf
            have hS := hS2
            clear hS2
            refine hK _ _ ⟨fun _ => hS, ?_⟩
            clear hK K
            (try simp only [Act.put, List.setIfInBounds_toArray, List.set_cons_zero, List.set_cons_succ])
            refine wpTill_all (rs := [13, 19]) (by kernel_rfl) (by simp) ?_
            intro i hi
            simp only [List.mem_cons, List.not_mem_nil, or_false] at hi
            rcases hi with rfl | rfl
            focus
             refine wpOp_step rfl (fun K hK => ?_)
             go_simp
             have hg := HG2.out.box2
             have hS2 := kept3 hS (.cells #[.int .i64 0] 3)
             obtain ⟨b3, hb3⟩ : ∃ b, W2.heap.size = b := ⟨_, rfl⟩
             obtain ⟨W3, hW3⟩ : ∃ W, W2.alloc (.cells #[.int .i64 0] 3) = W := ⟨_, rfl⟩
             rw [hW3] at hg hS2
             rw [hb3] at hg
             (try simp only [hW3, hb3])
             have HG3 := Lib.hid hg
             clear hS hg hW3 hb3
             have hS := hS2
             clear hS2
             refine hK _ _ ⟨fun _ => hS, ?_⟩
             clear hK K
             (try simp only [Act.put, List.setIfInBounds_toArray, List.set_cons_zero, List.set_cons_succ])
             refine wpTill_all (rs := [14, 19]) (by kernel_rfl) (by simp) ?_
             intro i hi
             simp only [List.mem_cons, List.not_mem_nil, or_false] at hi
             rcases hi with rfl | rfl
             focus
              obtain ⟨v2, W4, hr, hg, hf⟩ := HG3.out.app2 HL2.out
              obtain ⟨Ax2, cx2, ex2⟩ := len_app hg.i2
              subst ex2
              refine wpOp_step rfl (fun K hK => ?_)
              refine step_append_run W3 (by rfl) _ _ _ _ (by rfl) _ _ (by rfl) (by rfl) _ _ hr ?_
              have hS2 := kept3f hS hf HNS2.out
              have HG4 := Lib.hid hg
              clear hS hg hr hf
              have hS := hS2
              clear hS2
              refine hK _ _ ⟨fun _ => hS, ?_⟩
              clear hK K
              (try simp only [Act.put, List.setIfInBounds_toArray, List.set_cons_zero, List.set_cons_succ])
              refine wpTill_all (rs := [19]) (by kernel_rfl) (by simp) ?_
              intro i hi
              simp only [List.mem_cons, List.not_mem_nil, or_false] at hi
              subst hi
              refine wpOp_step rfl (fun K hK => ?_)
              go_simp
              have hg := HG4.out.box3
              have hS2 := kept3 hS (.cells #[.int .i64 0] 3)
              obtain ⟨b5, hb5⟩ : ∃ b, W4.heap.size = b := ⟨_, rfl⟩
              obtain ⟨W5, hW5⟩ : ∃ W, W4.alloc (.cells #[.int .i64 0] 3) = W := ⟨_, rfl⟩
              rw [hW5] at hg hS2
              rw [hb5] at hg
              (try simp only [hW5, hb5])
              have HG5 := Lib.hid hg
              clear hS hg hW5 hb5
              have hS := hS2
              clear hS2
              refine hK _ _ ⟨fun _ => hS, ?_⟩
              clear hK K
              (try simp only [Act.put, List.setIfInBounds_toArray, List.set_cons_zero, List.set_cons_succ])
              refine wpTill_all (rs := [20]) (by kernel_rfl) (by simp) ?_
              intro i hi
              simp only [List.mem_cons, List.not_mem_nil, or_false] at hi
              subst hi
              obtain ⟨v3, W6, hr, hg, hf⟩ := HG5.out.app3 HL3.out
              obtain ⟨Ax3, cx3, ex3⟩ := len_app hg.i3
              subst ex3
              refine wpOp_step rfl (fun K hK => ?_)
              refine step_append_run W5 (by rfl) _ _ _ _ (by rfl) _ _ (by rfl) (by rfl) _ _ hr ?_
              have hS2 := kept3f hS hf HNS3.out
              have HG6 := Lib.hid hg
              clear hS hg hr hf
              have hS := hS2
              clear hS2
              refine hK _ _ ⟨fun _ => hS, ?_⟩
              clear hK K
              (try simp only [Act.put, List.setIfInBounds_toArray, List.set_cons_zero, List.set_cons_succ])
             rotate_left 1
             focus
              refine wpOp_step rfl (fun K hK => ?_)
              go_simp
              have hg := HG3.out.box3
              have hS2 := kept3 hS (.cells #[.int .i64 0] 3)
              obtain ⟨b4, hb4⟩ : ∃ b, W3.heap.size = b := ⟨_, rfl⟩
              obtain ⟨W4, hW4⟩ : ∃ W, W3.alloc (.cells #[.int .i64 0] 3) = W := ⟨_, rfl⟩
              rw [hW4] at hg hS2
              rw [hb4] at hg
              (try simp only [hW4, hb4])
              have HG4 := Lib.hid hg
              clear hS hg hW4 hb4
              have hS := hS2
              clear hS2
              refine hK _ _ ⟨fun _ => hS, ?_⟩
              clear hK K
              (try simp only [Act.put, List.setIfInBounds_toArray, List.set_cons_zero, List.set_cons_succ])
              refine wpTill_all (rs := [14]) (by kernel_rfl) (by simp) ?_
              intro i hi
              simp only [List.mem_cons, List.not_mem_nil, or_false] at hi
              subst hi
              obtain ⟨v2, W5, hr, hg, hf⟩ := HG4.out.app2 HL2.out
              obtain ⟨Ax2, cx2, ex2⟩ := len_app hg.i2
              subst ex2
              refine wpOp_step rfl (fun K hK => ?_)
              refine step_append_run W4 (by rfl) _ _ _ _ (by rfl) _ _ (by rfl) (by rfl) _ _ hr ?_
              have hS2 := kept3f hS hf HNS2.out
              have HG5 := Lib.hid hg
              clear hS hg hr hf
              have hS := hS2
              clear hS2
              refine hK _ _ ⟨fun _ => hS, ?_⟩
              clear hK K
              (try simp only [Act.put, List.setIfInBounds_toArray, List.set_cons_zero, List.set_cons_succ])
              refine wpTill_all (rs := [20]) (by kernel_rfl) (by simp) ?_
              intro i hi
              simp only [List.mem_cons, List.not_mem_nil, or_false] at hi
              subst hi
              obtain ⟨v3, W6, hr, hg, hf⟩ := HG5.out.app3 HL3.out
              obtain ⟨Ax3, cx3, ex3⟩ := len_app hg.i3
              subst ex3
              refine wpOp_step rfl (fun K hK => ?_)
              refine step_append_run W5 (by rfl) _ _ _ _ (by rfl) _ _ (by rfl) (by rfl) _ _ hr ?_
              have hS2 := kept3f hS hf HNS3.out
              have HG6 := Lib.hid hg
              clear hS hg hr hf
              have hS := hS2
              clear hS2
              refine hK _ _ ⟨fun _ => hS, ?_⟩
              clear hK K
              (try simp only [Act.put, List.setIfInBounds_toArray, List.set_cons_zero, List.set_cons_succ])
             rotate_left 1
            rotate_left 2
            focus
             refine wpOp_step rfl (fun K hK => ?_)
             go_simp
             have hg := HG2.out.box3
             have hS2 := kept3 hS (.cells #[.int .i64 0] 3)
             obtain ⟨b3, hb3⟩ : ∃ b, W2.heap.size = b := ⟨_, rfl⟩
             obtain ⟨W3, hW3⟩ : ∃ W, W2.alloc (.cells #[.int .i64 0] 3) = W := ⟨_, rfl⟩
             rw [hW3] at hg hS2
             rw [hb3] at hg
             (try simp only [hW3, hb3])
             have HG3 := Lib.hid hg
             clear hS hg hW3 hb3
             have hS := hS2
             clear hS2
             refine hK _ _ ⟨fun _ => hS, ?_⟩
             clear hK K
             (try simp only [Act.put, List.setIfInBounds_toArray, List.set_cons_zero, List.set_cons_succ])
             refine wpTill_all (rs := [13]) (by kernel_rfl) (by simp) ?_
             intro i hi
             simp only [List.mem_cons, List.not_mem_nil, or_false] at hi
             subst hi
             refine wpOp_step rfl (fun K hK => ?_)
             go_simp
             have hg := HG3.out.box2
             have hS2 := kept3 hS (.cells #[.int .i64 0] 3)
             obtain ⟨b4, hb4⟩ : ∃ b, W3.heap.size = b := ⟨_, rfl⟩
             obtain ⟨W4, hW4⟩ : ∃ W, W3.alloc (.cells #[.int .i64 0] 3) = W := ⟨_, rfl⟩
             rw [hW4] at hg hS2
             rw [hb4] at hg
             (try simp only [hW4, hb4])
             have HG4 := Lib.hid hg
             clear hS hg hW4 hb4
             have hS := hS2
             clear hS2
             refine hK _ _ ⟨fun _ => hS, ?_⟩
             clear hK K
             (try simp only [Act.put, List.setIfInBounds_toArray, List.set_cons_zero, List.set_cons_succ])
             refine wpTill_all (rs := [14]) (by kernel_rfl) (by simp) ?_
             intro i hi
             simp only [List.mem_cons, List.not_mem_nil, or_false] at hi
             subst hi
             obtain ⟨v2, W5, hr, hg, hf⟩ := HG4.out.app2 HL2.out
             obtain ⟨Ax2, cx2, ex2⟩ := len_app hg.i2
             subst ex2
             refine wpOp_step rfl (fun K hK => ?_)
             refine step_append_run W4 (by rfl) _ _ _ _ (by rfl) _ _ (by rfl) (by rfl) _ _ hr ?_
             have hS2 := kept3f hS hf HNS2.out
             have HG5 := Lib.hid hg
             clear hS hg hr hf
             have hS := hS2
             clear hS2
             refine hK _ _ ⟨fun _ => hS, ?_⟩
             clear hK K
             (try simp only [Act.put, List.setIfInBounds_toArray, List.set_cons_zero, List.set_cons_succ])
             refine wpTill_all (rs := [20]) (by kernel_rfl) (by simp) ?_
             intro i hi
             simp only [List.mem_cons, List.not_mem_nil, or_false] at hi
             subst hi
             obtain ⟨v3, W6, hr, hg, hf⟩ := HG5.out.app3 HL3.out
             obtain ⟨Ax3, cx3, ex3⟩ := len_app hg.i3
             subst ex3
             refine wpOp_step rfl (fun K hK => ?_)
             refine step_append_run W5 (by rfl) _ _ _ _ (by rfl) _ _ (by rfl) (by rfl) _ _ hr ?_
             have hS2 := kept3f hS hf HNS3.out
             have HG6 := Lib.hid hg
             clear hS hg hr hf
             have hS := hS2
             clear hS2
             refine hK _ _ ⟨fun _ => hS, ?_⟩
             clear hK K
             (try simp only [Act.put, List.setIfInBounds_toArray, List.set_cons_zero, List.set_cons_succ])
            rotate_left 1
           rotate_left 3
           focus
            refine wpOp_step rfl (fun K hK => ?_)
            go_simp
            have hg := HG1.out.box2
            have hS2 := kept3 hS (.cells #[.int .i64 0] 3)
            obtain ⟨b2, hb2⟩ : ∃ b, W1.heap.size = b := ⟨_, rfl⟩
            obtain ⟨W2, hW2⟩ : ∃ W, W1.alloc (.cells #[.int .i64 0] 3) = W := ⟨_, rfl⟩
            rw [hW2] at hg hS2
            rw [hb2] at hg
            (try simp only [hW2, hb2])
            have HG2 := Lib.hid hg
            clear hS hg hW2 hb2
            have hS := hS2
            clear hS2
            refine hK _ _ ⟨fun _ => hS, ?_⟩
            clear hK K
            (try simp only [Act.put, List.setIfInBounds_toArray, List.set_cons_zero, List.set_cons_succ])
            refine wpTill_all (rs := [8, 19]) (by kernel_rfl) (by simp) ?_
            intro i hi
            simp only [List.mem_cons, List.not_mem_nil, or_false] at hi
            rcases hi with rfl | rfl
            focus
             obtain ⟨v1, W3, hr, hg, hf⟩ := HG2.out.app HL1.out
             obtain ⟨Ax1, cx1, ex1⟩ := len_app hg.i1
             subst ex1
             refine wpOp_step rfl (fun K hK => ?_)
             refine step_append_run W2 (by rfl) _ _ _ _ (by rfl) _ _ (by rfl) (by rfl) _ _ hr ?_
             have hS2 := kept3f hS hf HNS1.out
             have HG3 := Lib.hid hg
             clear hS hg hr hf
             have hS := hS2
             clear hS2
             refine hK _ _ ⟨fun _ => hS, ?_⟩
             clear hK K
             (try simp only [Act.put, List.setIfInBounds_toArray, List.set_cons_zero, List.set_cons_succ])
             refine wpTill_all (rs := [14, 19]) (by kernel_rfl) (by simp) ?_
             intro i hi
             simp only [List.mem_cons, List.not_mem_nil, or_false] at hi
             rcases hi with rfl | rfl
             focus
              obtain ⟨v2, W4, hr, hg, hf⟩ := HG3.out.app2 HL2.out
              obtain ⟨Ax2, cx2, ex2⟩ := len_app hg.i2
              subst ex2
              refine wpOp_step rfl (fun K hK => ?_)
              refine step_append_run W3 (by rfl) _ _ _ _ (by rfl) _ _ (by rfl) (by rfl) _ _ hr ?_
              have hS2 := kept3f hS hf HNS2.out
              have HG4 := Lib.hid hg
              clear hS hg hr hf
              have hS := hS2
              clear hS2
              refine hK _ _ ⟨fun _ => hS, ?_⟩
              clear hK K
              (try simp only [Act.put, List.setIfInBounds_toArray, List.set_cons_zero, List.set_cons_succ])
              refine wpTill_all (rs := [19]) (by kernel_rfl) (by simp) ?_
              intro i hi
              simp only [List.mem_cons, List.not_mem_nil, or_false] at hi
              subst hi
              refine wpOp_step rfl (fun K hK => ?_)
              go_simp
              have hg := HG4.out.box3
              have hS2 := kept3 hS (.cells #[.int .i64 0] 3)
              obtain ⟨b5, hb5⟩ : ∃ b, W4.heap.size = b := ⟨_, rfl⟩
              obtain ⟨W5, hW5⟩ : ∃ W, W4.alloc (.cells #[.int .i64 0] 3) = W := ⟨_, rfl⟩
              rw [hW5] at hg hS2
              rw [hb5] at hg
              (try simp only [hW5, hb5])
              have HG5 := Lib.hid hg
              clear hS hg hW5 hb5
              have hS := hS2
              clear hS2
              refine hK _ _ ⟨fun _ => hS, ?_⟩
              clear hK K
              (try simp only [Act.put, List.setIfInBounds_toArray, List.set_cons_zero, List.set_cons_succ])
              refine wpTill_all (rs := [20]) (by kernel_rfl) (by simp) ?_
              intro i hi
              simp only [List.mem_cons, List.not_mem_nil, or_false] at hi
              subst hi
              obtain ⟨v3, W6, hr, hg, hf⟩ := HG5.out.app3 HL3.out
              obtain ⟨Ax3, cx3, ex3⟩ := len_app hg.i3
              subst ex3
              refine wpOp_step rfl (fun K hK => ?_)
              refine step_append_run W5 (by rfl) _ _ _ _ (by rfl) _ _ (by rfl) (by rfl) _ _ hr ?_
              have hS2 := kept3f hS hf HNS3.out
              have HG6 := Lib.hid hg
              clear hS hg hr hf
              have hS := hS2
              clear hS2
              refine hK _ _ ⟨fun _ => hS, ?_⟩
              clear hK K
              (try simp only [Act.put, List.setIfInBounds_toArray, List.set_cons_zero, List.set_cons_succ])
             rotate_left 1
             focus
              refine wpOp_step rfl (fun K hK => ?_)
              go_simp
              have hg := HG3.out.box3
              have hS2 := kept3 hS (.cells #[.int .i64 0] 3)
              obtain ⟨b4, hb4⟩ : ∃ b, W3.heap.size = b := ⟨_, rfl⟩
              obtain ⟨W4, hW4⟩ : ∃ W, W3.alloc (.cells #[.int .i64 0] 3) = W := ⟨_, rfl⟩
              rw [hW4] at hg hS2
              rw [hb4] at hg
              (try simp only [hW4, hb4])
              have HG4 := Lib.hid hg
              clear hS hg hW4 hb4
              have hS := hS2
              clear hS2
              refine hK _ _ ⟨fun _ => hS, ?_⟩
              clear hK K
              (try simp only [Act.put, List.setIfInBounds_toArray, List.set_cons_zero, List.set_cons_succ])
              refine wpTill_all (rs := [14]) (by kernel_rfl) (by simp) ?_
              intro i hi
              simp only [List.mem_cons, List.not_mem_nil, or_false] at hi
              subst hi
              obtain ⟨v2, W5, hr, hg, hf⟩ := HG4.out.app2 HL2.out
              obtain ⟨Ax2, cx2, ex2⟩ := len_app hg.i2
              subst ex2
              refine wpOp_step rfl (fun K hK => ?_)
              refine step_append_run W4 (by rfl) _ _ _ _ (by rfl) _ _ (by rfl) (by rfl) _ _ hr ?_
              have hS2 := kept3f hS hf HNS2.out
              have HG5 := Lib.hid hg
              clear hS hg hr hf
              have hS := hS2
              clear hS2
              refine hK _ _ ⟨fun _ => hS, ?_⟩
              clear hK K
              (try simp only [Act.put, List.setIfInBounds_toArray, List.set_cons_zero, List.set_cons_succ])
              refine wpTill_all (rs := [20]) (by kernel_rfl) (by simp) ?_
              intro i hi
              simp only [List.mem_cons, List.not_mem_nil, or_false] at hi
              subst hi
              obtain ⟨v3, W6, hr, hg, hf⟩ := HG5.out.app3 HL3.out
              obtain ⟨Ax3, cx3, ex3⟩ := len_app hg.i3
              subst ex3
              refine wpOp_step rfl (fun K hK => ?_)
              refine step_append_run W5 (by rfl) _ _ _ _ (by rfl) _ _ (by rfl) (by rfl) _ _ hr ?_
              have hS2 := kept3f hS hf HNS3.out
              have HG6 := Lib.hid hg
              clear hS hg hr hf
              have hS := hS2
              clear hS2
              refine hK _ _ ⟨fun _ => hS, ?_⟩
              clear hK K
              (try simp only [Act.put, List.setIfInBounds_toArray, List.set_cons_zero, List.set_cons_succ])
             rotate_left 1
            rotate_left 2
            focus
             refine wpOp_step rfl (fun K hK => ?_)
             go_simp
             have hg := HG2.out.box3
             have hS2 := kept3 hS (.cells #[.int .i64 0] 3)
             obtain ⟨b3, hb3⟩ : ∃ b, W2.heap.size = b := ⟨_, rfl⟩
             obtain ⟨W3, hW3⟩ : ∃ W, W2.alloc (.cells #[.int .i64 0] 3) = W := ⟨_, rfl⟩
             rw [hW3] at hg hS2
             rw [hb3] at hg
             (try simp only [hW3, hb3])
             have HG3 := Lib.hid hg
             clear hS hg hW3 hb3
             have hS := hS2
             clear hS2
             refine hK _ _ ⟨fun _ => hS, ?_⟩
             clear hK K
             (try simp only [Act.put, List.setIfInBounds_toArray, List.set_cons_zero, List.set_cons_succ])
             refine wpTill_all (rs := [8]) (by kernel_rfl) (by simp) ?_
             intro i hi
             simp only [List.mem_cons, List.not_mem_nil, or_false] at hi
             subst hi
             obtain ⟨v1, W4, hr, hg, hf⟩ := HG3.out.app HL1.out
             obtain ⟨Ax1, cx1, ex1⟩ := len_app hg.i1
             subst ex1
             refine wpOp_step rfl (fun K hK => ?_)
             refine step_append_run W3 (by rfl) _ _ _ _ (by rfl) _ _ (by rfl) (by rfl) _ _ hr ?_
             have hS2 := kept3f hS hf HNS1.out
             have HG4 := Lib.hid hg
             clear hS hg hr hf
             have hS := hS2
             clear hS2
             refine hK _ _ ⟨fun _ => hS, ?_⟩
             clear hK K
             (try simp only [Act.put, List.setIfInBounds_toArray, List.set_cons_zero, List.set_cons_succ])
             refine wpTill_all (rs := [14]) (by kernel_rfl) (by simp) ?_
             intro i hi
             simp only [List.mem_cons, List.not_mem_nil, or_false] at hi
             subst hi
             obtain ⟨v2, W5, hr, hg, hf⟩ := HG4.out.app2 HL2.out
             obtain ⟨Ax2, cx2, ex2⟩ := len_app hg.i2
             subst ex2
             refine wpOp_step rfl (fun K hK => ?_)
             refine step_append_run W4 (by rfl) _ _ _ _ (by rfl) _ _ (by rfl) (by rfl) _ _ hr ?_
             have hS2 := kept3f hS hf HNS2.out
             have HG5 := Lib.hid hg
             clear hS hg hr hf
             have hS := hS2
             clear hS2
             refine hK _ _ ⟨fun _ => hS, ?_⟩
             clear hK K
             (try simp only [Act.put, List.setIfInBounds_toArray, List.set_cons_zero, List.set_cons_succ])
             refine wpTill_all (rs := [20]) (by kernel_rfl) (by simp) ?_
             intro i hi
             simp only [List.mem_cons, List.not_mem_nil, or_false] at hi
             subst hi
             obtain ⟨v3, W6, hr, hg, hf⟩ := HG5.out.app3 HL3.out
             obtain ⟨Ax3, cx3, ex3⟩ := len_app hg.i3
             subst ex3
             refine wpOp_step rfl (fun K hK => ?_)
             refine step_append_run W5 (by rfl) _ _ _ _ (by rfl) _ _ (by rfl) (by rfl) _ _ hr ?_
             have hS2 := kept3f hS hf HNS3.out
             have HG6 := Lib.hid hg
             clear hS hg hr hf
             have hS := hS2
             clear hS2
             refine hK _ _ ⟨fun _ => hS, ?_⟩
             clear hK K
             (try simp only [Act.put, List.setIfInBounds_toArray, List.set_cons_zero, List.set_cons_succ])
            rotate_left 1
           rotate_left 3
           focus
            refine wpOp_step rfl (fun K hK => ?_)
            go_simp
            have hg := HG1.out.box3
            have hS2 := kept3 hS (.cells #[.int .i64 0] 3)
            obtain ⟨b2, hb2⟩ : ∃ b, W1.heap.size = b := ⟨_, rfl⟩
            obtain ⟨W2, hW2⟩ : ∃ W, W1.alloc (.cells #[.int .i64 0] 3) = W := ⟨_, rfl⟩
            rw [hW2] at hg hS2
            rw [hb2] at hg
            (try simp only [hW2, hb2])
            have HG2 := Lib.hid hg
            clear hS hg hW2 hb2
            have hS := hS2
            clear hS2
            refine hK _ _ ⟨fun _ => hS, ?_⟩
            clear hK K
            (try simp only [Act.put, List.setIfInBounds_toArray, List.set_cons_zero, List.set_cons_succ])
            refine wpTill_all (rs := [8, 13]) (by kernel_rfl) (by simp) ?_
            intro i hi
            simp only [List.mem_cons, List.not_mem_nil, or_false] at hi
            rcases hi with rfl | rfl
            focus
             obtain ⟨v1, W3, hr, hg, hf⟩ := HG2.out.app HL1.out
             obtain ⟨Ax1, cx1, ex1⟩ := len_app hg.i1
             subst ex1
             refine wpOp_step rfl (fun K hK => ?_)
             refine step_append_run W2 (by rfl) _ _ _ _ (by rfl) _ _ (by rfl) (by rfl) _ _ hr ?_
             have hS2 := kept3f hS hf HNS1.out
             have HG3 := Lib.hid hg
             clear hS hg hr hf
             have hS := hS2
             clear hS2
             refine hK _ _ ⟨fun _ => hS, ?_⟩
             clear hK K
             (try simp only [Act.put, List.setIfInBounds_toArray, List.set_cons_zero, List.set_cons_succ])
             refine wpTill_all (rs := [13]) (by kernel_rfl) (by simp) ?_
             intro i hi
             simp only [List.mem_cons, List.not_mem_nil, or_false] at hi
             subst hi
             refine wpOp_step rfl (fun K hK => ?_)
             go_simp
             have hg := HG3.out.box2
             have hS2 := kept3 hS (.cells #[.int .i64 0] 3)
             obtain ⟨b4, hb4⟩ : ∃ b, W3.heap.size = b := ⟨_, rfl⟩
             obtain ⟨W4, hW4⟩ : ∃ W, W3.alloc (.cells #[.int .i64 0] 3) = W := ⟨_, rfl⟩
             rw [hW4] at hg hS2
             rw [hb4] at hg
             (try simp only [hW4, hb4])
             have HG4 := Lib.hid hg
             clear hS hg hW4 hb4
             have hS := hS2
             clear hS2
             refine hK _ _ ⟨fun _ => hS, ?_⟩
             clear hK K
             (try simp only [Act.put, List.setIfInBounds_toArray, List.set_cons_zero, List.set_cons_succ])
             refine wpTill_all (rs := [14]) (by kernel_rfl) (by simp) ?_
             intro i hi
             simp only [List.mem_cons, List.not_mem_nil, or_false] at hi
             subst hi
             obtain ⟨v2, W5, hr, hg, hf⟩ := HG4.out.app2 HL2.out
             obtain ⟨Ax2, cx2, ex2⟩ := len_app hg.i2
             subst ex2
             refine wpOp_step rfl (fun K hK => ?_)
             refine step_append_run W4 (by rfl) _ _ _ _ (by rfl) _ _ (by rfl) (by rfl) _ _ hr ?_
             have hS2 := kept3f hS hf HNS2.out
             have HG5 := Lib.hid hg
             clear hS hg hr hf
             have hS := hS2
             clear hS2
             refine hK _ _ ⟨fun _ => hS, ?_⟩
             clear hK K
             (try simp only [Act.put, List.setIfInBounds_toArray, List.set_cons_zero, List.set_cons_succ])
             refine wpTill_all (rs := [20]) (by kernel_rfl) (by simp) ?_
             intro i hi
             simp only [List.mem_cons, List.not_mem_nil, or_false] at hi
             subst hi
             obtain ⟨v3, W6, hr, hg, hf⟩ := HG5.out.app3 HL3.out
             obtain ⟨Ax3, cx3, ex3⟩ := len_app hg.i3
             subst ex3
             refine wpOp_step rfl (fun K hK => ?_)
             refine step_append_run W5 (by rfl) _ _ _ _ (by rfl) _ _ (by rfl) (by rfl) _ _ hr ?_
             have hS2 := kept3f hS hf HNS3.out
             have HG6 := Lib.hid hg
             clear hS hg hr hf
             have hS := hS2
             clear hS2
             refine hK _ _ ⟨fun _ => hS, ?_⟩
             clear hK K
             (try simp only [Act.put, List.setIfInBounds_toArray, List.set_cons_zero, List.set_cons_succ])
            rotate_left 1
            focus
             refine wpOp_step rfl (fun K hK => ?_)
             go_simp
             have hg := HG2.out.box2
             have hS2 := kept3 hS (.cells #[.int .i64 0] 3)
             obtain ⟨b3, hb3⟩ : ∃ b, W2.heap.size = b := ⟨_, rfl⟩
             obtain ⟨W3, hW3⟩ : ∃ W, W2.alloc (.cells #[.int .i64 0] 3) = W := ⟨_, rfl⟩
             rw [hW3] at hg hS2
             rw [hb3] at hg
             (try simp only [hW3, hb3])
             have HG3 := Lib.hid hg
             clear hS hg hW3 hb3
             have hS := hS2
             clear hS2
             refine hK _ _ ⟨fun _ => hS, ?_⟩
             clear hK K
             (try simp only [Act.put, List.setIfInBounds_toArray, List.set_cons_zero, List.set_cons_succ])
             refine wpTill_all (rs := [8]) (by kernel_rfl) (by simp) ?_
             intro i hi
             simp only [List.mem_cons, List.not_mem_nil, or_false] at hi
             subst hi
             obtain ⟨v1, W4, hr, hg, hf⟩ := HG3.out.app HL1.out
             obtain ⟨Ax1, cx1, ex1⟩ := len_app hg.i1
             subst ex1
             refine wpOp_step rfl (fun K hK => ?_)
             refine step_append_run W3 (by rfl) _ _ _ _ (by rfl) _ _ (by rfl) (by rfl) _ _ hr ?_
             have hS2 := kept3f hS hf HNS1.out
             have HG4 := Lib.hid hg
             clear hS hg hr hf
             have hS := hS2
             clear hS2
             refine hK _ _ ⟨fun _ => hS, ?_⟩
             clear hK K
             (try simp only [Act.put, List.setIfInBounds_toArray, List.set_cons_zero, List.set_cons_succ])
             refine wpTill_all (rs := [14]) (by kernel_rfl) (by simp) ?_
             intro i hi
             simp only [List.mem_cons, List.not_mem_nil, or_false] at hi
             subst hi
             obtain ⟨v2, W5, hr, hg, hf⟩ := HG4.out.app2 HL2.out
             obtain ⟨Ax2, cx2, ex2⟩ := len_app hg.i2
             subst ex2
             refine wpOp_step rfl (fun K hK => ?_)
             refine step_append_run W4 (by rfl) _ _ _ _ (by rfl) _ _ (by rfl) (by rfl) _ _ hr ?_
             have hS2 := kept3f hS hf HNS2.out
             have HG5 := Lib.hid hg
             clear hS hg hr hf
             have hS := hS2
             clear hS2
             refine hK _ _ ⟨fun _ => hS, ?_⟩
             clear hK K
             (try simp only [Act.put, List.setIfInBounds_toArray, List.set_cons_zero, List.set_cons_succ])
             refine wpTill_all (rs := [20]) (by kernel_rfl) (by simp) ?_
             intro i hi
             simp only [List.mem_cons, List.not_mem_nil, or_false] at hi
             subst hi
             obtain ⟨v3, W6, hr, hg, hf⟩ := HG5.out.app3 HL3.out
             obtain ⟨Ax3, cx3, ex3⟩ := len_app hg.i3
             subst ex3
             refine wpOp_step rfl (fun K hK => ?_)
             refine step_append_run W5 (by rfl) _ _ _ _ (by rfl) _ _ (by rfl) (by rfl) _ _ hr ?_
             have hS2 := kept3f hS hf HNS3.out
             have HG6 := Lib.hid hg
             clear hS hg hr hf
             have hS := hS2
             clear hS2
             refine hK _ _ ⟨fun _ => hS, ?_⟩
             clear hK K
             (try simp only [Act.put, List.setIfInBounds_toArray, List.set_cons_zero, List.set_cons_succ])
            rotate_left 1
           rotate_left 2
          rotate_left 8
          focus
           refine wpOp_step rfl (fun K hK => ?_)
           go_simp
           have hg := HG0.out.box2
           have hS2 := kept3 hS (.cells #[.int .i64 0] 3)
           obtain ⟨b1, hb1⟩ : ∃ b, w3.heap.size = b := ⟨_, rfl⟩
           obtain ⟨W1, hW1⟩ : ∃ W, w3.alloc (.cells #[.int .i64 0] 3) = W := ⟨_, rfl⟩
           rw [hW1] at hg hS2
           rw [hb1] at hg
           (try simp only [hW1, hb1])
           have HG1 := Lib.hid hg
           clear hS hg hW1 hb1
           have hS := hS2
           clear hS2
           refine hK _ _ ⟨fun _ => hS, ?_⟩
           clear hK K
           (try simp only [Act.put, List.setIfInBounds_toArray, List.set_cons_zero, List.set_cons_succ])
           refine wpTill_all (rs := [7, 19]) (by kernel_rfl) (by simp) ?_
           intro i hi
           simp only [List.mem_cons, List.not_mem_nil, or_false] at hi
           rcases hi with rfl | rfl
           focus
            refine wpOp_step rfl (fun K hK => ?_)
            go_simp
            have hg := HG1.out.box
            have hS2 := kept3 hS (.cells #[.int .i64 0] 3)
            obtain ⟨b2, hb2⟩ : ∃ b, W1.heap.size = b := ⟨_, rfl⟩
            obtain ⟨W2, hW2⟩ : ∃ W, W1.alloc (.cells #[.int .i64 0] 3) = W := ⟨_, rfl⟩
            rw [hW2] at hg hS2
            rw [hb2] at hg
            (try simp only [hW2, hb2])
            have HG2 := Lib.hid hg
            clear hS hg hW2 hb2
            have hS := hS2
            clear hS2
            refine hK _ _ ⟨fun _ => hS, ?_⟩
            clear hK K
            (try simp only [Act.put, List.setIfInBounds_toArray, List.set_cons_zero, List.set_cons_succ])
            refine wpTill_all (rs := [8, 19]) (by kernel_rfl) (by simp) ?_
            intro i hi
            simp only [List.mem_cons, List.not_mem_nil, or_false] at hi
            rcases hi with rfl | rfl
            focus
             obtain ⟨v1, W3, hr, hg, hf⟩ := HG2.out.app HL1.out
             obtain ⟨Ax1, cx1, ex1⟩ := len_app hg.i1
             subst ex1
             refine wpOp_step rfl (fun K hK => ?_)
             refine step_append_run W2 (by rfl) _ _ _ _ (by rfl) _ _ (by rfl) (by rfl) _ _ hr ?_
             have hS2 := kept3f hS hf HNS1.out
             have HG3 := Lib.hid hg
             clear hS hg hr hf
             have hS := hS2
             clear hS2
             refine hK _ _ ⟨fun _ => hS, ?_⟩
             clear hK K
             (try simp only [Act.put, List.setIfInBounds_toArray, List.set_cons_zero, List.set_cons_succ])
             refine wpTill_all (rs := [14, 19]) (by kernel_rfl) (by simp) ?_
             intro i hi
             simp only [List.mem_cons, List.not_mem_nil, or_false] at hi
             rcases hi with rfl | rfl
             focus
              obtain ⟨v2, W4, hr, hg, hf⟩ := HG3.out.app2 HL2.out
              obtain ⟨Ax2, cx2, ex2⟩ := len_app hg.i2
              subst ex2
              refine wpOp_step rfl (fun K hK => ?_)
              refine step_append_run W3 (by rfl) _ _ _ _ (by rfl) _ _ (by rfl) (by rfl) _ _ hr ?_
              have hS2 := kept3f hS hf HNS2.out
              have HG4 := Lib.hid hg
              clear hS hg hr hf
              have hS := hS2
              clear hS2
              refine hK _ _ ⟨fun _ => hS, ?_⟩
              clear hK K
              (try simp only [Act.put, List.setIfInBounds_toArray, List.set_cons_zero, List.set_cons_succ])
              refine wpTill_all (rs := [19]) (by kernel_rfl) (by simp) ?_
              intro i hi
              simp only [List.mem_cons, List.not_mem_nil, or_false] at hi
              subst hi
              refine wpOp_step rfl (fun K hK => ?_)
              go_simp
              have hg := HG4.out.box3
              have hS2 := kept3 hS (.cells #[.int .i64 0] 3)
              obtain ⟨b5, hb5⟩ : ∃ b, W4.heap.size = b := ⟨_, rfl⟩
              obtain ⟨W5, hW5⟩ : ∃ W, W4.alloc (.cells #[.int .i64 0] 3) = W := ⟨_, rfl⟩
              rw [hW5] at hg hS2
              rw [hb5] at hg
              (try simp only [hW5, hb5])
              have HG5 := Lib.hid hg
              clear hS hg hW5 hb5
              have hS := hS2
              clear hS2
              refine hK _ _ ⟨fun _ => hS, ?_⟩
              clear hK K
              (try simp only [Act.put, List.setIfInBounds_toArray, List.set_cons_zero, List.set_cons_succ])
              refine wpTill_all (rs := [20]) (by kernel_rfl) (by simp) ?_
              intro i hi
              simp only [List.mem_cons, List.not_mem_nil, or_false] at hi
              subst hi
              obtain ⟨v3, W6, hr, hg, hf⟩ := HG5.out.app3 HL3.out
              obtain ⟨Ax3, cx3, ex3⟩ := len_app hg.i3
              subst ex3
              refine wpOp_step rfl (fun K hK => ?_)
              refine step_append_run W5 (by rfl) _ _ _ _ (by rfl) _ _ (by rfl) (by rfl) _ _ hr ?_
              have hS2 := kept3f hS hf HNS3.out
              have HG6 := Lib.hid hg
              clear hS hg hr hf
              have hS := hS2
              clear hS2
              refine hK _ _ ⟨fun _ => hS, ?_⟩
              clear hK K
              (try simp only [Act.put, List.setIfInBounds_toArray, List.set_cons_zero, List.set_cons_succ])
             rotate_left 1
             focus
              refine wpOp_step rfl (fun K hK => ?_)
              go_simp
              have hg := HG3.out.box3
              have hS2 := kept3 hS (.cells #[.int .i64 0] 3)
              obtain ⟨b4, hb4⟩ : ∃ b, W3.heap.size = b := ⟨_, rfl⟩
              obtain ⟨W4, hW4⟩ : ∃ W, W3.alloc (.cells #[.int .i64 0] 3) = W := ⟨_, rfl⟩
              rw [hW4] at hg hS2
              rw [hb4] at hg
              (try simp only [hW4, hb4])
              have HG4 := Lib.hid hg
              clear hS hg hW4 hb4
              have hS := hS2
              clear hS2
              refine hK _ _ ⟨fun _ => hS, ?_⟩
              clear hK K
              (try simp only [Act.put, List.setIfInBounds_toArray, List.set_cons_zero, List.set_cons_succ])
              refine wpTill_all (rs := [14]) (by kernel_rfl) (by simp) ?_
              intro i hi
              simp only [List.mem_cons, List.not_mem_nil, or_false] at hi
              subst hi
              obtain ⟨v2, W5, hr, hg, hf⟩ := HG4.out.app2 HL2.out
              obtain ⟨Ax2, cx2, ex2⟩ := len_app hg.i2
              subst ex2
              refine wpOp_step rfl (fun K hK => ?_)
              refine step_append_run W4 (by rfl) _ _ _ _ (by rfl) _ _ (by rfl) (by rfl) _ _ hr ?_
              have hS2 := kept3f hS hf HNS2.out
              have HG5 := Lib.hid hg
              clear hS hg hr hf
              have hS := hS2
              clear hS2
              refine hK _ _ ⟨fun _ => hS, ?_⟩
              clear hK K
              (try simp only [Act.put, List.setIfInBounds_toArray, List.set_cons_zero, List.set_cons_succ])
              refine wpTill_all (rs := [20]) (by kernel_rfl) (by simp) ?_
              intro i hi
              simp only [List.mem_cons, List.not_mem_nil, or_false] at hi
              subst hi
              obtain ⟨v3, W6, hr, hg, hf⟩ := HG5.out.app3 HL3.out
              obtain ⟨Ax3, cx3, ex3⟩ := len_app hg.i3
              subst ex3
              refine wpOp_step rfl (fun K hK => ?_)
              refine step_append_run W5 (by rfl) _ _ _ _ (by rfl) _ _ (by rfl) (by rfl) _ _ hr ?_
              have hS2 := kept3f hS hf HNS3.out
              have HG6 := Lib.hid hg
              clear hS hg hr hf
              have hS := hS2
              clear hS2
              refine hK _ _ ⟨fun _ => hS, ?_⟩
              clear hK K
              (try simp only [Act.put, List.setIfInBounds_toArray, List.set_cons_zero, List.set_cons_succ])
             rotate_left 1
            rotate_left 2
            focus
             refine wpOp_step rfl (fun K hK => ?_)
             go_simp
             have hg := HG2.out.box3
             have hS2 := kept3 hS (.cells #[.int .i64 0] 3)
             obtain ⟨b3, hb3⟩ : ∃ b, W2.heap.size = b := ⟨_, rfl⟩
             obtain ⟨W3, hW3⟩ : ∃ W, W2.alloc (.cells #[.int .i64 0] 3) = W := ⟨_, rfl⟩
             rw [hW3] at hg hS2
             rw [hb3] at hg
             (try simp only [hW3, hb3])
             have HG3 := Lib.hid hg
             clear hS hg hW3 hb3
             have hS := hS2
             clear hS2
             refine hK _ _ ⟨fun _ => hS, ?_⟩
             clear hK K
             (try simp only [Act.put, List.setIfInBounds_toArray, List.set_cons_zero, List.set_cons_succ])
             refine wpTill_all (rs := [8]) (by kernel_rfl) (by simp) ?_
             intro i hi
             simp only [List.mem_cons, List.not_mem_nil, or_false] at hi
             subst hi
             obtain ⟨v1, W4, hr, hg, hf⟩ := HG3.out.app HL1.out
             obtain ⟨Ax1, cx1, ex1⟩ := len_app hg.i1
             subst ex1
             refine wpOp_step rfl (fun K hK => ?_)
             refine step_append_run W3 (by rfl) _ _ _ _ (by rfl) _ _ (by rfl) (by rfl) _ _ hr ?_
             have hS2 := kept3f hS hf HNS1.out
             have HG4 := Lib.hid hg
             clear hS hg hr hf
             have hS := hS2
             clear hS2
             refine hK _ _ ⟨fun _ => hS, ?_⟩
             clear hK K
             (try simp only [Act.put, List.setIfInBounds_toArray, List.set_cons_zero, List.set_cons_succ])
             refine wpTill_all (rs := [14]) (by kernel_rfl) (by simp) ?_
             intro i hi
             simp only [List.mem_cons, List.not_mem_nil, or_false] at hi
             subst hi
             obtain ⟨v2, W5, hr, hg, hf⟩ := HG4.out.app2 HL2.out
             obtain ⟨Ax2, cx2, ex2⟩ := len_app hg.i2
             subst ex2
             refine wpOp_step rfl (fun K hK => ?_)
             refine step_append_run W4 (by rfl) _ _ _ _ (by rfl) _ _ (by rfl) (by rfl) _ _ hr ?_
             have hS2 := kept3f hS hf HNS2.out
             have HG5 := Lib.hid hg
             clear hS hg hr hf
             have hS := hS2
             clear hS2
             refine hK _ _ ⟨fun _ => hS, ?_⟩
             clear hK K
             (try simp only [Act.put, List.setIfInBounds_toArray, List.set_cons_zero, List.set_cons_succ])
             refine wpTill_all (rs := [20]) (by kernel_rfl) (by simp) ?_
             intro i hi
             simp only [List.mem_cons, List.not_mem_nil, or_false] at hi
             subst hi
             obtain ⟨v3, W6, hr, hg, hf⟩ := HG5.out.app3 HL3.out
             obtain ⟨Ax3, cx3, ex3⟩ := len_app hg.i3
             subst ex3
             refine wpOp_step rfl (fun K hK => ?_)
             refine step_append_run W5 (by rfl) _ _ _ _ (by rfl) _ _ (by rfl) (by rfl) _ _ hr ?_
             have hS2 := kept3f hS hf HNS3.out
             have HG6 := Lib.hid hg
             clear hS hg hr hf
             have hS := hS2
             clear hS2
             refine hK _ _ ⟨fun _ => hS, ?_⟩
             clear hK K
             (try simp only [Act.put, List.setIfInBounds_toArray, List.set_cons_zero, List.set_cons_succ])
            rotate_left 1
           rotate_left 3
           focus
            refine wpOp_step rfl (fun K hK => ?_)
            go_simp
            have hg := HG1.out.box3
            have hS2 := kept3 hS (.cells #[.int .i64 0] 3)
            obtain ⟨b2, hb2⟩ : ∃ b, W1.heap.size = b := ⟨_, rfl⟩
            obtain ⟨W2, hW2⟩ : ∃ W, W1.alloc (.cells #[.int .i64 0] 3) = W := ⟨_, rfl⟩
            rw [hW2] at hg hS2
            rw [hb2] at hg
            (try simp only [hW2, hb2])
            have HG2 := Lib.hid hg
            clear hS hg hW2 hb2
            have hS := hS2
            clear hS2
            refine hK _ _ ⟨fun _ => hS, ?_⟩
            clear hK K
            (try simp only [Act.put, List.setIfInBounds_toArray, List.set_cons_zero, List.set_cons_succ])
            refine wpTill_all (rs := [7]) (by kernel_rfl) (by simp) ?_
            intro i hi
            simp only [List.mem_cons, List.not_mem_nil, or_false] at hi
            subst hi
            refine wpOp_step rfl (fun K hK => ?_)
            go_simp
            have hg := HG2.out.box
            have hS2 := kept3 hS (.cells #[.int .i64 0] 3)
            obtain ⟨b3, hb3⟩ : ∃ b, W2.heap.size = b := ⟨_, rfl⟩
            obtain ⟨W3, hW3⟩ : ∃ W, W2.alloc (.cells #[.int .i64 0] 3) = W := ⟨_, rfl⟩
            rw [hW3] at hg hS2
            rw [hb3] at hg
            (try simp only [hW3, hb3])
            have HG3 := Lib.hid hg
            clear hS hg hW3 hb3
            have hS := hS2
            clear hS2
            refine hK _ _ ⟨fun _ => hS, ?_⟩
            clear hK K
            (try simp only [Act.put, List.setIfInBounds_toArray, List.set_cons_zero, List.set_cons_succ])
            refine wpTill_all (rs := [8]) (by kernel_rfl) (by simp) ?_
            intro i hi
            simp only [List.mem_cons, List.not_mem_nil, or_false] at hi
            subst hi
            obtain ⟨v1, W4, hr, hg, hf⟩ := HG3.out.app HL1.out
            obtain ⟨Ax1, cx1, ex1⟩ := len_app hg.i1
            subst ex1
            refine wpOp_step rfl (fun K hK => ?_)
            refine step_append_run W3 (by rfl) _ _ _ _ (by rfl) _ _ (by rfl) (by rfl) _ _ hr ?_
            have hS2 := kept3f hS hf HNS1.out
            have HG4 := Lib.hid hg
            clear hS hg hr hf
            have hS := hS2
            clear hS2
            refine hK _ _ ⟨fun _ => hS, ?_⟩
            clear hK K
            (try simp only [Act.put, List.setIfInBounds_toArray, List.set_cons_zero, List.set_cons_succ])
            refine wpTill_all (rs := [14]) (by kernel_rfl) (by simp) ?_
            intro i hi
            simp only [List.mem_cons, List.not_mem_nil, or_false] at hi
            subst hi
            obtain ⟨v2, W5, hr, hg, hf⟩ := HG4.out.app2 HL2.out
            obtain ⟨Ax2, cx2, ex2⟩ := len_app hg.i2
            subst ex2
            refine wpOp_step rfl (fun K hK => ?_)
            refine step_append_run W4 (by rfl) _ _ _ _ (by rfl) _ _ (by rfl) (by rfl) _ _ hr ?_
            have hS2 := kept3f hS hf HNS2.out
            have HG5 := Lib.hid hg
            clear hS hg hr hf
            have hS := hS2
            clear hS2
            refine hK _ _ ⟨fun _ => hS, ?_⟩
            clear hK K
            (try simp only [Act.put, List.setIfInBounds_toArray, List.set_cons_zero, List.set_cons_succ])
            refine wpTill_all (rs := [20]) (by kernel_rfl) (by simp) ?_
            intro i hi
            simp only [List.mem_cons, List.not_mem_nil, or_false] at hi
            subst hi
            obtain ⟨v3, W6, hr, hg, hf⟩ := HG5.out.app3 HL3.out
            obtain ⟨Ax3, cx3, ex3⟩ := len_app hg.i3
            subst ex3
            refine wpOp_step rfl (fun K hK => ?_)
            refine step_append_run W5 (by rfl) _ _ _ _ (by rfl) _ _ (by rfl) (by rfl) _ _ hr ?_
            have hS2 := kept3f hS hf HNS3.out
            have HG6 := Lib.hid hg
            clear hS hg hr hf
            have hS := hS2
            clear hS2
            refine hK _ _ ⟨fun _ => hS, ?_⟩
            clear hK K
            (try simp only [Act.put, List.setIfInBounds_toArray, List.set_cons_zero, List.set_cons_succ])
           rotate_left 1
          rotate_left 4
          focus
           refine wpOp_step rfl (fun K hK => ?_)
           go_simp
           have hg := HG0.out.box3
           have hS2 := kept3 hS (.cells #[.int .i64 0] 3)
           obtain ⟨b1, hb1⟩ : ∃ b, w3.heap.size = b := ⟨_, rfl⟩
           obtain ⟨W1, hW1⟩ : ∃ W, w3.alloc (.cells #[.int .i64 0] 3) = W := ⟨_, rfl⟩
           rw [hW1] at hg hS2
           rw [hb1] at hg
           (try simp only [hW1, hb1])
           have HG1 := Lib.hid hg
           clear hS hg hW1 hb1
           have hS := hS2
           clear hS2
           refine hK _ _ ⟨fun _ => hS, ?_⟩
           clear hK K
           (try simp only [Act.put, List.setIfInBounds_toArray, List.set_cons_zero, List.set_cons_succ])
           refine wpTill_all (rs := [7, 13]) (by kernel_rfl) (by simp) ?_
           intro i hi
           simp only [List.mem_cons, List.not_mem_nil, or_false] at hi
           rcases hi with rfl | rfl
           focus
            refine wpOp_step rfl (fun K hK => ?_)
            go_simp
            have hg := HG1.out.box
            have hS2 := kept3 hS (.cells #[.int .i64 0] 3)
            obtain ⟨b2, hb2⟩ : ∃ b, W1.heap.size = b := ⟨_, rfl⟩
            obtain ⟨W2, hW2⟩ : ∃ W, W1.alloc (.cells #[.int .i64 0] 3) = W := ⟨_, rfl⟩
            rw [hW2] at hg hS2
            rw [hb2] at hg
            (try simp only [hW2, hb2])
            have HG2 := Lib.hid hg
            clear hS hg hW2 hb2
            have hS := hS2
            clear hS2
            refine hK _ _ ⟨fun _ => hS, ?_⟩
            clear hK K
            (try simp only [Act.put, List.setIfInBounds_toArray, List.set_cons_zero, List.set_cons_succ])
            refine wpTill_all (rs := [8, 13]) (by kernel_rfl) (by simp) ?_
            intro i hi
            simp only [List.mem_cons, List.not_mem_nil, or_false] at hi
            rcases hi with rfl | rfl
            focus
             obtain ⟨v1, W3, hr, hg, hf⟩ := HG2.out.app HL1.out
             obtain ⟨Ax1, cx1, ex1⟩ := len_app hg.i1
             subst ex1
             refine wpOp_step rfl (fun K hK => ?_)
             refine step_append_run W2 (by rfl) _ _ _ _ (by rfl) _ _ (by rfl) (by rfl) _ _ hr ?_
             have hS2 := kept3f hS hf HNS1.out
             have HG3 := Lib.hid hg
             clear hS hg hr hf
             have hS := hS2
             clear hS2
             refine hK _ _ ⟨fun _ => hS, ?_⟩
             clear hK K
             (try simp only [Act.put, List.setIfInBounds_toArray, List.set_cons_zero, List.set_cons_succ])
             refine wpTill_all (rs := [13]) (by kernel_rfl) (by simp) ?_
             intro i hi
             simp only [List.mem_cons, List.not_mem_nil, or_false] at hi
             subst hi
             refine wpOp_step rfl (fun K hK => ?_)
             go_simp
             have hg := HG3.out.box2
             have hS2 := kept3 hS (.cells #[.int .i64 0] 3)
             obtain ⟨b4, hb4⟩ : ∃ b, W3.heap.size = b := ⟨_, rfl⟩
             obtain ⟨W4, hW4⟩ : ∃ W, W3.alloc (.cells #[.int .i64 0] 3) = W := ⟨_, rfl⟩
             rw [hW4] at hg hS2
             rw [hb4] at hg
             (try simp only [hW4, hb4])
             have HG4 := Lib.hid hg
             clear hS hg hW4 hb4
             have hS := hS2
             clear hS2
             refine hK _ _ ⟨fun _ => hS, ?_⟩
             clear hK K
             (try simp only [Act.put, List.setIfInBounds_toArray, List.set_cons_zero, List.set_cons_succ])
             refine wpTill_all (rs := [14]) (by kernel_rfl) (by simp) ?_
             intro i hi
             simp only [List.mem_cons, List.not_mem_nil, or_false] at hi
             subst hi
             obtain ⟨v2, W5, hr, hg, hf⟩ := HG4.out.app2 HL2.out
             obtain ⟨Ax2, cx2, ex2⟩ := len_app hg.i2
             subst ex2
             refine wpOp_step rfl (fun K hK => ?_)
             refine step_append_run W4 (by rfl) _ _ _ _ (by rfl) _ _ (by rfl) (by rfl) _ _ hr ?_
             have hS2 := kept3f hS hf HNS2.out
             have HG5 := Lib.hid hg
             clear hS hg hr hf
             have hS := hS2
             clear hS2
             refine hK _ _ ⟨fun _ => hS, ?_⟩
             clear hK K
             (try simp only [Act.put, List.setIfInBounds_toArray, List.set_cons_zero, List.set_cons_succ])
             refine wpTill_all (rs := [20]) (by kernel_rfl) (by simp) ?_
             intro i hi
             simp only [List.mem_cons, List.not_mem_nil, or_false] at hi
             subst hi
             obtain ⟨v3, W6, hr, hg, hf⟩ := HG5.out.app3 HL3.out
             obtain ⟨Ax3, cx3, ex3⟩ := len_app hg.i3
             subst ex3
             refine wpOp_step rfl (fun K hK => ?_)
             refine step_append_run W5 (by rfl) _ _ _ _ (by rfl) _ _ (by rfl) (by rfl) _ _ hr ?_
             have hS2 := kept3f hS hf HNS3.out
             have HG6 := Lib.hid hg
             clear hS hg hr hf
             have hS := hS2
             clear hS2
             refine hK _ _ ⟨fun _ => hS, ?_⟩
             clear hK K
             (try simp only [Act.put, List.setIfInBounds_toArray, List.set_cons_zero, List.set_cons_succ])
            rotate_left 1
            focus
             refine wpOp_step rfl (fun K hK => ?_)
             go_simp
             have hg := HG2.out.box2
             have hS2 := kept3 hS (.cells #[.int .i64 0] 3)
             obtain ⟨b3, hb3⟩ : ∃ b, W2.heap.size = b := ⟨_, rfl⟩
             obtain ⟨W3, hW3⟩ : ∃ W, W2.alloc (.cells #[.int .i64 0] 3) = W := ⟨_, rfl⟩
             rw [hW3] at hg hS2
             rw [hb3] at hg
             (try simp only [hW3, hb3])
             have HG3 := Lib.hid hg
             clear hS hg hW3 hb3
             have hS := hS2
             clear hS2
             refine hK _ _ ⟨fun _ => hS, ?_⟩
             clear hK K
             (try simp only [Act.put, List.setIfInBounds_toArray, List.set_cons_zero, List.set_cons_succ])
             refine wpTill_all (rs := [8]) (by kernel_rfl) (by simp) ?_
             intro i hi
             simp only [List.mem_cons, List.not_mem_nil, or_false] at hi
             subst hi
             obtain ⟨v1, W4, hr, hg, hf⟩ := HG3.out.app HL1.out
             obtain ⟨Ax1, cx1, ex1⟩ := len_app hg.i1
             subst ex1
             refine wpOp_step rfl (fun K hK => ?_)
             refine step_append_run W3 (by rfl) _ _ _ _ (by rfl) _ _ (by rfl) (by rfl) _ _ hr ?_
             have hS2 := kept3f hS hf HNS1.out
             have HG4 := Lib.hid hg
             clear hS hg hr hf
             have hS := hS2
             clear hS2
             refine hK _ _ ⟨fun _ => hS, ?_⟩
             clear hK K
             (try simp only [Act.put, List.setIfInBounds_toArray, List.set_cons_zero, List.set_cons_succ])
             refine wpTill_all (rs := [14]) (by kernel_rfl) (by simp) ?_
             intro i hi
             simp only [List.mem_cons, List.not_mem_nil, or_false] at hi
             subst hi
             obtain ⟨v2, W5, hr, hg, hf⟩ := HG4.out.app2 HL2.out
             obtain ⟨Ax2, cx2, ex2⟩ := len_app hg.i2
             subst ex2
             refine wpOp_step rfl (fun K hK => ?_)
             refine step_append_run W4 (by rfl) _ _ _ _ (by rfl) _ _ (by rfl) (by rfl) _ _ hr ?_
             have hS2 := kept3f hS hf HNS2.out
             have HG5 := Lib.hid hg
             clear hS hg hr hf
             have hS := hS2
             clear hS2
             refine hK _ _ ⟨fun _ => hS, ?_⟩
             clear hK K
             (try simp only [Act.put, List.setIfInBounds_toArray, List.set_cons_zero, List.set_cons_succ])
             refine wpTill_all (rs := [20]) (by kernel_rfl) (by simp) ?_
             intro i hi
             simp only [List.mem_cons, List.not_mem_nil, or_false] at hi
             subst hi
             obtain ⟨v3, W6, hr, hg, hf⟩ := HG5.out.app3 HL3.out
             obtain ⟨Ax3, cx3, ex3⟩ := len_app hg.i3
             subst ex3
             refine wpOp_step rfl (fun K hK => ?_)
             refine step_append_run W5 (by rfl) _ _ _ _ (by rfl) _ _ (by rfl) (by rfl) _ _ hr ?_
             have hS2 := kept3f hS hf HNS3.out
             have HG6 := Lib.hid hg
             clear hS hg hr hf
             have hS := hS2
             clear hS2
             refine hK _ _ ⟨fun _ => hS, ?_⟩
             clear hK K
             (try simp only [Act.put, List.setIfInBounds_toArray, List.set_cons_zero, List.set_cons_succ])
            rotate_left 1
           rotate_left 2
           focus
            refine wpOp_step rfl (fun K hK => ?_)
            go_simp
            have hg := HG1.out.box2
            have hS2 := kept3 hS (.cells #[.int .i64 0] 3)
            obtain ⟨b2, hb2⟩ : ∃ b, W1.heap.size = b := ⟨_, rfl⟩
            obtain ⟨W2, hW2⟩ : ∃ W, W1.alloc (.cells #[.int .i64 0] 3) = W := ⟨_, rfl⟩
            rw [hW2] at hg hS2
            rw [hb2] at hg
            (try simp only [hW2, hb2])
            have HG2 := Lib.hid hg
            clear hS hg hW2 hb2
            have hS := hS2
            clear hS2
            refine hK _ _ ⟨fun _ => hS, ?_⟩
            clear hK K
            (try simp only [Act.put, List.setIfInBounds_toArray, List.set_cons_zero, List.set_cons_succ])
            refine wpTill_all (rs := [7]) (by kernel_rfl) (by simp) ?_
            intro i hi
            simp only [List.mem_cons, List.not_mem_nil, or_false] at hi
            subst hi
            refine wpOp_step rfl (fun K hK => ?_)
            go_simp
            have hg := HG2.out.box
            have hS2 := kept3 hS (.cells #[.int .i64 0] 3)
            obtain ⟨b3, hb3⟩ : ∃ b, W2.heap.size = b := ⟨_, rfl⟩
            obtain ⟨W3, hW3⟩ : ∃ W, W2.alloc (.cells #[.int .i64 0] 3) = W := ⟨_, rfl⟩
            rw [hW3] at hg hS2
            rw [hb3] at hg
            (try simp only [hW3, hb3])
            have HG3 := Lib.hid hg
            clear hS hg hW3 hb3
            have hS := hS2
            clear hS2
            refine hK _ _ ⟨fun _ => hS, ?_⟩
            clear hK K
            (try simp only [Act.put, List.setIfInBounds_toArray, List.set_cons_zero, List.set_cons_succ])
            refine wpTill_all (rs := [8]) (by kernel_rfl) (by simp) ?_
            intro i hi
            simp only [List.mem_cons, List.not_mem_nil, or_false] at hi
            subst hi
            obtain ⟨v1, W4, hr, hg, hf⟩ := HG3.out.app HL1.out
            obtain ⟨Ax1, cx1, ex1⟩ := len_app hg.i1
            subst ex1
            refine wpOp_step rfl (fun K hK => ?_)
            refine step_append_run W3 (by rfl) _ _ _ _ (by rfl) _ _ (by rfl) (by rfl) _ _ hr ?_
            have hS2 := kept3f hS hf HNS1.out
            have HG4 := Lib.hid hg
            clear hS hg hr hf
            have hS := hS2
            clear hS2
            refine hK _ _ ⟨fun _ => hS, ?_⟩
            clear hK K
            (try simp only [Act.put, List.setIfInBounds_toArray, List.set_cons_zero, List.set_cons_succ])
            refine wpTill_all (rs := [14]) (by kernel_rfl) (by simp) ?_
            intro i hi
            simp only [List.mem_cons, List.not_mem_nil, or_false] at hi
            subst hi
            obtain ⟨v2, W5, hr, hg, hf⟩ := HG4.out.app2 HL2.out
            obtain ⟨Ax2, cx2, ex2⟩ := len_app hg.i2
            subst ex2
            refine wpOp_step rfl (fun K hK => ?_)
            refine step_append_run W4 (by rfl) _ _ _ _ (by rfl) _ _ (by rfl) (by rfl) _ _ hr ?_
            have hS2 := kept3f hS hf HNS2.out
            have HG5 := Lib.hid hg
            clear hS hg hr hf
            have hS := hS2
            clear hS2
            refine hK _ _ ⟨fun _ => hS, ?_⟩
            clear hK K
            (try simp only [Act.put, List.setIfInBounds_toArray, List.set_cons_zero, List.set_cons_succ])
            refine wpTill_all (rs := [20]) (by kernel_rfl) (by simp) ?_
            intro i hi
            simp only [List.mem_cons, List.not_mem_nil, or_false] at hi
            subst hi
            obtain ⟨v3, W6, hr, hg, hf⟩ := HG5.out.app3 HL3.out
            obtain ⟨Ax3, cx3, ex3⟩ := len_app hg.i3
            subst ex3
            refine wpOp_step rfl (fun K hK => ?_)
            refine step_append_run W5 (by rfl) _ _ _ _ (by rfl) _ _ (by rfl) (by rfl) _ _ hr ?_
            have hS2 := kept3f hS hf HNS3.out
            have HG6 := Lib.hid hg
            clear hS hg hr hf
            have hS := hS2
            clear hS2
            refine hK _ _ ⟨fun _ => hS, ?_⟩
            clear hK K
            (try simp only [Act.put, List.setIfInBounds_toArray, List.set_cons_zero, List.set_cons_succ])
           rotate_left 1
          rotate_left 3
          all_goals
           have hb := HG6.out.blk H2.out.blk H2.out.op H2.out.oz H2.out.oc (by decide)
           have kk2 : W6.cell? ⟨s, 2, none⟩ = some (.slice Ap P.length cp) := by simp [World.cell?, hb]
           have kkf2 : W6.frozen? ⟨s, 2, none⟩ = false := by simp [World.frozen?, hb]
           have kk3 : W6.cell? ⟨s, 3, none⟩ = some (.slice Az Z.length cz) := by simp [World.cell?, hb]
           have kkf3 : W6.frozen? ⟨s, 3, none⟩ = false := by simp [World.frozen?, hb]
           have kk4 : W6.cell? ⟨s, 4, none⟩ = some (.slice Ac C.length cc) := by simp [World.cell?, hb]
           have kkf4 : W6.frozen? ⟨s, 4, none⟩ = false := by simp [World.frozen?, hb]
           clear hb
           refine wpTill_pure (i := 21) (v := .pointer (some ⟨s, 0, none⟩)) rfl (by kernel_rfl) (by kernel_rfl) (by kernel_rfl) (fun _ _ _ h => h) (T3_set (by decide) (by decide) (by decide)) (Or.inl ⟨by rfl, ?_⟩) (fun _ => hS) ?_
           · intro w; go_simp; try rfl
           (try simp only [Act.put, List.setIfInBounds_toArray, List.set_cons_zero, List.set_cons_succ])
           refine wpTill_pure (i := 22) (v := .pointer (some ⟨s, 2, none⟩)) rfl (by kernel_rfl) (by kernel_rfl) (by kernel_rfl) (fun _ _ _ h => h) (T3_set (by decide) (by decide) (by decide)) (Or.inl ⟨by rfl, ?_⟩) (fun _ => hS) ?_
           · intro w; go_simp; try rfl
           (try simp only [Act.put, List.setIfInBounds_toArray, List.set_cons_zero, List.set_cons_succ])
           refine wpTill_all (rs := [23]) (by kernel_rfl) (by simp) ?_
           intro i hi
           simp only [List.mem_cons, List.not_mem_nil, or_false] at hi
           subst hi
           refine wpOp_step rfl (fun K hK => ?_)
           go_simp
           refine hK _ _ ⟨(fun h => Bool.noConfusion (h.symm.trans (by kernel_rfl : T3 _ = true))), ?_⟩
           clear hK K
           (try simp only [Act.put, List.setIfInBounds_toArray, List.set_cons_zero, List.set_cons_succ])
           refine wpTill_pure (i := 24) (v := .pointer (some ⟨s, 0, none⟩)) rfl (by kernel_rfl) (by kernel_rfl) (by kernel_rfl) (fun _ _ _ h => h) (T3_set (by decide) (by decide) (by decide)) (Or.inl ⟨by rfl, ?_⟩) (fun h => Bool.noConfusion (h.symm.trans (by kernel_rfl : T3 _ = true))) ?_
           · intro w; go_simp; try rfl
           (try simp only [Act.put, List.setIfInBounds_toArray, List.set_cons_zero, List.set_cons_succ])
           refine wpTill_pure (i := 25) (v := .pointer (some ⟨s, 3, none⟩)) rfl (by kernel_rfl) (by kernel_rfl) (by kernel_rfl) (fun _ _ _ h => h) (T3_set (by decide) (by decide) (by decide)) (Or.inl ⟨by rfl, ?_⟩) (fun h => Bool.noConfusion (h.symm.trans (by kernel_rfl : T3 _ = true))) ?_
           · intro w; go_simp; try rfl
           (try simp only [Act.put, List.setIfInBounds_toArray, List.set_cons_zero, List.set_cons_succ])
           refine wpTill_all (rs := [26]) (by kernel_rfl) (by simp) ?_
           intro i hi
           simp only [List.mem_cons, List.not_mem_nil, or_false] at hi
           subst hi
           refine wpOp_step rfl (fun K hK => ?_)
           go_simp
           refine hK _ _ ⟨(fun h => Bool.noConfusion (h.symm.trans (by kernel_rfl : T3 _ = true))), ?_⟩
           clear hK K
           (try simp only [Act.put, List.setIfInBounds_toArray, List.set_cons_zero, List.set_cons_succ])
           refine wpTill_pure (i := 27) (v := .pointer (some ⟨s, 0, none⟩)) rfl (by kernel_rfl) (by kernel_rfl) (by kernel_rfl) (fun _ _ _ h => h) (T3_set (by decide) (by decide) (by decide)) (Or.inl ⟨by rfl, ?_⟩) (fun h => Bool.noConfusion (h.symm.trans (by kernel_rfl : T3 _ = true))) ?_
           · intro w; go_simp; try rfl
           (try simp only [Act.put, List.setIfInBounds_toArray, List.set_cons_zero, List.set_cons_succ])
           refine wpTill_pure (i := 28) (v := .pointer (some ⟨s, 4, none⟩)) rfl (by kernel_rfl) (by kernel_rfl) (by kernel_rfl) (fun _ _ _ h => h) (T3_set (by decide) (by decide) (by decide)) (Or.inl ⟨by rfl, ?_⟩) (fun h => Bool.noConfusion (h.symm.trans (by kernel_rfl : T3 _ = true))) ?_
           · intro w; go_simp; try rfl
           (try simp only [Act.put, List.setIfInBounds_toArray, List.set_cons_zero, List.set_cons_succ])
           refine wpTill_all (rs := [29]) (by kernel_rfl) (by simp) ?_
           intro i hi
           simp only [List.mem_cons, List.not_mem_nil, or_false] at hi
           subst hi
           refine wpOp_step rfl (fun K hK => ?_)
           go_simp
           refine hK _ _ ⟨(fun h => Bool.noConfusion (h.symm.trans (by kernel_rfl : T3 _ = true))), ?_⟩
           clear hK K
           (try simp only [Act.put, List.setIfInBounds_toArray, List.set_cons_zero, List.set_cons_succ])
           refine wpTill_done (by kernel_rfl) ?_ _
           go_wp2_with (fail)
           go_meet
           exact ⟨rfl, _, _, _, _, _, _, Lib.hid (g3_end H2.out HG6.out)⟩
        case rest =>
          obtain ⟨rfl, A1, d1, A2, d2, A3, d3, HE⟩ := hcut
          have HS : Hid (StG wc s (.slice Ab B1.length cb) (.slice A1 (P1.length + 1) d1) (.slice A2 (Z.length + 1) d2) (.slice A3 (C.length + 1) d3) most B1 (P1 ++ [0]) (Z ++ [0]) (C ++ [0])) := Lib.hid ⟨HE.out.blk, HE.out.ob, HE.out.o1, HE.out.o2, HE.out.o3, HE.out.a1, HE.out.a2, HE.out.a3, by simp [H2.out.lp], by simp [H2.out.lz]⟩
          have HIX : Hid (C.length ≤ 1000000) := Lib.hid (by omega)
          have HLT : Hid (C.length < (C ++ [0]).length) := Lib.hid (by simp)
          have HFN : Hid (StO (n + 1) (B1 ++ b) ((P1 ++ [0]).set C.length (B1.length : Int)) ((Z ++ [0]).set C.length (b.length : Int)) ((C ++ [0]).set C.length 1)) := Lib.hid (by
            have h1 := HO3.out.push HB1.out.1 HB1.out.2.1 HBL.out
            have e : ∀ (l : List Int) (x : Int) (m : Nat), l.length = m → (l ++ [0]).set m x = l ++ [x] := fun l x m hm => by subst hm; simp
            rw [e P1 _ _ H2.out.lp, e Z _ _ H2.out.lz, e C _ _ rfl]
            exact h1)
          have HFC : Hid (Fr w wc (StB s (.slice Ab0 B.length cb0) (.slice Ap P.length cp) (.slice Az Z.length cz) (.slice Ac C.length cc))) := Lib.hid (HF3.out.then_ HE.out.fr (fun k hk _ => by
            rcases hk with e | e | e | e
            · exact .inl e
            · exact .inr (.inr (.inl e))
            · exact .inr (.inr (.inr (.inl e)))
            · exact .inr (.inr (.inr (.inr e)))))
          have HCV : Hid (∀ k, StB s (.slice Ab B1.length cb) (.slice A1 (P1.length + 1) d1) (.slice A2 (Z.length + 1) d2) (.slice A3 (C.length + 1) d3) k → StB s (.slice Ab0 B.length cb0) (.slice Ap P.length cp) (.slice Az Z.length cz) (.slice Ac C.length cc) k ∨ w.heap.size ≤ k) := Lib.hid (fun k hk => by
            have sz := HF3.out.size
            rcases hk with e | e | e | e | e
            · exact .inl (.inl e)
            · exact (HCB.out k e).imp (fun e => .inr (.inl e)) id
            · exact (HE.out.n1 k e).imp (fun e => .inr (.inr (.inl e))) (fun h => Nat.le_trans sz h)
            · exact (HE.out.n2 k e).imp (fun e => .inr (.inr (.inr (.inl e)))) (fun h => Nat.le_trans sz h)
            · exact (HE.out.n3 k e).imp (fun e => .inr (.inr (.inr (.inr e)))) (fun h => Nat.le_trans sz h))
          clear HE H2 HF3 HCB e1
          clear k0 kf0 k1 kf1 k2 kf2 k3 kf3 k4 kf4
          skip
          obtain ⟨g1, hg1, _, hc1⟩ := HS.out.op.cellAt (by rw [iw_length, HS.out.lp]; have := HLT.out; omega)
          obtain ⟨g2, hg2, _, hc2⟩ := HS.out.oz.cellAt (by rw [iw_length, HS.out.lz]; have := HLT.out; omega)
          obtain ⟨g3, hg3, _, hc3⟩ := HS.out.oc.cellAt (by rw [iw_length]; have := HLT.out; omega)
          (first | subst hg1 | (injection hg1 with hg1; injection hg1 with hg1; replace hg1 := hg1.symm; subst hg1))
          (first | subst hg2 | (injection hg2 with hg2; injection hg2 with hg2; replace hg2 := hg2.symm; subst hg2))
          (first | subst hg3 | (injection hg3 with hg3; injection hg3 with hg3; replace hg3 := hg3.symm; subst hg3))
          have r1 := hc1 (C.length) (by rw [iw_length, HS.out.lp]; exact HLT.out)
          have r2 := hc2 (C.length) (by rw [iw_length, HS.out.lz]; exact HLT.out)
          have r3 := hc3 (C.length) (by rw [iw_length]; exact HLT.out)
          rw [iw_get (by rw [HS.out.lp]; exact HLT.out)] at r1
          rw [iw_get (by rw [HS.out.lz]; exact HLT.out)] at r2
          rw [iw_get HLT.out] at r3
          obtain ⟨x1, hx1⟩ : ∃ x, (P1 ++ [0]).getD (C.length) 0 = x := ⟨_, rfl⟩
          obtain ⟨x2, hx2⟩ : ∃ x, (Z ++ [0]).getD (C.length) 0 = x := ⟨_, rfl⟩
          obtain ⟨x3, hx3⟩ : ∃ x, (C ++ [0]).getD (C.length) 0 = x := ⟨_, rfl⟩
          rw [hx1] at r1
          rw [hx2] at r2
          rw [hx3] at r3
          obtain ⟨r1, rf1⟩ := r1
          obtain ⟨r2, rf2⟩ := r2
          obtain ⟨r3, rf3⟩ := r3
          have n12 : g1 ≠ g2 := fun e => HS.out.a1 g1 (in_blk _ _ _) (by rw [e]; exact in_blk _ _ _)
          have n13 : g1 ≠ g3 := fun e => HS.out.a2 g1 (in_blk _ _ _) (by rw [e]; exact in_blk _ _ _)
          have n23 : g2 ≠ g3 := fun e => HS.out.a3 g2 (in_blk _ _ _) (by rw [e]; exact in_blk _ _ _)
          have n1s : g1 ≠ s := fun e => HS.out.op.not_box HS.out.blk (by decide) (by rw [e]; exact in_blk _ _ _)
          have n2s : g2 ≠ s := fun e => HS.out.oz.not_box HS.out.blk (by decide) (by rw [e]; exact in_blk _ _ _)
          have n3s : g3 ≠ s := fun e => HS.out.oc.not_box HS.out.blk (by decide) (by rw [e]; exact in_blk _ _ _)
          have m12 := Ne.symm n12
          have m13 := Ne.symm n13
          have m23 := Ne.symm n23
          have m1s := Ne.symm n1s
          have m2s := Ne.symm n2s
          have m3s := Ne.symm n3s
          have hN1 : (iw (P1 ++ [0])).length = (P1.length + 1) := by
            obtain ⟨A', c', e⟩ := HS.out.op.rd.len
            injection e with _ e
            exact e.symm
          have hN2 : (iw (Z ++ [0])).length = (Z.length + 1) := by
            obtain ⟨A', c', e⟩ := HS.out.oz.rd.len
            injection e with _ e
            exact e.symm
          have hN3 : (iw (C ++ [0])).length = (C.length + 1) := by
            obtain ⟨A', c', e⟩ := HS.out.oc.rd.len
            injection e with _ e
            exact e.symm
          rw [iw_length] at hN1 hN2 hN3
          have hlt := HLT.out
          have hlp2 := HS.out.lp
          have hlz2 := HS.out.lz
          have q1 : ((C.length : Nat) : Int) < (((P1.length + 1) : Nat) : Int) := by rw [← hN1]; omega
          have q2 : ((C.length : Nat) : Int) < (((Z.length + 1) : Nat) : Int) := by rw [← hN2]; omega
          have q3 : ((C.length : Nat) : Int) < (((C.length + 1) : Nat) : Int) := by rw [← hN3]; omega
          have q1' := q1
          have q2' := q2
          have q3' := q3
          push_cast at q1' q2' q3'
          clear hc1 hc2 hc3 hx1 hx2 hx3 hN1 hN2 hN3 hlt hlp2 hlz2
          have k0 : wc.cell? ⟨s, 0, none⟩ = some (.slice Ab B1.length cb) := by simp [World.cell?, HS.out.blk]
          have kf0 : wc.frozen? ⟨s, 0, none⟩ = false := by simp [World.frozen?, HS.out.blk]
          have k1 : wc.cell? ⟨s, 1, none⟩ = some (.int .i64 most) := by simp [World.cell?, HS.out.blk]
          have kf1 : wc.frozen? ⟨s, 1, none⟩ = false := by simp [World.frozen?, HS.out.blk]
          have k2 : wc.cell? ⟨s, 2, none⟩ = some (.slice (some ⟨g1, 0, none⟩) (P1.length + 1) d1) := by simp [World.cell?, HS.out.blk]
          have kf2 : wc.frozen? ⟨s, 2, none⟩ = false := by simp [World.frozen?, HS.out.blk]
          have k3 : wc.cell? ⟨s, 3, none⟩ = some (.slice (some ⟨g2, 0, none⟩) (Z.length + 1) d2) := by simp [World.cell?, HS.out.blk]
          have kf3 : wc.frozen? ⟨s, 3, none⟩ = false := by simp [World.frozen?, HS.out.blk]
          have k4 : wc.cell? ⟨s, 4, none⟩ = some (.slice (some ⟨g3, 0, none⟩) (C.length + 1) d3) := by simp [World.cell?, HS.out.blk]
          have kf4 : wc.frozen? ⟨s, 4, none⟩ = false := by simp [World.frozen?, HS.out.blk]
          go_upto_region 12 with (fail)
          go_region_held3 (fun w' => w'.cell? ⟨s, 0, none⟩ = some (.slice Ab B1.length cb) ∧ w'.cell? ⟨s, 2, none⟩ = some (.slice (some ⟨g1, 0, none⟩) (P1.length + 1) d1) ∧ w'.cell? ⟨s, 3, none⟩ = some (.slice (some ⟨g2, 0, none⟩) (Z.length + 1) d2) ∧ w'.cell? ⟨s, 4, none⟩ = some (.slice (some ⟨g3, 0, none⟩) (C.length + 1) d3)) (go_keep) (fail)
          all_goals
            have H5 := HS.out.set3 HLT.out (B1.length : Int) (b.length : Int) 1
            obtain ⟨w5, hw5⟩ : ∃ w5, ((((wc.setCell ⟨g1, C.length, none⟩ (.int .i64 (B1.length : Int))).setCell ⟨g2, C.length, none⟩ (.int .i64 (b.length : Int))).setCell ⟨g3, C.length, none⟩ (.int .i64 1)).drew) = w5 := ⟨_, rfl⟩
            rw [hw5] at H5
            (try simp only [hw5])
            have HG5 := Lib.hid H5.1
            have HF5 : Hid (Fr w w5 (StB s (.slice Ab0 B.length cb0) (.slice Ap P.length cp) (.slice Az Z.length cz) (.slice Ac C.length cc))) := Lib.hid (HFC.out.then_ H5.2 (fun k hk hl => by
              have h1 : StB s (.slice Ab0 B.length cb0) (.slice Ap P.length cp) (.slice Az Z.length cz) (.slice Ac C.length cc) k ∨ w.heap.size ≤ k := by
                rcases hk with e | e | e
                · exact HCV.out k (.inr (.inr (.inl (by rw [e]; exact in_blk _ _ _))))
                · exact HCV.out k (.inr (.inr (.inr (.inl (by rw [e]; exact in_blk _ _ _)))))
                · exact HCV.out k (.inr (.inr (.inr (.inr (by rw [e]; exact in_blk _ _ _)))))
              rcases h1 with h1 | h1
              · exact h1
              · exact absurd hl (by omega)))
            have HR5 := Lib.hid (HBR.out.keep HF5.out (fun k hk => HAP.out k hk))
            obtain ⟨i0, hi0, hz0, hz1, hzb⟩ := info_parts infoU8
            obtain ⟨bv', w6, hrun, ho6, hg6, hn6⟩ := run_append_rd (P := Tryd.prog) w5 24 24 5 i0 (.int .u8 0) Tryd.underlying24 hi0 hz0 hz1 (by omega) rfl _ _ (nw .u8 B1) (nw .u8 b) HG5.out.ob HR5.out (nw_one .u8 b) (by rw [nw_length, nw_length]; have := HB1.out; have := HBL.out; omega)
            have eBb : nw .u8 B1 ++ nw .u8 b = nw .u8 (B1 ++ b) := by simp [nw]
            rw [eBb] at ho6
            obtain ⟨A6, c6, e6⟩ := ho6.rd.len
            rw [nw_length, List.length_append] at e6
            subst e6
            have HO6 := Lib.hid ho6
            have HN6 := Lib.hid hn6
            have HF6 : Hid (Fr w5 w6 (fun k => InBlk (.slice Ab B1.length cb) k)) := Lib.hid ((Fr.refl w5 _).grown hg6 (fun k hk _ => hk))
            have nsb : ¬ InBlk (.slice Ab B1.length cb) s := fun e => HG5.out.ob.not_box HG5.out.blk (by decide) e
            have hb6 := HF6.out.blk HG5.out.blk nsb
            have HB6 := Lib.hid hb6
            clear k0 kf0 k1 kf1 k2 kf2 k3 kf3 k4 kf4 r1 r2 r3 rf1 rf2 rf3 hw5 H5 ho6 hn6 hg6 eBb n12 n13 n23 n1s n2s n3s m12 m13 m23 m1s m2s m3s q1 q2 q3 q1' q2' q3' nsb
            have kb0 : w5.cell? ⟨s, 0, none⟩ = some (.slice Ab B1.length cb) := HG5.out.cells.1
            have kc0 : w6.cell? ⟨s, 0, none⟩ = some (.slice Ab B1.length cb) := by simp [World.cell?, hb6]
            have kcf : w6.frozen? ⟨s, 0, none⟩ = false := by simp [World.frozen?, hb6]
            clear hb6
            go_wp2_with (at_builtin; refine Lib.wpList_append_run _ rfl _ _ _ _ rfl _ _ rfl rfl _ w6 hrun ?_)
            go_ret2
            exact gr_end HG5.out HFN.out HF5.out HF6.out HO6.out HN6.out HCV.out HIX.out
set_option maxRecDepth 100000 in
set_option maxHeartbeats 16000000 in
theorem grant_again (n s : Nat) (Ab0 Ap Az Ac : Option Addr) (cb0 cp cz cc : Nat) (most : Int) (B P Z C b : List Int) (A : Option Addr) (cap : Nat) (w : World) (h : StG w s (.slice Ab0 B.length cb0) (.slice Ap P.length cp) (.slice Az Z.length cz) (.slice Ac C.length cc) most B P Z C) (ho : StO n B P Z C) (hn : n ≤ 2000) (hb : Rd w (.slice A b.length cap) (nw .u8 b)) (h0 : 0 < b.length) (hb1 : b.length ≤ 4096)
  (apb : ∀ k, InBlk (.slice A b.length cap) k → ¬ StB s (.slice Ab0 B.length cb0) (.slice Ap P.length cp) (.slice Az Z.length cz) (.slice Ac C.length cc) k)  (hm : 0 ≤ most ∧ most ≤ 1048576) (hlv : ¬ most - b.length < liveTo Z C C.length) (hex : ∃ j, j < C.length ∧ ¬ 0 < C.getD j 0) :
  Calls Tryd.prog 15 #[.pointer (some ⟨s, 0, none⟩), .slice A b.length cap] w fun e w' => GraA n w w' s (.slice Ab0 B.length cb0) (.slice Ap P.length cp) (.slice Az Z.length cz) (.slice Ac C.length cc) most e := by
 have H := Lib.hid h
 have HO := Lib.hid ho
 have HNN := Lib.hid hn
 have hz : smallZ Z := fun z hz => by have := ho.z z hz; omega
 have lC := ho.ln
 obtain ⟨lv, hlvv⟩ : ∃ lv, liveTo Z C C.length = lv := ⟨_, rfl⟩
 have hlb := liveTo_bd hz C C.length
 rw [hlvv] at hlb
 have qlb0 := hlb.1
 have qlb1 : lv ≤ 8192000 := by omega
 have HBR := Lib.hid hb
 have HAP := Lib.hid apb
 have HB1 : Hid (0 < b.length ∧ b.length ≤ 4096 ∧ most ≤ 1048576 ∧ C.length ≤ 2000) := Lib.hid ⟨h0, hb1, hm.2, by omega⟩
 have m0 := hm.1
 have m1 := hm.2
 have qb0 : (0 : Int) < b.length := by omega
 have qb1 : (b.length : Int) ≤ 4096 := by omega
 have qB : (B.length : Int) ≤ 8388608 := ho.lb
 have qC : (C.length : Int) ≤ 2000 := by omega
 have d0 : (b.length == 0) = false := beq_eq_false_iff_ne.2 (by omega)
 have d0' : ((b.length : Int) == 0) = false := beq_eq_false_iff_ne.2 (by omega)
 have hw1 : IntKind.i64.wrap (most - (b.length : Int)) = most - b.length := IntWalk.i64_in _ (by omega)
 have HLQ : Hid (∀ n, Calls Tryd.prog 44 #[.pointer (some ⟨s, 0, none⟩)] (w.drewN n) fun e w' => e = .returned (.int .i64 lv) ∧ w' = w.drewN n) := Lib.hid (fun n => by
  have h2 := slive_c s _ _ _ _ most B P Z C (w.drewN n) (h.fr ((Fr.refl w (fun _ => False)).drewN n)) hz (by omega)
  rw [hlvv] at h2
  exact h2.mono fun e w' hh => ⟨hh.1, hh.2.symm⟩)
 have k0 : w.cell? ⟨s, 0, none⟩ = some (.slice Ab0 B.length cb0) := by simp [World.cell?, h.blk]
 have kf0 : w.frozen? ⟨s, 0, none⟩ = false := by simp [World.frozen?, h.blk]
 have k1 : w.cell? ⟨s, 1, none⟩ = some (.int .i64 most) := by simp [World.cell?, h.blk]
 have kf1 : w.frozen? ⟨s, 1, none⟩ = false := by simp [World.frozen?, h.blk]
 have k2 : w.cell? ⟨s, 2, none⟩ = some (.slice Ap P.length cp) := by simp [World.cell?, h.blk]
 have kf2 : w.frozen? ⟨s, 2, none⟩ = false := by simp [World.frozen?, h.blk]
 have k3 : w.cell? ⟨s, 3, none⟩ = some (.slice Az Z.length cz) := by simp [World.cell?, h.blk]
 have kf3 : w.frozen? ⟨s, 3, none⟩ = false := by simp [World.frozen?, h.blk]
 have k4 : w.cell? ⟨s, 4, none⟩ = some (.slice Ac C.length cc) := by simp [World.cell?, h.blk]
 have kf4 : w.frozen? ⟨s, 4, none⟩ = false := by simp [World.frozen?, h.blk]
 rw [hlvv] at hlv
 have HEX := Lib.hid hex
 clear hex
 clear h hb hz hlvv h0 hb1 apb hm ho hn lC hlb
 have d1 : decide (most - (b.length : Int) < lv) = false := decide_eq_false hlv
 have HLV := Lib.hid hlv
 clear hlv
 go_enter Tryd.func15, Tryd.ntmps15
 go_upto_region 3 with (fail)
 go_quiet ((go_at_call 44; exact Calls.quiet_of_same (HLQ.out _)))
 have H1 := Lib.hid (H.out.fr ((Fr.refl w (fun _ => False)).drewN nq))
 have HF1 := Lib.hid ((Fr.refl w (fun _ => False)).drewN nq)
 obtain ⟨w1, hw1_⟩ : ∃ w1, w.drewN nq = w1 := ⟨_, rfl⟩
 rw [hw1_] at H1 HF1
 (try simp only [hw1_])
 clear hw1_
 clear k0 kf0 k1 kf1 k2 kf2 k3 kf3 k4 kf4
 have k0 : w1.cell? ⟨s, 0, none⟩ = some (.slice Ab0 B.length cb0) := by simp [World.cell?, H1.out.blk]
 have kf0 : w1.frozen? ⟨s, 0, none⟩ = false := by simp [World.frozen?, H1.out.blk]
 have k1 : w1.cell? ⟨s, 1, none⟩ = some (.int .i64 most) := by simp [World.cell?, H1.out.blk]
 have kf1 : w1.frozen? ⟨s, 1, none⟩ = false := by simp [World.frozen?, H1.out.blk]
 have k2 : w1.cell? ⟨s, 2, none⟩ = some (.slice Ap P.length cp) := by simp [World.cell?, H1.out.blk]
 have kf2 : w1.frozen? ⟨s, 2, none⟩ = false := by simp [World.frozen?, H1.out.blk]
 have k3 : w1.cell? ⟨s, 3, none⟩ = some (.slice Az Z.length cz) := by simp [World.cell?, H1.out.blk]
 have kf3 : w1.frozen? ⟨s, 3, none⟩ = false := by simp [World.frozen?, H1.out.blk]
 have k4 : w1.cell? ⟨s, 4, none⟩ = some (.slice Ac C.length cc) := by simp [World.cell?, H1.out.blk]
 have kf4 : w1.frozen? ⟨s, 4, none⟩ = false := by simp [World.frozen?, H1.out.blk]
 go_upto_region 5 with (fail)
 go_quiet (fail)
 have H2 := Lib.hid (H1.out.fr ((Fr.refl w1 (fun _ => False)).drewN nq))
 have HF2 := Lib.hid (HF1.out.trans ((Fr.refl w1 (fun _ => False)).drewN nq))
 obtain ⟨w2, hw2_⟩ : ∃ w2, w1.drewN nq = w2 := ⟨_, rfl⟩
 rw [hw2_] at H2 HF2
 (try simp only [hw2_])
 clear hw2_ d1 hw1
 clear k0 kf0 k1 kf1 k2 kf2 k3 kf3 k4 kf4
 have k0 : w2.cell? ⟨s, 0, none⟩ = some (.slice Ab0 B.length cb0) := by simp [World.cell?, H2.out.blk]
 have kf0 : w2.frozen? ⟨s, 0, none⟩ = false := by simp [World.frozen?, H2.out.blk]
 have k1 : w2.cell? ⟨s, 1, none⟩ = some (.int .i64 most) := by simp [World.cell?, H2.out.blk]
 have kf1 : w2.frozen? ⟨s, 1, none⟩ = false := by simp [World.frozen?, H2.out.blk]
 have k2 : w2.cell? ⟨s, 2, none⟩ = some (.slice Ap P.length cp) := by simp [World.cell?, H2.out.blk]
 have kf2 : w2.frozen? ⟨s, 2, none⟩ = false := by simp [World.frozen?, H2.out.blk]
 have k3 : w2.cell? ⟨s, 3, none⟩ = some (.slice Az Z.length cz) := by simp [World.cell?, H2.out.blk]
 have kf3 : w2.frozen? ⟨s, 3, none⟩ = false := by simp [World.frozen?, H2.out.blk]
 have k4 : w2.cell? ⟨s, 4, none⟩ = some (.slice Ac C.length cc) := by simp [World.cell?, H2.out.blk]
 have kf4 : w2.frozen? ⟨s, 4, none⟩ = false := by simp [World.frozen?, H2.out.blk]
 go_upto_if 32 with (fail)
 go_cut [34] (fun a34 wx => ∃ (Ab : Option Addr) (cb : Nat) (B1 P1 : List Int), Hid (StG wx s (.slice Ab B1.length cb) (.slice Ap P.length cp) (.slice Az Z.length cz) (.slice Ac C.length cc) most B1 P1 Z C) ∧ Hid (StO n B1 P1 Z C) ∧ Hid ((B1.length : Int) + b.length ≤ 8388608) ∧ Hid (Fr w wx (StB s (.slice Ab0 B.length cb0) (.slice Ap P.length cp) (.slice Az Z.length cz) (.slice Ac C.length cc))) ∧ Hid (∀ k, InBlk (.slice Ab B1.length cb) k → InBlk (.slice Ab0 B.length cb0) k ∨ w.heap.size ≤ k))
 case first =>
  by_cases hd : most - b.length < B.length
  ·have d2 : decide (most - (b.length : Int) < (B.length : Int)) = true := decide_eq_true hd
   go_wp2_with (first
    | (go_at_call 45; (with_reducible refine (sslide_c n s _ _ _ _ most B P Z C _ H2.out HO.out (by have := HNN.out; omega)).mono ?_); rintro e w3 ⟨r, bv', B1, P1, rfl, hst, hso, htt, hf, hnb⟩; have HST := Lib.hid hst; have HSO := Lib.hid hso; have HTT := Lib.hid htt; have HF := Lib.hid hf; have HNB := Lib.hid hnb; clear hst hso htt hf hnb))
   go_meet
   obtain ⟨Ax, cx, e⟩ := HST.out.ob.rd.len
   rw [nw_length] at e
   subst e
   exact ⟨Ax, cx, B1, P1, HST, HSO, Lib.hid (by have h1 := HTT.out; have h2 := tot_bd (Z := Z) (C := C) HO.out.z; have h3 := HB1.out; omega), Lib.hid ((HF2.out.mono (fun _ h _ => h.elim)).then_ HF.out (fun k hk _ => hk.elim (fun e => .inl e) (fun e => .inr (.inr (.inl e))))), Lib.hid (fun k hk => .inr (Nat.le_trans HF2.out.size (HNB.out k hk)))⟩
  ·have d2 : decide (most - (b.length : Int) < (B.length : Int)) = false := decide_eq_false hd
   have HD := Lib.hid hd
   clear hd
   go_wp2
   go_meet
   exact ⟨Ab0, cb0, B, P, H2, HO, Lib.hid (by have h1 := HD.out; have h3 := HB1.out; omega), Lib.hid (HF2.out.mono (fun _ h _ => h.elim)), Lib.hid (fun k hk => .inl hk)⟩
 case rest =>
  obtain ⟨Ab, cb, B1, P1, H3, HO3, HBL, HF3, HCB⟩ := hcut
  clear k0 kf0 k1 kf1 k2 kf2 k3 kf3 k4 kf4
  clear H H1 H2 HF1 HF2 HO HLQ HLV
  obtain ⟨w2, rfl⟩ : ∃ w2, w2 = wc := ⟨_, rfl⟩
  have H2 := H3
  clear H3
  have HL0 : Hid (C.length ≤ 1048576) := Lib.hid (by omega)
  have HL1 : Hid (P1.length ≤ 1073741823) := Lib.hid (by have := H2.out.lp; omega)
  have HL2 : Hid (Z.length ≤ 1073741823) := Lib.hid (by have := H2.out.lz; omega)
  have HL3 : Hid (C.length ≤ 1073741823) := Lib.hid (by omega)
  have k0 : w2.cell? ⟨s, 0, none⟩ = some (.slice Ab B1.length cb) := by simp [World.cell?, H2.out.blk]
  have kf0 : w2.frozen? ⟨s, 0, none⟩ = false := by simp [World.frozen?, H2.out.blk]
  have k1 : w2.cell? ⟨s, 1, none⟩ = some (.int .i64 most) := by simp [World.cell?, H2.out.blk]
  have kf1 : w2.frozen? ⟨s, 1, none⟩ = false := by simp [World.frozen?, H2.out.blk]
  have k2 : w2.cell? ⟨s, 2, none⟩ = some (.slice Ap P.length cp) := by simp [World.cell?, H2.out.blk]
  have kf2 : w2.frozen? ⟨s, 2, none⟩ = false := by simp [World.frozen?, H2.out.blk]
  have k3 : w2.cell? ⟨s, 3, none⟩ = some (.slice Az Z.length cz) := by simp [World.cell?, H2.out.blk]
  have kf3 : w2.frozen? ⟨s, 3, none⟩ = false := by simp [World.frozen?, H2.out.blk]
  have k4 : w2.cell? ⟨s, 4, none⟩ = some (.slice Ac C.length cc) := by simp [World.cell?, H2.out.blk]
  have kf4 : w2.frozen? ⟨s, 4, none⟩ = false := by simp [World.frozen?, H2.out.blk]
  go_wp2
  go_loopg [6] C.length (fun g a6 wr => ∃ i : Nat, a6 = .int .i64 i ∧ g + i = C.length ∧ w2 = wr ∧ Hid (∀ j, j < i → 0 < C.getD j 0))
  case atStart => exact ⟨0, rfl, by omega, rfl, Lib.hid (fun j hj => absurd hj (by omega))⟩
  case round =>
   obtain ⟨i, rfl, hgi, rfl, HAL⟩ := hrel
   have HGI := Lib.hid hgi
   clear hgi
   by_cases hi : i < C.length
   ·have HIL := Lib.hid hi
    have e1 : decide (i < C.length) = true := decide_eq_true hi
    have qi : (i : Int) < C.length := by omega
    obtain ⟨gc, hgc, _, hcc⟩ := H2.out.oc.cellAt (by rw [iw_length]; omega)
    have ck := (hcc i (by rw [iw_length]; exact hi)).1
    rw [iw_get hi] at ck
    obtain ⟨c, hce⟩ : ∃ c, C.getD i 0 = c := ⟨_, rfl⟩
    rw [hce] at ck
    have HCE := Lib.hid hce
    subst hgc
    clear hcc hce hi
    by_cases hpos : 0 < c
    ·have HPO := Lib.hid hpos
     have e2 : decide (0 < c) = true := decide_eq_true hpos
     clear hpos
     go_wp2
     go_roundg (gk - 1)
     case measure => have := HGI.out; have := HIL.out; omega
     case rel => exact ⟨i + 1, by first | rfl | go_num, by have := HGI.out; have := HIL.out; omega, rfl, Lib.hid (fun j hj => by
       by_cases e : j = i
       ·rw [e, HCE.out]; exact HPO.out
       ·exact HAL.out j (by omega))⟩
    ·have e2 : decide (0 < c) = false := decide_eq_false hpos
     have e3 : ((i : Int) == (C.length : Int)) = false := by simp; have := HIL.out; omega
     have e4 : (i == C.length) = false := by simp; have := HIL.out; omega
     have HIX : Hid (i ≤ 1000000) := Lib.hid (by have := HIL.out; omega)
     have HLT : Hid (i < C.length) := HIL
     have HFN : Hid (StO (n + 1) (B1 ++ b) (P1.set i (B1.length : Int)) (Z.set i (b.length : Int)) (C.set i 1)) := Lib.hid ((HO3.out.again HIL.out (by rw [HCE.out]; exact hpos) HB1.out.1 HB1.out.2.1 HBL.out).mono (by omega))
     clear hpos
     go_upto_region 12 with (fail)
     obtain ⟨wc, hwc⟩ : ∃ wc, wc = w2 := ⟨_, rfl⟩
     have HS : Hid (StG wc s (.slice Ab B1.length cb) (.slice Ap P.length cp) (.slice Az Z.length cz) (.slice (some ⟨gc, 0, none⟩) C.length cc) most B1 P1 Z C) := Lib.hid (by rw [hwc]; exact H2.out)
     have HFC : Hid (Fr w wc (StB s (.slice Ab0 B.length cb0) (.slice Ap P.length cp) (.slice Az Z.length cz) (.slice (some ⟨gc, 0, none⟩) C.length cc))) := Lib.hid (by rw [hwc]; exact HF3.out)
     have HCV : Hid (∀ k, StB s (.slice Ab B1.length cb) (.slice Ap P.length cp) (.slice Az Z.length cz) (.slice (some ⟨gc, 0, none⟩) C.length cc) k → StB s (.slice Ab0 B.length cb0) (.slice Ap P.length cp) (.slice Az Z.length cz) (.slice (some ⟨gc, 0, none⟩) C.length cc) k ∨ w.heap.size ≤ k) := Lib.hid (fun k hk => by
      rcases hk with e | e | e
      ·exact .inl (.inl e)
      ·exact (HCB.out k e).imp (fun e => .inr (.inl e)) id
      ·exact .inl (.inr (.inr e)))
     rw [← hwc]
     clear hwc e1 e2 e3 e4 ck
     clear k0 kf0 k1 kf1 k2 kf2 k3 kf3 k4 kf4
     obtain ⟨g1, hg1, _, hc1⟩ := HS.out.op.cellAt (by rw [iw_length, HS.out.lp]; have := HLT.out; omega)
     obtain ⟨g2, hg2, _, hc2⟩ := HS.out.oz.cellAt (by rw [iw_length, HS.out.lz]; have := HLT.out; omega)
     obtain ⟨g3, hg3, _, hc3⟩ := HS.out.oc.cellAt (by rw [iw_length]; have := HLT.out; omega)
     (first | subst hg1 | (injection hg1 with hg1; injection hg1 with hg1; replace hg1 := hg1.symm; subst hg1))
     (first | subst hg2 | (injection hg2 with hg2; injection hg2 with hg2; replace hg2 := hg2.symm; subst hg2))
     (first | subst hg3 | (injection hg3 with hg3; injection hg3 with hg3; replace hg3 := hg3.symm; subst hg3))
     have r1 := hc1 (i) (by rw [iw_length, HS.out.lp]; exact HLT.out)
     have r2 := hc2 (i) (by rw [iw_length, HS.out.lz]; exact HLT.out)
     have r3 := hc3 (i) (by rw [iw_length]; exact HLT.out)
     rw [iw_get (by rw [HS.out.lp]; exact HLT.out)] at r1
     rw [iw_get (by rw [HS.out.lz]; exact HLT.out)] at r2
     rw [iw_get HLT.out] at r3
     obtain ⟨x1, hx1⟩ : ∃ x, (P1).getD (i) 0 = x := ⟨_, rfl⟩
     obtain ⟨x2, hx2⟩ : ∃ x, (Z).getD (i) 0 = x := ⟨_, rfl⟩
     obtain ⟨x3, hx3⟩ : ∃ x, (C).getD (i) 0 = x := ⟨_, rfl⟩
     rw [hx1] at r1
     rw [hx2] at r2
     rw [hx3] at r3
     obtain ⟨r1, rf1⟩ := r1
     obtain ⟨r2, rf2⟩ := r2
     obtain ⟨r3, rf3⟩ := r3
     have n12 : g1 ≠ g2 := fun e => HS.out.a1 g1 (in_blk _ _ _) (by rw [e]; exact in_blk _ _ _)
     have n13 : g1 ≠ g3 := fun e => HS.out.a2 g1 (in_blk _ _ _) (by rw [e]; exact in_blk _ _ _)
     have n23 : g2 ≠ g3 := fun e => HS.out.a3 g2 (in_blk _ _ _) (by rw [e]; exact in_blk _ _ _)
     have n1s : g1 ≠ s := fun e => HS.out.op.not_box HS.out.blk (by decide) (by rw [e]; exact in_blk _ _ _)
     have n2s : g2 ≠ s := fun e => HS.out.oz.not_box HS.out.blk (by decide) (by rw [e]; exact in_blk _ _ _)
     have n3s : g3 ≠ s := fun e => HS.out.oc.not_box HS.out.blk (by decide) (by rw [e]; exact in_blk _ _ _)
     have m12 := Ne.symm n12
     have m13 := Ne.symm n13
     have m23 := Ne.symm n23
     have m1s := Ne.symm n1s
     have m2s := Ne.symm n2s
     have m3s := Ne.symm n3s
     have hN1 : (iw (P1)).length = P.length := by
      obtain ⟨A', c', e⟩ := HS.out.op.rd.len
      injection e with _ e
      exact e.symm
     have hN2 : (iw (Z)).length = Z.length := by
      obtain ⟨A', c', e⟩ := HS.out.oz.rd.len
      injection e with _ e
      exact e.symm
     have hN3 : (iw (C)).length = C.length := by
      obtain ⟨A', c', e⟩ := HS.out.oc.rd.len
      injection e with _ e
      exact e.symm
     rw [iw_length] at hN1 hN2 hN3
     have hlt := HLT.out
     have hlp2 := HS.out.lp
     have hlz2 := HS.out.lz
     have q1 : ((i : Nat) : Int) < ((P.length : Nat) : Int) := by rw [← hN1]; omega
     have q2 : ((i : Nat) : Int) < ((Z.length : Nat) : Int) := by rw [← hN2]; omega
     have q3 : ((i : Nat) : Int) < ((C.length : Nat) : Int) := by rw [← hN3]; omega
     have q1' := q1
     have q2' := q2
     have q3' := q3
     push_cast at q1' q2' q3'
     clear hc1 hc2 hc3 hx1 hx2 hx3 hN1 hN2 hN3 hlt hlp2 hlz2
     have k0 : wc.cell? ⟨s, 0, none⟩ = some (.slice Ab B1.length cb) := by simp [World.cell?, HS.out.blk]
     have kf0 : wc.frozen? ⟨s, 0, none⟩ = false := by simp [World.frozen?, HS.out.blk]
     have k1 : wc.cell? ⟨s, 1, none⟩ = some (.int .i64 most) := by simp [World.cell?, HS.out.blk]
     have kf1 : wc.frozen? ⟨s, 1, none⟩ = false := by simp [World.frozen?, HS.out.blk]
     have k2 : wc.cell? ⟨s, 2, none⟩ = some (.slice (some ⟨g1, 0, none⟩) P.length cp) := by simp [World.cell?, HS.out.blk]
     have kf2 : wc.frozen? ⟨s, 2, none⟩ = false := by simp [World.frozen?, HS.out.blk]
     have k3 : wc.cell? ⟨s, 3, none⟩ = some (.slice (some ⟨g2, 0, none⟩) Z.length cz) := by simp [World.cell?, HS.out.blk]
     have kf3 : wc.frozen? ⟨s, 3, none⟩ = false := by simp [World.frozen?, HS.out.blk]
     have k4 : wc.cell? ⟨s, 4, none⟩ = some (.slice (some ⟨g3, 0, none⟩) C.length cc) := by simp [World.cell?, HS.out.blk]
     have kf4 : wc.frozen? ⟨s, 4, none⟩ = false := by simp [World.frozen?, HS.out.blk]
     go_upto_region 12 with (fail)
     go_region_held3 (fun w' => w'.cell? ⟨s, 0, none⟩ = some (.slice Ab B1.length cb) ∧ w'.cell? ⟨s, 2, none⟩ = some (.slice (some ⟨g1, 0, none⟩) P.length cp) ∧ w'.cell? ⟨s, 3, none⟩ = some (.slice (some ⟨g2, 0, none⟩) Z.length cz) ∧ w'.cell? ⟨s, 4, none⟩ = some (.slice (some ⟨g3, 0, none⟩) C.length cc)) (go_keep) (fail)
     all_goals
      have H5 := HS.out.set3 HLT.out (B1.length : Int) (b.length : Int) 1
      obtain ⟨w5, hw5⟩ : ∃ w5, ((((wc.setCell ⟨g1, i, none⟩ (.int .i64 (B1.length : Int))).setCell ⟨g2, i, none⟩ (.int .i64 (b.length : Int))).setCell ⟨g3, i, none⟩ (.int .i64 1)).drew) = w5 := ⟨_, rfl⟩
      rw [hw5] at H5
      (try simp only [hw5])
      have HG5 := Lib.hid H5.1
      have HF5 : Hid (Fr w w5 (StB s (.slice Ab0 B.length cb0) (.slice (some ⟨g1, 0, none⟩) P.length cp) (.slice (some ⟨g2, 0, none⟩) Z.length cz) (.slice (some ⟨g3, 0, none⟩) C.length cc))) := Lib.hid (HFC.out.then_ H5.2 (fun k hk hl => by
       have h1 : StB s (.slice Ab0 B.length cb0) (.slice (some ⟨g1, 0, none⟩) P.length cp) (.slice (some ⟨g2, 0, none⟩) Z.length cz) (.slice (some ⟨g3, 0, none⟩) C.length cc) k ∨ w.heap.size ≤ k := by
        rcases hk with e | e | e
        ·exact HCV.out k (.inr (.inr (.inl (by rw [e]; exact in_blk _ _ _))))
        ·exact HCV.out k (.inr (.inr (.inr (.inl (by rw [e]; exact in_blk _ _ _)))))
        ·exact HCV.out k (.inr (.inr (.inr (.inr (by rw [e]; exact in_blk _ _ _)))))
       rcases h1 with h1 | h1
       ·exact h1
       ·exact absurd hl (by omega)))
      have HR5 := Lib.hid (HBR.out.keep HF5.out (fun k hk => HAP.out k hk))
      obtain ⟨i0, hi0, hz0, hz1, hzb⟩ := info_parts infoU8
      obtain ⟨bv', w6, hrun, ho6, hg6, hn6⟩ := run_append_rd (P := Tryd.prog) w5 24 24 5 i0 (.int .u8 0) Tryd.underlying24 hi0 hz0 hz1 (by omega) rfl _ _ (nw .u8 B1) (nw .u8 b) HG5.out.ob HR5.out (nw_one .u8 b) (by rw [nw_length, nw_length]; have := HB1.out; have := HBL.out; omega)
      have eBb : nw .u8 B1 ++ nw .u8 b = nw .u8 (B1 ++ b) := by simp [nw]
      rw [eBb] at ho6
      obtain ⟨A6, c6, e6⟩ := ho6.rd.len
      rw [nw_length, List.length_append] at e6
      subst e6
      have HO6 := Lib.hid ho6
      have HN6 := Lib.hid hn6
      have HF6 : Hid (Fr w5 w6 (fun k => InBlk (.slice Ab B1.length cb) k)) := Lib.hid ((Fr.refl w5 _).grown hg6 (fun k hk _ => hk))
      have nsb : ¬ InBlk (.slice Ab B1.length cb) s := fun e => HG5.out.ob.not_box HG5.out.blk (by decide) e
      have hb6 := HF6.out.blk HG5.out.blk nsb
      have HB6 := Lib.hid hb6
      clear k0 kf0 k1 kf1 k2 kf2 k3 kf3 k4 kf4 r1 r2 r3 rf1 rf2 rf3 hw5 H5 ho6 hn6 hg6 eBb n12 n13 n23 n1s n2s n3s m12 m13 m23 m1s m2s m3s q1 q2 q3 q1' q2' q3' nsb
      have kb0 : w5.cell? ⟨s, 0, none⟩ = some (.slice Ab B1.length cb) := HG5.out.cells.1
      have kc0 : w6.cell? ⟨s, 0, none⟩ = some (.slice Ab B1.length cb) := by simp [World.cell?, hb6]
      have kcf : w6.frozen? ⟨s, 0, none⟩ = false := by simp [World.frozen?, hb6]
      clear hb6
      go_wp2_with (at_builtin; refine Lib.wpList_append_run _ rfl _ _ _ _ rfl _ _ rfl rfl _ w6 hrun ?_)
      go_ret2
      exact gr_end HG5.out HFN.out HF5.out HF6.out HO6.out HN6.out HCV.out HIX.out
   ·exact absurd HEX.out (fun ⟨j, hj, h0⟩ => by have h9 := HAL.out j (by omega); omega)
theorem grant_c (n s : Nat) (bv pv zv cv : Value) (most : Int) (B P Z C b : List Int) (A : Option Addr) (cap : Nat) (w : World) (h : StG w s bv pv zv cv most B P Z C) (ho : StO n B P Z C) (hn : n ≤ 2000) (hb : Rd w (.slice A b.length cap) (nw .u8 b)) (h0 : 0 < b.length) (hb1 : b.length ≤ 4096)
  (apb : ∀ k, InBlk (.slice A b.length cap) k → ¬ StB s bv pv zv cv k) (hm : 0 ≤ most ∧ most ≤ 1048576) :
  Calls Tryd.prog 15 #[.pointer (some ⟨s, 0, none⟩), .slice A b.length cap] w fun e w' => GraA n w w' s bv pv zv cv most e := by
 obtain ⟨Ab, cb, rfl⟩ := h.ob.rd.len
 obtain ⟨Ap, cp, rfl⟩ := h.op.rd.len
 obtain ⟨Az, cz, rfl⟩ := h.oz.rd.len
 obtain ⟨Ac, cc, rfl⟩ := h.oc.rd.len
 simp only [iw_length, nw_length] at h apb ⊢
 by_cases hlv : most - b.length < liveTo Z C C.length
 ·exact grant_no n s Ab Ap Az Ac cb cp cz cc most B P Z C b A cap w h ho hn hb h0 hb1 apb hm hlv
 ·by_cases hall : ∀ c ∈ C, 0 < c
  ·exact grant_all n s Ab Ap Az Ac cb cp cz cc most B P Z C b A cap w h ho hn hb h0 hb1 apb hm hlv hall
  ·refine grant_again n s Ab Ap Az Ac cb cp cz cc most B P Z C b A cap w h ho hn hb h0 hb1 apb hm hlv ?_
   refine Classical.byContradiction (fun hne => hall (fun c hc => ?_))
   obtain ⟨j, hj, e⟩ := List.getElem_of_mem hc
   refine Classical.byContradiction (fun h0 => hne ⟨j, hj, ?_⟩)
   rw [List.getD_eq_getElem?_getD, List.getElem?_eq_getElem hj, Option.getD_some, e]
   exact h0
end Go.Proofs.YtjiaaefpepdoeaaDoor
