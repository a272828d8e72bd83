/-
  TEXTS JOINED FOR A CLAIM (SlideKnown): Mov Dwn Up Liv Gon Lvw Mks Msn Sli Sr Slno Mwd Aw12 Aw14 Map1 Kn14. What each proves, and under which conditions, stands at its head. Conditions: none beyond those.
-/
import Derived.Test.YtjiaaefpepdoeaaZ2SlideKnown
import Derived.Test.YtjiaaefpepdoeaaZ3SlideKnown
import Derived.Test.YtjiaaefpepdoeaaZ0SlideKnown
import Derived.IntWalk
import Derived.Outline
import Derived.Deep.LoopGhost
import Derived.Deep.RegionHeld3
import Derived.Maps.OwnOps
import Derived.Maps.OwnSet
import Derived.Test.YtjiaaefpepdoeaaZ1SlideKnown
/-
  CONTRACT: the slider's move. Conditions: from a place not below the other, within the words.
-/
namespace Go.Proofs.Ytjiaaefpepdoeaa
open Go.RowKit Md
set_option linter.unusedVariables false
/-- The slider: its arena, its roots, what stays, the headers. -/
def Sld (W : World) (sp p : Nat) (xv lv hv : Value) : Prop := W.heap[sp]? = some (.cells #[.pointer (some ⟨p, 0, none⟩), xv, lv, hv] 124 (0, 0))
section
variable {W W1 : World} {sp p : Nat} {xv lv hv : Value} {S : Nat → Prop}
theorem Sld.c0 (h : Sld W sp p xv lv hv) : W.cell? ⟨sp, 0, none⟩ = some (.pointer (some ⟨p, 0, none⟩)) := by unfold Sld at h; simp [World.cell?, h]
theorem Sld.c1 (h : Sld W sp p xv lv hv) : W.cell? ⟨sp, 1, none⟩ = some xv := by unfold Sld at h; simp [World.cell?, h]
theorem Sld.c2 (h : Sld W sp p xv lv hv) : W.cell? ⟨sp, 2, none⟩ = some lv := by unfold Sld at h; simp [World.cell?, h]
theorem Sld.c3 (h : Sld W sp p xv lv hv) : W.cell? ⟨sp, 3, none⟩ = some hv := by unfold Sld at h; simp [World.cell?, h]
theorem Sld.keep (h : Sld W sp p xv lv hv) (hf : Fr W W1 S) (hn : ¬ S sp) : Sld W1 sp p xv lv hv := hf.blk h hn
theorem Sld.not_own {e : TypeId} {v : Value} {xs : List Value} (h : Sld W sp p xv lv hv) (k : Own W e v xs) (ne : 124 ≠ e) : ¬ InBlk v sp := k.not_box h ne
end
set_option maxRecDepth 100000 in
set_option maxHeartbeats 4000000 in
theorem move_c (sp p fr dst n : Nat) (va xv lv hv : Value) (ws rs : List Int) (size : Int) (w : World) (h : TA 101 w p va ws size xv rs) (hs : Sld w sp p xv lv hv) (hle : dst ≤ fr) (hn : fr + n ≤ ws.length) :
    Calls Try.prog 85 #[.pointer (some ⟨sp, 0, none⟩), .int .i64 fr, .int .i64 dst, .int .i64 n] w fun e w' => e = .returned (.tuple #[]) ∧ TA 101 w' p va (movedW ws fr dst n) size xv rs ∧ Fr w w' (fun i => InBlk va i) := by
  have hmx := h.ar.mx
  have hal := h.ar.le
  have HB : Hid (ws.length ≤ 1048576 ∧ dst ≤ fr ∧ fr + n ≤ ws.length) := Lib.hid (by omega)
  have H0 : Hid (TA 101 w p va (movedW ws fr dst 0) size xv rs ∧ Fr w w (fun i => InBlk va i)) := Lib.hid ⟨by rw [movedW_zero]; exact h, Fr.refl _ _⟩
  have HS := Lib.hid hs
  have HVA : Hid (¬ InBlk va sp) := Lib.hid (hs.not_own h.ar.own (by decide))
  have q1 : (fr : Int) ≤ 1048576 := by omega
  have q2 : (dst : Int) ≤ 1048576 := by omega
  have q3 : (n : Int) ≤ 1048576 := by omega
  clear h hs hle hn hmx hal
  go_enter Try.func85, Try.ntmps85
  go_wp2
  go_loopg [12] n (fun g a12 wr => ∃ (k : Nat), a12 = .int .i64 k ∧ g + k = n ∧ Hid (TA 101 wr p va (movedW ws fr dst k) size xv rs ∧ Fr w wr (fun i => InBlk va i)))
  case atStart => exact ⟨0, rfl, rfl, H0⟩
  case round =>
    clear H0
    obtain ⟨k, rfl, hgk, HI⟩ := hrel
    have HGK := Lib.hid hgk
    clear hgk
    by_cases hk : k < n
    · have HKL := Lib.hid hk
      have qk : (k : Int) < n := by omega
      have hS := HS.out.keep HI.out.2 HVA.out
      have c0 := hS.c0
      have hfk : fr + k < ws.length := by have := HB.out; omega
      obtain ⟨y, hy⟩ : ∃ y, (movedW ws fr dst k).getD (fr + k) 0 = y := ⟨_, rfl⟩
      have hrd : rdAt (movedW ws fr dst k) ((fr : Int) + k) = some y := by
        have e : (fr : Int) + k = ((fr + k : Nat) : Int) := by omega
        rw [e, rdAt_of (by rw [movedW_len]; exact hfk), hy]
      have hoy : okW y := by rw [← hy]; exact okWs_getD HI.out.1.ar.ok _ (by rw [movedW_len]; exact hfk)
      have HRD := Lib.hid hrd
      have HOY := Lib.hid hoy
      have HRG : Hid (0 ≤ (dst : Int) + k ∧ (dst : Int) + k < (movedW ws fr dst k).length) := Lib.hid (by rw [movedW_len]; have := HB.out; omega)
      have HNX : Hid (wrAt (movedW ws fr dst k) ((dst : Int) + k) y = movedW ws fr dst (k + 1)) := Lib.hid (by
        unfold wrAt
        rw [if_pos HRG.out]
        have e : ((dst : Int) + k).toNat = dst + k := by omega
        rw [e, ← hy]
        exact movedW_succ HB.out.2.1 hfk)
      clear hk hS hfk hy hrd hoy
      go_wp2_with (first
        | (go_at_call 23; (with_reducible refine (get_c p va _ size _ y _ HI.out.1.ar HRD.out).mono ?_); rintro e w4 ⟨rfl, rfl⟩)
        | (go_at_call 21; (with_reducible refine (set_c p va _ size _ y _ HI.out.1.ar HOY.out HRG.out).mono ?_); rintro e w5 ⟨rfl, ha, hf⟩; rw [HNX.out] at ha; have HI5 := Lib.hid (HI.out.1.chg (Chg.of_set ha hf)); have HF5 := Lib.hid (HI.out.2.trans hf); clear ha hf))
      go_roundg (gk - 1)
      case measure => have := HGK.out; have := HKL.out; omega
      case rel => exact ⟨k + 1, by first | rfl | go_num, by have := HGK.out; have := HKL.out; omega, Lib.hid ⟨HI5.out, HF5.out⟩⟩
    · have b2 : decide (k < n) = false := decide_eq_false hk
      have hke : k = n := by have := HGK.out; omega
      have HI5 : Hid (TA 101 wr p va (movedW ws fr dst n) size xv rs) := Lib.hid (by rw [← hke]; exact HI.out.1)
      clear hk hke
      go_wp2
      go_end0
      exact ⟨rfl, HI5.out, HI.out.2⟩
end Go.Proofs.Ytjiaaefpepdoeaa

/-
  CONTRACT: the slider's down. Conditions: what stands before it (Ds) is what its up leaves.
-/
namespace Go.Proofs.Ytjiaaefpepdoeaa
open Go.RowKit Md
set_option linter.unusedVariables false
def hcs (h : Hdr) : List Value := [.int .i64 h.kind, .int .i64 h.size, .int .i64 h.tree, .bool h.neg]
def hws (hs : List Hdr) : List Value := hs.flatMap hcs
theorem hws_length (hs : List Hdr) : (hws hs).length = hs.length * 4 := by
  unfold hws
  induction hs with
  | nil => rfl
  | cons f l ih => simp only [List.flatMap_cons, List.length_append, List.length_cons, hcs, List.length_nil, ih]; omega
theorem hws_get : ∀ {hs : List Hdr} {k : Nat} (h : k < hs.length) (c : Nat), c < 4 → (hws hs)[k * 4 + c]? = (hcs (hs.getD k hdr0))[c]? := by
  intro hs
  induction hs with
  | nil => intro k h; simp at h
  | cons f l ih =>
    intro k h c hc
    have e : hws (f :: l) = hcs f ++ hws l := by simp [hws]
    have e4 : (hcs f).length = 4 := rfl
    rw [e]
    cases k with
    | zero => rw [List.getElem?_append_left (by rw [e4]; omega)]; simp
    | succ k =>
      rw [List.getElem?_append_right (by rw [e4]; omega), e4]
      have e5 : (k + 1) * 4 + c - 4 = k * 4 + c := by omega
      rw [e5, ih (by simp at h; omega) c hc]
      simp
/-- A slice value that owns the headers hs. -/
def OwnH (w : World) (v : Value) (hs : List Hdr) : Prop := w.ownsRow 0 104 4 v hs.length (hws hs)
section
variable {w w1 : World} {v u : Value} {hs : List Hdr} {S : Nat → Prop}
theorem OwnH.keep (h : OwnH w v hs) (hf : Fr w w1 S) (hn : ∀ i, InBlk v i → ¬ S i) : OwnH w1 v hs := by
  refine ⟨h.1, ?_⟩
  rcases h.2 with h0 | ⟨g, cap, cur, rfl, hb, hg, rest⟩
  · exact .inl h0
  · exact .inr ⟨g, cap, cur, rfl, hb, hf.blk hg (hn g (by simp [InBlk, Value.ownBlock])), rest⟩
theorem OwnH.elem (h : OwnH w v hs) : ∀ i, InBlk v i → ∃ cur, w.heap[i]? = some (.cells cur 104 (0, 0)) := by
  intro i hi
  rcases h.2 with ⟨rfl, _⟩ | ⟨g, cap, cur, rfl, hb, hg, _⟩
  · simp [InBlk, Value.ownBlock] at hi
  · simp [InBlk, Value.ownBlock] at hi; subst hi; exact ⟨cur, hg⟩
theorem OwnH.len (h : OwnH w v hs) : ∃ A cap, v = .slice A hs.length cap := by
  rcases h.2 with ⟨rfl, h0⟩ | ⟨g, cap, cur, rfl, _⟩
  · exact ⟨none, 0, by rw [h0]⟩
  · exact ⟨_, cap, rfl⟩
theorem OwnH.apart {e2 : TypeId} {ys : List Value} (h : OwnH w v hs) (k : Own w e2 u ys) (ne : 104 ≠ e2) : Apt v u := fun i h1 h2 => by
  obtain ⟨c1, b1⟩ := h.elem i h1
  obtain ⟨c2, b2⟩ := k.elem i h2
  rw [b1] at b2
  simp at b2
  exact ne b2.2
theorem OwnH.cellAt {A : Option Addr} {n cap : Nat} (h : OwnH w (.slice A n cap) hs) (h0 : 0 < hs.length) : ∃ b, A = some ⟨b, 0, none⟩ ∧ b < w.heap.size ∧ ∀ i c, i < hs.length → c < 4 → w.cell? ⟨b, i * 4 + c, none⟩ = (hcs (hs.getD i hdr0))[c]? ∧ w.frozen? ⟨b, i * 4 + c, none⟩ = false := by
  rcases h.2 with ⟨_, h1⟩ | ⟨g, cap', cur, e1, hb, hg, hl, hm, hs2, ht⟩
  · omega
  · injection e1 with e1 e2 e3
    refine ⟨g, e1, (Array.getElem?_eq_some_iff.1 hg).1, fun i c hi hc => ⟨?_, by simp [World.frozen?, hg]⟩⟩
    rw [← hws_get hi c hc, cell_of_row w g (i * 4 + c) cur 104 (0, 0) hg, ← ht, List.getElem?_take, if_pos (by omega)]
    simp
end
def cntM (ws M P : List Int) : Nat := (P.filter fun a => decide (plc ws M a ≠ a)).length
theorem cntM_snoc (ws M P : List Int) (a : Int) : cntM ws M (P ++ [a]) = cntM ws M P + if plc ws M a ≠ a then 1 else 0 := by
  unfold cntM
  rw [List.filter_append, List.length_append]
  congr 1
  by_cases h : plc ws M a ≠ a
  · rw [if_pos h]; simp [h]
  · rw [if_neg h]; simp [h]
set_option maxRecDepth 100000 in
set_option maxHeartbeats 4000000 in
theorem down_c (sp p : Nat) (va xv lv hv : Value) (l rs L M ws ys : List Int) (size : Int) (w : World) (h : TA 101 w p va ws size xv ys) (hs : Sld w sp p xv lv hv) (hlv : Own w 3 lv (iw M)) (hhv : OwnH w hv (M.map (obj0 l)))
    (S : Sc l rs L M) (D : Ds l rs L M [] 0 0 ws ys) (hl : l.length ≤ 4000) :
    Calls Try.prog 81 #[.pointer (some ⟨sp, 0, none⟩)] w fun e w' => e = .returned (.int .i64 (cntM l M M)) ∧ ∃ va', TA 101 w' p va' (imgs l M M) size xv (rs.map (mvW l M)) ∧ Fr w w' (fun i => i = p ∨ UO va xv i) ∧ ∀ k, InBlk va' k → InBlk va k := by
  have hMl : M.length ≤ l.length := by have := (words_le S.snd.rows M S.srt S.sub).2; have := S.snd.rows.len; omega
  have hWl : wordsM l M ≤ l.length := by have := (words_le S.snd.rows M S.srt S.sub).1; omega
  have HML := Lib.hid hMl
  have HWL := Lib.hid hWl
  have HL := Lib.hid hl
  have HSC := Lib.hid S
  have H0 : Hid (TA 101 w p va ws size xv ys ∧ Fr w w (UO va xv) ∧ Ds l rs L M [] 0 0 ws ys) := Lib.hid ⟨h, Fr.refl _ _, D⟩
  have HS := Lib.hid hs
  have HLV := Lib.hid hlv
  have HHV := Lib.hid hhv
  have HN1 : Hid (¬ UO va xv sp) := Lib.hid (fun e => e.elim (hs.not_own h.ar.own (by decide)) (hs.not_own h.own (by decide)))
  have HN2 : Hid (∀ i, InBlk lv i → ¬ UO va xv i) := Lib.hid (fun i hi e => e.elim (hlv.apart h.ar.own (by decide) i hi) (hlv.apart h.own (by decide) i hi))
  have HN3 : Hid (∀ i, InBlk hv i → ¬ UO va xv i) := Lib.hid (fun i hi e => e.elim (hhv.apart h.ar.own (by decide) i hi) (hhv.apart h.own (by decide) i hi))
  have c2 := hs.c2
  have q1 : (M.length : Int) ≤ 4000 := by omega
  obtain ⟨Al, cl, rfl⟩ := hlv.rd.len
  obtain ⟨Ah, chp, rfl⟩ := hhv.len
  rw [iw_length, List.length_map] at *
  clear h hs hlv hhv S D hl hMl hWl
  go_enter Try.func81, Try.ntmps81
  go_wp2
  clear c2
  go_loopg [3, 4, 13] M.length (fun g a3 a4 a13 wr => ∃ (t : Int) (m i : Nat) (P Q : List Int) (lo A : Nat) (ws ys : List Int), a3 = .int .i64 t ∧ a4 = .int .i64 m ∧ a13 = .int .i64 i ∧ g + i = M.length ∧ Hid (TA 101 wr p va ws size xv ys ∧ Fr w wr (UO va xv) ∧ Ds l rs L M P lo A ws ys) ∧ Hid (M = P ++ Q ∧ P.length = i ∧ t = wordsM l P ∧ m = cntM l M P))
  case atStart => exact ⟨0, 0, 0, [], M, 0, 0, _, _, rfl, rfl, rfl, rfl, H0, Lib.hid ⟨rfl, rfl, by simp [wordsM], by simp [cntM]⟩⟩
  case round =>
    clear H0
    obtain ⟨t, m, i, P, Q, lo, A, ws, ys, rfl, rfl, rfl, hgi, HI, HP⟩ := hrel
    have HGI := Lib.hid hgi
    clear hgi
    have hS := HS.out.keep HI.out.2.1 HN1.out
    have c0 := hS.c0
    have c1 := hS.c1
    have c3 := hS.c3
    have HSw := Lib.hid hS
    have hml : m ≤ M.length := by
      have := HP.out.2.2.2
      unfold cntM at this
      have h2 := List.length_filter_le (fun a => decide (plc l M a ≠ a)) P
      have h3 := congrArg List.length HP.out.1
      rw [List.length_append] at h3
      omega
    have qm : (m : Int) ≤ 4000 := by have := HML.out; have := HL.out; omega
    have qt0 : 0 ≤ t := by rw [HP.out.2.2.1]; exact HI.out.2.2.nn
    have qt1 : t ≤ 4000 := by
      have := words_le HSC.out.snd.rows P (by have := HSC.out.srt; rw [HP.out.1] at this; exact (List.pairwise_append.1 this).1) (fun x hx => HSC.out.sub x (by rw [HP.out.1]; simp [hx]))
      rw [HP.out.2.2.1]; have := HL.out; omega
    clear hS hml
    by_cases hi : i < M.length
    · obtain ⟨a0, Q2, rfl⟩ : ∃ a0 Q2, Q = a0 :: Q2 := by
        cases Q with
        | nil => have h1 := HP.out.1; have h2 := HP.out.2.1; rw [List.append_nil] at h1; rw [h1] at hi; omega
        | cons a0 Q2 => exact ⟨a0, Q2, rfl⟩
      have haM : a0 ∈ M := by rw [HP.out.1]; simp
      have hL := HSC.out.sub _ haM
      obtain ⟨hd, hob, ho0, hb0, hb1, hrd, hz0, hz1, hz2⟩ := HSC.out.snd.rows.obj _ hL
      obtain ⟨a, rfl⟩ := Int.eq_ofNat_of_zero_le hb0
      have hga : M.getD i 0 = a := by
        have h1 := HP.out.1
        have h2 := HP.out.2.1
        rw [h1, ← h2]
        simp [List.getD]
      obtain ⟨n, ws', ys', hlo, hl1, hTa, hD⟩ := HI.out.2.2.step HSC.out HP.out.1
      rw [ho0] at hD
      obtain ⟨kd, z, tr, nn⟩ := hd
      simp only at hz0 hz1 hz2 hD
      obtain ⟨zn, rfl⟩ := Int.eq_ofNat_of_zero_le hz0
      obtain ⟨tn, htn⟩ := Int.eq_ofNat_of_zero_le qt0
      have HTN := Lib.hid htn
      subst htn
      have e1 : (wordsM l P).toNat = tn := by rw [← HP.out.2.2.1]; simp
      have e2 : (1 + (zn : Int)).toNat = 1 + zn := by omega
      have e3 : ((zn : Int)).toNat = zn := by simp
      rw [e1, e2, e3] at hD
      rw [e1] at hTa
      rw [← HP.out.2.2.1] at hlo
      have HLO := Lib.hid hlo
      have HD := Lib.hid hD
      have HL1 := Lib.hid hl1
      have HTA := Lib.hid hTa
      have HO0 := Lib.hid ho0
      have HIL := Lib.hid hi
      have HGA := Lib.hid hga
      have HZ : Hid (a + 1 + zn ≤ l.length) := Lib.hid (by omega)
      have HPL : Hid (plc l M (a : Int) = tn) := Lib.hid (by
        have h1 := HSC.out.srt
        have h2 := HP.out.1
        rw [h2] at h1
        rw [HP.out.2.2.1, h2]
        exact plc_split h1)
      have HLw := Lib.hid (HLV.out.keep HI.out.2.1 HN2.out)
      have HHw := Lib.hid (HHV.out.keep HI.out.2.1 HN3.out)
      obtain ⟨gl, rfl, _, hcl⟩ := HLw.out.cellAt (by rw [iw_length]; omega)
      have cl0 := (hcl i (by rw [iw_length]; exact hi)).1
      rw [iw_get hi, hga] at cl0
      obtain ⟨gh, rfl, _, hch⟩ := HHw.out.cellAt (by rw [List.length_map]; omega)
      have ch1 := (hch i 1 (by rw [List.length_map]; exact hi) (by decide)).1
      have hgh : (M.map (obj0 l)).getD i hdr0 = ⟨kd, zn, tr, nn⟩ := by
        have : (M.map (obj0 l)).getD i hdr0 = obj0 l (M.getD i 0) := by simp [List.getD, hi]
        rw [this, hga, ho0]
      rw [hgh] at ch1
      have HCH : Hid (wr.cell? ⟨gh, i * 4 + 1, none⟩ = some (.int .i64 zn)) := Lib.hid ch1
      have qi : (i : Int) < M.length := by omega
      have qa : (a : Int) ≤ 4000 := by have := HL.out; omega
      have qz : (zn : Int) ≤ 4000 := by have := HL.out; omega
      have HTd := Lib.hid (HI.out.1.fr ((Fr.refl wr (fun _ => False)).drew))
      clear hi haM hL hob ho0 hb0 hb1 hrd hz0 hz1 hz2 hga hlo hl1 hTa hD e1 e2 e3 hcl hch ch1 hgh
      go_upto_region 5 with (fail)
      go_region_held3 (fun w' => w'.cell? ⟨sp, 0, none⟩ = some (.pointer (some ⟨p, 0, none⟩)) ∧ w'.cell? ⟨sp, 1, none⟩ = some xv) (first | exact ⟨g0, g1⟩ | exact ⟨c0, c1⟩)
        (first
          | (go_at_call 45; (with_reducible refine (loose_c p va xv ws ys _ a tn _ HTd.out).mono ?_); rintro e w6 ⟨hre, ht6, hf6⟩; rw [HLO.out] at hre ht6; subst hre; have HF6 := Lib.hid (((Fr.refl wr (UO va xv)).drew).trans hf6); have hS6 := HSw.out.keep HF6.out HN1.out; have g0 := hS6.c0; have g1 := hS6.c1; have HT6 := Lib.hid ht6; clear ht6 hf6))
      have c3b := hS6.c3
      have ch2 := HF6.out.cell HCH.out (HN3.out gh (by simp [InBlk, Value.ownBlock]))
      obtain ⟨N, hN⟩ : ∃ N : Nat, 1 + zn = N := ⟨_, rfl⟩
      have hNI : (1 : Int) + (zn : Int) = N := by omega
      have HN := Lib.hid hN
      have qN : (N : Int) ≤ 4001 := by omega
      have HS6 := Lib.hid hS6
      clear g0 g1 c0 c1 c3 HTd hS6 hN cl0
      by_cases hat : (a : Int) = tn
      · have b1 : ((a : Int) == tn) = true := by simpa using hat
        have b2 : ((a : Int) != tn) = false := by simpa using hat
        have HAT := Lib.hid hat
        have HTE : Hid (TA 101 w6 p va (movedW ws' a tn (1 + zn)) size xv ys') := Lib.hid (by
          have e : a = tn := by omega
          rw [e, movedW_same]
          exact HT6.out)
        clear hat
        go_wp2
        go_roundg (gk - 1)
        case measure => have := HGI.out; have := HIL.out; omega
        case rel =>
          have hp := HP.out
          refine ⟨(tn : Int) + N, m, i + 1, P ++ [(a : Int)], Q2, a + 1 + zn, a + 1, movedW ws' a tn (1 + zn), ys', rfl, by first | rfl | go_num, by first | rfl | go_num, by have := HGI.out; have := HIL.out; omega, Lib.hid ⟨HTE.out, HI.out.2.1.trans HF6.out, HD.out⟩, Lib.hid ⟨by rw [hp.1]; simp, by rw [List.length_append, hp.2.1]; rfl, ?_, ?_⟩⟩
          · have e : wordsM l (P ++ [(a : Int)]) = wordsM l P + (1 + (obj0 l a).size) := by simp [wordsM]
            rw [e, HO0.out, ← hp.2.2.1]
            have := HN.out
            simp only
            omega
          · rw [cntM_snoc, ← hp.2.2.2, HPL.out]
            have := HAT.out
            rw [if_neg (by omega)]; rfl
      · have b1 : ((a : Int) == tn) = false := by simpa using hat
        have b2 : ((a : Int) != tn) = true := by simpa using hat
        have HAT := Lib.hid hat
        clear hat
        go_wp2_with (first | (go_at_call 85; (with_reducible refine (move_c sp p a tn N va xv _ _ ws' ys' _ _ HT6.out HS6.out HTA.out (by have := HZ.out; have := HN.out; have := HL1.out; omega)).mono ?_); rintro e w7 ⟨rfl, ht7, hf7⟩; have HT7 := Lib.hid ht7; have HF7 := Lib.hid (HF6.out.trans (hf7.mono (S1 := UO va xv) (fun i hi _ => .inl hi))); clear ht7 hf7))
        go_roundg (gk - 1)
        case measure => have := HGI.out; have := HIL.out; omega
        case rel =>
          have hp := HP.out
          refine ⟨(tn : Int) + N, m + 1, i + 1, P ++ [(a : Int)], Q2, a + 1 + zn, a + 1, movedW ws' a tn (1 + zn), ys', rfl, by first | rfl | go_num, by first | rfl | go_num, by have := HGI.out; have := HIL.out; omega, Lib.hid ⟨by rw [HN.out]; exact HT7.out, HI.out.2.1.trans HF7.out, HD.out⟩, Lib.hid ⟨by rw [hp.1]; simp, by rw [List.length_append, hp.2.1]; rfl, ?_, ?_⟩⟩
          · have e : wordsM l (P ++ [(a : Int)]) = wordsM l P + (1 + (obj0 l a).size) := by simp [wordsM]
            rw [e, HO0.out, ← hp.2.2.1]
            have := HN.out
            simp only
            omega
          · rw [cntM_snoc, ← hp.2.2.2, HPL.out]
            have := HAT.out
            rw [if_pos (by omega)]
    · have hPM : P = M ∧ Q = [] := by
        have h1 := HP.out.1
        have h2 := HP.out.2.1
        have h3 := congrArg List.length h1
        rw [List.length_append] at h3
        have h4 : Q = [] := List.eq_nil_of_length_eq_zero (by omega)
        rw [h4, List.append_nil] at h1
        exact ⟨h1.symm, h4⟩
      obtain ⟨rfl, rfl⟩ := hPM
      obtain ⟨tn, rfl⟩ := Int.eq_ofNat_of_zero_le qt0
      obtain ⟨hf1, hf2⟩ := HI.out.2.2.fin HSC.out
      have htn : (wordsM l P).toNat = tn := by rw [← HP.out.2.2.1]; simp
      rw [htn] at hf1
      have hle : tn ≤ ws.length := by rw [HI.out.2.2.l1]; have := HWL.out; have := HP.out.2.2.1; omega
      have HLE := Lib.hid hle
      have hLE2 : (tn : Int) ≤ size := by have := HI.out.1.ar.le; omega
      have HLE2 := Lib.hid hLE2
      have HMX := Lib.hid HI.out.1.ar.mx
      have HF1 := Lib.hid hf1
      have HF2 := Lib.hid hf2
      have HCN : Hid (m = cntM l P P) := Lib.hid HP.out.2.2.2
      have b2 : decide (i < P.length) = false := decide_eq_false hi
      have HTd := Lib.hid (HI.out.1.fr ((Fr.refl wr (fun _ => False)).drew))
      clear hi hf1 hf2 htn hle hLE2 c1 c3
      go_upto_region 12 with (fail)
      go_region_held3 (fun w' => w'.cell? ⟨sp, 0, none⟩ = some (.pointer (some ⟨p, 0, none⟩))) (first | exact g0 | exact c0)
        (first
          | (go_at_call 28; (with_reducible refine (size_c p va ws size _ HTd.out.ar).mono ?_); rintro e w6 ⟨rfl, rfl⟩)
          | (go_at_call 25; (with_reducible refine (cut_c p va ws size tn size _ HTd.out.ar HLE.out HLE2.out HMX.out).mono ?_); rintro e w7 ⟨rfl, va', ha, hf, hn⟩; have HT7 := Lib.hid (HTd.out.chg (Chg.of_cut ha hf hn)); have HF7 := Lib.hid hf; have HNV := Lib.hid hn; have g0 : w7.cell? ⟨sp, 0, none⟩ = some (.pointer (some ⟨p, 0, none⟩)) := (HSw.out.keep (((Fr.refl wr (fun i => i = p)).drew).trans hf) (fun e => by have h1 := HSw.out; have h2 := HI.out.1.ar.blk; unfold Sld at h1; rw [e] at h1; rw [h2] at h1; simp at h1)).c0; clear ha hf hn))
      clear g0 c0
      go_wp2
      go_ret
      have ht := HT7.out
      rw [HF1.out, HF2.out] at ht
      exact ⟨by rw [HCN.out]; rfl, va', ht, (HI.out.2.1.mono (S1 := fun i => i = p ∨ UO va xv i) (fun _ h _ => .inr h)).trans ((((Fr.refl wr _).drew).trans (HF7.out.mono (S1 := fun i => i = p ∨ UO va xv i) (fun _ h _ => .inl h)))), HNV.out⟩
end Go.Proofs.Ytjiaaefpepdoeaa

/-
  CONTRACT: the slider's up. Conditions: all roots are threaded (Us).
-/
namespace Go.Proofs.Ytjiaaefpepdoeaa
open Go.RowKit Md
set_option linter.unusedVariables false
/-- where up stands: M = P ++ Q, all of P has been passed, b is the place behind it -/
structure UpP (l M P Q : List Int) (b : Nat) : Prop where
  eq : M = P ++ Q
  lo : ∀ a ∈ P, a + 1 + (obj0 l a).size ≤ b
  hi : ∀ a ∈ Q, (b : Int) ≤ a
  le : b ≤ l.length
theorem set_mid {α : Type} {A B : List α} {x : α} {i : Nat} (h : A.length = i) (hb : i < B.length) : (A ++ B.drop i).set i x = (A ++ [x]) ++ B.drop (i + 1) := by
  subst h
  rw [List.set_append_right _ _ (Nat.le_refl _), Nat.sub_self, List.drop_eq_getElem_cons hb, List.set_cons_zero, List.append_assoc, List.singleton_append]
theorem UpP.next {l rs L M P Q : List Int} {b a zn : Nat} (S : Sc l rs L M) (h : UpP l M P ((a : Int) :: Q) b) (hz : (obj0 l (a : Int)).size = zn) (hl : a + 1 + zn ≤ l.length) : UpP l M (P ++ [(a : Int)]) Q (a + 1 + zn) where
  eq := by rw [h.eq]; simp
  lo := fun c hc => by
    have hb := h.hi a (by simp)
    rcases List.mem_append.1 hc with hc | hc
    · have := h.lo c hc; omega
    · simp at hc; rw [hc, hz]; omega
  hi := fun c hc => by
    have hs := S.srt
    rw [h.eq] at hs
    have h4 := (List.pairwise_cons.1 (List.pairwise_append.1 hs).2.1).1 c hc
    have := S.snd.rows.sep a (S.sub _ (by rw [h.eq]; simp)) c (S.sub _ (by rw [h.eq]; simp [hc])) h4
    rw [hz] at this
    omega
  le := hl
theorem UpP.noObj {l rs L M P Q : List Int} {b a zn : Nat} (S : Sc l rs L M) (h : UpP l M P ((a : Int) :: Q) b) (hz : (obj0 l (a : Int)).size = zn) : ∀ c ∈ M, ¬ (((a + 1 : Nat) : Int) ≤ c ∧ c < ((a + 1 + zn : Nat) : Int)) := fun c hc hh => by
  have := S.snd.rows.sep a (S.sub _ (by rw [h.eq]; simp)) c (S.sub _ hc) (by omega)
  rw [hz] at this
  omega
theorem noFld_of {l rs L M : List Int} {j : Nat} (S : Sc l rs L M) (h : fldB l L j = false) : fldB l M j = false := by
  cases hf : fldB l M j with
  | false => rfl
  | true => rw [fldB_sub S.sub hf] at h; cases h
theorem UpP.noFld {l rs L M P Q : List Int} {b j : Nat} (S : Sc l rs L M) (h : UpP l M P Q b) (h1 : b ≤ j) (h2 : ∀ a ∈ Q, (j : Int) ≤ a) : fldB l M j = false := by
  cases hf : fldB l M j with
  | false => rfl
  | true =>
    obtain ⟨a, ha, h3, h4⟩ := fldB_iff.1 hf
    have h5 := S.snd.fit a (S.sub a ha)
    rw [h.eq] at ha
    rcases List.mem_append.1 ha with ha | ha
    · have := h.lo a ha; omega
    · have := h2 a ha; omega
theorem UpP.fin {l rs L M P : List Int} {b : Nat} {ws ys : List Int} (S : Sc l rs L M) (h : UpP l M P [] b) (U : Us l rs L M b b rs.length ws ys) : Us l rs L M l.length l.length rs.length ws ys :=
  U.skip S h.le h.le (fun j h1 _ => h.noFld S h1 (fun a ha => by simp at ha)) (fun a ha hh => by
    rw [h.eq, List.append_nil] at ha
    have h1 := h.lo a ha
    obtain ⟨_, _, e6, _, _, _, h7, _⟩ := S.snd.rows.obj a (S.sub a (by rw [h.eq, List.append_nil]; exact ha))
    rw [e6] at h1
    omega)
theorem Fr.setCell1 {w w1 : World} {g : Nat} (h : Fr w w1 (fun j => j = g)) (o : Nat) (u : Value) : Fr w (w1.setCell ⟨g, o, none⟩ u) (fun j => j = g) := h.setCell (a := ⟨g, o, none⟩) (fun _ => rfl) u
theorem blk_setX {w : World} {g : Nat} {t : TypeId} {cs : Array Value} (h : w.heap[g]? = some (.cells cs t (0, 0))) (i : Nat) (u : Value) : (w.setCell ⟨g, i, none⟩ u).heap[g]? = some (.cells (cs.setIfInBounds i u) t (0, 0)) := by
  simp [World.setCell, Array.getElem?_modify, h]
theorem setCells_rowX {g : Nat} {e : TypeId} : ∀ (vs : List Value) (o : Nat) (w : World) (cur : Array Value), w.heap[g]? = some (.cells cur e (0, 0)) → o + vs.length ≤ cur.size →
    ∃ cur', (w.setCells g o vs).heap[g]? = some (.cells cur' e (0, 0)) ∧ cur'.size = cur.size ∧ cur'.toList = cur.toList.take o ++ vs ++ cur.toList.drop (o + vs.length) := by
  intro vs
  induction vs with
  | nil => intro o w cur h _; exact ⟨cur, h, rfl, by simp⟩
  | cons v r ih =>
    intro o w cur h hl
    simp only [List.length_cons] at hl
    obtain ⟨c2, h3, h4, h5⟩ := ih (o + 1) _ _ (blk_setX h o v) (by simp; omega)
    refine ⟨c2, h3, by rw [h4]; simp, ?_⟩
    rw [h5, Array.toList_setIfInBounds]
    have hc : cur.toList.length = cur.size := Array.length_toList
    apply List.ext_getElem?
    intro j
    simp only [List.length_cons]
    by_cases h1 : j < o
    · rw [List.append_assoc, List.append_assoc, List.getElem?_append_left (by rw [List.length_take, List.length_set]; omega), List.getElem?_append_left (by rw [List.length_take]; omega), List.getElem?_take, List.getElem?_take, if_pos (by omega), if_pos h1, List.getElem?_set_ne (by omega)]
    · by_cases h2 : j = o
      · subst h2
        rw [List.append_assoc, List.append_assoc, List.getElem?_append_left (by rw [List.length_take, List.length_set]; omega), List.getElem?_append_right (by rw [List.length_take]; omega), List.getElem?_take, if_pos (by omega), List.length_take, List.getElem?_set]
        have : j - min j cur.toList.length = 0 := by omega
        rw [this]
        have h6 : j < cur.toList.length := by omega
        simp [h6]
        omega
      · rw [List.append_assoc, List.append_assoc, List.getElem?_append_right (l₁ := List.take (o + 1) (cur.toList.set o v)) (by rw [List.length_take, List.length_set]; omega), List.getElem?_append_right (l₁ := List.take o cur.toList) (by rw [List.length_take]; omega), List.length_take, List.length_take, List.length_set]
        obtain ⟨m, hm⟩ : ∃ m, j - min o cur.toList.length = m + 1 := ⟨j - o - 1, by omega⟩
        have hm2 : j - min (o + 1) cur.toList.length = m := by omega
        rw [hm, hm2, List.cons_append, List.getElem?_cons_succ]
        by_cases h7 : m < r.length
        · rw [List.getElem?_append_left h7, List.getElem?_append_left h7]
        · rw [List.getElem?_append_right (l₂ := List.drop (o + 1 + r.length) (cur.toList.set o v)) (by omega), List.getElem?_append_right (l₂ := List.drop (o + (r.length + 1)) cur.toList) (by omega), List.getElem?_drop, List.getElem?_drop, List.getElem?_set_ne (by omega)]
          congr 1
          omega
/-- A header stored in its row. -/
theorem OwnH.store {w w1 : World} {A : Option Addr} {g n cap i : Nat} {hs : List Hdr} {o : Hdr} (h : OwnH w (.slice A n cap) hs) (hA : A = some ⟨g, 0, none⟩) (hi : i < hs.length)
    (e : ((((w.setCell ⟨g, i * 4, none⟩ (.int .i64 o.kind)).setCell ⟨g, i * 4 + 1, none⟩ (.int .i64 o.size)).setCell ⟨g, i * 4 + 2, none⟩ (.int .i64 o.tree)).setCell ⟨g, i * 4 + 3, none⟩ (.bool o.neg)) = w1) :
    OwnH w1 (.slice A n cap) (hs.set i o) ∧ Fr w w1 (fun j => j = g) := by
  subst hA
  rcases h.2 with ⟨_, h1⟩ | ⟨g', cap', cur, e1, hb, hg, hl, hm, hs2, ht⟩
  · omega
  · injection e1 with e1 e2 e3
    injection e1 with e1
    injection e1 with e1 _ _
    subst e1
    obtain ⟨cur', h3, h4, h5⟩ := setCells_rowX (hcs o) (i * 4) w cur hg (by rw [hs2]; simp only [hcs, List.length_cons, List.length_nil]; omega)
    have e' : w.setCells g (i * 4) (hcs o) = w1 := by rw [← e]; rfl
    rw [e'] at h3
    refine ⟨⟨by rw [hws_length, List.length_set], .inr ⟨g, cap', cur', ?_, hb, h3, by rw [List.length_set]; exact hl, hm, by rw [h4]; exact hs2, ?_⟩⟩, ?_⟩
    · rw [List.length_set, e2, e3]
    · rw [List.length_set, h5]
      have hc : cur.toList.length = cap' * 4 := by rw [Array.length_toList]; exact hs2
      apply List.ext_getElem?
      intro j
      rw [List.getElem?_take]
      have hlc : (hcs o).length = 4 := rfl
      by_cases hj : j < hs.length * 4
      · rw [if_pos hj]
        have hq : j = j / 4 * 4 + j % 4 := by omega
        have hg1 : (hws (hs.set i o))[j]? = (hcs ((hs.set i o).getD (j / 4) hdr0))[j % 4]? := by
          have := hws_get (hs := hs.set i o) (k := j / 4) (by rw [List.length_set]; omega) (j % 4) (by omega)
          rw [← hq] at this
          exact this
        have hg0 : cur.toList[j]? = (hcs (hs.getD (j / 4) hdr0))[j % 4]? := by
          have := hws_get (hs := hs) (k := j / 4) (by omega) (j % 4) (by omega)
          rw [← hq, ← ht, List.getElem?_take, if_pos hj] at this
          exact this
        rw [hg1]
        by_cases hji : j / 4 = i
        · have e1 : (hs.set i o).getD (j / 4) hdr0 = o := by rw [hji]; simp [List.getD, hi]
          rw [e1, List.getElem?_append_left (by rw [List.length_append, List.length_take, hlc]; omega), List.getElem?_append_right (by rw [List.length_take]; omega), List.length_take]
          congr 1
          omega
        · have e1 : (hs.set i o).getD (j / 4) hdr0 = hs.getD (j / 4) hdr0 := by simp [List.getD, List.getElem?_set, Ne.symm hji]
          rw [e1, ← hg0]
          by_cases hlt : j < i * 4
          · rw [List.getElem?_append_left (by rw [List.length_append, List.length_take]; omega), List.getElem?_append_left (by rw [List.length_take]; omega), List.getElem?_take, if_pos hlt]
          · rw [List.getElem?_append_right (by rw [List.length_append, List.length_take, hlc]; omega), List.getElem?_drop, List.length_append, List.length_take, hlc]
            congr 1
            omega
      · rw [if_neg hj, List.getElem?_eq_none]
        rw [hws_length, List.length_set]; omega
    · subst e
      exact ((((Fr.refl w _).setCell1 _ _).setCell1 _ _).setCell1 _ _).setCell1 _ _
theorem cell_drew (w : World) (x : Addr) : w.drew.cell? x = w.cell? x := rfl
theorem frozen_drew (w : World) (x : Addr) : w.drew.frozen? x = w.frozen? x := rfl
theorem cell_set_off {w : World} {b o o2 : Nat} {v : Value} (h : o2 ≠ o) : (w.setCell ⟨b, o, none⟩ v).cell? ⟨b, o2, none⟩ = w.cell? ⟨b, o2, none⟩ := by
  have := World.cell?_setCells_out b [v] o w ⟨b, o2, none⟩ (fun _ _ => by simp; omega)
  simpa [World.setCells] using this
theorem frozen_set (w : World) (b o : Nat) (v : Value) (x : Addr) : (w.setCell ⟨b, o, none⟩ v).frozen? x = w.frozen? x := by
  simp
set_option maxRecDepth 100000 in
set_option maxHeartbeats 4000000 in
theorem up_c (sp p : Nat) (va xv lv hv : Value) (l rs L M ws ys : List Int) (h0s : List Hdr) (size : Int) (w : World) (h : TA 101 w p va ws size xv ys) (hs : Sld w sp p xv lv hv) (hlv : Own w 3 lv (iw M)) (hhv : OwnH w hv h0s) (hlen : h0s.length = M.length)
    (S : Sc l rs L M) (U : Us l rs L M 0 0 rs.length ws ys) (hl : l.length ≤ 4000) :
    Calls Try.prog 80 #[.pointer (some ⟨sp, 0, none⟩)] w fun e w' => e = .returned (.tuple #[]) ∧ ∃ ws' ys', TA 101 w' p va ws' size xv ys' ∧ Us l rs L M l.length l.length rs.length ws' ys' ∧ OwnH w' hv (M.map (obj0 l)) ∧ Fr w w' (fun i => UO va xv i ∨ InBlk hv i) := by
  have hMl : M.length ≤ l.length := by have := (words_le S.snd.rows M S.srt S.sub).2; have := S.snd.rows.len; omega
  have HML := Lib.hid hMl
  have HL := Lib.hid hl
  have HSC := Lib.hid S
  have HHL := Lib.hid hlen
  have HS := Lib.hid hs
  have HLV := Lib.hid hlv
  have HN1 : Hid (¬ (UO va xv sp ∨ InBlk hv sp)) := Lib.hid (fun e => e.elim (fun e => e.elim (hs.not_own h.ar.own (by decide)) (hs.not_own h.own (by decide))) (fun e => by
    obtain ⟨c, hc⟩ := hhv.elem sp e
    unfold Sld at hs
    rw [hs] at hc
    simp at hc))
  have HN2 : Hid (∀ i, InBlk lv i → ¬ (UO va xv i ∨ InBlk hv i)) := Lib.hid (fun i hi e => e.elim (fun e => e.elim (hlv.apart h.ar.own (by decide) i hi) (hlv.apart h.own (by decide) i hi)) (fun e => hhv.apart hlv (by decide) i e hi))
  have HN3 : Hid (∀ i, InBlk hv i → ¬ UO va xv i ∧ i ≠ p) := Lib.hid (fun i hi => ⟨fun e => e.elim (hhv.apart h.ar.own (by decide) i hi) (hhv.apart h.own (by decide) i hi), fun e => by
    obtain ⟨c, hc⟩ := hhv.elem i hi
    rw [e, h.ar.blk] at hc
    simp at hc⟩)
  have H0 : Hid (TA 101 w p va ws size xv ys ∧ Fr w w (fun i => UO va xv i ∨ InBlk hv i) ∧ Us l rs L M 0 0 rs.length ws ys ∧ OwnH w hv (([] : List Int).map (obj0 l) ++ h0s.drop 0)) := Lib.hid ⟨h, Fr.refl _ _, U, by simpa using hhv⟩
  have c2 := hs.c2
  have q1 : (M.length : Int) ≤ 4000 := by omega
  obtain ⟨Al, cl, rfl⟩ := hlv.rd.len
  obtain ⟨Ah, chp, rfl⟩ := hhv.len
  rw [iw_length] at *
  rw [hlen] at HS HN1 HN2 HN3 H0
  rw [hlen]
  clear h hs hlv hhv S U hl hMl
  go_enter Try.func80, Try.ntmps80
  go_wp2
  clear c2
  go_loopg [2, 13] M.length (fun g a2 a13 wr => ∃ (t : Int) (i : Nat) (P Q : List Int) (b : Nat) (ws ys : List Int), a2 = .int .i64 t ∧ a13 = .int .i64 i ∧ g + i = M.length ∧ Hid (TA 101 wr p va ws size xv ys ∧ Fr w wr (fun i => UO va xv i ∨ InBlk (.slice Ah M.length chp) i) ∧ Us l rs L M b b rs.length ws ys ∧ OwnH wr (.slice Ah M.length chp) (P.map (obj0 l) ++ h0s.drop i)) ∧ Hid (UpP l M P Q b ∧ P.length = i ∧ t = wordsM l P ∧ 0 ≤ t))
  case atStart => exact ⟨0, 0, [], M, 0, _, _, rfl, rfl, rfl, H0, Lib.hid ⟨⟨rfl, (fun a ha => absurd ha (by simp)), (fun a ha => HSC.out.snd.rows.ge a (HSC.out.sub a ha)), Nat.zero_le _⟩, rfl, by simp [wordsM], by omega⟩⟩
  case round =>
    clear H0
    obtain ⟨t, i, P, Q, b, ws, ys, rfl, rfl, hgi, HI, HP⟩ := hrel
    obtain ⟨G, rfl⟩ : ∃ G, G = gk := ⟨_, rfl⟩
    have HGI := Lib.hid hgi
    clear hgi
    have hS := HS.out.keep HI.out.2.1 HN1.out
    have c0 := hS.c0
    have c1 := hS.c1
    have HSw := Lib.hid hS
    have qt0 : 0 ≤ t := HP.out.2.2.2
    have qt1 : t ≤ 4000 := by
      have := words_le HSC.out.snd.rows P (by have := HSC.out.srt; rw [HP.out.1.eq] at this; exact (List.pairwise_append.1 this).1) (fun x hx => HSC.out.sub x (by rw [HP.out.1.eq]; simp [hx]))
      rw [HP.out.2.2.1]; have := HL.out; omega
    clear hS
    by_cases hi : i < M.length
    · obtain ⟨a0, Q2, rfl⟩ : ∃ a0 Q2, Q = a0 :: Q2 := by
        cases Q with
        | nil => have h1 := HP.out.1.eq; have h2 := HP.out.2.1; rw [List.append_nil] at h1; rw [h1] at hi; omega
        | cons a0 Q2 => exact ⟨a0, Q2, rfl⟩
      have haM : a0 ∈ M := by rw [HP.out.1.eq]; simp
      have hL := HSC.out.sub _ haM
      obtain ⟨hd, hob, ho0, hb0, hb1, hrd, hz0, hz1, hz2⟩ := HSC.out.snd.rows.obj _ hL
      obtain ⟨a, rfl⟩ := Int.eq_ofNat_of_zero_le hb0
      have hga : M.getD i 0 = a := by
        have h1 := HP.out.1.eq
        have h2 := HP.out.2.1
        rw [h1, ← h2]
        simp [List.getD]
      have hsrt := HSC.out.srt
      rw [HP.out.1.eq] at hsrt
      obtain ⟨_, hs2, hs3⟩ := List.pairwise_append.1 hsrt
      have hs4 := (List.pairwise_cons.1 hs2).1
      have hba : b ≤ a := by have := HP.out.1.hi a (by simp); omega
      have hU := HI.out.2.2.1.skip (F' := a) (V' := a) HSC.out hba hba (fun j h1 h2 => HP.out.1.noFld HSC.out h1 (fun q hq => by
        rcases List.mem_cons.1 hq with e | e
        · omega
        · have := hs4 q e; omega)) (fun q hq => by
        rw [HP.out.1.eq] at hq
        rcases List.mem_append.1 hq with hq | hq
        · have h5 := HP.out.1.lo q hq
          have h6 := HSC.out.snd.rows.obj q (HSC.out.sub q (by rw [HP.out.1.eq]; simp [hq]))
          obtain ⟨_, _, e6, _, _, _, h7, _⟩ := h6
          rw [e6] at h5
          omega
        · rcases List.mem_cons.1 hq with e | e
          · omega
          · have := hs4 q e; omega)
      obtain ⟨n, ws', ys', hlo, hU2, hob2⟩ := hU.loose HSC.out haM
      have hpl : plc l M (a : Int) = t := by
        have h1 := HSC.out.srt
        have h2 := HP.out.1.eq
        rw [h2] at h1
        rw [HP.out.2.2.1, h2]
        exact plc_split h1
      rw [hpl] at hlo
      obtain ⟨kd, z, tr, nn⟩ := hd
      simp only at hz0 hz1 hz2
      obtain ⟨zn, rfl⟩ := Int.eq_ofNat_of_zero_le hz0
      obtain ⟨f, hfd⟩ : ∃ f, fieldsH ⟨kd, zn, tr, nn⟩ = f := ⟨_, rfl⟩
      have hf0 : 0 ≤ f := by rw [← hfd]; exact fieldsH_nonneg hz0
      obtain ⟨fn, rfl⟩ := Int.eq_ofNat_of_zero_le hf0
      have hfit := HSC.out.snd.fit _ hL
      rw [ho0, hfd] at hfit
      simp only at hfit
      rw [hob] at hob2
      have HLO := Lib.hid hlo
      have HU2 := Lib.hid hU2
      have HOB := Lib.hid hob2
      have HO0 := Lib.hid ho0
      have HFD := Lib.hid hfd
      have HIL := Lib.hid hi
      have HAM := Lib.hid haM
      have HAL := Lib.hid hL
      have HZ : Hid (a + 1 + zn ≤ l.length ∧ fn ≤ zn) := Lib.hid (by omega)
      have HS4 := Lib.hid hs4
      have HS3 := Lib.hid hs3
      have HLw := Lib.hid (HLV.out.keep HI.out.2.1 HN2.out)
      obtain ⟨gl, rfl, _, hcl⟩ := HLw.out.cellAt (by rw [iw_length]; omega)
      have cl0 := (hcl i (by rw [iw_length]; exact hi)).1
      rw [iw_get hi, hga] at cl0
      have qi : (i : Int) < M.length := by omega
      have qa : (a : Int) ≤ 4000 := by have := HL.out; omega
      have qz : (zn : Int) ≤ 4000 := by have := HL.out; omega
      have qf : (fn : Int) ≤ 4000 := by have := HL.out; omega
      have HTd := Lib.hid (HI.out.1.fr ((Fr.refl wr (fun _ => False)).drew))
      clear hi haM hL hob ho0 hb0 hb1 hrd hz0 hz1 hz2 hga hlo hU hU2 hob2 hpl hfd hf0 hfit hcl hba hsrt hs2 hs3 hs4
      go_upto_region 4 with (fail)
      go_region_held3 (fun w' => w'.cell? ⟨sp, 0, none⟩ = some (.pointer (some ⟨p, 0, none⟩)) ∧ w'.cell? ⟨sp, 1, none⟩ = some xv) (first | exact ⟨g0, g1⟩ | exact ⟨c0, c1⟩)
        (first
          | (go_at_call 45; (with_reducible refine (loose_c p va xv ws ys _ a t _ HTd.out).mono ?_); rintro e w6 ⟨hre, ht6, hf6⟩; rw [HLO.out] at hre ht6; subst hre; have HF6 := Lib.hid (((Fr.refl wr (UO va xv)).drew).trans hf6); have hS6 := HSw.out.keep (HF6.out.mono (S1 := fun i => UO va xv i ∨ InBlk (.slice Ah M.length chp) i) (fun _ h _ => .inl h)) HN1.out; have g0 := hS6.c0; have g1 := hS6.c1; have HT6 := Lib.hid ht6; clear ht6 hf6))
      have HS6 := Lib.hid hS6
      clear g1 c0 c1 HTd hS6 cl0
      go_upto_region 6 with (first | (go_at_call 62; (with_reducible refine (obj_some p va ws' size a _ _ HT6.out.ar HOB.out).mono ?_); rintro e wo ⟨rfl, hfo⟩))
      obtain ⟨W2, hW2⟩ : ∃ W2, wo.alloc (.cells #[.int .i64 kd, .int .i64 zn, .int .i64 tr, .bool nn] 104) = W2 := ⟨_, rfl⟩
      obtain ⟨D, hD⟩ : ∃ D, wo.heap.size = D := ⟨_, rfl⟩
      have hf2 : Fr w6 W2 (fun _ => False) := by rw [← hW2]; exact hfo.alloc _
      have hdb : W2.heap[D]? = some (.cells #[.int .i64 kd, .int .i64 zn, .int .i64 tr, .bool nn] 104 (0, 0)) := by rw [← hW2, ← hD]; exact blk_new _ _ _
      have hDn : w6.heap.size ≤ D := by rw [← hD]; exact hfo.size
      have HDN := Lib.hid hDn
      have HT7 := Lib.hid (HT6.out.fr hf2)
      have HDB := Lib.hid hdb
      have HS7 := Lib.hid (HS6.out.keep hf2 (fun h => h))
      have HF7 := Lib.hid (HF6.out.trans (hf2.mono (fun _ h _ => h.elim)))
      have HH7 := Lib.hid ((HI.out.2.2.2.keep HF6.out (fun j hj e => (HN3.out j hj).1 e)).keep hf2 (fun _ _ h => h))
      simp only [hW2, hD]
      have hll : (P.map (obj0 l) ++ h0s.drop i).length = M.length := by rw [List.length_append, List.length_map, HP.out.2.1, List.length_drop, HHL.out]; have := HIL.out; omega
      obtain ⟨gh, rfl, hghb, hch⟩ := HH7.out.cellAt (by rw [hll]; have := HIL.out; omega)
      obtain ⟨⟨x0, x1, x2, x3⟩, hx⟩ : ∃ x, (P.map (obj0 l) ++ h0s.drop i).getD i hdr0 = x := ⟨_, rfl⟩
      have t0 := hch i 0 (by rw [hll]; exact HIL.out) (by decide)
      have t1 := hch i 1 (by rw [hll]; exact HIL.out) (by decide)
      have t2 := hch i 2 (by rw [hll]; exact HIL.out) (by decide)
      have t3 := hch i 3 (by rw [hll]; exact HIL.out) (by decide)
      rw [hx] at t0 t1 t2 t3
      obtain ⟨r0, f0⟩ := t0
      obtain ⟨r1, f1⟩ := t1
      obtain ⟨r2, f2⟩ := t2
      obtain ⟨r3, f3⟩ := t3
      have t0 : W2.cell? ⟨gh, i * 4, none⟩ = some (.int .i64 x0) := r0
      have t1 : W2.cell? ⟨gh, i * 4 + 1, none⟩ = some (.int .i64 x1) := r1
      have t2 : W2.cell? ⟨gh, i * 4 + 2, none⟩ = some (.int .i64 x2) := r2
      have t3 : W2.cell? ⟨gh, i * 4 + 3, none⟩ = some (.bool x3) := r3
      have f0b : W2.frozen? ⟨gh, i * 4, none⟩ = false := f0
      have c3 := HS7.out.c3
      have d0 : W2.cell? ⟨D, 0, none⟩ = some (.int .i64 kd) := by simp [World.cell?, hdb]
      have d1 : W2.cell? ⟨D, 1, none⟩ = some (.int .i64 zn) := by simp [World.cell?, hdb]
      have d2 : W2.cell? ⟨D, 2, none⟩ = some (.int .i64 tr) := by simp [World.cell?, hdb]
      have d3 : W2.cell? ⟨D, 3, none⟩ = some (.bool nn) := by simp [World.cell?, hdb]
      clear hW2 hD hfo hf2 hdb hch hx hll
      clear r0 r1 r2 r3 f0
      obtain ⟨W3, hW3⟩ : ∃ W3, ((((W2.setCell ⟨gh, i * 4, none⟩ (.int .i64 kd)).setCell ⟨gh, i * 4 + 1, none⟩ (.int .i64 zn)).setCell ⟨gh, i * 4 + 2, none⟩ (.int .i64 tr)).setCell ⟨gh, i * 4 + 3, none⟩ (.bool nn)) = W3 := ⟨_, rfl⟩
      obtain ⟨hh3, hf3⟩ := OwnH.store (o := ⟨kd, zn, tr, nn⟩) (i := i) HH7.out rfl (by rw [List.length_append, List.length_map, HP.out.2.1, List.length_drop, HHL.out]; have := HIL.out; omega) hW3
      have hng : ¬ gh = sp ∧ ¬ gh = D := ⟨fun e => HN1.out (.inr (by rw [← e]; simp [InBlk, Value.ownBlock])), fun e => by have h1 := HDN.out; have h2 := (HI.out.2.2.2.elem gh (by simp [InBlk, Value.ownBlock])); have h3 := HF6.out.size; obtain ⟨_, h2⟩ := h2; have h4 := (Array.getElem?_eq_some_iff.1 h2).1; omega⟩
      have s3 : W3.cell? ⟨sp, 3, none⟩ = some (.slice (some ⟨gh, 0, none⟩) M.length chp) := hf3.cell c3 (fun e => hng.1 e.symm)
      have d0' := hf3.cell d0 (fun e => hng.2 e.symm)
      have d1' := hf3.cell d1 (fun e => hng.2 e.symm)
      have d2' := hf3.cell d2 (fun e => hng.2 e.symm)
      have d3' := hf3.cell d3 (fun e => hng.2 e.symm)
      have HK3 : Hid (W3.cell? ⟨sp, 3, none⟩ = some (.slice (some ⟨gh, 0, none⟩) M.length chp) ∧ W3.cell? ⟨D, 0, none⟩ = some (.int .i64 kd) ∧ W3.cell? ⟨D, 1, none⟩ = some (.int .i64 zn) ∧ W3.cell? ⟨D, 2, none⟩ = some (.int .i64 tr) ∧ W3.cell? ⟨D, 3, none⟩ = some (.bool nn)) := Lib.hid ⟨s3, d0', d1', d2', d3'⟩
      have HW3 := Lib.hid hW3
      have HH3 := Lib.hid hh3
      have HF3 := Lib.hid hf3
      have HNG := Lib.hid hng
      clear hW3 hh3 hf3 s3 d0' d1' d2' d3' hng
      go_region_held3 (fun w' => w'.cell? ⟨sp, 3, none⟩ = some (.slice (some ⟨gh, 0, none⟩) M.length chp) ∧ w'.cell? ⟨D, 0, none⟩ = some (.int .i64 kd) ∧ w'.cell? ⟨D, 1, none⟩ = some (.int .i64 zn) ∧ w'.cell? ⟨D, 2, none⟩ = some (.int .i64 tr) ∧ w'.cell? ⟨D, 3, none⟩ = some (.bool nn)) (first | exact ⟨c3, d0, d1, d2, d3⟩ | (rw [HW3.out]; exact HK3.out)) (fail)
      rw [HW3.out]
      have HT8 : Hid (TA 101 W3 p va ws' size xv ys') := Lib.hid ⟨HT7.out.ar.keep HF3.out (fun e => (HN3.out gh (by simp [InBlk, Value.ownBlock])).2 e.symm) (fun k hk e => (HN3.out gh (by simp [InBlk, Value.ownBlock])).1 (.inl (e ▸ hk))), HT7.out.own.keep HF3.out (fun k hk e => (HN3.out gh (by simp [InBlk, Value.ownBlock])).1 (.inr (e ▸ hk))), HT7.out.ap, HT7.out.okr, HT7.out.lenr⟩
      have HD3 : Hid (W3.heap[D]? = some (.cells #[.int .i64 kd, .int .i64 zn, .int .i64 tr, .bool nn] 104 (0, 0))) := Lib.hid (HF3.out.blk HDB.out (fun e => HNG.out.2 e.symm))
      have HS8 := Lib.hid (HS7.out.keep HF3.out (fun e => HNG.out.1 e.symm))
      have d0' := HK3.out.2.1
      have d1' := HK3.out.2.2.1
      have d2' := HK3.out.2.2.2.1
      have d3' := HK3.out.2.2.2.2
      have HHL2 : Hid (i < h0s.length) := Lib.hid (by rw [HHL.out]; exact HIL.out)
      clear c3 d0 d1 d2 d3 t0 t1 t2 t3 f0b f1 f2 f3 hghb
      go_upto_region 8 with (first | (go_at_call 73; (with_reducible refine (Wd.fields_c kd zn tr nn (fn : Int) _ HFD.out).mono ?_); rintro e wa ⟨rfl, hb⟩; have HFB := Lib.hid (((Fr.refl W3 (fun _ => False)).drew).trans (Fr.of_below hb (fun _ => False))); clear hb))
      clear d0' d1' d2' d3'
      have HT9 : Hid (TA 101 wa p va ws' size xv ys') := Lib.hid (HT8.out.fr HFB.out)
      have HS9 := Lib.hid (HS8.out.keep HFB.out (fun h => h))
      have HD9 : Hid (wa.heap[D]? = some (.cells #[.int .i64 kd, .int .i64 zn, .int .i64 tr, .bool nn] 104 (0, 0))) := Lib.hid (HFB.out.blk HD3.out (fun h => h))
      have HH9 : Hid (OwnH wa (.slice (some ⟨gh, 0, none⟩) M.length chp) ((P ++ [(a : Int)]).map (obj0 l) ++ h0s.drop (i + 1))) := Lib.hid (by
        have h1 := HH3.out.keep HFB.out (fun _ _ h => h)
        rw [set_mid (by rw [List.length_map]; exact HP.out.2.1) HHL2.out] at h1
        rw [List.map_append, List.map_singleton, HO0.out]
        exact h1)
      have HFA : Hid (Fr wr wa (fun i => UO va xv i ∨ InBlk (.slice (some ⟨gh, 0, none⟩) M.length chp) i)) := Lib.hid (((HF7.out.mono (S1 := fun i => UO va xv i ∨ InBlk (.slice (some ⟨gh, 0, none⟩) M.length chp) i) (fun _ h _ => .inl h)).trans (HF3.out.mono (S1 := fun i => UO va xv i ∨ InBlk (.slice (some ⟨gh, 0, none⟩) M.length chp) i) (fun j h _ => .inr (by rw [h]; simp [InBlk, Value.ownBlock])))).trans (HFB.out.mono (fun _ h _ => h.elim)))
      have HND : Hid (¬ UO va xv D) := Lib.hid (fun e => by
        have h1 := HDN.out
        rcases e with e | e
        · obtain ⟨_, h2⟩ := HT6.out.ar.own.elem D e; have := (Array.getElem?_eq_some_iff.1 h2).1; omega
        · obtain ⟨_, h2⟩ := HT6.out.own.elem D e; have := (Array.getElem?_eq_some_iff.1 h2).1; omega)
      have HNU : Hid (¬ UO va xv sp) := Lib.hid (fun e => HN1.out (.inl e))
      have HNH : Hid (∀ j, InBlk (.slice (some ⟨gh, 0, none⟩) M.length chp) j → ¬ UO va xv j) := Lib.hid (fun j hj => (HN3.out j hj).1)
      have HU9 : Hid (Us l rs L M (a + 1) (a + 1) rs.length ws' ys') := Lib.hid (HU2.out.skip HSC.out (Nat.le_succ _) (Nat.le_refl _) (fun j h1 h2 => noFld_of HSC.out (HSC.out.snd.fld_not HAL.out (by omega) (by have := HZ.out; rw [HO0.out]; simp only; omega) (.inl (by omega)))) (fun c _ hh => by omega))
      go_loopg [7, 47] fn (fun g a7 a47 wr2 => ∃ (k : Nat) (ws ys : List Int), a47 = .int .i64 k ∧ g + k = fn ∧ Hid (TA 101 wr2 p va ws size xv ys ∧ Fr wa wr2 (UO va xv) ∧ Us l rs L M (a + 1 + k) (a + 1) rs.length ws ys))
      case atStart => exact ⟨0, _, _, rfl, rfl, Lib.hid ⟨HT9.out, Fr.refl _ _, HU9.out⟩⟩
      case round =>
        clear HT9 HU9
        obtain ⟨k, ws2, ys2, rfl, hgk, HJ⟩ := hrel
        have HGK := Lib.hid hgk
        clear hgk
        have hS := HS9.out.keep HJ.out.2.1 HNU.out
        have c0 := hS.c0
        have c1 := hS.c1
        have HSx := Lib.hid hS
        clear hS
        by_cases hk : k < fn
        · have HKL := Lib.hid hk
          have qk : (k : Int) < fn := by omega
          have hfl : fldB l M (a + 1 + k) = true := fldB_iff.2 ⟨(a : Int), HAM.out, by omega, by rw [HO0.out, HFD.out]; omega⟩
          have hcs := HJ.out.2.2.fld HSC.out hfl (by omega)
          have hea : ((a + 1 + k : Nat) : Int) = (a : Int) + 1 + k := by omega
          rw [hea] at hcs
          have HTd := Lib.hid (HJ.out.1.fr ((Fr.refl wr (fun _ => False)).drew))
          clear hk hfl hea
          rcases hcs with ⟨hn, hu⟩ | ⟨ws3, ys3, hn, hu⟩
          · have HNO := Lib.hid hn
            have HU3 := Lib.hid hu
            clear hn hu
            go_upto_region 10 with (fail)
            have hw1 : IntKind.i64.wrap ((a : Int) + 1) = a + 1 := IntWalk.i64_in _ (by omega)
            have hw2 : IntKind.i64.wrap ((a : Int) + 1 + k) = a + 1 + k := IntWalk.i64_in _ (by clear hw1; omega)
            go_region_held3 (fun w' => w'.cell? ⟨sp, 0, none⟩ = some (.pointer (some ⟨p, 0, none⟩)) ∧ w'.cell? ⟨sp, 1, none⟩ = some xv) (first | exact ⟨g0, g1⟩ | exact ⟨c0, c1⟩)
              (first
                | (go_at_call 44; (with_reducible refine (thread_no p va xv ws2 ys2 size ((a : Int) + 1 + k) false _ HTd.out HNO.out).mono ?_); rintro e w8 ⟨rfl, hf8⟩; have HF8 := Lib.hid ((((Fr.refl wr (fun _ => False)).drew)).trans hf8); have g0 := (HSx.out.keep HF8.out (fun h => h)).c0; have g1 := (HSx.out.keep HF8.out (fun h => h)).c1; clear hf8))
            clear g0 g1 c0 c1 hw1 hw2
            have HT8b := Lib.hid (HJ.out.1.fr HF8.out)
            go_wp2
            go_roundg (gk - 1)
            case measure => have := HGK.out; have := HKL.out; omega
            case rel => exact ⟨k + 1, ws2, ys2, by first | rfl | go_num, by have := HGK.out; have := HKL.out; omega, Lib.hid ⟨HT8b.out, HJ.out.2.1.trans (HF8.out.mono (fun _ h _ => h.elim)), HU3.out⟩⟩
          · have HYE := Lib.hid hn
            have HU3 := Lib.hid hu
            clear hn hu
            go_upto_region 10 with (fail)
            have hw1 : IntKind.i64.wrap ((a : Int) + 1) = a + 1 := IntWalk.i64_in _ (by omega)
            have hw2 : IntKind.i64.wrap ((a : Int) + 1 + k) = a + 1 + k := IntWalk.i64_in _ (by clear hw1; omega)
            go_region_held3 (fun w' => w'.cell? ⟨sp, 0, none⟩ = some (.pointer (some ⟨p, 0, none⟩)) ∧ w'.cell? ⟨sp, 1, none⟩ = some xv) (first | exact ⟨g0, g1⟩ | exact ⟨c0, c1⟩)
              (first
                | (go_at_call 44; (with_reducible refine (thread_yes p va xv ws2 ys2 ws3 ys3 size ((a : Int) + 1 + k) false _ HTd.out HYE.out).mono ?_); rintro e w8 ⟨rfl, ht8, hf8⟩; have HF8 := Lib.hid ((((Fr.refl wr (UO va xv)).drew)).trans hf8); have HT8b := Lib.hid ht8; have g0 := (HSx.out.keep HF8.out HNU.out).c0; have g1 := (HSx.out.keep HF8.out HNU.out).c1; clear ht8 hf8))
            clear g0 g1 c0 c1 hw1 hw2
            go_wp2
            go_roundg (gk - 1)
            case measure => have := HGK.out; have := HKL.out; omega
            case rel => exact ⟨k + 1, ws3, ys3, by first | rfl | go_num, by have := HGK.out; have := HKL.out; omega, Lib.hid ⟨HT8b.out, HJ.out.2.1.trans HF8.out, HU3.out⟩⟩
        · have b47 : decide (k < fn) = false := decide_eq_false hk
          have HKE : Hid (k = fn) := Lib.hid (by have := HGK.out; omega)
          have e1 : wr.cell? ⟨D, 1, none⟩ = some (.int .i64 zn) := by
            have := HJ.out.2.1.blk HD9.out HND.out
            simp [World.cell?, this]
          clear hk c0 c1
          go_wp2
          go_roundg (G - 1)
          case measure => have := HGI.out; have := HIL.out; omega
          case rel =>
            have hp := HP.out
            have hu := HJ.out.2.2
            rw [HKE.out] at hu
            have hz : (obj0 l (a : Int)).size = zn := by rw [HO0.out]
            have hfz := HZ.out
            refine ⟨t + (1 + (zn : Int)), i + 1, P ++ [(a : Int)], Q2, a + 1 + zn, ws2, ys2, by first | rfl | go_num, by first | rfl | go_num, by have := HGI.out; have := HIL.out; omega, Lib.hid ⟨HJ.out.1, HI.out.2.1.trans (HFA.out.trans (HJ.out.2.1.mono (fun _ h _ => .inl h))), ?_, HH9.out.keep HJ.out.2.1 HNH.out⟩, Lib.hid ⟨hp.1.next HSC.out hz hfz.1, by rw [List.length_append, hp.2.1]; rfl, ?_, by omega⟩⟩
            · exact hu.skip HSC.out (by omega) (by omega) (fun j h1 h2 => noFld_of HSC.out (HSC.out.snd.fld_not HAL.out (by omega) (by rw [hz]; omega) (.inr (by rw [HO0.out, HFD.out]; omega)))) (hp.1.noObj HSC.out hz)
            · have e : wordsM l (P ++ [(a : Int)]) = wordsM l P + (1 + (obj0 l a).size) := by simp [wordsM]
              rw [e, hz, ← hp.2.2.1]
    · have hPM : P = M ∧ Q = [] := by
        have h1 := HP.out.1.eq
        have h2 := HP.out.2.1
        have h3 := congrArg List.length h1
        rw [List.length_append] at h3
        have h4 : Q = [] := List.eq_nil_of_length_eq_zero (by omega)
        rw [h4, List.append_nil] at h1
        exact ⟨h1.symm, h4⟩
      obtain ⟨rfl, rfl⟩ := hPM
      have b2 : decide (i < P.length) = false := decide_eq_false hi
      have HIE : Hid (i = P.length) := Lib.hid HP.out.2.1.symm
      clear hi c0 c1
      go_wp2
      go_end0
      refine ⟨rfl, ws, ys, HI.out.1, HP.out.1.fin HSC.out HI.out.2.2.1, ?_, HI.out.2.1⟩
      have h1 := HI.out.2.2.2
      rw [HIE.out, ← HHL.out, List.drop_length, List.append_nil] at h1
      rw [HHL.out] at h1
      exact h1
end Go.Proofs.Ytjiaaefpepdoeaa

/-
  CONTRACT: mark.Live. Conditions: at most 4000 words, at most 4000 roots.
-/
namespace Go.Proofs.Ytjiaaefpepdoeaa
open Go.RowKit Md
set_option linter.unusedVariables false
/-- the last word is taken off a row of one's own -/
theorem Own.pop {W : World} {e : TypeId} {g n c : Nat} {xs : List Value} {x : Value} (h : Own W e (.slice (some ⟨g, 0, none⟩) (n + 1) c) (xs ++ [x])) (hn : xs.length = n) : Own W e (.slice (some ⟨g, 0, none⟩) n c) xs := by
  rcases h.2 with ⟨hv, _⟩ | ⟨g', cap', cur, hv, hb, hg, hl, hm, hs, ht⟩
  · cases hv
  · injection hv with h1 h2 h3
    injection h1 with h1
    injection h1 with h1
    subst h1
    subst h3
    have hl2 : (xs ++ [x]).length = n + 1 := by simp [hn]
    rw [hl2] at hl ht
    refine ⟨by omega, .inr ⟨g, c, cur, by rw [hn], Nat.zero_le _, hg, by omega, hm, hs, ?_⟩⟩
    have h4 := congrArg (List.take n) ht
    rw [List.take_take] at h4
    rw [hn, Nat.mul_one]
    have h5 : min n ((n + 1) * 1) = n := by omega
    rw [h5] at h4
    rw [h4, List.take_append_of_le_length (by omega), ← hn, List.take_length]
def unseen (s : List Bool) : Nat := (s.filter (fun b => !b)).length
theorem unseen_set : ∀ (s : List Bool) (k : Nat), k < s.length → s.getD k false = false → unseen (s.set k true) + 1 = unseen s := by
  intro s
  induction s with
  | nil => intro k h; simp at h
  | cons b s ih =>
    intro k hk hs
    cases k with
    | zero => simp at hs; subst hs; simp [unseen]
    | succ k =>
      have := ih k (by simp at hk; omega) (by simpa using hs)
      unfold unseen at this ⊢
      cases b <;> simp at this ⊢ <;> omega
theorem unseen_new (n : Nat) : unseen (List.replicate n false) = n := by simp [unseen]
def mu (ws : List Int) (seen : List Bool) (todo : List Int) : Nat := todo.length + unseen seen * ws.length
structure LV (w W : World) (p : Nat) (v : Value) (ws rs : List Int) (size : Int) (sv tv : Value) (seen : List Bool) (todo : List Int) : Prop where
  ar : Ar 101 W p v ws size
  fr : Fr w W fun _ => False
  so : Own W 4 sv (bw seen)
  own : Own W 29 tv (uw todo)
  ins : ∀ k, InBlk sv k → w.heap.size ≤ k
  int : ∀ k, InBlk tv k → w.heap.size ≤ k
  vlt : ∀ k, InBlk v k → k < w.heap.size
  plt : p < w.heap.size
  okt : okWs todo
  sl : seen.length = ws.length
  back : ∀ r, Lv ws seen todo r → Lv ws (List.replicate ws.length false) rs r
section
variable {w W W1 : World} {p : Nat} {v : Value} {ws rs : List Int} {size : Int} {sv tv : Value} {seen : List Bool} {todo : List Int}
theorem LV.frm (h : LV w W p v ws rs size sv tv seen todo) (hf : Fr W W1 fun _ => False) : LV w W1 p v ws rs size sv tv seen todo :=
  ⟨h.ar.fr hf, h.fr.trans hf, h.so.keep hf (fun _ _ h => h), h.own.keep hf (fun _ _ h => h), h.ins, h.int, h.vlt, h.plt, h.okt, h.sl, h.back⟩
theorem LV.pop {g c n : Nat} {x : Int} {rest : List Int} (h : LV w W p v ws rs size sv (.slice (some ⟨g, 0, none⟩) (n + 1) c) seen (rest ++ [x])) (hn : rest.length = n) (hb : ∀ r, Lv ws seen rest r → Lv ws seen (rest ++ [x]) r) :
    LV w W p v ws rs size sv (.slice (some ⟨g, 0, none⟩) n c) seen rest :=
  ⟨h.ar, h.fr, h.so, Own.pop (x := .int .u64 x) (by have := h.own; rw [uw_append] at this; exact this) (by rw [uw_length]; exact hn), h.ins, fun k hk => h.int k (by simpa [InBlk, Value.ownBlock] using hk), h.vlt, h.plt, fun y hy => h.okt y (by simp [hy]), h.sl, fun r hr => h.back r (hb r hr)⟩
/-- without a word on the way back -/
structure LW (w W : World) (p : Nat) (v : Value) (ws : List Int) (size : Int) (sv tv : Value) (seen : List Bool) (todo : List Int) : Prop where
  ar : Ar 101 W p v ws size
  fr : Fr w W fun _ => False
  so : Own W 4 sv (bw seen)
  own : Own W 29 tv (uw todo)
  ins : ∀ k, InBlk sv k → w.heap.size ≤ k
  int : ∀ k, InBlk tv k → w.heap.size ≤ k
  vlt : ∀ k, InBlk v k → k < w.heap.size
  plt : p < w.heap.size
  okt : okWs todo
  sl : seen.length = ws.length
theorem LV.lw (h : LV w W p v ws rs size sv tv seen todo) : LW w W p v ws size sv tv seen todo := ⟨h.ar, h.fr, h.so, h.own, h.ins, h.int, h.vlt, h.plt, h.okt, h.sl⟩
theorem LW.lv (h : LW w W p v ws size sv tv seen todo) (hb : ∀ r, Lv ws seen todo r → Lv ws (List.replicate ws.length false) rs r) : LV w W p v ws rs size sv tv seen todo := ⟨h.ar, h.fr, h.so, h.own, h.ins, h.int, h.vlt, h.plt, h.okt, h.sl, hb⟩
theorem LW.frm (h : LW w W p v ws size sv tv seen todo) (hf : Fr W W1 fun _ => False) : LW w W1 p v ws size sv tv seen todo :=
  ⟨h.ar.fr hf, h.fr.trans hf, h.so.keep hf (fun _ _ h => h), h.own.keep hf (fun _ _ h => h), h.ins, h.int, h.vlt, h.plt, h.okt, h.sl⟩
theorem LW.see {g k cb nb : Nat} (h : LW w W p v ws size (.slice (some ⟨g, 0, none⟩) nb cb) tv seen todo) (hnb : seen.length = nb) (hk : k < seen.length) :
    LW w (W.setCell ⟨g, k, none⟩ (.bool true)) p v ws size (.slice (some ⟨g, 0, none⟩) nb cb) tv (seen.set k true) todo := by
  subst hnb
  have hin : InBlk (.slice (some ⟨g, 0, none⟩) seen.length cb) g := by simp [InBlk, Value.ownBlock]
  have hs := Own.setAt (cap := cb) (g := g) (k := k) (u := .bool true) (xs := bw seen) (e := 4) (W := W) (by rw [bw_length]; exact h.so) (by rw [bw_length]; exact hk)
  have hf := hs.2
  have hs1 := hs.1
  rw [bw_length] at hs1
  have e1 : (bw seen).set k (.bool true) = bw (seen.set k true) := by unfold bw; rw [List.map_set]
  rw [e1] at hs1
  have hgw := h.ins g hin
  exact ⟨h.ar.keep hf (by have := h.plt; omega) (fun i hi e => by have := h.vlt i hi; omega), h.fr.setCell (S := fun _ => False) (a := ⟨g, k, none⟩) (fun (hlt : g < w.heap.size) => by omega) _, hs1, h.own.keep hf (fun i hi e => h.own.apart h.so (by decide) i hi (by rw [e]; exact hin)), h.ins, h.int, h.vlt, h.plt, h.okt, by rw [List.length_set]; exact h.sl⟩
theorem LW.push (x : Int) (h : LW w W p v ws size sv tv seen todo) (hx : okW x) (hlen : todo.length ≤ 1073741823) :
    ∃ v' w1, (Builtin.append_ #[39, 39] 39 #[tv, .slice (some ⟨W.heap.size, 0, none⟩) 1 1]).run Try.prog (W.alloc (.cells #[.int .u64 x] 29)) = .ok v' w1 ∧ LW w w1 p v ws size sv v' seen (todo ++ [x]) ∧ Fr W w1 (fun i => InBlk tv i) := by
  obtain ⟨i0, hi, hz0, hz1, hzb⟩ := info_parts wordInfo
  have hf3 : Fr W (W.alloc (.cells #[.int .u64 x] 29)) (fun _ => False) := (Fr.refl _ _).alloc _
  have hone : Rd (W.alloc (.cells #[.int .u64 x] 29)) (.slice (some ⟨W.heap.size, 0, none⟩) 1 1) (uw [x]) := .inr ⟨W.heap.size, 0, 1, rfl, by simp [uw], by simp [uw], by decide, by simp, fun i hi => by
    have : i = 0 := by simp [uw] at hi; exact hi
    subst this
    simp only [World.cell?, blk_new]; rfl⟩
  obtain ⟨v', w1, hr, ho, hg, hn⟩ := run_append_rd (P := Try.prog) _ 39 39 29 i0 (.int .u64 0) Try.underlying39 hi hz0 hz1 (by omega) rfl _ _ (uw todo) (uw [x]) (h.own.keep hf3 (fun _ _ h => h)) hone (uw_one [x]) (by rw [uw_length, uw_length]; simp; omega)
  rw [← uw_append] at ho
  have hf4 : Fr W w1 (fun i => InBlk tv i) := (hf3.mono fun _ h _ => h.elim).grown hg (fun k hk _ => hk)
  refine ⟨v', w1, hr, ⟨h.ar.keep hf4 (fun e => by have := h.int p e; have := h.plt; omega) (fun i hi e => by have := h.vlt i hi; have := h.int i e; omega), h.fr.then_ hf4 (fun k hk hlt => by have := h.int k hk; omega), h.so.keep hf4 (fun i hi e => h.so.apart h.own (by decide) i hi e), ho, h.ins, fun k hk => ?_, h.vlt, h.plt, okWs_append h.okt (fun y hy => by simp at hy; rw [hy]; exact hx), h.sl⟩, hf4⟩
  rcases hn k hk with h1 | h1
  · exact h.int k h1
  · have h2 := h.fr.size
    have h3 : (W.alloc (.cells #[.int .u64 x] 29)).heap.size = W.heap.size + 1 := Array.size_push _
    omega
end
theorem mu_new {ws : List Int} {seen : List Bool} {rest : List Int} {x : Int} {k n : Nat} (hk : k < seen.length) (hs : seen.getD k false = false) (hn : n < ws.length) : mu ws (seen.set k true) (rest ++ fieldsAt ws x n) < mu ws seen (rest ++ [x]) := by
  have h1 := unseen_set seen k hk hs
  unfold mu
  have h2 : (fieldsAt ws x n).length = n := by simp [fieldsAt]
  rw [← h1, List.length_append, List.length_append, h2, Nat.add_mul]
  simp only [List.length_cons, List.length_nil]
  omega
theorem fieldsAt_succ (ws : List Int) (a : Int) (n : Nat) : fieldsAt ws a (n + 1) = fieldsAt ws a n ++ [rd0 ws (a + 1 + n)] := by simp [fieldsAt, List.range_succ]
/-- a number is appended to a row of the call's own -/
theorem ints_push {W : World} {u : Value} {acc : List Int} (x : Int) (h : Own W 3 u (iw acc)) (hlen : acc.length ≤ 1073741823) :
    ∃ v' w1, (Builtin.append_ #[51, 51] 51 #[u, .slice (some ⟨W.heap.size, 0, none⟩) 1 1]).run Try.prog (W.alloc (.cells #[.int .i64 x] 3)) = .ok v' w1 ∧ Own w1 3 v' (iw (acc ++ [x])) ∧ Fr W w1 (fun i => InBlk u i) ∧ ∀ k, InBlk v' k → InBlk u k ∨ W.heap.size ≤ k := by
  obtain ⟨i0, hi, hz0, hz1, hzb⟩ := info_parts intInfo
  have hf3 : Fr W (W.alloc (.cells #[.int .i64 x] 3)) (fun _ => False) := (Fr.refl _ _).alloc _
  have hone : Rd (W.alloc (.cells #[.int .i64 x] 3)) (.slice (some ⟨W.heap.size, 0, none⟩) 1 1) (iw [x]) := .inr ⟨W.heap.size, 0, 1, rfl, by simp [iw], by simp [iw], by decide, by simp, fun i hi => by
    have : i = 0 := by simp [iw] at hi; exact hi
    subst this
    simp only [World.cell?, blk_new]; rfl⟩
  obtain ⟨v', w1, hr, ho, hg, hn⟩ := run_append_rd (P := Try.prog) _ 51 51 3 i0 (.int .i64 0) Try.underlying51 hi hz0 hz1 (by omega) rfl _ _ (iw acc) (iw [x]) (h.keep hf3 (fun _ _ h => h)) hone (oneCell_all [x]) (by rw [iw_length, iw_length]; simp; omega)
  rw [← iw_append] at ho
  have hf4 : Fr W w1 (fun i => InBlk u i) := (hf3.mono fun _ h _ => h.elim).grown hg (fun k hk _ => hk)
  refine ⟨v', w1, hr, ho, hf4, fun k hk => ?_⟩
  rcases hn k hk with h1 | h1
  · exact .inl h1
  · right
    have h3 : (W.alloc (.cells #[.int .i64 x] 3)).heap.size = W.heap.size + 1 := Array.size_push _
    omega
def upTo (s : List Bool) (i : Nat) : List Int := ((List.range i).filter fun (j : Nat) => s.getD j false).map fun (j : Nat) => (j : Int)
theorem upTo_succ (s : List Bool) (i : Nat) : upTo s (i + 1) = if s.getD i false = true then upTo s i ++ [(i : Int)] else upTo s i := by
  unfold upTo
  rw [List.range_succ, List.filter_append]
  split
  · rename_i h; simp [-List.getD_eq_getElem?_getD, h]
  · rename_i h; simp [-List.getD_eq_getElem?_getD, h]
theorem upTo_len (s : List Bool) (i : Nat) : (upTo s i).length ≤ i := by
  unfold upTo
  rw [List.length_map]
  exact Nat.le_trans (List.length_filter_le _ _) (by simp)
theorem upTo_all (s : List Bool) : upTo s s.length = seenList s := rfl
/-- The answer. -/
def LvA (w w' : World) (ws rs : List Int) (e : Ending) : Prop :=
  ∃ (r : Option (List Bool)) (u : Value), Lv ws (List.replicate ws.length false) rs r ∧ e = .returned (.tuple #[u, .bool r.isSome]) ∧ New w w' 3 u (iw ((r.map seenList).getD []))
end Go.Proofs.Ytjiaaefpepdoeaa

/-
  CONTRACT: the slider's gone. Conditions: a sound heap (Sc), the live list in memory.
-/
namespace Go.Proofs.Ytjiaaefpepdoeaa
open Go.RowKit Md
set_option linter.unusedVariables false
theorem objects_some (p : Nat) (v : Value) (ws L : List Int) (size : Int) (w : World) (h : Ar 101 w p v ws size) (ho : objs ws = some L) :
    Calls Try.prog 33 #[.pointer (some ⟨p, 0, none⟩)] w fun e w' => ∃ u, e = .returned (.tuple #[u, .bool true]) ∧ New w w' 3 u (iw L) := by
  have := objects_c p v ws size w h
  rw [ho] at this
  exact this
/-- where gone stands -/
structure GP (l L M acc M1 M2 P Q : List Int) (k i : Nat) : Prop where
  eq : L = P ++ Q
  pl : P.length = i
  me : M = M1 ++ M2
  ml : M1.length = k
  ge : acc ++ goneM l M2 Q = goneM l M L
  al : acc.length ≤ i
section
variable {l L M acc M1 M2 P Q2 : List Int} {k i : Nat} {a x y : Int} {o : Hdr}
theorem gone_head (h : GP l L M acc M1 (a :: M2) P (a :: Q2) k i) : GP l L M acc (M1 ++ [a]) M2 (P ++ [a]) Q2 (k + 1) (i + 1) := by
  refine ⟨by rw [h.eq]; simp, by rw [List.length_append, h.pl]; rfl, by rw [h.me]; simp, by rw [List.length_append, h.ml]; rfl, ?_, by have := h.al; omega⟩
  rw [← h.ge, goneM, if_pos (by rfl)]
  rfl
theorem gone_none (h : GP l L M acc M1 M2 P (a :: Q2) k i) (hn : M2.head? ≠ some a) (hx : rdAt l (a + 1) = none) : GP l L M acc M1 M2 (P ++ [a]) Q2 k (i + 1) := by
  refine ⟨by rw [h.eq]; simp, by rw [List.length_append, h.pl]; rfl, h.me, h.ml, ?_, by have := h.al; omega⟩
  rw [← h.ge, goneM, if_neg hn]
  simp only [hx]
theorem gone_some (h : GP l L M acc M1 M2 P (a :: Q2) k i) (hn : M2.head? ≠ some a) (hx : rdAt l (a + 1) = some x) (ho : obj0 l a = o) (hc : o.kind = 3 ∧ 0 < o.size ∧ x ≠ 0) (hy : (if x < 9223372036854775808 then x else x - 18446744073709551616) = y) : GP l L M (acc ++ [y]) M1 M2 (P ++ [a]) Q2 k (i + 1) := by
  refine ⟨by rw [h.eq]; simp, by rw [List.length_append, h.pl]; rfl, h.me, h.ml, ?_, by have := h.al; rw [List.length_append]; simp only [List.length_cons, List.length_nil]; omega⟩
  rw [← h.ge]
  conv => rhs; rw [goneM, if_neg hn]
  simp only [hx, ho]
  rw [if_pos hc, hy]
  simp
theorem gone_not (h : GP l L M acc M1 M2 P (a :: Q2) k i) (hn : M2.head? ≠ some a) (hx : rdAt l (a + 1) = some x) (ho : obj0 l a = o) (hc : ¬ (o.kind = 3 ∧ 0 < o.size ∧ x ≠ 0)) : GP l L M acc M1 M2 (P ++ [a]) Q2 k (i + 1) := by
  refine ⟨by rw [h.eq]; simp, by rw [List.length_append, h.pl]; rfl, h.me, h.ml, ?_, by have := h.al; omega⟩
  rw [← h.ge]
  conv => rhs; rw [goneM, if_neg hn]
  simp only [hx, ho]
  rw [if_neg hc]
end
/-- the rows that gone holds -/
structure GW (w W : World) (av gv : Value) (L acc : List Int) : Prop where
  fr : Fr w W (fun _ => False)
  own : Own W 3 gv (iw acc)
  new : ∀ k, InBlk gv k → w.heap.size ≤ k
  all : Own W 3 av (iw L)
  ap : ∀ k, InBlk av k → ¬ InBlk gv k
section
variable {w W W1 : World} {av gv u : Value} {L acc acc2 : List Int}
theorem GW.frm (h : GW w W av gv L acc) (hf : Fr W W1 (fun _ => False)) : GW w W1 av gv L acc :=
  ⟨h.fr.trans hf, h.own.keep hf (fun _ _ h => h), h.new, h.all.keep hf (fun _ _ h => h), h.ap⟩
theorem GW.push (h : GW w W av gv L acc) (ho : Own W1 3 u (iw acc2)) (hf : Fr W W1 (fun i => InBlk gv i)) (hn : ∀ k, InBlk u k → InBlk gv k ∨ W.heap.size ≤ k) : GW w W1 av u L acc2 :=
  ⟨h.fr.then_ hf (fun k hk hlt => by have := h.new k hk; omega), ho, fun k hk => (hn k hk).elim (h.new k) (fun e => Nat.le_trans h.fr.size e), h.all.keep hf h.ap, fun k hk e => (hn k e).elim (h.ap k hk) (fun e => by have := h.all.lt k hk; omega)⟩
end
set_option maxRecDepth 100000 in
set_option maxHeartbeats 4000000 in
theorem gone_c (sp p : Nat) (va xv lv hv : Value) (l rs L M ys : List Int) (size : Int) (w : World) (h : TA 101 w p va l size xv ys) (hs : Sld w sp p xv lv hv) (hlv : Own w 3 lv (iw M)) (S : Sc l rs L M) (hl : l.length ≤ 4000) :
    Calls Try.prog 79 #[.pointer (some ⟨sp, 0, none⟩)] w fun e w' => ∃ gv, e = .returned gv ∧ Own w' 3 gv (iw (goneM l M L)) ∧ Fr w w' (fun _ => False) ∧ ∀ k, InBlk gv k → w.heap.size ≤ k := by
  have hLl : L.length ≤ l.length := by have := S.snd.rows.len; omega
  have hMl : M.length ≤ l.length := by have := (words_le S.snd.rows M S.srt S.sub).2; omega
  have HLL : Hid (L.length ≤ 4000) := Lib.hid (by omega)
  have HL := Lib.hid hl
  have HSC := Lib.hid S
  have HS := Lib.hid hs
  have HLV := Lib.hid hlv
  have HT := Lib.hid h
  have HOBS : Hid (objs l = some L) := Lib.hid S.snd.rows.objs
  have q1 : (M.length : Int) ≤ 4000 := by omega
  have q2 : (L.length : Int) ≤ 4000 := by omega
  have c0 := hs.c0
  obtain ⟨Al, cl, rfl⟩ := hlv.rd.len
  rw [iw_length] at *
  clear h hs hlv S hl hLl hMl
  go_enter Try.func79, Try.ntmps79
  go_upto_region 4 with (first
    | (go_at_call 33; (with_reducible refine (objects_some p va l L size _ HT.out.ar HOBS.out).mono ?_); rintro e w1 ⟨u, rfl, hn⟩; have HN := Lib.hid hn; clear hn))
  obtain ⟨Aa, ca, rfl⟩ := HN.out.1.rd.len
  rw [iw_length] at HN ⊢
  have H0 : Hid (GW w w1 (.slice Aa L.length ca) (.slice none 0 0) L []) := Lib.hid ⟨HN.out.2.1, Own.nil _ _, (fun k hk => by simp [InBlk, Value.ownBlock] at hk), HN.out.1, fun k _ e => by simp [InBlk, Value.ownBlock] at e⟩
  clear c0 HN
  go_wp2
  go_loopg [3, 4, 23] L.length (fun g a3 a4 a23 wr => ∃ (gv : Value) (k i : Nat) (acc M1 M2 P Q : List Int), gv = a3 ∧ a4 = .int .i64 k ∧ a23 = .int .i64 i ∧ g + i = L.length ∧ Hid (GW w wr (.slice Aa L.length ca) gv L acc) ∧ Hid (GP l L M acc M1 M2 P Q k i))
  case atStart => exact ⟨_, 0, 0, [], [], M, [], L, rfl, rfl, rfl, rfl, H0, Lib.hid ⟨rfl, rfl, rfl, rfl, rfl, Nat.le_refl _⟩⟩
  case round =>
    clear H0
    obtain ⟨gv, k, i, acc, M1, M2, P, Q, rfl, rfl, rfl, hgi, HI, HP⟩ := hrel
    have HGI := Lib.hid hgi
    clear hgi
    have HSw := Lib.hid (HS.out.keep HI.out.fr (fun h => h))
    have HTw := Lib.hid (HT.out.fr HI.out.fr)
    have HLw := Lib.hid (HLV.out.keep HI.out.fr (fun _ _ h => h))
    have hkM : k ≤ M.length := by have h1 := HP.out.me; have h2 := HP.out.ml; rw [h1, List.length_append]; omega
    have qk : (k : Int) ≤ M.length := by omega
    by_cases hi : i < L.length
    · have HIL := Lib.hid hi
      obtain ⟨a0, Q2, rfl⟩ : ∃ a0 Q2, Q = a0 :: Q2 := by
        cases Q with
        | nil => have h1 := HP.out.eq; have h2 := HP.out.pl; rw [List.append_nil] at h1; rw [h1] at hi; omega
        | cons a0 Q2 => exact ⟨a0, Q2, rfl⟩
      have haL : a0 ∈ L := by rw [HP.out.eq]; simp
      obtain ⟨hd, hob, ho0, hb0, hb1, hrd, hz0, hz1, hz2⟩ := HSC.out.snd.rows.obj _ haL
      obtain ⟨a, rfl⟩ := Int.eq_ofNat_of_zero_le hb0
      obtain ⟨kd, z, tr, nn⟩ := hd
      simp only at hz0 hz1 hz2
      obtain ⟨zn, rfl⟩ := Int.eq_ofNat_of_zero_le hz0
      have hga : L.getD i 0 = a := by
        have h1 := HP.out.eq
        have h2 := HP.out.pl
        rw [h1, ← h2]
        simp [List.getD]
      obtain ⟨ga, rfl, _, hca⟩ := HI.out.all.cellAt (by rw [iw_length]; omega)
      have ca0 := (hca i (by rw [iw_length]; exact hi)).1
      rw [iw_get hi, hga] at ca0
      have qi : (i : Int) < L.length := by omega
      have qa : (a : Int) ≤ 4000 := by have := HL.out; omega
      have HOB := Lib.hid hob
      have HO0 := Lib.hid ho0
      have c0 := HSw.out.c0
      have c2 := HSw.out.c2
      clear haL hob ho0 hb0 hb1 hrd hz0 hz1 hz2 hga hca hi
      by_cases hk : k < M.length
      · obtain ⟨m, M3, rfl⟩ : ∃ m M3, M2 = m :: M3 := by
          cases M2 with
          | nil => have h1 := HP.out.me; have h2 := HP.out.ml; rw [List.append_nil] at h1; rw [h1] at hk; omega
          | cons m M3 => exact ⟨m, M3, rfl⟩
        have hgm : M.getD k 0 = m := by
          have h1 := HP.out.me
          have h2 := HP.out.ml
          rw [h1, ← h2]
          simp [List.getD]
        obtain ⟨gl, rfl, _, hcl⟩ := HLw.out.cellAt (by rw [iw_length]; omega)
        have cl0 := (hcl k (by rw [iw_length]; exact hk)).1
        rw [iw_get hk, hgm] at cl0
        have qkl : (k : Int) < M.length := by omega
        clear hgm hcl hkM
        by_cases hma : m = a
        · subst hma
          have HQ := Lib.hid (gone_head HP.out)
          clear hk
          go_wp2
          go_roundg (gk - 1)
          case measure => have := HGI.out; have := HIL.out; omega
          case rel => exact ⟨_, k + 1, i + 1, acc, M1 ++ [(a : Int)], M3, P ++ [(a : Int)], Q2, rfl, by first | rfl | go_num, by first | rfl | go_num, by have := HGI.out; have := HIL.out; omega, HI, HQ⟩
        · obtain ⟨M2, hM2⟩ : ∃ M2, m :: M3 = M2 := ⟨_, rfl⟩
          have HNE : Hid (M2.head? ≠ some (a : Int)) := Lib.hid (by rw [← hM2]; simpa using hma)
          have bma : (m == (a : Int)) = false := by simpa using hma
          rw [hM2] at HP
          clear hM2 hma hk
          go_upto_region 9 with (fail)
          clear cl0 c2 ca0 bma
          go_upto_region 10 with (first | (go_at_call 62; (with_reducible refine (obj_some p va l size a _ _ HTw.out.ar HOB.out).mono ?_); rintro e wo ⟨rfl, hfo⟩))
          obtain ⟨W2, hW2⟩ : ∃ W2, wo.alloc (.cells #[.int .i64 kd, .int .i64 zn, .int .i64 tr, .bool nn] 104) = W2 := ⟨_, rfl⟩
          obtain ⟨D, hD⟩ : ∃ D, wo.heap.size = D := ⟨_, rfl⟩
          have hf2 : Fr wr W2 (fun _ => False) := by rw [← hW2]; exact hfo.alloc _
          have hdb : W2.heap[D]? = some (.cells #[.int .i64 kd, .int .i64 zn, .int .i64 tr, .bool nn] 104 (0, 0)) := by rw [← hW2, ← hD]; exact blk_new _ _ _
          have d0 : W2.cell? ⟨D, 0, none⟩ = some (.int .i64 kd) := by simp [World.cell?, hdb]
          have d1 : W2.cell? ⟨D, 1, none⟩ = some (.int .i64 zn) := by simp [World.cell?, hdb]
          have HT2 := Lib.hid (HTw.out.fr hf2)
          have HI2 := Lib.hid (HI.out.frm hf2)
          have c0' := (HSw.out.keep hf2 (fun h => h)).c0
          simp only [hW2, hD]
          clear hW2 hD hfo hf2 hdb HTw HSw c0
          have hwa : IntKind.i64.wrap ((a : Int) + 1) = a + 1 := IntWalk.i64_in _ (by omega)
          cases hx : rdAt l ((a : Int) + 1) with
          | none =>
            have HX := Lib.hid hx
            have HQ := Lib.hid (gone_none HP.out HNE.out hx)
            clear hx
            go_wp2_with (first | (go_at_call 23; (with_reducible refine (get_no p va l size _ _ HT2.out.ar HX.out).mono ?_); rintro e w4 ⟨rfl, rfl⟩))
            go_roundg (gk - 1)
            case measure => have := HGI.out; have := HIL.out; omega
            case rel => exact ⟨_, k, i + 1, acc, M1, M2, P ++ [(a : Int)], Q2, rfl, rfl, by first | rfl | go_num, by have := HGI.out; have := HIL.out; omega, HI2, HQ⟩
          | some x =>
            have HX := Lib.hid hx
            have hox : okW x := by obtain ⟨j, _, hj, rfl⟩ := rdAt_some hx; exact okWs_getD HT2.out.ar.ok j hj
            by_cases hc : kd = 3 ∧ 0 < (zn : Int) ∧ x ≠ 0
            · obtain ⟨rfl, h2, h3⟩ := hc
              have b1 : decide (0 < zn) = true := decide_eq_true (by omega)
              have b2 : (x != 0) = true := by simpa using h3
              obtain ⟨y, hy⟩ : ∃ y, (if x < 9223372036854775808 then x else x - 18446744073709551616) = y := ⟨_, rfl⟩
              have hwy : IntKind.i64.wrap x = y := by rw [IntKind.wrap_i64, ← hy]; unfold okW at hox; split <;> omega
              have HQ := Lib.hid (gone_some HP.out HNE.out hx HO0.out ⟨rfl, h2, h3⟩ hy)
              obtain ⟨v', w1, hrun, hown, hfp, hnew⟩ := ints_push y HI2.out.own (by have := HP.out.al; have := HIL.out; have := HLL.out; omega)
              have HRUN := Lib.hid hrun
              have HI3 := Lib.hid (HI2.out.push hown hfp hnew)
              clear hrun hown hfp hnew hx hox hy h2 h3
              go_wp2_with (first | (go_at_call 23; (with_reducible refine (get_c p va l size _ x _ HT2.out.ar HX.out).mono ?_); rintro e w4 ⟨rfl, rfl⟩) | (at_builtin; refine Lib.wpList_append_run _ rfl _ _ _ _ rfl _ _ rfl rfl _ w1 HRUN.out ?_))
              go_roundg (gk - 1)
              case measure => have := HGI.out; have := HIL.out; omega
              case rel => exact ⟨_, k, i + 1, acc ++ [y], M1, M2, P ++ [(a : Int)], Q2, rfl, rfl, by first | rfl | go_num, by have := HGI.out; have := HIL.out; omega, HI3, HQ⟩
            · have HQ := Lib.hid (gone_not HP.out HNE.out hx HO0.out hc)
              clear hx hox
              by_cases h1 : kd = 3
              · by_cases h2 : 0 < (zn : Int)
                · have h3 : x = 0 := by
                    by_cases h3 : x = 0
                    · exact h3
                    · exact absurd ⟨h1, h2, h3⟩ hc
                  subst h1
                  subst h3
                  have b1 : decide (0 < zn) = true := decide_eq_true (by omega)
                  clear hc h2
                  go_wp2_with (first | (go_at_call 23; (with_reducible refine (get_c p va l size _ 0 _ HT2.out.ar HX.out).mono ?_); rintro e w4 ⟨rfl, rfl⟩))
                  go_roundg (gk - 1)
                  case measure => have := HGI.out; have := HIL.out; omega
                  case rel => exact ⟨_, k, i + 1, acc, M1, M2, P ++ [(a : Int)], Q2, rfl, rfl, by first | rfl | go_num, by have := HGI.out; have := HIL.out; omega, HI2, HQ⟩
                · have b1 : decide (0 < zn) = false := decide_eq_false (by omega)
                  subst h1
                  clear hc h2
                  go_wp2_with (first | (go_at_call 23; (with_reducible refine (get_c p va l size _ x _ HT2.out.ar HX.out).mono ?_); rintro e w4 ⟨rfl, rfl⟩))
                  go_roundg (gk - 1)
                  case measure => have := HGI.out; have := HIL.out; omega
                  case rel => exact ⟨_, k, i + 1, acc, M1, M2, P ++ [(a : Int)], Q2, rfl, rfl, by first | rfl | go_num, by have := HGI.out; have := HIL.out; omega, HI2, HQ⟩
              · have b1 : (kd == 3) = false := by simpa using h1
                clear hc h1
                go_wp2_with (first | (go_at_call 23; (with_reducible refine (get_c p va l size _ x _ HT2.out.ar HX.out).mono ?_); rintro e w4 ⟨rfl, rfl⟩))
                go_roundg (gk - 1)
                case measure => have := HGI.out; have := HIL.out; omega
                case rel => exact ⟨_, k, i + 1, acc, M1, M2, P ++ [(a : Int)], Q2, rfl, rfl, by first | rfl | go_num, by have := HGI.out; have := HIL.out; omega, HI2, HQ⟩
      · have hke : k = M.length := by omega
        have HNE : Hid (M2.head? ≠ some (a : Int)) := Lib.hid (by
          have h1 := HP.out.me
          have h2 := HP.out.ml
          have h3 := congrArg List.length h1
          rw [List.length_append] at h3
          have h4 : M2 = [] := List.eq_nil_of_length_eq_zero (by omega)
          rw [h4]; simp)
        have bk : decide (k < M.length) = false := decide_eq_false hk
        clear hk hke hkM
        go_upto_region 9 with (fail)
        clear c2 ca0 bk
        go_upto_region 10 with (first | (go_at_call 62; (with_reducible refine (obj_some p va l size a _ _ HTw.out.ar HOB.out).mono ?_); rintro e wo ⟨rfl, hfo⟩))
        obtain ⟨W2, hW2⟩ : ∃ W2, wo.alloc (.cells #[.int .i64 kd, .int .i64 zn, .int .i64 tr, .bool nn] 104) = W2 := ⟨_, rfl⟩
        obtain ⟨D, hD⟩ : ∃ D, wo.heap.size = D := ⟨_, rfl⟩
        have hf2 : Fr wr W2 (fun _ => False) := by rw [← hW2]; exact hfo.alloc _
        have hdb : W2.heap[D]? = some (.cells #[.int .i64 kd, .int .i64 zn, .int .i64 tr, .bool nn] 104 (0, 0)) := by rw [← hW2, ← hD]; exact blk_new _ _ _
        have d0 : W2.cell? ⟨D, 0, none⟩ = some (.int .i64 kd) := by simp [World.cell?, hdb]
        have d1 : W2.cell? ⟨D, 1, none⟩ = some (.int .i64 zn) := by simp [World.cell?, hdb]
        have HT2 := Lib.hid (HTw.out.fr hf2)
        have HI2 := Lib.hid (HI.out.frm hf2)
        have c0' := (HSw.out.keep hf2 (fun h => h)).c0
        simp only [hW2, hD]
        clear hW2 hD hfo hf2 hdb HTw HSw c0
        have hwa : IntKind.i64.wrap ((a : Int) + 1) = a + 1 := IntWalk.i64_in _ (by omega)
        cases hx : rdAt l ((a : Int) + 1) with
        | none =>
          have HX := Lib.hid hx
          have HQ := Lib.hid (gone_none HP.out HNE.out hx)
          clear hx
          go_wp2_with (first | (go_at_call 23; (with_reducible refine (get_no p va l size _ _ HT2.out.ar HX.out).mono ?_); rintro e w4 ⟨rfl, rfl⟩))
          go_roundg (gk - 1)
          case measure => have := HGI.out; have := HIL.out; omega
          case rel => exact ⟨_, k, i + 1, acc, M1, M2, P ++ [(a : Int)], Q2, rfl, rfl, by first | rfl | go_num, by have := HGI.out; have := HIL.out; omega, HI2, HQ⟩
        | some x =>
          have HX := Lib.hid hx
          have hox : okW x := by obtain ⟨j, _, hj, rfl⟩ := rdAt_some hx; exact okWs_getD HT2.out.ar.ok j hj
          by_cases hc : kd = 3 ∧ 0 < (zn : Int) ∧ x ≠ 0
          · obtain ⟨rfl, h2, h3⟩ := hc
            have b1 : decide (0 < zn) = true := decide_eq_true (by omega)
            have b2 : (x != 0) = true := by simpa using h3
            obtain ⟨y, hy⟩ : ∃ y, (if x < 9223372036854775808 then x else x - 18446744073709551616) = y := ⟨_, rfl⟩
            have hwy : IntKind.i64.wrap x = y := by rw [IntKind.wrap_i64, ← hy]; unfold okW at hox; split <;> omega
            have HQ := Lib.hid (gone_some HP.out HNE.out hx HO0.out ⟨rfl, h2, h3⟩ hy)
            obtain ⟨v', w1, hrun, hown, hfp, hnew⟩ := ints_push y HI2.out.own (by have := HP.out.al; have := HIL.out; have := HLL.out; omega)
            have HRUN := Lib.hid hrun
            have HI3 := Lib.hid (HI2.out.push hown hfp hnew)
            clear hrun hown hfp hnew hx hox hy h2 h3
            go_wp2_with (first | (go_at_call 23; (with_reducible refine (get_c p va l size _ x _ HT2.out.ar HX.out).mono ?_); rintro e w4 ⟨rfl, rfl⟩) | (at_builtin; refine Lib.wpList_append_run _ rfl _ _ _ _ rfl _ _ rfl rfl _ w1 HRUN.out ?_))
            go_roundg (gk - 1)
            case measure => have := HGI.out; have := HIL.out; omega
            case rel => exact ⟨_, k, i + 1, acc ++ [y], M1, M2, P ++ [(a : Int)], Q2, rfl, rfl, by first | rfl | go_num, by have := HGI.out; have := HIL.out; omega, HI3, HQ⟩
          · have HQ := Lib.hid (gone_not HP.out HNE.out hx HO0.out hc)
            clear hx hox
            by_cases h1 : kd = 3
            · by_cases h2 : 0 < (zn : Int)
              · have h3 : x = 0 := by
                  by_cases h3 : x = 0
                  · exact h3
                  · exact absurd ⟨h1, h2, h3⟩ hc
                subst h1
                subst h3
                have b1 : decide (0 < zn) = true := decide_eq_true (by omega)
                clear hc h2
                go_wp2_with (first | (go_at_call 23; (with_reducible refine (get_c p va l size _ 0 _ HT2.out.ar HX.out).mono ?_); rintro e w4 ⟨rfl, rfl⟩))
                go_roundg (gk - 1)
                case measure => have := HGI.out; have := HIL.out; omega
                case rel => exact ⟨_, k, i + 1, acc, M1, M2, P ++ [(a : Int)], Q2, rfl, rfl, by first | rfl | go_num, by have := HGI.out; have := HIL.out; omega, HI2, HQ⟩
              · have b1 : decide (0 < zn) = false := decide_eq_false (by omega)
                subst h1
                clear hc h2
                go_wp2_with (first | (go_at_call 23; (with_reducible refine (get_c p va l size _ x _ HT2.out.ar HX.out).mono ?_); rintro e w4 ⟨rfl, rfl⟩))
                go_roundg (gk - 1)
                case measure => have := HGI.out; have := HIL.out; omega
                case rel => exact ⟨_, k, i + 1, acc, M1, M2, P ++ [(a : Int)], Q2, rfl, rfl, by first | rfl | go_num, by have := HGI.out; have := HIL.out; omega, HI2, HQ⟩
            · have b1 : (kd == 3) = false := by simpa using h1
              clear hc h1
              go_wp2_with (first | (go_at_call 23; (with_reducible refine (get_c p va l size _ x _ HT2.out.ar HX.out).mono ?_); rintro e w4 ⟨rfl, rfl⟩))
              go_roundg (gk - 1)
              case measure => have := HGI.out; have := HIL.out; omega
              case rel => exact ⟨_, k, i + 1, acc, M1, M2, P ++ [(a : Int)], Q2, rfl, rfl, by first | rfl | go_num, by have := HGI.out; have := HIL.out; omega, HI2, HQ⟩
    · have hPQ : Q = [] := by
        have h3 := congrArg List.length HP.out.eq
        rw [List.length_append, HP.out.pl] at h3
        exact List.eq_nil_of_length_eq_zero (by omega)
      have HE : Hid (acc = goneM l M L) := Lib.hid (by have h1 := HP.out.ge; rw [hPQ, goneM, List.append_nil] at h1; exact h1)
      have b2 : decide (i < L.length) = false := decide_eq_false hi
      clear hi hPQ
      go_wp2
      go_ret
      have h1 := HI.out.own
      rw [HE.out] at h1
      exact ⟨_, rfl, h1, HI.out.fr, HI.out.new⟩
end Go.Proofs.Ytjiaaefpepdoeaa

/-
  CONTRACT: mark.Live: the walk. Conditions: at most 4000 words, at most 4000 roots.
-/
namespace Go.Proofs.Ytjiaaefpepdoeaa
open Go.RowKit Md
set_option linter.unusedVariables false
set_option maxRecDepth 100000 in
set_option maxHeartbeats 4000000 in
theorem live_c (p : Nat) (v r : Value) (ws rs : List Int) (size : Int) (w : World) (h : Ar 101 w p v ws size) (hr : Rd w r (uw rs)) (hok : okWs rs) (hl : ws.length ≤ 4000) (hlr : rs.length ≤ 4000) :
    Calls Try.prog 49 #[.pointer (some ⟨p, 0, none⟩), r] w fun e w' => LvA w w' ws rs e := by
  have HL : Hid (ws.length ≤ 4000 ∧ rs.length ≤ 4000) := Lib.hid ⟨hl, hlr⟩
  have HM : Hid (rs.length + ws.length * ws.length ≤ 16004000) := Lib.hid (by
    have : ws.length * ws.length ≤ 4000 * 4000 := Nat.mul_le_mul hl hl
    omega)
  have HLR : Hid (rs.length ≤ 1073741824) := Lib.hid (by omega)
  have H := Lib.hid h
  have HR := Lib.hid hr
  have HOK := Lib.hid hok
  have q1 : (ws.length : Int) ≤ 4000 := by omega
  clear h hr hok hl hlr
  go_enter Try.func49, Try.ntmps49
  obtain ⟨w1, hmk, hbo, hfm⟩ := mk_bools ws.length w (by have := HL.out; omega)
  have HA1 := Lib.hid (H.out.fr hfm)
  have HR1 := Lib.hid (HR.out.keep hfm (fun _ _ h => h))
  have HB1 := Lib.hid hbo
  have HF1 := Lib.hid hfm
  clear hbo hfm
  go_upto_region 5 with (first
    | (go_at_call 27; (with_reducible refine (used_c p v ws size _ H.out).mono ?_); rintro e wu ⟨rfl, rfl⟩)
    | (go_at_call 61; (with_reducible refine (clone_c _ rs _ HR1.out HLR.out).mono ?_); rintro e w2 ⟨tv, rfl, hn⟩; have HC2 := Lib.hid hn; have HA2 := Lib.hid (HA1.out.fr hn.2.1); have HB2 := Lib.hid (HB1.out.keep hn.2.1 (fun _ _ h => h)); have HF2 := Lib.hid (HF1.out.trans hn.2.1); clear hn))
  have H0 : Hid (LV w w2 p v ws rs size (.slice (some ⟨w.heap.size, 0, none⟩) ws.length ws.length) tv (List.replicate ws.length false) rs) := Lib.hid ⟨HA2.out, HF2.out, HB2.out, HC2.out.1, (fun k hk => by simp [InBlk, Value.ownBlock] at hk; omega), (fun k hk => Nat.le_trans HF1.out.size (HC2.out.2.2 k hk)), H.out.own.lt, H.out.lt, HOK.out, by simp, fun r h => h⟩
  have HMU : Hid (mu ws (List.replicate ws.length false) rs ≤ rs.length + ws.length * ws.length) := Lib.hid (by unfold mu; rw [unseen_new]; exact Nat.le_refl _)
  obtain ⟨gs, hgs⟩ : ∃ gs, w.heap.size = gs := ⟨_, rfl⟩
  have HGS := Lib.hid hgs
  rw [hgs] at H0 ⊢
  clear HA1 HR1 HB1 HF1 HA2 HB2 HF2 HC2 hgs hmk
  go_loopg [7] (rs.length + ws.length * ws.length) (fun g a7 wr => ∃ (tv : Value) (seen : List Bool) (todo : List Int), tv = a7 ∧ Hid (mu ws seen todo ≤ g ∧ g ≤ rs.length + ws.length * ws.length) ∧ Hid (LV w wr p v ws rs size (.slice (some ⟨gs, 0, none⟩) ws.length ws.length) tv seen todo))
  case atStart => exact ⟨tv, _, _, rfl, Lib.hid ⟨HMU.out, Nat.le_refl _⟩, H0⟩
  case round =>
    clear H0 HMU
    obtain ⟨tv, seen, todo, rfl, HG, HI⟩ := hrel
    obtain ⟨G, rfl⟩ : ∃ G, G = gk := ⟨_, rfl⟩
    by_cases h0 : todo = []
    · subst h0
      obtain ⟨At, ct, rfl⟩ := HI.out.own.rd.len
      have e0 : (uw []).length = 0 := rfl
      rw [e0] at HI ⊢
      clear e0
      go_wp2
      have HSL : Hid (seen.length = ws.length) := Lib.hid HI.out.sl
      have HBK := Lib.hid (HI.out.back (some seen) .nil)
      have HSO := Lib.hid HI.out.so
      have HFW := Lib.hid HI.out.fr
      have HNS := Lib.hid HI.out.ins
      clear HI
      obtain ⟨W0, hW0⟩ : ∃ W0, W0 = wr := ⟨_, rfl⟩
      subst hW0
      go_loopg [15, 83] ws.length (fun g a15 a83 wr => ∃ (lv : Value) (i : Nat), lv = a15 ∧ a83 = .int .i64 i ∧ g + i = ws.length ∧ Hid (Fr w wr (fun _ => False) ∧ Own wr 4 (.slice (some ⟨gs, 0, none⟩) ws.length ws.length) (bw seen) ∧ Own wr 3 lv (iw (upTo seen i)) ∧ ∀ k, InBlk lv k → w.heap.size ≤ k))
      case atStart => exact ⟨_, 0, rfl, rfl, rfl, Lib.hid ⟨HFW.out, HSO.out, Own.nil _ _, fun k hk => by simp [InBlk, Value.ownBlock] at hk⟩⟩
      case round =>
        obtain ⟨lv, i, rfl, rfl, hgi, HI⟩ := hrel
        have HGI := Lib.hid hgi
        clear hgi
        by_cases hi : i < ws.length
        · have HIL := Lib.hid hi
          have qi : (i : Int) < ws.length := by omega
          obtain ⟨b, hb⟩ : ∃ b, seen.getD i false = b := ⟨_, rfl⟩
          have HB := Lib.hid hb
          have cb : wr.cell? ⟨gs, i, none⟩ = some (.bool b) := by
            obtain ⟨b2, e, _, hc⟩ := HI.out.2.1.cellAt (by rw [bw_length, HSL.out]; omega)
            injection e with e
            injection e with e
            subst e
            have h1 := (hc i (by rw [bw_length, HSL.out]; exact hi)).1
            rw [bw_get (by rw [HSL.out]; exact hi), hb] at h1
            exact h1
          clear hi hb
          cases b with
          | true =>
            obtain ⟨v', w1, hrun, ho, hf, hn⟩ := ints_push (i : Int) HI.out.2.2.1 (by have := upTo_len seen i; have := HIL.out; have := HL.out; omega)
            have HRUN := Lib.hid hrun
            have HF := Lib.hid hf
            have HO := Lib.hid ho
            have HN := Lib.hid hn
            clear hrun ho hf hn
            go_wp2_with (at_builtin; refine Lib.wpList_append_run _ rfl _ _ _ _ rfl _ _ rfl rfl _ w1 HRUN.out ?_)
            go_roundg (gk - 1)
            case measure => have := HGI.out; have := HIL.out; omega
            case rel =>
              have e1 : upTo seen (i + 1) = upTo seen i ++ [(i : Int)] := by rw [upTo_succ, if_pos HB.out]
              refine ⟨_, i + 1, rfl, by first | rfl | go_num, by have := HGI.out; have := HIL.out; omega, Lib.hid ⟨HI.out.1.then_ HF.out (fun k hk hlt => by have := HI.out.2.2.2 k hk; omega), HI.out.2.1.keep HF.out (fun k hk e => HI.out.2.1.apart HI.out.2.2.1 (by decide) k hk e), by rw [e1]; exact HO.out, fun k hk => ?_⟩⟩
              rcases HN.out k hk with h1 | h1
              · exact HI.out.2.2.2 k h1
              · exact Nat.le_trans HI.out.1.size h1
          | false =>
            go_wp2
            go_roundg (gk - 1)
            case measure => have := HGI.out; have := HIL.out; omega
            case rel =>
              have e1 : upTo seen (i + 1) = upTo seen i := by rw [upTo_succ, if_neg (by rw [HB.out]; decide)]
              exact ⟨_, i + 1, rfl, by first | rfl | go_num, by have := HGI.out; have := HIL.out; omega, Lib.hid ⟨HI.out.1, HI.out.2.1, by rw [e1]; exact HI.out.2.2.1, HI.out.2.2.2⟩⟩
        · have hie : i = ws.length := by have := HGI.out; omega
          have b3 : decide (i < ws.length) = false := decide_eq_false hi
          have HO : Hid (Own wr 3 lv (iw (seenList seen))) := Lib.hid (by have := HI.out.2.2.1; rw [hie, ← HSL.out] at this; exact this)
          clear hi hie
          go_wp2
          go_ret2
          exact ⟨some seen, _, HBK.out, rfl, HO.out, HI.out.1, HI.out.2.2.2⟩
    · obtain ⟨rest, x, rfl⟩ : ∃ rest x, todo = rest ++ [x] := ⟨todo.dropLast, todo.getLast h0, (List.dropLast_concat_getLast h0).symm⟩
      obtain ⟨n, hn⟩ : ∃ n, rest.length = n := ⟨_, rfl⟩
      have HN := Lib.hid hn
      have hlt : (rest ++ [x]).length = n + 1 := by simp [hn]
      obtain ⟨At, ct, rfl⟩ := HI.out.own.rd.len
      rw [uw_length, hlt] at HI ⊢
      obtain ⟨gt, rfl, _, hct⟩ := HI.out.own.cellAt (by rw [uw_length]; omega)
      have cx := (hct n (by rw [uw_length]; omega)).1
      rw [uw_get (by omega)] at cx
      have hxg : (rest ++ [x]).getD n 0 = x := by rw [← hn]; simp [List.getD]
      rw [hxg] at cx
      have HX : Hid (okW x) := Lib.hid (HI.out.okt x (by simp))
      have hcap : n + 1 ≤ ct := by
        rcases HI.out.own.form with ⟨e, _⟩ | ⟨g', cap', e, hl, _⟩
        · cases e
        · injection e with e1 e2 e3; rw [uw_length] at hl; omega
      have qn : (n : Int) ≤ 16004000 := by have := HG.out; have := HM.out; unfold mu at *; omega
      have qc : (n : Int) < ct := by omega
      have hmn : ((n + 1 : Nat) : Int) - 1 = n := by omega
      clear h0 hn hlt hct hxg hcap
      go_upto_region 8 with (fail)
      obtain ⟨t, ht⟩ : ∃ t, tagW x = t := ⟨_, rfl⟩
      have HT := Lib.hid ht
      clear ht cx hmn qc
      by_cases h5 : t = 5
      · subst h5
        obtain ⟨nv, hnv⟩ : ∃ n, valW x = n := ⟨_, rfl⟩
        have HV := Lib.hid hnv
        cases hob : objAt ws nv with
        | none =>
          have HOB := Lib.hid hob
          have HLW := Lib.hid (HI.out.lw)
          have HBK := Lib.hid (HI.out.back none (.bad HT.out (by rw [hnv]; exact hob)))
          clear hnv hob HI
          go_wp2_with (first | (go_at_call 66; (with_reducible refine (Wd.tag_c x 5 _ HX.out HT.out).mono ?_); rintro e wt ⟨rfl, nt, rfl⟩) | (go_at_call 67; (with_reducible refine (Wd.val_c x nv _ HX.out HV.out).mono ?_); rintro e wv ⟨rfl, n3, rfl⟩; have HL3 := Lib.hid (HLW.out.frm ((Fr.refl _ _).drewN (nt + n3)))) | (go_at_call 62; (with_reducible refine (obj_none p v ws size nv _ HL3.out.ar HOB.out).mono ?_); rintro e wo ⟨rfl, hfo⟩; have HL4 := Lib.hid (HL3.out.frm hfo); clear hfo))
          go_ret2
          exact ⟨none, _, HBK.out, rfl, Own.nil _ _, HL4.out.fr.alloc _, fun k hk => by simp [InBlk, Value.ownBlock] at hk⟩
        | some hd =>
          have HOB := Lib.hid hob
          obtain ⟨hb0, hb1, hrd, hz0, hz1, hz2⟩ := obj_facts hob
          obtain ⟨k, rfl⟩ := Int.eq_ofNat_of_zero_le hb0
          obtain ⟨kd, z, th, nn⟩ := hd
          simp only at hz0 hz1 hz2
          have HZ : Hid (0 ≤ z ∧ z < 1048576 ∧ (k : Int) + 1 + z ≤ ws.length) := Lib.hid ⟨hz0, hz1, hz2⟩
          have qk : (k : Int) < ws.length := hb1
          have HK : Hid (k < ws.length) := Lib.hid (by omega)
          have HKS : Hid (k < seen.length) := Lib.hid (by rw [HI.out.sl]; omega)
          obtain ⟨f, hfd⟩ : ∃ f, fieldsH ⟨kd, z, th, nn⟩ = f := ⟨_, rfl⟩
          have HFD := Lib.hid hfd
          obtain ⟨bs, hbs⟩ : ∃ bs, seen.getD k false = bs := ⟨_, rfl⟩
          have HBS := Lib.hid hbs
          clear hnv hob hb0 hb1 hrd hz0 hz1 hz2 hfd hbs
          go_upto_region 11 with (first | (go_at_call 66; (with_reducible refine (Wd.tag_c x 5 _ HX.out HT.out).mono ?_); rintro e wt ⟨rfl, nt, rfl⟩) | (go_at_call 67; (with_reducible refine (Wd.val_c x (k : Int) _ HX.out HV.out).mono ?_); rintro e wv ⟨rfl, n3, rfl⟩; have HL3 := Lib.hid (HI.out.frm ((Fr.refl _ _).drewN (nt + n3)))) | (go_at_call 62; (with_reducible refine (obj_some p v ws size k _ _ HL3.out.ar HOB.out).mono ?_); rintro e wo ⟨rfl, hfo⟩))
          obtain ⟨W2, hW2⟩ : ∃ W2, wo.alloc (.cells #[.int .i64 kd, .int .i64 z, .int .i64 th, .bool nn] 104) = W2 := ⟨_, rfl⟩
          obtain ⟨D, hD⟩ : ∃ D, wo.heap.size = D := ⟨_, rfl⟩
          have hf2 : Fr (wr.drewN (nt + n3)) W2 (fun _ => False) := by rw [← hW2]; exact hfo.alloc _
          have hdb : W2.heap[D]? = some (.cells #[.int .i64 kd, .int .i64 z, .int .i64 th, .bool nn] 104 (0, 0)) := by rw [← hW2, ← hD]; exact blk_new _ _ _
          have HL4 := Lib.hid (HL3.out.frm hf2)
          have HDB := Lib.hid hdb
          simp only [hW2, hD]
          obtain ⟨cb, fb⟩ : W2.cell? ⟨gs, k, none⟩ = some (.bool bs) ∧ W2.frozen? ⟨gs, k, none⟩ = false := by
            obtain ⟨b, e, _, hc⟩ := HL4.out.so.cellAt (by rw [bw_length]; have := HKS.out; omega)
            injection e with e
            injection e with e
            subst e
            have h1 := hc k (by rw [bw_length]; exact HKS.out)
            rw [bw_get HKS.out, HBS.out] at h1
            exact h1
          have HBK := Lib.hid HI.out.back
          clear hW2 hD hfo hf2 hdb HI HL3
          cases bs with
          | true =>
            have HLP := Lib.hid (HL4.out.pop HN.out (fun r hr => .old HT.out (by rw [HV.out]; exact HOB.out) (by rw [HV.out]; exact HBS.out) hr))
            go_wp2
            go_roundg (G - 1)
            case measure => have := HG.out; unfold mu at this; simp at this; omega
            case rel => exact ⟨_, seen, rest, rfl, Lib.hid ⟨by have := HG.out; unfold mu at this ⊢; simp at this; omega, by have := HG.out; omega⟩, HLP⟩
          | false =>
            go_upto_region 15 with (fail)
            have hlw := HL4.out.lw
            have hpop : LW w W2 p v ws size (.slice (some ⟨gs, 0, none⟩) ws.length ws.length) (.slice (some ⟨gt, 0, none⟩) n ct) seen rest := ⟨hlw.ar, hlw.fr, hlw.so, Own.pop (x := .int .u64 x) (by have := hlw.own; rw [uw_append] at this; exact this) (by rw [uw_length]; exact HN.out), hlw.ins, fun k hk => hlw.int k (by simpa [InBlk, Value.ownBlock] using hk), hlw.vlt, hlw.plt, fun y hy => hlw.okt y (by simp [hy]), hlw.sl⟩
            have HL5 := Lib.hid (hpop.see hlw.sl HKS.out)
            have hD5 := (Fr.setCell (S := fun i => i = gs) (a := ⟨gs, k, none⟩) (Fr.refl W2 _) (fun _ => rfl) (.bool true)).blk HDB.out (fun e => hlw.so.not_box HDB.out (by decide) (by rw [e]; simp [InBlk, Value.ownBlock]))
            obtain ⟨W3, hW3⟩ : ∃ W3, W2.setCell ⟨gs, k, none⟩ (.bool true) = W3 := ⟨_, rfl⟩
            rw [hW3] at HL5 hD5 ⊢
            have HD5 := Lib.hid hD5
            have d0 : W3.cell? ⟨D, 0, none⟩ = some (.int .i64 kd) := by simp [World.cell?, hD5]
            have d1 : W3.cell? ⟨D, 1, none⟩ = some (.int .i64 z) := by simp [World.cell?, hD5]
            have d2 : W3.cell? ⟨D, 2, none⟩ = some (.int .i64 th) := by simp [World.cell?, hD5]
            have d3 : W3.cell? ⟨D, 3, none⟩ = some (.bool nn) := by simp [World.cell?, hD5]
            clear hlw hpop hW3 hD5 cb fb HL4
            by_cases hfz : f < z
            · obtain ⟨fm, rfl⟩ := Int.eq_ofNat_of_zero_le (show 0 ≤ f by rw [← HFD.out]; exact fieldsH_nonneg HZ.out.1)
              have HFM : Hid ((k : Int) + 1 + fm ≤ ws.length) := Lib.hid (by have := HZ.out; omega)
              have HNF : Hid (nFields ⟨kd, z, th, nn⟩ = fm) := Lib.hid (by unfold nFields; rw [HFD.out]; simp only; omega)
              go_region_held3 (fun w' => w'.cell? ⟨D, 0, none⟩ = some (.int .i64 kd) ∧ w'.cell? ⟨D, 1, none⟩ = some (.int .i64 z) ∧ w'.cell? ⟨D, 2, none⟩ = some (.int .i64 th) ∧ w'.cell? ⟨D, 3, none⟩ = some (.bool nn))
                (first | exact ⟨g0, g1, g2, g3⟩ | exact ⟨d0, d1, d2, d3⟩)
                (first
                  | (go_at_call 73; (with_reducible refine (Wd.fields_c kd z th nn (fm : Int) _ HFD.out).mono ?_); rintro e wa ⟨rfl, hb⟩; have hfb := (Fr.of_below hb (fun _ => False)); have g0 := hfb.cell (a := ⟨D, 0, none⟩) d0 (fun h => h); have g1 := hfb.cell (a := ⟨D, 1, none⟩) d1 (fun h => h); have g2 := hfb.cell (a := ⟨D, 2, none⟩) d2 (fun h => h); have g3 := hfb.cell (a := ⟨D, 3, none⟩) d3 (fun h => h); have HL6 := Lib.hid ((HL5.out.frm ((Fr.refl W3 (fun _ => False)).drew)).frm hfb); clear hb hfb))
              clear g0 g1 g2 g3 d0 d1 d2 d3
              go_wp2
              go_loopg [7, 64] fm (fun g a7 a64 wr => ∃ (tv : Value) (i : Nat), tv = a7 ∧ a64 = .int .i64 i ∧ g + i = fm ∧ Hid (LW w wr p v ws size (.slice (some ⟨gs, 0, none⟩) ws.length ws.length) tv (seen.set k true) (rest ++ fieldsAt ws k i)))
              case atStart => exact ⟨_, 0, rfl, rfl, rfl, Lib.hid (by have := HL6.out; simpa [fieldsAt] using this)⟩
              case round =>
                clear HL6
                obtain ⟨tv, i, rfl, rfl, hgi, HI⟩ := hrel
                have HGI := Lib.hid hgi
                clear hgi
                by_cases hi : i < fm
                · have HIL := Lib.hid hi
                  have qi : (i : Int) < fm := by omega
                  have qf : (fm : Int) ≤ 4000 := by have := HFM.out; have := HL.out; omega
                  obtain ⟨y, hy⟩ : ∃ y, rdAt ws ((k : Int) + 1 + i) = some y := by
                    have := HFM.out
                    unfold rdAt
                    rw [if_pos (by omega)]
                    exact ⟨_, rfl⟩
                  have HY := Lib.hid hy
                  have hoy : okW y := by obtain ⟨j, _, hj, rfl⟩ := rdAt_some hy; exact okWs_getD HI.out.ar.ok j hj
                  obtain ⟨v', w1, hrun, hLp, _⟩ := HI.out.push y hoy (by rw [List.length_append, HN.out]; have := HFM.out; have := HL.out; have : (fieldsAt ws k i).length = i := by simp [fieldsAt]
                                                                         omega)
                  have HRUN := Lib.hid hrun
                  have HLp := Lib.hid hLp
                  clear hi hy hoy hrun hLp
                  go_wp2_with (first
                    | (go_at_call 23; (with_reducible refine (get_c p v ws size _ y _ HI.out.ar HY.out).mono ?_); rintro e w5 ⟨rfl, rfl⟩)
                    | (at_builtin; refine Lib.wpList_append_run _ rfl _ _ _ _ rfl _ _ rfl rfl _ w1 HRUN.out ?_))
                  go_roundg (gk - 1)
                  case measure => have := HGI.out; have := HIL.out; omega
                  case rel =>
                    refine ⟨_, i + 1, rfl, by first | rfl | go_num, by have := HGI.out; have := HIL.out; omega, Lib.hid ?_⟩
                    have e1 : rest ++ fieldsAt ws k (i + 1) = (rest ++ fieldsAt ws k i) ++ [y] := by
                      rw [fieldsAt_succ, ← List.append_assoc]
                      congr 2
                      unfold rd0
                      rw [HY.out]; rfl
                    rw [e1]
                    exact HLp.out
                · have HIE : Hid (i = fm) := Lib.hid (by have := HGI.out; omega)
                  have b7 : decide (i < fm) = false := decide_eq_false hi
                  clear hi
                  go_wp2
                  go_roundg (G - 1)
                  case measure =>
                    have := HG.out
                    have h2 : mu ws seen (rest ++ [x]) = mu ws seen (rest ++ [x]) := rfl
                    unfold mu at this; simp at this; omega
                  case rel =>
                    refine ⟨_, seen.set k true, rest ++ fieldsAt ws k fm, rfl, Lib.hid ⟨?_, by have := HG.out; omega⟩, Lib.hid ?_⟩
                    · have h1 := mu_new (ws := ws) (rest := rest) (x := k) (n := fm) HKS.out HBS.out (by have := HFM.out; omega)
                      have h2 := HG.out
                      have h3 : mu ws seen (rest ++ [(k : Int)]) = mu ws seen (rest ++ [x]) := by unfold mu; simp
                      omega
                    · have h1 := HI.out
                      rw [HIE.out] at h1
                      refine h1.lv (fun r hr => HBK.out r (.new HT.out (by rw [HV.out]; exact HOB.out) (by rw [HV.out]; exact HBS.out) ?_))
                      rw [HV.out, HNF.out]
                      exact hr
            · by_cases hzf : z < f
              · obtain ⟨fm, rfl⟩ := Int.eq_ofNat_of_zero_le (show 0 ≤ z from HZ.out.1)
                have HFM : Hid ((k : Int) + 1 + fm ≤ ws.length) := Lib.hid (by have := HZ.out; omega)
                have HNF : Hid (nFields ⟨kd, fm, th, nn⟩ = fm) := Lib.hid (by unfold nFields; rw [HFD.out]; simp only; omega)
                go_region_held3 (fun w' => w'.cell? ⟨D, 0, none⟩ = some (.int .i64 kd) ∧ w'.cell? ⟨D, 1, none⟩ = some (.int .i64 (fm : Int)) ∧ w'.cell? ⟨D, 2, none⟩ = some (.int .i64 th) ∧ w'.cell? ⟨D, 3, none⟩ = some (.bool nn))
                  (first | exact ⟨g0, g1, g2, g3⟩ | exact ⟨d0, d1, d2, d3⟩)
                  (first
                    | (go_at_call 73; (with_reducible refine (Wd.fields_c kd (fm : Int) th nn f _ HFD.out).mono ?_); rintro e wa ⟨rfl, hb⟩; have hfb := (Fr.of_below hb (fun _ => False)); have g0 := hfb.cell (a := ⟨D, 0, none⟩) d0 (fun h => h); have g1 := hfb.cell (a := ⟨D, 1, none⟩) d1 (fun h => h); have g2 := hfb.cell (a := ⟨D, 2, none⟩) d2 (fun h => h); have g3 := hfb.cell (a := ⟨D, 3, none⟩) d3 (fun h => h); have HL6 := Lib.hid ((HL5.out.frm ((Fr.refl W3 (fun _ => False)).drew)).frm hfb); clear hb hfb))
                clear g0 g1 g2 g3 d0 d1 d2 d3
                go_wp2
                go_loopg [7, 64] fm (fun g a7 a64 wr => ∃ (tv : Value) (i : Nat), tv = a7 ∧ a64 = .int .i64 i ∧ g + i = fm ∧ Hid (LW w wr p v ws size (.slice (some ⟨gs, 0, none⟩) ws.length ws.length) tv (seen.set k true) (rest ++ fieldsAt ws k i)))
                case atStart => exact ⟨_, 0, rfl, rfl, rfl, Lib.hid (by have := HL6.out; simpa [fieldsAt] using this)⟩
                case round =>
                  clear HL6
                  obtain ⟨tv, i, rfl, rfl, hgi, HI⟩ := hrel
                  have HGI := Lib.hid hgi
                  clear hgi
                  by_cases hi : i < fm
                  · have HIL := Lib.hid hi
                    have qi : (i : Int) < fm := by omega
                    have qf : (fm : Int) ≤ 4000 := by have := HFM.out; have := HL.out; omega
                    obtain ⟨y, hy⟩ : ∃ y, rdAt ws ((k : Int) + 1 + i) = some y := by
                      have := HFM.out
                      unfold rdAt
                      rw [if_pos (by omega)]
                      exact ⟨_, rfl⟩
                    have HY := Lib.hid hy
                    have hoy : okW y := by obtain ⟨j, _, hj, rfl⟩ := rdAt_some hy; exact okWs_getD HI.out.ar.ok j hj
                    obtain ⟨v', w1, hrun, hLp, _⟩ := HI.out.push y hoy (by rw [List.length_append, HN.out]; have := HFM.out; have := HL.out; have : (fieldsAt ws k i).length = i := by simp [fieldsAt]
                                                                           omega)
                    have HRUN := Lib.hid hrun
                    have HLp := Lib.hid hLp
                    clear hi hy hoy hrun hLp
                    go_wp2_with (first
                      | (go_at_call 23; (with_reducible refine (get_c p v ws size _ y _ HI.out.ar HY.out).mono ?_); rintro e w5 ⟨rfl, rfl⟩)
                      | (at_builtin; refine Lib.wpList_append_run _ rfl _ _ _ _ rfl _ _ rfl rfl _ w1 HRUN.out ?_))
                    go_roundg (gk - 1)
                    case measure => have := HGI.out; have := HIL.out; omega
                    case rel =>
                      refine ⟨_, i + 1, rfl, by first | rfl | go_num, by have := HGI.out; have := HIL.out; omega, Lib.hid ?_⟩
                      have e1 : rest ++ fieldsAt ws k (i + 1) = (rest ++ fieldsAt ws k i) ++ [y] := by
                        rw [fieldsAt_succ, ← List.append_assoc]
                        congr 2
                        unfold rd0
                        rw [HY.out]; rfl
                      rw [e1]
                      exact HLp.out
                  · have HIE : Hid (i = fm) := Lib.hid (by have := HGI.out; omega)
                    have b7 : decide (i < fm) = false := decide_eq_false hi
                    clear hi
                    go_wp2
                    go_roundg (G - 1)
                    case measure =>
                      have := HG.out
                      have h2 : mu ws seen (rest ++ [x]) = mu ws seen (rest ++ [x]) := rfl
                      unfold mu at this; simp at this; omega
                    case rel =>
                      refine ⟨_, seen.set k true, rest ++ fieldsAt ws k fm, rfl, Lib.hid ⟨?_, by have := HG.out; omega⟩, Lib.hid ?_⟩
                      · have h1 := mu_new (ws := ws) (rest := rest) (x := k) (n := fm) HKS.out HBS.out (by have := HFM.out; omega)
                        have h2 := HG.out
                        have h3 : mu ws seen (rest ++ [(k : Int)]) = mu ws seen (rest ++ [x]) := by unfold mu; simp
                        omega
                      · have h1 := HI.out
                        rw [HIE.out] at h1
                        refine h1.lv (fun r hr => HBK.out r (.new HT.out (by rw [HV.out]; exact HOB.out) (by rw [HV.out]; exact HBS.out) ?_))
                        rw [HV.out, HNF.out]
                        exact hr
              · obtain rfl : z = f := by omega
                obtain ⟨fm, rfl⟩ := Int.eq_ofNat_of_zero_le (show 0 ≤ z from HZ.out.1)
                have HFM : Hid ((k : Int) + 1 + fm ≤ ws.length) := Lib.hid (by have := HZ.out; omega)
                have HNF : Hid (nFields ⟨kd, fm, th, nn⟩ = fm) := Lib.hid (by unfold nFields; rw [HFD.out]; simp only; omega)
                go_region_held3 (fun w' => w'.cell? ⟨D, 0, none⟩ = some (.int .i64 kd) ∧ w'.cell? ⟨D, 1, none⟩ = some (.int .i64 (fm : Int)) ∧ w'.cell? ⟨D, 2, none⟩ = some (.int .i64 th) ∧ w'.cell? ⟨D, 3, none⟩ = some (.bool nn))
                  (first | exact ⟨g0, g1, g2, g3⟩ | exact ⟨d0, d1, d2, d3⟩)
                  (first
                    | (go_at_call 73; (with_reducible refine (Wd.fields_c kd (fm : Int) th nn (fm : Int) _ HFD.out).mono ?_); rintro e wa ⟨rfl, hb⟩; have hfb := (Fr.of_below hb (fun _ => False)); have g0 := hfb.cell (a := ⟨D, 0, none⟩) d0 (fun h => h); have g1 := hfb.cell (a := ⟨D, 1, none⟩) d1 (fun h => h); have g2 := hfb.cell (a := ⟨D, 2, none⟩) d2 (fun h => h); have g3 := hfb.cell (a := ⟨D, 3, none⟩) d3 (fun h => h); have HL6 := Lib.hid ((HL5.out.frm ((Fr.refl W3 (fun _ => False)).drew)).frm hfb); clear hb hfb))
                clear g0 g1 g2 g3 d0 d1 d2 d3
                go_wp2
                go_loopg [7, 64] fm (fun g a7 a64 wr => ∃ (tv : Value) (i : Nat), tv = a7 ∧ a64 = .int .i64 i ∧ g + i = fm ∧ Hid (LW w wr p v ws size (.slice (some ⟨gs, 0, none⟩) ws.length ws.length) tv (seen.set k true) (rest ++ fieldsAt ws k i)))
                case atStart => exact ⟨_, 0, rfl, rfl, rfl, Lib.hid (by have := HL6.out; simpa [fieldsAt] using this)⟩
                case round =>
                  clear HL6
                  obtain ⟨tv, i, rfl, rfl, hgi, HI⟩ := hrel
                  have HGI := Lib.hid hgi
                  clear hgi
                  by_cases hi : i < fm
                  · have HIL := Lib.hid hi
                    have qi : (i : Int) < fm := by omega
                    have qf : (fm : Int) ≤ 4000 := by have := HFM.out; have := HL.out; omega
                    obtain ⟨y, hy⟩ : ∃ y, rdAt ws ((k : Int) + 1 + i) = some y := by
                      have := HFM.out
                      unfold rdAt
                      rw [if_pos (by omega)]
                      exact ⟨_, rfl⟩
                    have HY := Lib.hid hy
                    have hoy : okW y := by obtain ⟨j, _, hj, rfl⟩ := rdAt_some hy; exact okWs_getD HI.out.ar.ok j hj
                    obtain ⟨v', w1, hrun, hLp, _⟩ := HI.out.push y hoy (by rw [List.length_append, HN.out]; have := HFM.out; have := HL.out; have : (fieldsAt ws k i).length = i := by simp [fieldsAt]
                                                                           omega)
                    have HRUN := Lib.hid hrun
                    have HLp := Lib.hid hLp
                    clear hi hy hoy hrun hLp
                    go_wp2_with (first
                      | (go_at_call 23; (with_reducible refine (get_c p v ws size _ y _ HI.out.ar HY.out).mono ?_); rintro e w5 ⟨rfl, rfl⟩)
                      | (at_builtin; refine Lib.wpList_append_run _ rfl _ _ _ _ rfl _ _ rfl rfl _ w1 HRUN.out ?_))
                    go_roundg (gk - 1)
                    case measure => have := HGI.out; have := HIL.out; omega
                    case rel =>
                      refine ⟨_, i + 1, rfl, by first | rfl | go_num, by have := HGI.out; have := HIL.out; omega, Lib.hid ?_⟩
                      have e1 : rest ++ fieldsAt ws k (i + 1) = (rest ++ fieldsAt ws k i) ++ [y] := by
                        rw [fieldsAt_succ, ← List.append_assoc]
                        congr 2
                        unfold rd0
                        rw [HY.out]; rfl
                      rw [e1]
                      exact HLp.out
                  · have HIE : Hid (i = fm) := Lib.hid (by have := HGI.out; omega)
                    have b7 : decide (i < fm) = false := decide_eq_false hi
                    clear hi
                    go_wp2
                    go_roundg (G - 1)
                    case measure =>
                      have := HG.out
                      have h2 : mu ws seen (rest ++ [x]) = mu ws seen (rest ++ [x]) := rfl
                      unfold mu at this; simp at this; omega
                    case rel =>
                      refine ⟨_, seen.set k true, rest ++ fieldsAt ws k fm, rfl, Lib.hid ⟨?_, by have := HG.out; omega⟩, Lib.hid ?_⟩
                      · have h1 := mu_new (ws := ws) (rest := rest) (x := k) (n := fm) HKS.out HBS.out (by have := HFM.out; omega)
                        have h2 := HG.out
                        have h3 : mu ws seen (rest ++ [(k : Int)]) = mu ws seen (rest ++ [x]) := by unfold mu; simp
                        omega
                      · have h1 := HI.out
                        rw [HIE.out] at h1
                        refine h1.lv (fun r hr => HBK.out r (.new HT.out (by rw [HV.out]; exact HOB.out) (by rw [HV.out]; exact HBS.out) ?_))
                        rw [HV.out, HNF.out]
                        exact hr
      · have b5 : (t == 5) = false := by simpa using h5
        have b5n : (t != 5) = true := by simpa using h5
        have HLP := Lib.hid (HI.out.pop HN.out (fun r hr => .other (by rw [HT.out]; exact h5) hr))
        clear HI
        go_wp2_with (first | (go_at_call 66; (with_reducible refine (Wd.tag_c x t _ HX.out HT.out).mono ?_); rintro e wt ⟨rfl, nt, rfl⟩))
        go_roundg (G - 1)
        case measure => have := HG.out; unfold mu at this; simp at this; omega
        case rel => exact ⟨_, seen, rest, rfl, Lib.hid ⟨by have := HG.out; unfold mu at this ⊢; simp at this; omega, by have := HG.out; omega⟩, Lib.hid (HLP.out.frm ((Fr.refl _ _).drewN nt))⟩
end Go.Proofs.Ytjiaaefpepdoeaa

/-
  CONTRACT: mark.sound: may a word stand in a field. Conditions: none.
-/
namespace Go.Proofs.Ytjiaaefpepdoeaa
open Go.RowKit Md
set_option linter.unusedVariables false
set_option maxRecDepth 100000 in
set_option maxHeartbeats 4000000 in
theorem msound_c (x : Int) (sv : Value) (isl : List Bool) (w : World) (h : Own w 4 sv (bw isl)) (hx : okW x) :
    Calls Try.prog 78 #[.int .u64 x, sv] w fun e w' => e = .returned (.bool (soundW x isl)) ∧ Drawn w w' := by
  obtain ⟨t, ht⟩ : ∃ t, tagW x = t := ⟨_, rfl⟩
  obtain ⟨n, hn⟩ : ∃ n, valW x = n := ⟨_, rfl⟩
  have HX := Lib.hid hx
  have HT := Lib.hid ht
  have HN := Lib.hid hn
  obtain ⟨A, cb, rfl⟩ := h.rd.len
  have H := Lib.hid h
  rw [bw_length] at *
  have hsw : soundW x isl = if t = 6 ∨ t = 7 then false else if t = 5 then (decide (0 ≤ n) && decide (n < isl.length) && isl.getD n.toNat false) else true := by unfold soundW; rw [ht, hn]
  rw [hsw]
  clear hx ht hn hsw h
  by_cases h6 : t = 6
  · subst h6
    rw [if_pos (.inl rfl)]
    go_enter Try.func78, Try.ntmps78
    go_wp2_with (first | (go_at_call 66; (with_reducible refine (Wd.tag_c x 6 _ HX.out HT.out).mono ?_); rintro e wt ⟨rfl, nt, rfl⟩))
    go_ret
    exact ⟨rfl, nt, rfl⟩
  · have b6 : (t == 6) = false := by simpa using h6
    by_cases h7 : t = 7
    · subst h7
      rw [if_pos (.inr rfl)]
      clear b6 h6
      go_enter Try.func78, Try.ntmps78
      go_wp2_with (first | (go_at_call 66; (with_reducible refine (Wd.tag_c x 7 _ HX.out HT.out).mono ?_); rintro e wt ⟨rfl, nt, rfl⟩))
      go_ret
      exact ⟨rfl, nt, rfl⟩
    · have b7 : (t == 7) = false := by simpa using h7
      rw [if_neg (by omega)]
      by_cases h5 : t = 5
      · subst h5
        rw [if_pos rfl]
        clear b6 h6 b7 h7
        by_cases hn0 : n < 0
        · have b1 : decide (0 ≤ n) = false := decide_eq_false (by omega)
          rw [b1]
          clear hn0
          go_enter Try.func78, Try.ntmps78
          go_wp2_with (first | (go_at_call 66; (with_reducible refine (Wd.tag_c x 5 _ HX.out HT.out).mono ?_); rintro e wt ⟨rfl, nt, rfl⟩) | (go_at_call 67; (with_reducible refine (Wd.val_c x n _ HX.out HN.out).mono ?_); rintro e wv ⟨rfl, nv, rfl⟩))
          go_ret
          exact ⟨rfl, _, rfl⟩
        · obtain ⟨m, rfl⟩ := Int.eq_ofNat_of_zero_le (show 0 ≤ n by omega)
          have b1 : decide ((0 : Int) ≤ m) = true := decide_eq_true (by omega)
          rw [b1]
          by_cases hm : m < isl.length
          · have b2 : decide ((m : Int) < isl.length) = true := decide_eq_true (by omega)
            have b3 : decide (m < isl.length) = true := decide_eq_true hm
            have qm : (m : Int) < isl.length := by omega
            rw [b2]
            obtain ⟨gb, rfl, hc⟩ : ∃ gb, A = some ⟨gb, 0, none⟩ ∧ ∀ W : World, Fr w W (fun _ => False) → W.cell? ⟨gb, m, none⟩ = some (.bool (isl.getD m false)) := by
              rcases H.out.form with ⟨e, h0⟩ | ⟨g', cap', e, hl, hm2, hg, hcb, hfb⟩
              · injection e with e1 e2 e3; omega
              · injection e with e1 e2 e3
                refine ⟨g', e1, fun W hf => hf.cell ?_ (fun h => h)⟩
                have := hcb m (by rw [bw_length]; exact hm)
                rw [bw_get hm] at this
                exact this
            have HC := Lib.hid hc
            have e1 : (m : Int).toNat = m := rfl
            rw [e1]
            obtain ⟨bb, hbb⟩ : ∃ bb, isl.getD m false = bb := ⟨_, rfl⟩
            rw [hbb] at HC ⊢
            clear hbb hc hn0 hm e1
            go_enter Try.func78, Try.ntmps78
            go_upto_region 7 with (first | (go_at_call 66; (with_reducible refine (Wd.tag_c x 5 _ HX.out HT.out).mono ?_); rintro e wt ⟨rfl, nt, rfl⟩) | (go_at_call 67; (with_reducible refine (Wd.val_c x (m : Int) _ HX.out HN.out).mono ?_); rintro e wv ⟨rfl, nv, rfl⟩))
            have k0 := HC.out _ ((Fr.refl w _).drewN (nt + nv))
            go_wp2
            go_ret
            exact ⟨by simp, _, rfl⟩
          · have b2 : decide ((m : Int) < isl.length) = false := decide_eq_false (by omega)
            have b3 : decide (m < isl.length) = false := decide_eq_false hm
            rw [b2]
            clear hn0 hm
            go_enter Try.func78, Try.ntmps78
            go_wp2_with (first | (go_at_call 66; (with_reducible refine (Wd.tag_c x 5 _ HX.out HT.out).mono ?_); rintro e wt ⟨rfl, nt, rfl⟩) | (go_at_call 67; (with_reducible refine (Wd.val_c x (m : Int) _ HX.out HN.out).mono ?_); rintro e wv ⟨rfl, nv, rfl⟩))
            go_ret
            exact ⟨rfl, _, rfl⟩
      · rw [if_neg h5]
        have b5 : (t == 5) = false := by simpa using h5
        clear h5 h6 h7
        go_enter Try.func78, Try.ntmps78
        go_wp2_with (first | (go_at_call 66; (with_reducible refine (Wd.tag_c x t _ HX.out HT.out).mono ?_); rintro e wt ⟨rfl, nt, rfl⟩))
        go_ret
        exact ⟨rfl, nt, rfl⟩
end Go.Proofs.Ytjiaaefpepdoeaa

/-
  CONTRACT: mark.Sound. Conditions: none but that the arena stands and that the roots read as words.
-/
namespace Go.Proofs.Ytjiaaefpepdoeaa
open Go.RowKit Md
set_option linter.unusedVariables false
/-- The state of Sound's rounds. -/
structure MS (w W : World) (p : Nat) (v r : Value) (ws rs : List Int) (size : Int) (L : List Int) (lv bv : Value) (i : Nat) : Prop where
  ar : Ar 101 W p v ws size
  fr : Fr w W fun _ => False
  lo : Own W 3 lv (iw L)
  bo : Own W 4 bv (bw (isList ws.length (L.take i)))
  rd : Rd W r (uw rs)
  inb : ∀ k, InBlk bv k → w.heap.size ≤ k
  vlt : ∀ k, InBlk v k → k < w.heap.size
  plt : p < w.heap.size
  rlt : 0 < rs.length → ∀ k, InBlk r k → k < w.heap.size
section
variable {w W W1 : World} {p : Nat} {v r : Value} {ws rs : List Int} {size : Int} {L : List Int} {lv bv : Value} {i : Nat}
theorem MS.frm (h : MS w W p v r ws rs size L lv bv i) (hf : Fr W W1 fun _ => False) : MS w W1 p v r ws rs size L lv bv i :=
  ⟨h.ar.fr hf, h.fr.trans hf, h.lo.keep hf (fun _ _ h => h), h.bo.keep hf (fun _ _ h => h), h.rd.keep hf (fun _ _ h => h), h.inb, h.vlt, h.plt, h.rlt⟩
theorem take_snoc1 {L : List Int} {i : Nat} (hi : i < L.length) {b : Int} (hb : L.getD i 0 = b) : L.take (i + 1) = L.take i ++ [b] := by
  rw [List.take_succ_eq_append_getElem hi, ← hb]
  simp [List.getD, hi]
theorem MS.bset {gb k cb : Nat} (h : MS w W p v r ws rs size L lv (.slice (some ⟨gb, 0, none⟩) ws.length cb) i) (hi : i < L.length) (hb : L.getD i 0 = k) (hk : k < ws.length) :
    MS w (W.setCell ⟨gb, k, none⟩ (.bool true)) p v r ws rs size L lv (.slice (some ⟨gb, 0, none⟩) ws.length cb) (i + 1) := by
  have hbl : (bw (isList ws.length (L.take i))).length = ws.length := by rw [bw_length, isList_len]
  have hgb := h.inb gb (by simp [InBlk, Value.ownBlock])
  have hin : InBlk (.slice (some ⟨gb, 0, none⟩) ws.length cb) gb := by simp [InBlk, Value.ownBlock]
  have hs : Own (W.setCell ⟨gb, k, none⟩ (.bool true)) 4 (.slice (some ⟨gb, 0, none⟩) ws.length cb) ((bw (isList ws.length (L.take i))).set k (.bool true)) ∧ Fr W (W.setCell ⟨gb, k, none⟩ (.bool true)) (fun i => i = gb) := by
    have := Own.setAt (cap := cb) (g := gb) (k := k) (u := .bool true) (xs := bw (isList ws.length (L.take i))) (e := 4) (W := W) (by rw [hbl]; exact h.bo) (by rw [hbl]; exact hk)
    rw [hbl] at this
    exact this
  have hf := hs.2
  have e1 : (bw (isList ws.length (L.take i))).set k (.bool true) = bw (isList ws.length (L.take (i + 1))) := by
    unfold bw
    rw [take_snoc1 hi hb, ← isList_snoc hk, List.map_set]
  rw [e1] at hs
  exact ⟨h.ar.keep hf (by have := h.plt; omega) (fun i hi e => by have := h.vlt i hi; omega), h.fr.setCell (S := fun _ => False) (a := ⟨gb, k, none⟩) (fun (hlt : gb < w.heap.size) => by omega) _, h.lo.keep hf (fun i hi e => h.lo.apart h.bo (by decide) i hi (by rw [e]; exact hin)), hs.1, h.rd.keep2 hf (fun h0 i hi e => by have := h.rlt (by rw [uw_length] at h0; exact h0) i hi; omega), h.inb, h.vlt, h.plt, h.rlt⟩
end
theorem soundB_root {ws rs L : List Int} (h : objs ws = some L) {x : Int} (hx : x ∈ rs) (hs : soundW x (isList ws.length L) = false) : soundB ws rs = false := by
  unfold soundB
  rw [h]
  simp only [Bool.and_eq_false_iff, List.all_eq_false]
  left
  exact ⟨x, hx, by rw [hs]; decide⟩
theorem soundB_at {ws rs L : List Int} (h : objs ws = some L) {a : Int} (ha : a ∈ L) (hs : soundAt ws (isList ws.length L) a = false) : soundB ws rs = false := by
  unfold soundB
  rw [h]
  simp only [Bool.and_eq_false_iff, List.all_eq_false]
  right
  exact ⟨a, ha, by rw [hs]; decide⟩
theorem soundB_yes {ws rs L : List Int} (h : objs ws = some L) (hr : ∀ x ∈ rs, soundW x (isList ws.length L) = true) (ha : ∀ a ∈ L, soundAt ws (isList ws.length L) a = true) : soundB ws rs = true := by
  unfold soundB
  rw [h]
  simp only [Bool.and_eq_true, List.all_eq_true]
  exact ⟨hr, ha⟩
set_option maxRecDepth 100000 in
set_option maxHeartbeats 4000000 in
theorem msnd_none (p : Nat) (v r : Value) (ws rs : List Int) (size : Int) (w : World) (h : Ar 101 w p v ws size) (ho : objs ws = none) :
    Calls Try.prog 56 #[.pointer (some ⟨p, 0, none⟩), r] w fun e w' => e = .returned (.bool (soundB ws rs)) ∧ Fr w w' (fun _ => False) := by
  rw [soundB_none ho]
  have H := Lib.hid h
  have HO : Hid ((objs ws).isSome = false) := Lib.hid (by rw [ho]; rfl)
  clear h ho
  go_enter Try.func56, Try.ntmps56
  go_wp2_with (first | (go_at_call 33; (with_reducible refine (objects_c p v ws size _ H.out).mono ?_); rintro e w1 ⟨u, rfl, hn⟩; rw [HO.out]; have HF := Lib.hid hn.2.1; clear hn))
  go_ret
  exact ⟨rfl, HF.out⟩
set_option maxRecDepth 100000 in
set_option maxHeartbeats 4000000 in
theorem msnd_some (p : Nat) (v r : Value) (ws rs L : List Int) (size : Int) (w : World) (h : Ar 101 w p v ws size) (hr : Rd w r (uw rs)) (hok : okWs rs) (hl : rs.length ≤ 1048576) (ho : objs ws = some L) :
    Calls Try.prog 56 #[.pointer (some ⟨p, 0, none⟩), r] w fun e w' => e = .returned (.bool (soundB ws rs)) ∧ Fr w w' (fun _ => False) := by
  have hle := h.le
  have hmx := h.mx
  have HLB : Hid (ws.length ≤ 1048576 ∧ rs.length ≤ 1048576) := Lib.hid (by omega)
  have H := Lib.hid h
  have HR := Lib.hid hr
  have HOK := Lib.hid hok
  have HO : Hid ((objs ws).isSome = true) := Lib.hid (by rw [ho]; rfl)
  have HOL : Hid ((objs ws).getD [] = L) := Lib.hid (by rw [ho]; rfl)
  have HO2 := Lib.hid ho
  have HROW := Lib.hid (rows_of_objs ho)
  obtain ⟨SB, hsb⟩ : ∃ b, soundB ws rs = b := ⟨_, rfl⟩
  rw [hsb]
  have HSB := Lib.hid hsb
  have q0 : 0 ≤ (ws.length : Int) := by omega
  have q1 : (ws.length : Int) ≤ 1048576 := by omega
  have q2 : (rs.length : Int) ≤ 1048576 := by omega
  have qL : (L.length : Int) ≤ 1048576 := by have := HROW.out.len; omega
  have HRT : Hid (0 < rs.length → ∀ k, InBlk r k → k < w.heap.size) := Lib.hid (fun h0 => hr.lt (by rw [uw_length]; exact h0))
  clear h hr hok ho hsb hle hmx hl
  go_enter Try.func56, Try.ntmps56
  go_upto_region 4 with (first
    | (go_at_call 33; (with_reducible refine (objects_c p v ws size _ H.out).mono ?_); rintro e w1 ⟨lv, rfl, hn⟩; rw [HO.out]; rw [HOL.out] at hn; have HN1 := Lib.hid hn.1; have HF1 := Lib.hid hn.2.1; have HA1 := Lib.hid (H.out.fr hn.2.1); have HR1 := Lib.hid (HR.out.keep hn.2.1 (fun _ _ h => h)); clear hn))
  obtain ⟨w3, hmk, hbo, hfm⟩ := mk_bools ws.length w1 HLB.out.1
  have H0 : Hid (MS w w3 p v r ws rs size L lv (.slice (some ⟨w1.heap.size, 0, none⟩) ws.length ws.length) 0) := Lib.hid ⟨HA1.out.fr hfm, HF1.out.trans hfm, HN1.out.keep hfm (fun _ _ h => h), by simpa [isList_nil] using hbo, HR1.out.keep hfm (fun _ _ h => h), (fun k hk => by have := HF1.out.size; simp [InBlk, Value.ownBlock] at hk; omega), H.out.own.lt, H.out.lt, HRT.out⟩
  obtain ⟨gb, hgb⟩ : ∃ gb, w1.heap.size = gb := ⟨_, rfl⟩
  rw [hgb] at hmk H0
  obtain ⟨Al, cl, rfl⟩ := HN1.out.rd.len
  obtain ⟨Ar, cr, rfl⟩ := HR1.out.len
  rw [iw_length, uw_length] at *
  clear hbo hfm hgb
  go_wp2_with (first
    | (go_at_call 27; (with_reducible refine (used_c p v ws size _ HA1.out).mono ?_); rintro e wu ⟨rfl, rfl⟩))
  clear hmk HN1 HA1 HR1
  go_loopg [31] L.length (fun g a31 wr => ∃ (i : Nat), a31 = .int .i64 i ∧ g + i = L.length ∧ Hid (MS w wr p v (.slice Ar rs.length cr) ws rs size L (.slice Al L.length cl) (.slice (some ⟨gb, 0, none⟩) ws.length ws.length) i))
  case atStart => exact ⟨0, rfl, rfl, H0⟩
  case round =>
    clear H0
    obtain ⟨i, rfl, hgi, HI⟩ := hrel
    have HGI := Lib.hid hgi
    clear hgi
    by_cases hi : i < L.length
    · have HIL := Lib.hid hi
      have qi : (i : Int) < L.length := by omega
      obtain ⟨b, hb⟩ : ∃ b, L.getD i 0 = b := ⟨_, rfl⟩
      have hbm : b ∈ L := by rw [← hb, List.getD_eq_getElem?_getD, List.getElem?_eq_getElem hi]; exact List.getElem_mem hi
      obtain ⟨_, _, _, hb0, hb1, _⟩ := HROW.out.obj b hbm
      obtain ⟨k, rfl⟩ := Int.eq_ofNat_of_zero_le hb0
      have qk : (k : Int) < ws.length := hb1
      have hkl : k < ws.length := by omega
      obtain ⟨gl, rfl, _, hcl⟩ := HI.out.lo.cellAt (by rw [iw_length]; omega)
      have cl0 := (hcl i (by rw [iw_length]; exact hi)).1
      rw [iw_get hi, hb] at cl0
      obtain ⟨cb, fb⟩ : wr.cell? ⟨gb, k, none⟩ = some (.bool ((isList ws.length (L.take i)).getD k false)) ∧ wr.frozen? ⟨gb, k, none⟩ = false := by
        obtain ⟨b2, e, _, hc⟩ := HI.out.bo.cellAt (by rw [bw_length, isList_len]; omega)
        injection e with e
        injection e with e
        subst e
        have h1 := hc k (by rw [bw_length, isList_len]; exact hkl)
        rw [bw_get (by rw [isList_len]; exact hkl)] at h1
        exact h1
      have HI3 := Lib.hid (HI.out.bset (k := k) hi hb hkl)
      clear hi hb hbm hb0 hb1 hkl hcl HI
      go_wp2
      go_roundg (gk - 1)
      case measure => have := HGI.out; have := HIL.out; omega
      case rel => exact ⟨i + 1, by first | rfl | go_num, by have := HGI.out; have := HIL.out; omega, HI3⟩
    · have hie : i = L.length := by have := HGI.out; omega
      have b2 : decide (i < L.length) = false := decide_eq_false hi
      have HI1 : Hid (MS w wr p v (.slice Ar rs.length cr) ws rs size L (.slice Al L.length cl) (.slice (some ⟨gb, 0, none⟩) ws.length ws.length) L.length) := Lib.hid (by have := HI.out; rw [hie] at this; exact this)
      clear hi hie HI
      obtain ⟨W0, hW0⟩ : ∃ W0, W0 = wr := ⟨_, rfl⟩
      subst hW0
      obtain ⟨isl, hisl⟩ : ∃ isl, isList ws.length L = isl := ⟨_, rfl⟩
      have HISL := Lib.hid hisl
      have HBO : Hid (Own W0 4 (.slice (some ⟨gb, 0, none⟩) ws.length ws.length) (bw isl)) := Lib.hid (by have := HI1.out.bo; rw [List.take_length, hisl] at this; exact this)
      clear hisl
      go_wp2
      go_loopg [41] rs.length (fun g a41 wr => ∃ (i : Nat), a41 = .int .i64 i ∧ g + i = rs.length ∧ Hid (Fr W0 wr (fun _ => False) ∧ ∀ j, j < i → soundW (rs.getD j 0) isl = true))
      case atStart => exact ⟨0, rfl, rfl, Lib.hid ⟨Fr.refl _ _, fun j hj => by omega⟩⟩
      case round =>
        obtain ⟨i, rfl, hgi, HI⟩ := hrel
        have HGI := Lib.hid hgi
        clear hgi
        by_cases hi : i < rs.length
        · have HIL := Lib.hid hi
          have qi : (i : Int) < rs.length := by omega
          have hx : okW (rs.getD i 0) := okWs_getD HOK.out i hi
          obtain ⟨x, hxe⟩ : ∃ x, rs.getD i 0 = x := ⟨_, rfl⟩
          rw [hxe] at hx
          have HX := Lib.hid hx
          have HXE := Lib.hid hxe
          have HR2 := Lib.hid (HI1.out.rd.keep HI.out.1 (fun _ _ h => h))
          obtain ⟨br, oR, rfl, hcr⟩ := HR2.out.cellAt (by rw [uw_length]; omega)
          have cr0 := hcr i (by rw [uw_length]; exact hi)
          rw [uw_get hi, hxe] at cr0
          obtain ⟨bs, hbs⟩ : ∃ bs, soundW x isl = bs := ⟨_, rfl⟩
          have HBS := Lib.hid hbs
          have HNO : Hid (bs = false → SB = false) := Lib.hid (fun e => by rw [← HSB.out]; exact soundB_root HO2.out (x := x) (by rw [← hxe, List.getD_eq_getElem?_getD, List.getElem?_eq_getElem hi]; exact List.getElem_mem hi) (by rw [HISL.out, hbs, e]))
          clear hi hx hxe hcr hbs
          cases bs with
          | false =>
            have HS0 := Lib.hid (HNO.out rfl)
            go_wp2_with (first | (go_at_call 78; (with_reducible refine (msound_c x _ isl _ (HBO.out.keep HI.out.1 (fun _ _ h => h)) HX.out).mono ?_); rintro e w5 ⟨rfl, hd⟩; rw [HBS.out]; have HF5 := Lib.hid (hd.fr (fun _ => False)); clear hd))
            go_ret
            exact ⟨by rw [HS0.out]; rfl, HI1.out.fr.trans (HI.out.1.trans HF5.out)⟩
          | true =>
            go_wp2_with (first | (go_at_call 78; (with_reducible refine (msound_c x _ isl _ (HBO.out.keep HI.out.1 (fun _ _ h => h)) HX.out).mono ?_); rintro e w5 ⟨rfl, hd⟩; rw [HBS.out]; have HF5 := Lib.hid (hd.fr (fun _ => False)); clear hd))
            go_roundg (gk - 1)
            case measure => have := HGI.out; have := HIL.out; omega
            case rel => exact ⟨i + 1, by first | rfl | go_num, by have := HGI.out; have := HIL.out; omega, Lib.hid ⟨HI.out.1.trans HF5.out, fun j hj => by
              by_cases hj2 : j < i
              · exact HI.out.2 j hj2
              · have : j = i := by omega
                subst this
                rw [HXE.out]; exact HBS.out⟩⟩
        · have hie : i = rs.length := by have := HGI.out; omega
          have b3 : decide (i < rs.length) = false := decide_eq_false hi
          have HRS : Hid (∀ x ∈ rs, soundW x isl = true) := Lib.hid (fun x hx => by
            obtain ⟨j, hj, rfl⟩ := List.getElem_of_mem hx
            have := HI.out.2 j (by omega)
            rw [List.getD_eq_getElem?_getD, List.getElem?_eq_getElem hj] at this
            exact this)
          have HI2 := Lib.hid (HI1.out.frm HI.out.1)
          have HBO2 := Lib.hid (HBO.out.keep HI.out.1 (fun _ _ h => h))
          clear hi hie HI HI1 HBO
          obtain ⟨W1, hW1⟩ : ∃ W1, W1 = wr := ⟨_, rfl⟩
          subst hW1
          go_wp2
          go_loopg [52] L.length (fun g a52 wr => ∃ (i : Nat), a52 = .int .i64 i ∧ g + i = L.length ∧ Hid (Fr W1 wr (fun _ => False) ∧ ∀ j, j < i → soundAt ws isl (L.getD j 0) = true))
          case atStart => exact ⟨0, rfl, rfl, Lib.hid ⟨Fr.refl _ _, fun j hj => by omega⟩⟩
          case round =>
            obtain ⟨i, rfl, hgi, HI⟩ := hrel
            obtain ⟨G, rfl⟩ : ∃ G, G = gk := ⟨_, rfl⟩
            have HGI := Lib.hid hgi
            clear hgi
            by_cases hi : i < L.length
            · have HIL := Lib.hid hi
              have qi : (i : Int) < L.length := by omega
              obtain ⟨b, hb⟩ : ∃ b, L.getD i 0 = b := ⟨_, rfl⟩
              have hbm : b ∈ L := by rw [← hb, List.getD_eq_getElem?_getD, List.getElem?_eq_getElem hi]; exact List.getElem_mem hi
              obtain ⟨hd, hob, ho0, hb0, hb1, hrd, hz0, hz1, hz2⟩ := HROW.out.obj b hbm
              obtain ⟨k, rfl⟩ := Int.eq_ofNat_of_zero_le hb0
              obtain ⟨kd, z, t, nn⟩ := hd
              simp only at hz0 hz1 hz2
              have HOB := Lib.hid hob
              have HO0 := Lib.hid ho0
              have HMEM := Lib.hid hbm
              have HB := Lib.hid hb
              have HZ : Hid (0 ≤ z ∧ (k : Int) + 1 + z ≤ ws.length) := Lib.hid ⟨hz0, hz2⟩
              obtain ⟨f, hfd⟩ : ∃ f, fieldsH ⟨kd, z, t, nn⟩ = f := ⟨_, rfl⟩
              have HFD := Lib.hid hfd
              have HIw := Lib.hid (HI2.out.frm HI.out.1)
              obtain ⟨gl, rfl, _, hcl⟩ := HIw.out.lo.cellAt (by rw [iw_length]; omega)
              have cl0 := (hcl i (by rw [iw_length]; exact hi)).1
              rw [iw_get hi, hb] at cl0
              have qk : (k : Int) < ws.length := hb1
              clear hi hb hbm hob ho0 hb0 hb1 hrd hz0 hz1 hz2 hfd hcl
              go_upto_region 20 with (first | (go_at_call 62; (with_reducible refine (obj_some p v ws size k _ _ HIw.out.ar HOB.out).mono ?_); rintro e wo ⟨rfl, hfo⟩))
              obtain ⟨W2, hW2⟩ : ∃ W2, wo.alloc (.cells #[.int .i64 kd, .int .i64 z, .int .i64 t, .bool nn] 104) = W2 := ⟨_, rfl⟩
              obtain ⟨D, hD⟩ : ∃ D, wo.heap.size = D := ⟨_, rfl⟩
              have hf2 : Fr wr W2 (fun _ => False) := by rw [← hW2]; exact hfo.alloc _
              have hdb : W2.heap[D]? = some (.cells #[.int .i64 kd, .int .i64 z, .int .i64 t, .bool nn] 104 (0, 0)) := by rw [← hW2, ← hD]; exact blk_new _ _ _
              have HF2 := Lib.hid (HI.out.1.trans hf2)
              simp only [hW2, hD]
              have d0 : W2.cell? ⟨D, 0, none⟩ = some (.int .i64 kd) := by simp [World.cell?, hdb]
              have d1 : W2.cell? ⟨D, 1, none⟩ = some (.int .i64 z) := by simp [World.cell?, hdb]
              have d2 : W2.cell? ⟨D, 2, none⟩ = some (.int .i64 t) := by simp [World.cell?, hdb]
              have d3 : W2.cell? ⟨D, 3, none⟩ = some (.bool nn) := by simp [World.cell?, hdb]
              have HDB := Lib.hid hdb
              clear hW2 hD hfo hf2 hdb cl0 HIw
              refine wp_region_cls (S := fun w' => Fr W2 w' (fun _ => False)) (by kernel_rfl) (by kernel_rfl) ((Fr.refl W2 _).drew) (fun ne => ?_)
              generalize hS : (fun w' : World => Fr W2 w' (fun _ => False)) = S
              replace ne : Nonempty (Cw S) := by subst hS; exact ne
              have f0 : ∀ x : Cw S, x.val.cell? ⟨D, 0, none⟩ = some (.int .i64 kd) := by subst hS; exact fun x => x.prop.cell d0 (fun h => h)
              have f1 : ∀ x : Cw S, x.val.cell? ⟨D, 1, none⟩ = some (.int .i64 z) := by subst hS; exact fun x => x.prop.cell d1 (fun h => h)
              have f2 : ∀ x : Cw S, x.val.cell? ⟨D, 2, none⟩ = some (.int .i64 t) := by subst hS; exact fun x => x.prop.cell d2 (fun h => h)
              have f3 : ∀ x : Cw S, x.val.cell? ⟨D, 3, none⟩ = some (.bool nn) := by subst hS; exact fun x => x.prop.cell d3 (fun h => h)
              have HX : Hid (∀ w', S w' → Fr W2 w' (fun _ => False)) := Lib.hid (by subst hS; exact fun w' h => h)
              have HK2 : Hid (∀ w1 w2, S w1 → Below w1.heap.size w1 w2 → S w2) := Lib.hid (by subst hS; exact fun w1 w2 h hb => h.trans (Fr.of_below hb _))
              clear hS d0 d1 d2 d3
              repeat (any_goals (first | go_big_quiet_step ((go_at_call 73; exact Cw.call (Wd.fields_c kd z t nn f _ HFD.out) (fun w' h => HK2.out _ _ (Cw.prop _) h))) | quiet_step ((go_at_call 73; exact Cw.call (Wd.fields_c kd z t nn f _ HFD.out) (fun w' h => HK2.out _ _ (Cw.prop _) h)))))
              refine wpQuiet_nil ?_
              intro w9 hw9
              obtain ⟨⟨w9, hS9⟩, rfl⟩ := hw9
              have h9 := HX.out _ hS9
              have HF9 := Lib.hid (HF2.out.trans h9)
              have hdb := h9.blk HDB.out (fun h => h)
              have d0 : w9.cell? ⟨D, 0, none⟩ = some (.int .i64 kd) := by simp [World.cell?, hdb]
              have d1 : w9.cell? ⟨D, 1, none⟩ = some (.int .i64 z) := by simp [World.cell?, hdb]
              have d2 : w9.cell? ⟨D, 2, none⟩ = some (.int .i64 t) := by simp [World.cell?, hdb]
              have d3 : w9.cell? ⟨D, 3, none⟩ = some (.bool nn) := by simp [World.cell?, hdb]
              have HDB9 := Lib.hid hdb
              clear hS9 HX HK2 ne f0 f1 f2 f3 h9 hdb
              by_cases hfz : z < f
              · have hff : decide (z < f) = true := decide_eq_true hfz
                go_wp2
                go_ret
                have hfa : fitA ws k = false := by unfold fitA; rw [HO0.out, HFD.out]; exact decide_eq_false (by simp only; omega)
                rw [← HSB.out, soundB_far HO2.out HMEM.out hfa]
                exact ⟨rfl, HI2.out.fr.trans HF9.out⟩
              · have hff : decide (z < f) = false := decide_eq_false hfz
                have hf0 : 0 ≤ f := by rw [← HFD.out]; exact fieldsH_nonneg HZ.out.1
                obtain ⟨fn, rfl⟩ := Int.eq_ofNat_of_zero_le hf0
                have HFZ : Hid ((fn : Int) ≤ z) := Lib.hid (by omega)
                have HSA : Hid (soundAt ws isl k = (fieldsAt ws k fn).all fun w => soundW w isl) := Lib.hid (by
                  have e : soundAt ws isl k = (decide (fieldsH (obj0 ws k) ≤ (obj0 ws k).size) && (fieldsAt ws k (fieldsH (obj0 ws k)).toNat).all fun w => soundW w isl) := rfl
                  rw [e, HO0.out, HFD.out, decide_eq_true (show (fn : Int) ≤ (Hdr.mk kd z t nn).size by simp only; omega)]
                  rfl)
                have qfz : (fn : Int) ≤ z := by omega
                have qf : (fn : Int) ≤ 1048576 := by have := HZ.out; omega
                clear hfz hf0
                go_wp2_with (first | (go_at_call 73; (with_reducible refine (Wd.fields_c kd z t nn fn _ HFD.out).mono ?_); rintro e wa ⟨rfl, hb⟩; have HF10 := Lib.hid (HF9.out.trans (Fr.of_below hb (fun _ => False))); clear hb))
                go_loopg [69] fn (fun g a69 wr => ∃ (j : Nat), a69 = .int .i64 j ∧ g + j = fn ∧ Hid (Fr W1 wr (fun _ => False) ∧ ∀ i, i < j → soundW (rd0 ws ((k : Int) + 1 + i)) isl = true))
                case atStart => exact ⟨0, rfl, rfl, Lib.hid ⟨HF10.out, fun j hj => by omega⟩⟩
                case round =>
                  obtain ⟨j, rfl, hgj, HJ⟩ := hrel
                  have HGJ := Lib.hid hgj
                  clear hgj
                  by_cases hj : j < fn
                  · have HJL := Lib.hid hj
                    have qj : (j : Int) < fn := by omega
                    have HIj := Lib.hid (HI2.out.frm HJ.out.1)
                    obtain ⟨y, hy⟩ : ∃ y, rdAt ws ((k : Int) + 1 + j) = some y := by
                      have := HZ.out
                      unfold rdAt
                      rw [if_pos (by omega)]
                      exact ⟨_, rfl⟩
                    have HY := Lib.hid hy
                    have hoy : okW y := by obtain ⟨m, _, hm, rfl⟩ := rdAt_some hy; exact okWs_getD HIj.out.ar.ok m hm
                    have HOY := Lib.hid hoy
                    have hry : rd0 ws ((k : Int) + 1 + j) = y := by unfold rd0; rw [hy]; rfl
                    have HRY := Lib.hid hry
                    obtain ⟨bs, hbs⟩ : ∃ bs, soundW y isl = bs := ⟨_, rfl⟩
                    have HBS := Lib.hid hbs
                    have HNO : Hid (bs = false → SB = false) := Lib.hid (fun e => by
                      rw [← HSB.out]
                      refine soundB_at HO2.out HMEM.out ?_
                      rw [HISL.out, HSA.out]
                      refine List.all_eq_false.2 ⟨y, ?_, by rw [hbs, e]; decide⟩
                      unfold fieldsAt
                      exact List.mem_map.2 ⟨j, List.mem_range.2 hj, hry⟩)
                    clear hj hy hoy hry hbs
                    cases bs with
                    | false =>
                      have HS0 := Lib.hid (HNO.out rfl)
                      go_wp2_with (first
                        | (go_at_call 23; (with_reducible refine (get_c p v ws size _ y _ HIj.out.ar HY.out).mono ?_); rintro e w4 ⟨rfl, rfl⟩)
                        | (go_at_call 78; (with_reducible refine (msound_c y _ isl _ (HBO2.out.keep HJ.out.1 (fun _ _ h => h)) HOY.out).mono ?_); rintro e w5 ⟨rfl, hd⟩; rw [HBS.out]; have HF5 := Lib.hid (hd.fr (fun _ => False)); clear hd))
                      go_ret
                      exact ⟨by rw [HS0.out]; rfl, HI2.out.fr.trans (HJ.out.1.trans HF5.out)⟩
                    | true =>
                      go_wp2_with (first
                        | (go_at_call 23; (with_reducible refine (get_c p v ws size _ y _ HIj.out.ar HY.out).mono ?_); rintro e w4 ⟨rfl, rfl⟩)
                        | (go_at_call 78; (with_reducible refine (msound_c y _ isl _ (HBO2.out.keep HJ.out.1 (fun _ _ h => h)) HOY.out).mono ?_); rintro e w5 ⟨rfl, hd⟩; rw [HBS.out]; have HF5 := Lib.hid (hd.fr (fun _ => False)); clear hd))
                      go_roundg (gk - 1)
                      case measure => have := HGJ.out; have := HJL.out; omega
                      case rel => exact ⟨j + 1, by first | rfl | go_num, by have := HGJ.out; have := HJL.out; omega, Lib.hid ⟨HJ.out.1.trans HF5.out, fun i hi => by
                        by_cases hi2 : i < j
                        · exact HJ.out.2 i hi2
                        · have : i = j := by omega
                          subst this
                          rw [HRY.out]; exact HBS.out⟩⟩
                  · have b7 : decide (j < fn) = false := decide_eq_false hj
                    have HJE : Hid (j = fn) := Lib.hid (by have := HGJ.out; omega)
                    clear hj
                    go_wp2
                    go_roundg (G - 1)
                    case measure => have := HGI.out; have := HIL.out; omega
                    case rel => exact ⟨i + 1, by first | rfl | go_num, by have := HGI.out; have := HIL.out; omega, Lib.hid ⟨HJ.out.1, fun m hm => by
                      by_cases hm2 : m < i
                      · exact HI.out.2 m hm2
                      · have : m = i := by omega
                        subst this
                        rw [HB.out, HSA.out]
                        refine List.all_eq_true.2 fun x hx => ?_
                        unfold fieldsAt at hx
                        obtain ⟨q, hq, rfl⟩ := List.mem_map.1 hx
                        exact HJ.out.2 q (by have := List.mem_range.1 hq; have := HJE.out; omega)⟩⟩
            · have hie : i = L.length := by have := HGI.out; omega
              have b4 : decide (i < L.length) = false := decide_eq_false hi
              have hy : SB = true := by
                rw [← HSB.out]
                refine soundB_yes HO2.out (fun x hx => by rw [HISL.out]; exact HRS.out x hx) (fun a ha => ?_)
                obtain ⟨j, hj, rfl⟩ := List.getElem_of_mem ha
                have := HI.out.2 j (by omega)
                rw [List.getD_eq_getElem?_getD, List.getElem?_eq_getElem hj] at this
                rw [HISL.out]
                exact this
              have HY := Lib.hid hy
              clear hi hie hy
              go_wp2
              go_ret
              exact ⟨by rw [HY.out]; rfl, HI2.out.fr.trans HI.out.1⟩
theorem msnd_c (p : Nat) (v r : Value) (ws rs : List Int) (size : Int) (w : World) (h : Ar 101 w p v ws size) (hr : Rd w r (uw rs)) (hok : okWs rs) (hl : rs.length ≤ 1048576) :
    Calls Try.prog 56 #[.pointer (some ⟨p, 0, none⟩), r] w fun e w' => e = .returned (.bool (soundB ws rs)) ∧ Fr w w' (fun _ => False) := by
  cases ho : objs ws with
  | none => exact msnd_none p v r ws rs size w h ho
  | some L => exact msnd_some p v r ws rs L size w h hr hok hl ho
end Go.Proofs.Ytjiaaefpepdoeaa

/-
  CONTRACT: slide.Slide on a sound heap. Conditions: sizes; the reach set (Lv) is given.
-/
namespace Go.Proofs.Ytjiaaefpepdoeaa
open Go.RowKit Md Go.Proofs.YtjiaaefpepdoeaaW.PrintWords
set_option linter.unusedVariables false
theorem headerInfo : (Try.prog.info? 104).map (fun i => (i.zero, i.size, i.bytes)) = some (some (.agg #[.int .i64 0, .int .i64 0, .int .i64 0, .bool false]), 4, 32) := by kernel_rfl
theorem hdr0_cells : hcs hdr0 = [.int .i64 0, .int .i64 0, .int .i64 0, .bool false] := rfl
theorem mk_hdrs (n : Nat) (w : World) (hn : n ≤ 1048576) : ∃ w', (Instr.makeSlice 122 (.int .i64 (n : Int)) (.int .i64 (n : Int))).run Try.prog w = .ok (.slice (some ⟨w.heap.size, 0, none⟩) n n) w' ∧ OwnH w' (.slice (some ⟨w.heap.size, 0, none⟩) n n) (List.replicate n hdr0) ∧ Fr w w' (fun _ => False) := by
  obtain ⟨i0, hi, hz0, hz1, hz2⟩ := info_parts headerInfo
  obtain ⟨w', hr, ho, hg⟩ := run_make_full (P := Try.prog) w 0 122 104 i0 (.agg #[.int .i64 0, .int .i64 0, .int .i64 0, .bool false]) 4 Try.underlying122 hi hz0 hz1 .i64 .i64 n (by rw [hz2]; omega) (by unfold maxLen; omega) (Nat.zero_le _)
  refine ⟨w', hr, ?_, (Fr.refl w _).grown hg (fun k hk => by cases hk)⟩
  have e : (madeCells (Value.cells (.agg #[.int .i64 0, .int .i64 0, .int .i64 0, .bool false])) (n * 4)).toList = hws (List.replicate n hdr0) := by
    apply List.ext_getElem?
    intro j
    by_cases hj : j < n * 4
    · have hq : j = j / 4 * 4 + j % 4 := by omega
      have hg1 := hws_get (hs := List.replicate n hdr0) (k := j / 4) (by rw [List.length_replicate]; omega) (j % 4) (by omega)
      rw [← hq] at hg1
      rw [hg1]
      have e0 : (List.replicate n hdr0).getD (j / 4) hdr0 = hdr0 := by
        have : j / 4 < n := by omega
        simp [List.getD, List.getElem?_replicate, this]
      rw [e0, hdr0_cells]
      have hm : j % 4 = 0 ∨ j % 4 = 1 ∨ j % 4 = 2 ∨ j % 4 = 3 := by omega
      have hl : (madeCells (Value.cells (.agg #[.int .i64 0, .int .i64 0, .int .i64 0, .bool false])) (n * 4)).toList[j]? = some ((#[.int .i64 0, .int .i64 0, .int .i64 0, .bool false] : Array Value)[j % 4]!) := by
        simp [madeCells, Value.cells, hj]
      rw [hl]
      rcases hm with h | h | h | h <;> rw [h] <;> rfl
    · rw [List.getElem?_eq_none (by rw [Array.length_toList, size_madeCells]; omega), List.getElem?_eq_none (by rw [hws_length, List.length_replicate]; omega)]
  rw [e] at ho
  unfold OwnH
  rw [List.length_replicate]
  exact ho
theorem msnd_yes (p : Nat) (v r : Value) (ws rs : List Int) (size : Int) (w : World) (h : Ar 101 w p v ws size) (hr : Rd w r (uw rs)) (hok : okWs rs) (hl : rs.length ≤ 1048576) (hb : soundB ws rs = true) :
    Calls Try.prog 56 #[.pointer (some ⟨p, 0, none⟩), r] w fun e w' => e = .returned (.bool true) ∧ Fr w w' (fun _ => False) := by
  have := msnd_c p v r ws rs size w h hr hok hl
  rw [hb] at this
  exact this
theorem live_yes (p : Nat) (v r : Value) (ws rs : List Int) (s : List Bool) (size : Int) (w : World) (h : Ar 101 w p v ws size) (hr : Rd w r (uw rs)) (hok : okWs rs) (hl : ws.length ≤ 4000) (hlr : rs.length ≤ 4000) (hs : Lv ws (List.replicate ws.length false) rs (some s)) :
    Calls Try.prog 49 #[.pointer (some ⟨p, 0, none⟩), r] w fun e w' => ∃ u, e = .returned (.tuple #[u, .bool true]) ∧ New w w' 3 u (iw (seenList s)) := by
  refine (live_c p v r ws rs size w h hr hok hl hlr).mono ?_
  rintro e w' ⟨q, u, hq, he, hn⟩
  have := Lv.det hq _ hs
  subst this
  exact ⟨u, he, hn⟩
set_option maxRecDepth 100000 in
set_option maxHeartbeats 4000000 in
theorem slide_c (p : Nat) (va xv : Value) (l rs L M : List Int) (s : List Bool) (size : Int) (w : World) (h : TA 101 w p va l size xv rs) (hM : M = seenList s) (S : Sc l rs L M) (hb : soundB l rs = true)
    (hsn : Lv l (List.replicate l.length false) rs (some s)) (hl : l.length ≤ 4000) (hlr : rs.length ≤ 4000) :
    Calls Try.prog 58 #[.pointer (some ⟨p, 0, none⟩), xv] w fun e w' => ∃ va' gv, e = .returned (.tuple #[.agg #[.int .i64 (imgs l M M).length, gv, .int .i64 (cntM l M M)], .bool true]) ∧ TA 101 w' p va' (imgs l M M) size xv (rs.map (mvW l M)) ∧ Own w' 3 gv (iw (goneM l M L)) ∧ Fr w w' (fun i => i = p ∨ UO va xv i) ∧ (∀ k, InBlk va' k → InBlk va k) ∧ ∀ k, InBlk gv k → w.heap.size ≤ k := by
  have hMl : M.length ≤ l.length := by have := (words_le S.snd.rows M S.srt S.sub).2; have := S.snd.rows.len; omega
  have HML : Hid (M.length ≤ 4000) := Lib.hid (by omega)
  have HL := Lib.hid hl
  have HLR := Lib.hid hlr
  have HSC := Lib.hid S
  have HB := Lib.hid hb
  have HSN := Lib.hid hsn
  have HM := Lib.hid hM
  have H := Lib.hid h
  have HX := Lib.hid h.own.rd
  have HNR : Hid (∀ i, w.heap.size ≤ i → ¬ (i = p ∨ UO va xv i)) := Lib.hid (fun i hi e => by
    rcases e with e | e | e
    · have := h.ar.lt; omega
    · have := h.ar.own.lt i e; omega
    · have := h.own.lt i e; omega)
  have q0 : (rs.length : Int) ≤ 4000 := by omega
  have q1 : (M.length : Int) ≤ 4000 := by omega
  obtain ⟨Ax, cx, rfl⟩ := h.own.rd.len
  rw [uw_length] at *
  obtain ⟨R, hR⟩ : ∃ R, w.heap.size = R := ⟨_, rfl⟩
  have HR := Lib.hid hR
  obtain ⟨wA, hwA⟩ : ∃ wA, w.alloc (.cells #[.int .i64 0, .slice none 0 0, .int .i64 0] 93) = wA := ⟨_, rfl⟩
  have HFA : Hid (Fr w wA (fun _ => False)) := Lib.hid (by rw [← hwA]; exact (Fr.refl _ _).alloc _)
  have HRB : Hid (wA.heap[R]? = some (.cells #[.int .i64 0, .slice none 0 0, .int .i64 0] 93 (0, 0))) := Lib.hid (by rw [← hwA, ← hR]; exact blk_new _ _ _)
  clear h S hb hsn hl hlr hMl hM
  go_enter Try.func58, Try.ntmps58
  go_upto_region 1 with (fail)
  clear hwA hR
  have HT1 := Lib.hid (H.out.fr HFA.out)
  go_upto_region 4 with (first
    | (go_at_call 56; (with_reducible refine (msnd_yes p va _ l rs size _ HT1.out.ar (by have := HT1.out.own.rd; exact this) HT1.out.okr HT1.out.lenr HB.out).mono ?_); rintro e w2 ⟨rfl, hf⟩; have HT2 := Lib.hid (HT1.out.fr hf); have HF2 := Lib.hid (HFA.out.trans hf); have HR2 := Lib.hid (hf.blk HRB.out (fun h => h)); clear hf)
    | (go_at_call 49; (with_reducible refine (live_yes p va _ l rs s size _ HT2.out.ar (by have := HT2.out.own.rd; exact this) HT2.out.okr HL.out HLR.out HSN.out).mono ?_); rintro e w3 ⟨lv, rfl, hn⟩; rw [← HM.out] at hn; have HN := Lib.hid hn; clear hn))
  obtain ⟨Al, cl, rfl⟩ := HN.out.1.rd.len
  rw [iw_length] at HN ⊢
  have HF3 := Lib.hid (HF2.out.trans HN.out.2.1)
  have HT3 := Lib.hid (HT2.out.fr HN.out.2.1)
  have HR3 := Lib.hid (HN.out.2.1.blk HR2.out (fun h => h))
  obtain ⟨w4, hmk, hoh, hfm⟩ := mk_hdrs M.length w3 (by have := HML.out; omega)
  have hgh : ∀ k, InBlk (.slice (some ⟨w3.heap.size, 0, none⟩) M.length M.length) k → w3.heap.size ≤ k := fun k hk => by simp [InBlk, Value.ownBlock] at hk; omega
  obtain ⟨G3, hG3⟩ : ∃ G3, w3.heap.size = G3 := ⟨_, rfl⟩
  rw [hG3] at hmk hoh hgh
  have HF4 := Lib.hid (HF3.out.trans hfm)
  have HT4 := Lib.hid (HT3.out.fr hfm)
  have HR4 := Lib.hid (hfm.blk HR3.out (fun h => h))
  have HL4 := Lib.hid (HN.out.1.keep hfm (fun _ _ h => h))
  have HH4 := Lib.hid hoh
  have HGH := Lib.hid hgh
  have HRG : Hid (R < G3) := Lib.hid (by rw [← hG3]; exact (Array.getElem?_eq_some_iff.1 HR3.out).1)
  have HWG : Hid (w.heap.size ≤ G3) := Lib.hid (by rw [← hG3]; exact HF3.out.size)
  have HLW : Hid (∀ i, InBlk (.slice Al M.length cl) i → w2.heap.size ≤ i) := Lib.hid HN.out.2.2
  have HLT : Hid (∀ i, InBlk (.slice Al M.length cl) i → i < G3) := Lib.hid (fun i hi => by have := HN.out.1.lt i hi; omega)
  clear hoh hfm hgh HN
  obtain ⟨W5, hW5⟩ : ∃ W5, w4.alloc (.cells #[.pointer (some ⟨p, 0, none⟩), .slice Ax rs.length cx, .slice Al M.length cl, .slice (some ⟨G3, 0, none⟩) M.length M.length] 124) = W5 := ⟨_, rfl⟩
  obtain ⟨SP, hSP⟩ : ∃ SP, w4.heap.size = SP := ⟨_, rfl⟩
  have hf5 : Fr w4 W5 (fun _ => False) := by rw [← hW5]; exact (Fr.refl _ _).alloc _
  have HS5 : Hid (Sld W5 SP p (.slice Ax rs.length cx) (.slice Al M.length cl) (.slice (some ⟨G3, 0, none⟩) M.length M.length)) := Lib.hid (by unfold Sld; rw [← hW5, ← hSP]; exact blk_new _ _ _)
  have HF5 := Lib.hid (HF4.out.trans hf5)
  have HT5 := Lib.hid (HT4.out.fr hf5)
  have HR5 := Lib.hid (hf5.blk HR4.out (fun h => h))
  have HL5 := Lib.hid (HL4.out.keep hf5 (fun _ _ h => h))
  have HH5 := Lib.hid (HH4.out.keep hf5 (fun _ _ h => h))
  clear hf5
  have HLG : Hid (∀ i, InBlk (.slice Al M.length cl) i → w.heap.size ≤ i) := Lib.hid (fun i hi => Nat.le_trans HF2.out.size (HLW.out i hi))
  have HLH : Hid (∀ i, InBlk (.slice Al M.length cl) i → ¬ InBlk (.slice (some ⟨G3, 0, none⟩) M.length M.length) i) := Lib.hid (fun i hi e => by
    have h1 := HGH.out i e
    have h2 := HLT.out i hi
    omega)
  have HSG : Hid (¬ InBlk (.slice (some ⟨G3, 0, none⟩) M.length M.length) SP) := Lib.hid (fun e => by
    have h1 := HH4.out.elem SP e
    obtain ⟨_, h1⟩ := h1
    have h2 := (Array.getElem?_eq_some_iff.1 h1).1
    omega)
  have HGW : Hid (G3 < W5.heap.size ∧ w.heap.size ≤ W5.heap.size) := Lib.hid ⟨by obtain ⟨_, h1⟩ := HH5.out.elem G3 (by simp [InBlk, Value.ownBlock]); exact (Array.getElem?_eq_some_iff.1 h1).1, HF5.out.size⟩
  have HSPW : Hid (w.heap.size ≤ SP ∧ R < SP) := Lib.hid (by have h1 := HF4.out.size; have h2 := (Array.getElem?_eq_some_iff.1 HR4.out).1; omega)
  go_upto_region 5 with (fail)
  clear hmk hW5 hSP hG3
  go_upto_region 7 with (first
    | (go_at_call 79; (with_reducible refine (gone_c SP p va _ _ _ l rs L M rs size _ HT5.out HS5.out HL5.out HSC.out HL.out).mono ?_); rintro e w6 ⟨gv, rfl, hg, hf, hn⟩; have HG6 := Lib.hid hg; have HF6 := Lib.hid hf; have HN6 := Lib.hid hn; clear hg hf hn))
  obtain ⟨Ag, cg, hgv⟩ := HG6.out.rd.len
  obtain ⟨ng, hng⟩ : ∃ ng, (iw (goneM l M L)).length = ng := ⟨_, rfl⟩
  rw [hng] at hgv
  subst hgv
  clear hng
  have HT6 := Lib.hid (HT5.out.fr HF6.out)
  have HS6 := Lib.hid (HS5.out.keep HF6.out (fun h => h))
  have HR6 := Lib.hid (HF6.out.blk HR5.out (fun h => h))
  have HL6 := Lib.hid (HL5.out.keep HF6.out (fun _ _ h => h))
  have HH6 := Lib.hid (HH5.out.keep HF6.out (fun _ _ h => h))
  have HFW := Lib.hid (HF5.out.trans HF6.out)
  have HNH : Hid (∀ i, w.heap.size ≤ i → ¬ UO va (.slice Ax rs.length cx) i) := Lib.hid (fun i hi e => HNR.out i hi (.inr e))
  have HSP : Hid (w.heap.size ≤ SP) := Lib.hid HSPW.out.1
  have HLN : Hid (∀ i, InBlk (.slice Al M.length cl) i → ¬ UO va (.slice Ax rs.length cx) i) := Lib.hid (fun i hi => HNH.out i (HLG.out i hi))
  have HUS : Hid (Us l rs L M 0 0 0 l rs) := Lib.hid (Us.start HSC.out)
  obtain ⟨W6, hW6⟩ : ∃ W6, W6 = w6 := ⟨_, rfl⟩
  subst hW6
  clear HT1 HT2 HF2 HR2 HF3 HT3 HR3 HF4 HT4 HR4 HL4 HH4 HF5 HT5 HR5 HL5 HH5 HF6
  go_loopg [10, 35] rs.length (fun g a10 a35 wr => ∃ (C : Nat) (ws ys : List Int), a35 = .int .i64 C ∧ g + C = rs.length ∧ Hid (TA 101 wr p va ws size (.slice Ax rs.length cx) ys ∧ Fr W6 wr (UO va (.slice Ax rs.length cx)) ∧ Us l rs L M 0 0 C ws ys))
  case atStart => exact ⟨0, _, _, rfl, rfl, Lib.hid ⟨HT6.out, Fr.refl _ _, HUS.out⟩⟩
  case round =>
    clear HT6 HUS
    obtain ⟨C, ws, ys, rfl, hgi, HI⟩ := hrel
    have HGI := Lib.hid hgi
    clear hgi
    by_cases hi : C < rs.length
    · have HIL := Lib.hid hi
      have qi : (C : Int) < rs.length := by omega
      have hcs := HI.out.2.2.root HSC.out hi rfl
      clear hi
      rcases hcs with ⟨hn, hu⟩ | ⟨ws3, ys3, hn, hu⟩
      · have HNO := Lib.hid hn
        have HU3 := Lib.hid hu
        clear hn hu
        go_wp2_with (first
          | (go_at_call 44; (with_reducible refine (thread_no p va _ ws ys size _ true _ HI.out.1 HNO.out).mono ?_); rintro e w8 ⟨rfl, hf8⟩; have HF8 := Lib.hid hf8; clear hf8))
        go_roundg (gk - 1)
        case measure => have := HGI.out; have := HIL.out; omega
        case rel => exact ⟨C + 1, ws, ys, by first | rfl | go_num, by have := HGI.out; have := HIL.out; omega, Lib.hid ⟨HI.out.1.fr HF8.out, HI.out.2.1.trans (HF8.out.mono (fun _ h _ => h.elim)), HU3.out⟩⟩
      · have HYE := Lib.hid hn
        have HU3 := Lib.hid hu
        clear hn hu
        go_wp2_with (first
          | (go_at_call 44; (with_reducible refine (thread_yes p va _ ws ys ws3 ys3 size _ true _ HI.out.1 HYE.out).mono ?_); rintro e w8 ⟨rfl, ht8, hf8⟩; have HF8 := Lib.hid hf8; have HT8 := Lib.hid ht8; clear hf8 ht8))
        go_roundg (gk - 1)
        case measure => have := HGI.out; have := HIL.out; omega
        case rel => exact ⟨C + 1, ws3, ys3, by first | rfl | go_num, by have := HGI.out; have := HIL.out; omega, Lib.hid ⟨HT8.out, HI.out.2.1.trans HF8.out, HU3.out⟩⟩
    · have b2 : decide (C < rs.length) = false := decide_eq_false hi
      have HUZ : Hid (Us l rs L M 0 0 rs.length ws ys) := Lib.hid (by
        have h1 := HI.out.2.2
        have h2 : C = rs.length := by have := HGI.out; omega
        rw [h2] at h1
        exact h1)
      have HS7 := Lib.hid (HS6.out.keep HI.out.2.1 (HNH.out SP HSP.out))
      have HL7 := Lib.hid (HL6.out.keep HI.out.2.1 HLN.out)
      have HH7 := Lib.hid (HH6.out.keep HI.out.2.1 (fun i hi => HNH.out i (Nat.le_trans HWG.out (HGH.out i hi))))
      clear hi
      go_upto_region 13 with (first
        | (go_at_call 80; (with_reducible refine (up_c SP p va _ _ _ l rs L M ws ys _ size _ HI.out.1 HS7.out HL7.out HH7.out (by rw [List.length_replicate]) HSC.out HUZ.out HL.out).mono ?_); rintro e w8 ⟨rfl, ws8, ys8, ht, hu, hh, hf⟩; have HT8 := Lib.hid ht; have HU8 := Lib.hid hu; have HH8 := Lib.hid hh; have HF8 := Lib.hid hf; have HS8 := Lib.hid (HS7.out.keep hf (fun e => e.elim (HNH.out SP HSP.out) (HSG.out))); have HL8 := Lib.hid (HL7.out.keep hf (fun i hi e => e.elim (HLN.out i hi) (HLH.out i hi))); clear ht hu hh hf)
        | (go_at_call 81; (with_reducible refine (down_c SP p va _ _ _ l rs L M ws8 ys8 size _ HT8.out HS8.out HL8.out HH8.out HSC.out (HU8.out.down HSC.out) HL.out).mono ?_); rintro e w9 ⟨rfl, va9, ht, hf, hv⟩; have HT9 := Lib.hid ht; have HF9 := Lib.hid hf; have HV9 := Lib.hid hv; clear ht hf hv))
      have HRN : Hid (¬ (R = p ∨ UO va (.slice Ax rs.length cx) R)) := Lib.hid (HNR.out R (by rw [HR.out]; exact Nat.le_refl _))
      have HRH : Hid (¬ InBlk (.slice (some ⟨G3, 0, none⟩) M.length M.length) R) := Lib.hid (fun e => by have h1 := HGH.out R e; have h2 := HRG.out; omega)
      have hrb : w9.heap[R]? = some (.cells #[.int .i64 0, .slice none 0 0, .int .i64 0] 93 (0, 0)) := HF9.out.blk (HF8.out.blk (HI.out.2.1.blk HR6.out (fun e => HRN.out (.inr e))) (fun e => e.elim (fun e => HRN.out (.inr e)) HRH.out)) HRN.out
      have e0 : w9.cell? ⟨R, 0, none⟩ = some (.int .i64 0) := by simp [World.cell?, hrb]
      have e1 : w9.cell? ⟨R, 1, none⟩ = some (.slice none 0 0) := by simp [World.cell?, hrb]
      have e2 : w9.cell? ⟨R, 2, none⟩ = some (.int .i64 0) := by simp [World.cell?, hrb]
      have fz : ∀ i, w9.frozen? ⟨R, i, none⟩ = false := fun i => by simp [World.frozen?, hrb]
      have HRB9 := Lib.hid hrb
      have HGB : Hid (∀ k, InBlk (.slice Ag ng cg) k → w.heap.size ≤ k ∧ G3 < k) := Lib.hid (fun k hk => by have h1 := HN6.out k hk; have h2 := HGW.out; omega)
      have HG9 : Hid (Own w9 3 (.slice Ag ng cg) (iw (goneM l M L))) := Lib.hid (((HG6.out.keep HI.out.2.1 (fun k hk => HNH.out k (HGB.out k hk).1)).keep HF8.out (fun k hk e => e.elim (HNH.out k (HGB.out k hk).1) (fun e => by simp [InBlk, Value.ownBlock] at e; have := (HGB.out k hk).2; omega))).keep HF9.out (fun k hk => HNR.out k (HGB.out k hk).1))
      have HF : Hid (Fr w w9 (fun i => i = p ∨ UO va (.slice Ax rs.length cx) i)) := Lib.hid ((((HFW.out.mono (S1 := fun i => i = p ∨ UO va (.slice Ax rs.length cx) i) (fun _ h _ => h.elim)).then_ HI.out.2.1 (fun i hi _ => .inr hi)).then_ HF8.out (fun i hi hlt => hi.elim (fun e => .inr e) (fun e => by have h1 := HGH.out i e; have h2 := HWG.out; omega))).trans HF9.out)
      clear hrb
      go_wp2_with (first | (go_at_call 27; (with_reducible refine (used_c p va9 (imgs l M M) size _ HT9.out.ar).mono ?_); rintro e w5 ⟨rfl, rfl⟩))
      refine bodyPost_ret (results_ct rfl _ _ R 93 #[.int .i64 (imgs l M M).length, .slice Ag ng cg, .int .i64 (cntM l M M)] (0, 0) _ rfl (by
        refine blk_put (cs := #[.int .i64 (imgs l M M).length, .slice Ag ng cg, .int .i64 0]) ?_ 2 _ rfl
        refine blk_put (cs := #[.int .i64 (imgs l M M).length, .slice none 0 0, .int .i64 0]) ?_ 1 _ rfl
        refine blk_put (cs := #[.int .i64 0, .slice none 0 0, .int .i64 0]) ?_ 0 _ rfl
        exact HRB9.out) Try.underlying93 rfl (by kernel_rfl)) rfl ?_
      have hz := (((Fr.refl w9 (fun j => j = R)).setCell1 0 (.int .i64 (imgs l M M).length)).setCell1 1 (.slice Ag ng cg)).setCell1 2 (.int .i64 (cntM l M M))
      have hne : R ≠ p := fun e => HRN.out (.inl e)
      refine ⟨va9, .slice Ag ng cg, rfl, ⟨HT9.out.ar.keep hz (fun e => hne e.symm) (fun k hk e => HRN.out (.inr (.inl (HV9.out R (by rw [← e]; exact hk))))), HT9.out.own.keep hz (fun k hk e => HRN.out (.inr (.inr (by rw [← e]; exact hk)))), HT9.out.ap, HT9.out.okr, HT9.out.lenr⟩, HG9.out.keep hz (fun k hk e => by have h1 := (HGB.out k hk).2; have h2 := HRG.out; omega), ?_, HV9.out, fun k hk => (HGB.out k hk).1⟩
      exact HF.out.then_ hz (fun i hi hlt => by have h1 := HR.out; omega)
end Go.Proofs.Ytjiaaefpepdoeaa

/-
  PLAIN: the reckoning always ends; the same roots, in whatever order and however often, reach the same. Conditions: none.
-/
namespace Go.Proofs.Ytjiaaefpepdoeaa
open Go.RowKit Md
set_option linter.unusedVariables false
theorem Lv.total {ws : List Int} : ∀ (n : Nat) (seen : List Bool) (todo : List Int), mu ws seen todo ≤ n → seen.length = ws.length → ∃ r, Lv ws seen todo r := by
  intro n
  induction n with
  | zero =>
    intro seen todo h hs
    have : todo = [] := List.eq_nil_of_length_eq_zero (by unfold mu at h; omega)
    subst this
    exact ⟨_, .nil⟩
  | succ n ih =>
    intro seen todo h hs
    rcases List.eq_nil_or_concat todo with rfl | ⟨rest, w, rfl⟩
    · exact ⟨_, .nil⟩
    · rw [List.concat_eq_append] at h ⊢
      have h1 : mu ws seen rest ≤ n := by unfold mu at h ⊢; rw [List.length_append] at h; simp only [List.length_cons, List.length_nil] at h; omega
      by_cases ht : tagW w = 5
      · cases ho : objAt ws (valW w) with
        | none => exact ⟨_, .bad ht ho⟩
        | some hd =>
          obtain ⟨a0, a1, _, a3, _, a5⟩ := obj_facts ho
          cases hb : seen.getD (valW w).toNat false with
          | true => obtain ⟨r, hr⟩ := ih seen rest h1 hs; exact ⟨r, .old ht ho hb hr⟩
          | false =>
            have hk : (valW w).toNat < seen.length := by omega
            have hn : nFields hd < ws.length := by unfold nFields; omega
            have h2 := mu_new (ws := ws) (rest := rest) (x := valW w) hk hb hn
            have h3 : mu ws seen (rest ++ [valW w]) = mu ws seen (rest ++ [w]) := by unfold mu; simp
            obtain ⟨r, hr⟩ := ih (seen.set (valW w).toNat true) (rest ++ fieldsAt ws (valW w) (nFields hd)) (by omega) (by rw [List.length_set]; exact hs)
            exact ⟨r, .new ht ho hb hr⟩
      · obtain ⟨r, hr⟩ := ih seen rest h1 hs
        exact ⟨r, .other ht hr⟩
/-- a sound heap has its set of what is reached -/
theorem reach_of {ws rs ra L : List Int} (S : Snd ws rs L) (hr : ∀ w ∈ ra, sw L w) : ∃ s, Md.Reach ws ra s := by
  obtain ⟨r, h⟩ := Lv.total (ws := ws) _ (List.replicate ws.length false) ra (Nat.le_refl _) (by simp)
  cases r with
  | none => exact absurd rfl (Lv.sound S h hr)
  | some s => exact ⟨s, h⟩
theorem reach_same {ws ra rb : List Int} {sa sb : List Bool} (ha : Md.Reach ws ra sa) (hb : Md.Reach ws rb sb) (h : ∀ w, w ∈ ra ↔ w ∈ rb) : sa = sb := by
  have key : ∀ x, isIn sa x ↔ isIn sb x := fun x =>
    ⟨fun hx => ha.least (isIn sb) (fun w hw h5 => hb.holds w ((h w).1 hw) h5) hb.closed x hx, fun hx => hb.least (isIn sa) (fun w hw h5 => ha.holds w ((h w).2 hw) h5) ha.closed x hx⟩
  apply List.ext_getElem (by rw [ha.len, hb.len])
  intro i h1 h2
  have := key i
  unfold isIn at this
  simp [List.getD, h1, h2] at this
  cases hA : sa[i] <;> cases hB : sb[i] <;> simp_all
theorem Snd.of_roots {ws ra rb L : List Int} (S : Snd ws ra L) (h : ∀ w ∈ rb, w ∈ ra) : Snd ws rb L := ⟨S.objs, S.rows, fun r hr => S.root r (h r hr), S.fit, S.fld⟩
/-- SlideRoots: the roots turned, then all of them again. -/
def turned (rs : List Int) (k : Nat) : List Int := rs.drop k ++ rs.take k ++ rs
theorem mem_turned {rs : List Int} {k : Nat} : ∀ w, w ∈ rs ↔ w ∈ turned rs k := fun w => by
  unfold turned
  simp only [List.mem_append]
  constructor
  · exact fun h => .inr h
  · rintro ((h | h) | h)
    · exact List.mem_of_mem_drop h
    · exact List.mem_of_mem_take h
    · exact h
theorem turned_map (f : Int → Int) (rs : List Int) (k : Nat) : (turned rs k).map f = turned (rs.map f) k := by
  unfold turned
  simp only [List.map_append, List.map_drop, List.map_take]
end Go.Proofs.Ytjiaaefpepdoeaa

/-
  CONTRACT: slide.Slide on what is not sound; on a sound heap, with the reach set. Conditions: sizes.
-/
namespace Go.Proofs.Ytjiaaefpepdoeaa
open Go.RowKit Md Go.Proofs.YtjiaaefpepdoeaaW.PrintWords
set_option linter.unusedVariables false
theorem msnd_not (p : Nat) (v r : Value) (ws rs : List Int) (size : Int) (w : World) (h : Ar 101 w p v ws size) (hr : Rd w r (uw rs)) (hok : okWs rs) (hl : rs.length ≤ 1048576) (hb : soundB ws rs = false) :
    Calls Try.prog 56 #[.pointer (some ⟨p, 0, none⟩), r] w fun e w' => e = .returned (.bool false) ∧ Fr w w' (fun _ => False) := by
  have := msnd_c p v r ws rs size w h hr hok hl
  rw [hb] at this
  exact this
set_option maxRecDepth 100000 in
set_option maxHeartbeats 4000000 in
theorem slide_no (p : Nat) (va xv : Value) (l rs : List Int) (size : Int) (w : World) (h : Ar 101 w p va l size) (hr : Rd w xv (uw rs)) (hok : okWs rs) (hl : rs.length ≤ 1048576) (hb : soundB l rs = false) :
    Calls Try.prog 58 #[.pointer (some ⟨p, 0, none⟩), xv] w fun e w' => e = .returned (.tuple #[.agg #[.int .i64 0, .slice none 0 0, .int .i64 0], .bool false]) ∧ Fr w w' (fun _ => False) := by
  obtain ⟨R, hR⟩ : ∃ R, w.heap.size = R := ⟨_, rfl⟩
  have HR := Lib.hid hR
  obtain ⟨wA, hwA⟩ : ∃ wA, w.alloc (.cells #[.int .i64 0, .slice none 0 0, .int .i64 0] 93) = wA := ⟨_, rfl⟩
  have HFA : Hid (Fr w wA (fun _ => False)) := Lib.hid (by rw [← hwA]; exact (Fr.refl _ _).alloc _)
  have HRB : Hid (wA.heap[R]? = some (.cells #[.int .i64 0, .slice none 0 0, .int .i64 0] 93 (0, 0))) := Lib.hid (by rw [← hwA, ← hR]; exact blk_new _ _ _)
  have HA := Lib.hid (h.fr HFA.out)
  have HX := Lib.hid (hr.keep HFA.out (fun _ _ h => h))
  have HOK := Lib.hid hok
  have HLR := Lib.hid hl
  have HB := Lib.hid hb
  clear h hr hok hl hb
  go_enter Try.func58, Try.ntmps58
  go_upto_region 1 with (fail)
  clear hwA hR
  go_upto_region 2 with (first
    | (go_at_call 56; (with_reducible refine (msnd_not p va _ l rs size _ HA.out HX.out HOK.out HLR.out HB.out).mono ?_); rintro e w2 ⟨rfl, hf⟩; have HF2 := Lib.hid hf; have HR2 := Lib.hid (hf.blk HRB.out (fun h => h)); clear hf))
  have hrb := HR2.out
  have e0 : w2.cell? ⟨R, 0, none⟩ = some (.int .i64 0) := by simp [World.cell?, hrb]
  have e1 : w2.cell? ⟨R, 1, none⟩ = some (.slice none 0 0) := by simp [World.cell?, hrb]
  have e2 : w2.cell? ⟨R, 2, none⟩ = some (.int .i64 0) := by simp [World.cell?, hrb]
  have fz : ∀ i, w2.frozen? ⟨R, i, none⟩ = false := fun i => by simp [World.frozen?, hrb]
  clear hrb
  go_wp2
  refine bodyPost_ret (results_ct rfl _ _ R 93 #[.int .i64 0, .slice none 0 0, .int .i64 0] (0, 0) _ rfl (by
    refine blk_put (cs := #[.int .i64 0, .slice none 0 0, .int .i64 0]) ?_ 2 _ rfl
    refine blk_put (cs := #[.int .i64 0, .slice none 0 0, .int .i64 0]) ?_ 1 _ rfl
    refine blk_put (cs := #[.int .i64 0, .slice none 0 0, .int .i64 0]) ?_ 0 _ rfl
    exact HR2.out) Try.underlying93 rfl (by kernel_rfl)) rfl ?_
  exact ⟨rfl, (HFA.out.trans HF2.out).then_ ((((Fr.refl w2 (fun j => j = R)).setCell1 0 _).setCell1 1 _).setCell1 2 _) (fun i hi hlt => by have h1 := HR.out; omega)⟩
theorem slide_yes (p : Nat) (va xv : Value) (l rs L : List Int) (s : List Bool) (size : Int) (w : World) (h : TA 101 w p va l size xv rs) (S : Snd l rs L) (hR : Md.Reach l rs s) (hl : l.length ≤ 4000) (hlr : rs.length ≤ 4000) :
    Calls Try.prog 58 #[.pointer (some ⟨p, 0, none⟩), xv] w fun e w' => ∃ va' gv, e = .returned (.tuple #[.agg #[.int .i64 (imgs l (seenList s) (seenList s)).length, gv, .int .i64 (cntM l (seenList s) (seenList s))], .bool true]) ∧ TA 101 w' p va' (imgs l (seenList s) (seenList s)) size xv (rs.map (mvW l (seenList s))) ∧ Own w' 3 gv (iw (goneM l (seenList s) L)) ∧ Fr w w' (fun i => i = p ∨ UO va xv i) ∧ (∀ k, InBlk va' k → InBlk va k) ∧ ∀ k, InBlk gv k → w.heap.size ≤ k :=
  slide_c p va xv l rs L (seenList s) s size w h rfl (Sc.of_reach S hR h.ar.ok h.okr (by unfold St.small; simp only; omega)) S.bool hR hl hlr
end Go.Proofs.Ytjiaaefpepdoeaa

/-
  CONTRACT: mark.Words. Conditions: at most 4000 words, at most 4000 roots.
-/
namespace Go.Proofs.Ytjiaaefpepdoeaa
open Go.RowKit Md
set_option linter.unusedVariables false
/-- The answer. -/
def WdA (w w' : World) (ws rs : List Int) (e : Ending) : Prop :=
  ∃ rr, Lv ws (List.replicate ws.length false) rs rr ∧ e = .returned (.int .i64 (wordsM ws ((rr.map seenList).getD []))) ∧ Fr w w' fun _ => False
theorem live_objs {ws rs : List Int} {rr : Option (List Bool)} (h : Lv ws (List.replicate ws.length false) rs rr) : (∀ a ∈ (rr.map seenList).getD [], ∃ hd, objAt ws a = some hd) ∧ ((rr.map seenList).getD []).length ≤ ws.length := by
  cases rr with
  | none => exact ⟨fun a ha => absurd ha (by simp), by simp⟩
  | some s =>
    have hr : Md.Reach ws rs s := h
    refine ⟨fun a ha => ?_, ?_⟩
    · obtain ⟨k, rfl, _, hk⟩ := mem_seenList.1 ha
      obtain ⟨hd, ho, _⟩ := hr.closed k hk
      exact ⟨hd, ho⟩
    · have := upTo_len s s.length
      rw [hr.len] at this
      rw [← hr.len] at this
      simp only [Option.map_some, Option.getD_some, ← upTo_all]
      rw [hr.len] at this ⊢
      exact this
theorem wordsM_snoc (ws M : List Int) (a : Int) : wordsM ws (M ++ [a]) = wordsM ws M + (1 + (obj0 ws a).size) := by simp [wordsM]
set_option maxRecDepth 100000 in
set_option maxHeartbeats 4000000 in
theorem mwords_c (p : Nat) (v r : Value) (ws rs : List Int) (size : Int) (w : World) (h : Ar 101 w p v ws size) (hr : Rd w r (uw rs)) (hok : okWs rs) (hl : ws.length ≤ 4000) (hlr : rs.length ≤ 4000) :
    Calls Try.prog 50 #[.pointer (some ⟨p, 0, none⟩), r] w fun e w' => WdA w w' ws rs e := by
  have H := Lib.hid h
  have HR := Lib.hid hr
  have HOK := Lib.hid hok
  have HL := Lib.hid hl
  have HLR := Lib.hid hlr
  have q1 : (ws.length : Int) ≤ 4000 := by omega
  clear h hr hok hl hlr
  go_enter Try.func50, Try.ntmps50
  go_upto_region 3 with (first
    | (go_at_call 49; (with_reducible refine (live_c p v _ ws rs size _ H.out HR.out HOK.out HL.out HLR.out).mono ?_); rintro e w1 ⟨rr, u, hlv, rfl, hn⟩; have HLV := Lib.hid hlv; have HO1 := Lib.hid hn.1; have HF1 := Lib.hid hn.2.1; have HA1 := Lib.hid (H.out.fr hn.2.1); clear hlv hn))
  obtain ⟨M, hM⟩ : ∃ M, (rr.map seenList).getD [] = M := ⟨_, rfl⟩
  have hlo := live_objs HLV.out
  rw [hM] at HO1 hlo
  have HMM := Lib.hid hM
  have HLO := Lib.hid hlo.1
  have HML := Lib.hid hlo.2
  have qM : (M.length : Int) ≤ 4000 := by have := HML.out; omega
  obtain ⟨Au, cu, rfl⟩ := HO1.out.rd.len
  rw [iw_length] at *
  try simp only [iw_length]
  clear hM hlo
  go_wp2
  go_loopg [7, 20] M.length (fun g a7 a20 wr => ∃ (n : Int) (i : Nat), a7 = .int .i64 n ∧ a20 = .int .i64 i ∧ g + i = M.length ∧ Hid (Fr w1 wr (fun _ => False) ∧ n = wordsM ws (M.take i) ∧ 0 ≤ n ∧ n ≤ i * 4001))
  case atStart => exact ⟨0, 0, rfl, rfl, rfl, Lib.hid ⟨Fr.refl _ _, by simp [wordsM], by omega, by omega⟩⟩
  case round =>
    obtain ⟨n, i, rfl, rfl, hgi, HI⟩ := hrel
    have HGI := Lib.hid hgi
    clear hgi
    by_cases hi : i < M.length
    · have HIL := Lib.hid hi
      have qi : (i : Int) < M.length := by omega
      obtain ⟨a, ha⟩ : ∃ a, M.getD i 0 = a := ⟨_, rfl⟩
      have haM : a ∈ M := by rw [← ha, List.getD_eq_getElem?_getD, List.getElem?_eq_getElem hi]; exact List.getElem_mem hi
      obtain ⟨hd, hob⟩ := HLO.out a haM
      obtain ⟨hb0, hb1, hrd, hz0, hz1, hz2⟩ := obj_facts hob
      obtain ⟨kd, z, t, nn⟩ := hd
      simp only at hz0 hz1 hz2
      have HOB := Lib.hid hob
      have HA := Lib.hid ha
      have HZ : Hid (0 ≤ z ∧ a + 1 + z ≤ ws.length ∧ 0 ≤ a) := Lib.hid ⟨hz0, hz2, hb0⟩
      have HO2 := Lib.hid (HO1.out.keep HI.out.1 (fun _ _ h => h))
      obtain ⟨gu, rfl, _, hcu⟩ := HO2.out.cellAt (by rw [iw_length]; omega)
      have ck := (hcu i (by rw [iw_length]; exact hi)).1
      rw [iw_get hi, ha] at ck
      have qn0 : 0 ≤ n := HI.out.2.2.1
      have qn1 : n ≤ 16008001 := by have := HI.out.2.2.2; have := HML.out; have := HL.out; omega
      have qz0 : 0 ≤ z := hz0
      have qz1 : z ≤ 4000 := by omega
      clear hi ha haM hob hb0 hb1 hrd hz0 hz1 hz2 hcu
      go_upto_region 7 with (first | (go_at_call 62; (with_reducible refine (obj_some p v ws size a _ _ (HA1.out.fr HI.out.1) HOB.out).mono ?_); rintro e wo ⟨rfl, hfo⟩))
      obtain ⟨W2, hW2⟩ : ∃ W2, wo.alloc (.cells #[.int .i64 kd, .int .i64 z, .int .i64 t, .bool nn] 104) = W2 := ⟨_, rfl⟩
      obtain ⟨D, hD⟩ : ∃ D, wo.heap.size = D := ⟨_, rfl⟩
      have hf2 : Fr wr W2 (fun _ => False) := by rw [← hW2]; exact hfo.alloc _
      have hdb : W2.heap[D]? = some (.cells #[.int .i64 kd, .int .i64 z, .int .i64 t, .bool nn] 104 (0, 0)) := by rw [← hW2, ← hD]; exact blk_new _ _ _
      have d1 : W2.cell? ⟨D, 1, none⟩ = some (.int .i64 z) := by simp [World.cell?, hdb]
      have HF2 := Lib.hid (HI.out.1.trans hf2)
      simp only [hW2, hD]
      clear hW2 hD hfo hf2 hdb ck
      go_wp2
      go_roundg (gk - 1)
      case measure => have := HGI.out; have := HIL.out; omega
      case rel =>
        refine ⟨n + (1 + z), i + 1, by first | rfl | go_num, by first | rfl | go_num, by have := HGI.out; have := HIL.out; omega, Lib.hid ⟨HF2.out, ?_, by have := HI.out; have := HZ.out; omega, ?_⟩⟩
        · have e1 : M.take (i + 1) = M.take i ++ [a] := by
            rw [List.take_succ_eq_append_getElem HIL.out, ← HA.out]
            simp [List.getD, HIL.out]
          rw [e1, wordsM_snoc, ← HI.out.2.1, obj0_of HOB.out]
        · have := HI.out.2.2.2; have := HZ.out; have := HL.out; push_cast; omega
    · have hie : i = M.length := by have := HGI.out; omega
      have b2 : decide (i < M.length) = false := decide_eq_false hi
      have HW : Hid (n = wordsM ws M) := Lib.hid (by have := HI.out.2.1; rw [hie, List.take_length] at this; exact this)
      clear hi hie
      go_wp2
      go_ret
      exact ⟨rr, HLV.out, by rw [HMM.out, ← HW.out]; rfl, HF1.out.trans HI.out.1⟩
end Go.Proofs.Ytjiaaefpepdoeaa

/-
  CONTRACT: the awake of layer 12. Conditions: none.
-/

namespace Go.Proofs.Ytjiaaefpepdoeaa
open Go.RowKit Md
set_option linter.unusedVariables false
/-- a new row that lies at a block's number, in whatever spelling -/
theorem rd_blk {W : World} {g : Nat} {T : TypeId} {l : List Value} (h : W.heap[g]? = some (.cells l.toArray T (0, 0))) (h0 : 0 < l.length) (hm : l.length ≤ 1000) : Rd W (.slice (some ⟨g, 0, none⟩) l.length l.length) l :=
  .inr ⟨g, 0, l.length, rfl, h0, Nat.le_refl _, by simp only [maxLen]; omega, (Array.getElem?_eq_some_iff.1 h).1, fun i hi => by
    rw [Nat.zero_add]
    simp only [World.cell?, h]
    simp⟩
theorem blk_drew (w : World) (n : Nat) (c : Array Value) (T : TypeId) : ((w.drewN n).alloc (.cells c T)).heap[w.heap.size]? = some (.cells c T (0, 0)) := blk_new (w.drewN n) c T
set_option maxRecDepth 100000 in
set_option maxHeartbeats 4000000 in
theorem awake12_c (w : World) : Calls Try.prog 48 #[] w fun e w' => e = .returned (.bool true) ∧ Fr w w' (fun _ => False) := by
  obtain ⟨H, T, hH, hT, okH, okT, hl3, hl0, hw0⟩ : ∃ H T, makeH ⟨0, 2, 3, false⟩ = H ∧ makeH ⟨1, 1, 4, false⟩ = T ∧ okW H ∧ okW T ∧ lvM [H, 0, 4, T, 5] 10 [false, false, false, false, false] [53] = some (some [true, false, false, true, false]) ∧
      lvM [H, 0, 4, T, 5] 10 [false, false, false, false, false] [5] = some (some [true, false, false, false, false]) ∧ wordsM [H, 0, 4, T, 5] [0] = 3 :=
    ⟨402653446, 536871062, by decide +kernel, by decide +kernel, by unfold okW; omega, by unfold okW; omega, by decide +kernel, by decide +kernel, by decide +kernel⟩
  have HH := Lib.hid hH
  have HT := Lib.hid hT
  have HL3 := Lib.hid (lv_of _ _ _ _ hl3)
  have HL0 := Lib.hid (lv_of _ _ _ _ hl0)
  have HW0 := Lib.hid hw0
  have P40 : Hid (ofW 4 0 = 4) := Lib.hid (by decide +kernel)
  have P50 : Hid (ofW 5 0 = 5) := Lib.hid (by decide +kernel)
  have P53 : Hid (ofW 5 3 = 53) := Lib.hid (by decide +kernel)
  have K5 : Hid (okWs [H, 0, 4, T, 5]) := Lib.hid (fun x hx => by simp at hx; rcases hx with rfl | rfl | rfl | rfl | rfl <;> first | assumption | (unfold okW; omega))
  have K53 : Hid (okWs [53]) := Lib.hid (fun x hx => by simp at hx; subst hx; unfold okW; omega)
  have K1 : Hid (okWs [5]) := Lib.hid (fun x hx => by simp at hx; subst hx; unfold okW; omega)
  have Z0 : Hid ((0 : Int) ≤ 0) := Lib.hid (Int.le_refl 0)
  have L5 : Hid ((([H, 0, 4, T, 5] : List Int).length : Int) + 0 ≤ 1048576) := Lib.hid (by simp only [List.length_cons, List.length_nil]; omega)
  have M5 : Hid (([H, 0, 4, T, 5] : List Int).length ≤ 4000) := Lib.hid (by simp only [List.length_cons, List.length_nil]; omega)
  have M53 : Hid (([53] : List Int).length ≤ 4000) := Lib.hid (by simp only [List.length_cons, List.length_nil]; omega)
  have M1 : Hid (([5] : List Int).length ≤ 4000) := Lib.hid (by simp only [List.length_cons, List.length_nil]; omega)
  have R53 : Hid (∀ (w : World) (n : Nat), Rd ((w.drewN n).alloc (.cells #[.int .u64 53] 29)) (.slice (some ⟨w.heap.size, 0, none⟩) 1 1) (uw [53])) := Lib.hid (fun w n => rd_blk (l := uw [53]) (blk_drew w n _ _) (by simp [uw]) (by simp [uw]))
  have R05 : Hid (∀ (w : World) (n : Nat), Rd ((w.drewN n).alloc (.cells #[.int .u64 5] 29)) (.slice (some ⟨w.heap.size, 0, none⟩) 1 1) (uw [5])) := Lib.hid (fun w n => rd_blk (l := uw [5]) (blk_drew w n _ _) (by simp [uw]) (by simp [uw]))
  have RI : Hid (∀ (w : World), Rd (w.alloc (.cells #[.int .i64 0, .int .i64 3] 3)) (.slice (some ⟨w.heap.size, 0, none⟩) 2 2) (iw [0, 3])) := Lib.hid (fun w => rd_blk (l := iw [0, 3]) (blk_new w _ _) (by simp [iw]) (by simp [iw]))
  clear hH hT okH okT hl3 hl0 hw0
  go_enter Try.func48, Try.ntmps48
  go_upto_region 2 with (first
    | (go_at_call 32; (with_reducible refine (Wd.rmake_c 0 2 3 false H _ HH.out).mono ?_); rintro e w1 ⟨rfl, hb⟩; have HF1 := Lib.hid (Fr.of_below hb (fun _ => False)); clear hb)
    | (go_at_call 32; (with_reducible refine (Wd.rmake_c 1 1 4 false T _ HT.out).mono ?_); rintro e w2 ⟨rfl, hb⟩; have HB2 := Lib.hid hb; clear hb)
    | (go_at_call 46; (with_reducible refine (Wd.rof_c 4 0 4 _ P40.out).mono ?_); rintro e w3 ⟨rfl, n4, rfl⟩)
    | (go_at_call 46; (with_reducible refine (Wd.rof_c 5 0 5 _ P50.out).mono ?_); rintro e w3 ⟨rfl, n5, rfl⟩))
  have hr3 : Rd ((w2.drewN n5).alloc (.cells #[.int .u64 H, .int .u64 0, .int .u64 4, .int .u64 T, .int .u64 5] 29)) (.slice (some ⟨w2.heap.size, 0, none⟩) 5 5) (uw [H, 0, 4, T, 5]) := rd_blk (l := uw [H, 0, 4, T, 5]) (blk_drew w2 n5 _ _) (by simp [uw]) (by simp [uw])
  have hf3 : Fr w ((w2.drewN n5).alloc (.cells #[.int .u64 H, .int .u64 0, .int .u64 4, .int .u64 T, .int .u64 5] 29)) (fun _ => False) := ((HF1.out.drewN n4).trans ((Fr.of_below HB2.out _).drewN n5)).alloc _
  obtain ⟨W3, hW3⟩ : ∃ W3, (w2.drewN n5).alloc (.cells #[.int .u64 H, .int .u64 0, .int .u64 4, .int .u64 T, .int .u64 5] 29) = W3 := ⟨_, rfl⟩
  obtain ⟨g, hg⟩ : ∃ g, w2.heap.size = g := ⟨_, rfl⟩
  rw [hW3] at hr3 hf3 ⊢
  rw [hg] at hr3 ⊢
  have HR3 := Lib.hid hr3
  have HF3 := Lib.hid hf3
  clear hr3 hf3 hW3 hg
  go_upto_region 6 with (first
    | (go_at_call 31; (with_reducible refine (fill_c _ [H, 0, 4, T, 5] 0 _ HR3.out K5.out Z0.out L5.out).mono ?_); rintro e w4 ⟨p, v4, rfl, hn⟩; have HA4 := Lib.hid hn.1; have HF4 := Lib.hid (HF3.out.trans hn.2.1); clear hn)
    | (go_at_call 46; (with_reducible refine (Wd.rof_c 5 3 53 _ P53.out).mono ?_); rintro e w3 ⟨rfl, n6, rfl⟩; have HR5 := Lib.hid (R53.out w4 n6); have HF5 := Lib.hid ((HF4.out.drewN n6).alloc (.cells #[.int .u64 53] 29)); have HA5 := Lib.hid (HA4.out.fr (((Fr.refl w4 (fun _ => False)).drewN n6).alloc (.cells #[.int .u64 53] 29))))
    | (go_at_call 49; (with_reducible refine (live_c p v4 _ [H, 0, 4, T, 5] [53] _ _ HA5.out HR5.out K53.out M5.out M53.out).mono ?_); rintro e w6 ⟨rr, u, hlv, rfl, hn⟩; obtain rfl := Lv.det hlv _ HL3.out; have HN6 := Lib.hid hn.1; have HF6 := Lib.hid (HF5.out.trans hn.2.1); have HA6 := Lib.hid (HA5.out.fr hn.2.1); clear hlv hn))
  have hx6 : Own w6 3 u (iw [0, 3]) := HN6.out
  have HX6 := Lib.hid hx6
  have HRI := Lib.hid (RI.out w6)
  have HF7 := Lib.hid (HF6.out.alloc (.cells #[.int .i64 0, .int .i64 3] 3))
  have HX7 := Lib.hid (hx6.keep ((Fr.refl w6 (fun _ => False)).alloc (.cells #[.int .i64 0, .int .i64 3] 3)) (fun _ _ h => h))
  have HA7 := Lib.hid (HA6.out.fr ((Fr.refl w6 (fun _ => False)).alloc (.cells #[.int .i64 0, .int .i64 3] 3)))
  have L2 : Hid (([0, 3] : List Int).length ≤ 1073741824) := Lib.hid (by simp only [List.length_cons, List.length_nil]; omega)
  clear hx6
  go_wp2_with (first
    | (go_at_call 34; (with_reducible refine (ints_c u _ [0, 3] [0, 3] _ HX7.out.rd HRI.out L2.out).mono ?_); rintro e w8 ⟨rfl, hd⟩; have HF8 := Lib.hid (HF7.out.trans (hd.fr (fun _ => False))); have HA8 := Lib.hid (HA7.out.fr (hd.fr (fun _ => False))); clear hd)
    | (go_at_call 46; (with_reducible refine (Wd.rof_c 5 0 5 _ P50.out).mono ?_); rintro e w9 ⟨rfl, n9, rfl⟩; have HR9 := Lib.hid (R05.out w8 n9); have HF9 := Lib.hid ((HF8.out.drewN n9).alloc (.cells #[.int .u64 5] 29)); have HA9 := Lib.hid (HA8.out.fr (((Fr.refl w8 (fun _ => False)).drewN n9).alloc (.cells #[.int .u64 5] 29))))
    | (go_at_call 50; (with_reducible refine (mwords_c p v4 _ [H, 0, 4, T, 5] [5] _ _ HA9.out HR9.out K1.out M5.out M1.out).mono ?_); rintro e w10 ⟨rr, hlv, rfl, hf⟩; obtain rfl := Lv.det hlv _ HL0.out; have hwz : wordsM [H, 0, 4, T, 5] (((some [true, false, false, false, false]).map seenList).getD []) = 3 := HW0.out; rw [hwz]; have HF10 := Lib.hid (HF9.out.trans hf); clear hlv hf hwz))
  go_ret
  exact ⟨by simp, HF10.out⟩
end Go.Proofs.Ytjiaaefpepdoeaa

/-
  CONTRACT: the awake of layer 14. Conditions: none.
-/
namespace Go.Proofs.Ytjiaaefpepdoeaa
open Go.RowKit Md
set_option linter.unusedVariables false
set_option maxRecDepth 100000 in
set_option maxHeartbeats 4000000 in
theorem awake14_c (w : World) : Calls Try.prog 57 #[] w fun e w' => e = .returned (.bool true) ∧ Fr w w' (fun _ => False) := by
  obtain ⟨H, T, hH, hT, okH, okT, hl3, hsb, him, hrt⟩ : ∃ H T, makeH ⟨0, 2, 3, false⟩ = H ∧ makeH ⟨1, 1, 2, false⟩ = T ∧ okW H ∧ okW T ∧ lvM [H, 0, 0, T, 16] 10 [false, false, false, false, false] [53] = some (some [false, false, false, true, false]) ∧
      soundB [H, 0, 0, T, 16] [53] = true ∧ imgs [H, 0, 0, T, 16] [3] [3] = [T, 16] ∧ mvW [H, 0, 0, T, 16] [3] 53 = 5 :=
    ⟨402653446, 268435606, by decide +kernel, by decide +kernel, by unfold okW; omega, by unfold okW; omega, by decide +kernel, by decide +kernel, by decide +kernel, by decide +kernel⟩
  have HH := Lib.hid hH
  have HT := Lib.hid hT
  have HL3 : Hid (Md.Lv [H, 0, 0, T, 16] (List.replicate ([H, 0, 0, T, 16] : List Int).length false) [53] (some [false, false, false, true, false])) := Lib.hid (lv_of _ _ _ _ hl3)
  have HSB := Lib.hid hsb
  have P50 : Hid (ofW 5 0 = 5) := Lib.hid (by decide +kernel)
  have P53 : Hid (ofW 5 3 = 53) := Lib.hid (by decide +kernel)
  have K5 : Hid (okWs [H, 0, 0, T, 16]) := Lib.hid (fun x hx => by simp at hx; rcases hx with rfl | rfl | rfl | rfl <;> first | assumption | (unfold okW; omega))
  have K53 : Hid (okWs [53]) := Lib.hid (fun x hx => by simp at hx; subst hx; unfold okW; omega)
  have Z0 : Hid ((0 : Int) ≤ 0) := Lib.hid (Int.le_refl 0)
  have L5 : Hid ((([H, 0, 0, T, 16] : List Int).length : Int) + 0 ≤ 1048576) := Lib.hid (by simp only [List.length_cons, List.length_nil]; omega)
  have M5 : Hid (([H, 0, 0, T, 16] : List Int).length ≤ 4000) := Lib.hid (by simp only [List.length_cons, List.length_nil]; omega)
  have M53 : Hid (([53] : List Int).length ≤ 4000) := Lib.hid (by simp only [List.length_cons, List.length_nil]; omega)
  have HM3 : Hid ([3] = seenList [false, false, false, true, false]) := Lib.hid (by decide +kernel)
  obtain ⟨L, hsn⟩ := snd_of hsb
  have hsc : Sc [H, 0, 0, T, 16] [53] L [3] := by
    have := Sc.of_reach hsn (s := [false, false, false, true, false]) HL3.out K5.out K53.out (by unfold St.small; simp only [List.length_cons, List.length_nil]; omega)
    rw [← HM3.out] at this
    exact this
  have HSC := Lib.hid hsc
  have HIM := Lib.hid him
  have HRT := Lib.hid hrt
  clear hH hT okH okT hl3 hsb him hrt hsn hsc
  go_enter Try.func57, Try.ntmps57
  go_upto_region 2 with (first
    | (go_at_call 32; (with_reducible refine (Wd.rmake_c 0 2 3 false H _ HH.out).mono ?_); rintro e w1 ⟨rfl, hb⟩; have HF1 := Lib.hid (Fr.of_below hb (fun _ => False)); clear hb)
    | (go_at_call 32; (with_reducible refine (Wd.rmake_c 1 1 2 false T _ HT.out).mono ?_); rintro e w2 ⟨rfl, hb⟩; have HB2 := Lib.hid hb; clear hb))
  have hr3 : Rd (w2.alloc (.cells #[.int .u64 H, .int .u64 0, .int .u64 0, .int .u64 T, .int .u64 16] 29)) (.slice (some ⟨w2.heap.size, 0, none⟩) 5 5) (uw [H, 0, 0, T, 16]) := rd_blk (l := uw [H, 0, 0, T, 16]) (blk_new w2 _ _) (by simp [uw]) (by simp [uw])
  have hf3 : Fr w (w2.alloc (.cells #[.int .u64 H, .int .u64 0, .int .u64 0, .int .u64 T, .int .u64 16] 29)) (fun _ => False) := (HF1.out.trans (Fr.of_below HB2.out _)).alloc _
  obtain ⟨W3, hW3⟩ : ∃ W3, w2.alloc (.cells #[.int .u64 H, .int .u64 0, .int .u64 0, .int .u64 T, .int .u64 16] 29) = W3 := ⟨_, rfl⟩
  obtain ⟨g, hg⟩ : ∃ g, w2.heap.size = g := ⟨_, rfl⟩
  rw [hW3] at hr3 hf3 ⊢
  rw [hg] at hr3 ⊢
  have HR3 := Lib.hid hr3
  have HF3 := Lib.hid hf3
  clear hr3 hf3 hW3 hg
  go_upto_region 6 with (first
    | (go_at_call 31; (with_reducible refine (fill_c _ [H, 0, 0, T, 16] 0 _ HR3.out K5.out Z0.out L5.out).mono ?_); rintro e w4 ⟨p, v4, rfl, hn⟩; have HA4 := Lib.hid hn.1; have HF4 := Lib.hid (HF3.out.trans hn.2.1); have HN4 : Hid (w.heap.size ≤ p ∧ ∀ k, InBlk v4 k → w.heap.size ≤ k) := Lib.hid ⟨Nat.le_trans HF3.out.size hn.2.2.1, fun k hk => Nat.le_trans HF3.out.size (hn.2.2.2 k hk)⟩; clear hn)
    | (go_at_call 46; (with_reducible refine (Wd.rof_c 5 3 53 _ P53.out).mono ?_); rintro e w3 ⟨rfl, n3, rfl⟩; have HA5 := Lib.hid (HA4.out.drewN n3); have HF5 := Lib.hid (HF4.out.drewN n3)))
  have hta := TA.built HA5.out K53.out (by decide)
  have hf6 := HF5.out.alloc (.cells #[.int .u64 53] 29)
  obtain ⟨W6, hW6⟩ : ∃ W6, (w4.drewN n3).alloc (.cells #[.int .u64 53] 29) = W6 := ⟨_, rfl⟩
  obtain ⟨g6, hg6⟩ : ∃ g6, w4.heap.size = g6 := ⟨_, rfl⟩
  have hta2 : TA 101 W6 p v4 [H, 0, 0, T, 16] (([H, 0, 0, T, 16] : List Int).length + 0) (.slice (some ⟨g6, 0, none⟩) 1 1) [53] := by rw [← hW6, ← hg6]; exact hta
  rw [hW6] at hf6 ⊢
  rw [hg6]
  have H6 := Lib.hid hta2
  have HG6 : Hid (w.heap.size ≤ g6) := Lib.hid (by rw [← hg6]; exact HF4.out.size)
  have HF6 := Lib.hid hf6
  clear hta hta2 hf6 hW6 hg6
  have HE2 : Hid ((imgs [H, 0, 0, T, 16] [3] [3]).length = 2) := Lib.hid (by rw [HIM.out]; rfl)
  go_upto_region 7 with (first
    | (go_at_call 58; (with_reducible refine (slide_c p v4 _ [H, 0, 0, T, 16] [53] L [3] [false, false, false, true, false] _ _ H6.out HM3.out HSC.out HSB.out HL3.out M5.out M53.out).mono ?_); rintro e w7 ⟨va7, gv, rfl, ht, hg, hf, hv, hgn⟩; obtain ⟨Ag, cg, hgv⟩ := hg.rd.len; generalize (iw (goneM [H, 0, 0, T, 16] [3] L)).length = ng at hgv; subst hgv; rw [HIM.out, List.map_cons, List.map_nil, HRT.out] at ht; have H7 := Lib.hid ht; have HF7 := Lib.hid hf; clear ht hg hf hv hgn; generalize cntM [H, 0, 0, T, 16] [3] [3] = cn; rw [HE2.out]))
  have r0 := TA.root (rs := [5]) (g := g6) (cap := 1) H7.out 0 (by decide)
  have r0b : w7.cell? ⟨g6, 0, none⟩ = some (.int .u64 5) := r0
  obtain ⟨W8, hW8⟩ : ∃ W8, w7.alloc (.cells #[.int .i64 2, .slice Ag ng cg, .int .i64 cn] 93) = W8 := ⟨_, rfl⟩
  obtain ⟨D, hD⟩ : ∃ D, w7.heap.size = D := ⟨_, rfl⟩
  have hf8 : Fr w7 W8 (fun _ => False) := by rw [← hW8]; exact (Fr.refl _ _).alloc _
  have hdb : W8.heap[D]? = some (.cells #[.int .i64 2, .slice Ag ng cg, .int .i64 cn] 93 (0, 0)) := by rw [← hW8, ← hD]; exact blk_new _ _ _
  have d0 : W8.cell? ⟨D, 0, none⟩ = some (.int .i64 2) := by simp [World.cell?, hdb]
  have r0c := hf8.cell r0b (fun h => h)
  have HF8 := Lib.hid hf8
  have H8 := Lib.hid (H7.out.fr hf8)
  simp only [hW8, hD]
  clear hW8 hD hf8 hdb r0 r0b
  refine wp_region_cls (S := fun w' => Fr W8 w' (fun _ => False)) (by kernel_rfl) (by kernel_rfl) ((Fr.refl W8 _).drew) (fun ne => ?_)
  generalize hS : (fun w' : World => Fr W8 w' (fun _ => False)) = S
  replace ne : Nonempty (Cw S) := by subst hS; exact ne
  have f0 : ∀ x : Cw S, x.val.cell? ⟨D, 0, none⟩ = some (.int .i64 2) := by subst hS; exact fun x => x.prop.cell d0 (fun h => h)
  have f1 : ∀ x : Cw S, x.val.cell? ⟨g6, 0, none⟩ = some (.int .u64 5) := by subst hS; exact fun x => x.prop.cell r0c (fun h => h)
  have HX : Hid (∀ w', S w' → Fr W8 w' (fun _ => False)) := Lib.hid (by subst hS; exact fun w' h => h)
  have HK2 : Hid (∀ w1 w2 : World, S w1 → (∃ n, w2 = w1.drewN n) → S w2) := Lib.hid (by subst hS; exact fun w1 w2 h hb => by obtain ⟨n, rfl⟩ := hb; exact h.drewN n)
  have HK3 : Hid (∀ w1 w2 : World, S w1 → w1 = w2 → S w2) := Lib.hid (fun w1 w2 h e => e ▸ h)
  have HUZ : Hid (∀ x : Cw S, Calls Try.prog 27 #[.pointer (some ⟨p, 0, none⟩)] x.val fun e w' => e = .returned (.int .i64 2) ∧ x.val = w') := Lib.hid (fun x => used_c p va7 [T, 16] _ _ (H8.out.ar.fr (HX.out _ x.prop)))
  clear hS
  repeat (any_goals (first | go_big_quiet_step ((first | (go_at_call 46; exact Cw.call (Wd.rof_c 5 0 5 _ P50.out) (fun w' h => HK2.out _ _ (Cw.prop _) h.out)) | (go_at_call 27; exact Cw.call (HUZ.out _) (fun w' h => HK3.out _ _ (Cw.prop _) h)))) | quiet_step ((first | (go_at_call 46; exact Cw.call (Wd.rof_c 5 0 5 _ P50.out) (fun w' h => HK2.out _ _ (Cw.prop _) h.out)) | (go_at_call 27; exact Cw.call (HUZ.out _) (fun w' h => HK3.out _ _ (Cw.prop _) h))))))
  refine wpQuiet_nil ?_
  intro w11 hw11
  obtain ⟨⟨w11, hS11⟩, rfl⟩ := hw11
  have h11 := HX.out _ hS11
  go_wp2
  go_ret
  refine ⟨by first | rfl | (simp; done), ?_⟩
  refine (HF6.out.then_ HF7.out (fun i hi hlt => ?_)).trans (HF8.out.trans h11)
  rcases hi with hi | hi | hi
  · have := HN4.out.1; omega
  · have := HN4.out.2 i hi; omega
  · simp [InBlk, Value.ownBlock] at hi; have := HG6.out; omega
end Go.Proofs.Ytjiaaefpepdoeaa

/-
  CONTRACT: slide.Map where one object is reached, and this one's place is told. Conditions: those named.
-/
namespace Go.Proofs.Ytjiaaefpepdoeaa
open Go.RowKit Md Go.Maps
set_option linter.unusedVariables false
theorem lawInt : Keyed Try.prog 3 := int_keyed Try.underlying3
theorem zeroInt (w : World) : (zeroValue 3).run Try.prog w = .ok (.int .i64 0) w := by kernel_rfl
/-- the map that tells one place -/
def mp1 (k v : Int) : DataW Unit := .map [(.int .i64 k, .lit (.int .i64 v))]
theorem mp1_put (k v : Int) : (DataW.map [] : DataW Unit).put (.int .i64 k) (.lit (.int .i64 v)) = mp1 k v := rfl
set_option maxRecDepth 100000 in
set_option maxHeartbeats 4000000 in
theorem map_one (p : Nat) (va xv : Value) (l rs : List Int) (a : Nat) (s : List Bool) (kd z t : Int) (nn : Bool) (size : Int) (w : World) (h : TA 101 w p va l size xv rs) (hb : soundB l rs = true) (hl : l.length ≤ 4000) (hlr : rs.length ≤ 4000)
    (hR : Md.Reach l rs s) (hs : seenList s = [(a : Int)]) (ho : objAt l a = some ⟨kd, z, t, nn⟩) (ha : a < 4000) :
    Calls Try.prog 59 #[.pointer (some ⟨p, 0, none⟩), xv] w fun e w' => ∃ b, e = .returned (.tuple #[.map (some b), .bool true]) ∧ w'.ownsMap Try.prog 3 (plainElem Try.prog 3) b 1 (mp1 a 0) ∧ w.heap.size ≤ b ∧ Fr w w' (fun _ => False) := by
  have hz := obj_facts ho
  have HZ : Hid (0 ≤ z ∧ z < 1048576) := Lib.hid ⟨hz.2.2.2.1, hz.2.2.2.2.1⟩
  have H := Lib.hid h
  have HB := Lib.hid hb
  have HLR : Hid (rs.length ≤ 1048576) := Lib.hid (by omega)
  have HL := Lib.hid hl
  have HLR4 := Lib.hid hlr
  have HRE := Lib.hid hR
  have HS := Lib.hid hs
  have HO := Lib.hid ho
  have qa : (a : Int) < 4000 := by omega
  have hmm := @run_makeMap Try.prog
  clear h hb hl hlr hR hs ho hz ha
  go_enter Try.func59, Try.ntmps59
  go_upto_region 5 with (first
    | (go_at_call 56; (with_reducible refine (msnd_c p va _ l rs size _ H.out.ar H.out.own.rd H.out.okr HLR.out).mono ?_); rintro e w2 ⟨rfl, hf⟩; rw [HB.out]; have HF2 := Lib.hid hf; clear hf)
    | (go_at_call 49; (with_reducible refine (live_c p va _ l rs size _ (H.out.ar.fr HF2.out) (H.out.own.rd.keep HF2.out (fun _ _ h => h)) H.out.okr HL.out HLR4.out).mono ?_); rintro e w3 ⟨r, lv, hlv, rfl, hn⟩; obtain rfl := Lv.det hlv _ HRE.out; have HLV3 : Hid (Own w3 3 lv (iw [(a : Int)])) := Lib.hid (by have := hn.1; rw [← HS.out]; exact this); have HF3 := Lib.hid (HF2.out.trans hn.2.1); clear hlv hn))
  have hom : (w3.alloc (.map #[] 0)).ownsMap Try.prog 3 (plainElem (H := Unit) Try.prog 3) w3.heap.size 0 (.map []) := World.ownsMap_made _ _ _ _
  obtain ⟨W3, hW3⟩ : ∃ W3, w3.alloc (.map #[] 0) = W3 := ⟨_, rfl⟩
  obtain ⟨B, hB⟩ : ∃ B, w3.heap.size = B := ⟨_, rfl⟩
  have hf3 : Fr w3 W3 (fun _ => False) := by rw [← hW3]; exact (Fr.refl _ _).alloc _
  rw [hW3, hB] at hom
  simp only [hW3, hB]
  have HOM := Lib.hid hom
  have HBW : Hid (w.heap.size ≤ B ∧ w3.heap.size ≤ B) := Lib.hid ⟨by rw [← hB]; exact HF3.out.size, by omega⟩
  have HLV4 := Lib.hid (HLV3.out.keep hf3 (fun _ _ h => h))
  have HF4 := Lib.hid (HF3.out.trans hf3)
  have HLB : Hid (∀ i, InBlk lv i → i < B) := Lib.hid (by rw [← hB]; exact HLV3.out.lt)
  obtain ⟨Al, cl, rfl⟩ : ∃ A c, lv = .slice A 1 c := by
    obtain ⟨A, c, e⟩ := HLV3.out.rd.len
    exact ⟨A, c, e⟩
  clear hom hW3 hB hf3 HF3 HLV3 hmm
  go_wp2
  go_loopg [9, 27] 1 (fun g a9 a27 wr => ∃ i : Nat, a27 = .int .i64 i ∧ g + i = 1 ∧ ((i = 0 ∧ a9 = .int .i64 0 ∧ Hid (Fr w wr (fun _ => False) ∧ Own wr 3 (.slice Al 1 cl) (iw [(a : Int)]) ∧ wr.ownsMap Try.prog 3 (plainElem (H := Unit) Try.prog 3) B 0 (.map []))) ∨
    (i = 1 ∧ Hid (Fr w wr (fun _ => False) ∧ wr.ownsMap Try.prog 3 (plainElem (H := Unit) Try.prog 3) B 1 (mp1 a 0)))))
  case atStart => exact ⟨0, rfl, rfl, .inl ⟨rfl, rfl, Lib.hid ⟨HF4.out, HLV4.out, HOM.out⟩⟩⟩
  case round =>
    clear HLV4 HOM HF4
    obtain ⟨i, rfl, hgi, hrel⟩ := hrel
    have HGI := Lib.hid hgi
    clear hgi
    rcases hrel with ⟨rfl, rfl, HI⟩ | ⟨rfl, HI⟩
    · obtain ⟨gl, rfl, _, hcl⟩ := HI.out.2.1.cellAt (by simp [iw])
      have cl0 : wr.cell? ⟨gl, 0, none⟩ = some (.int .i64 a) := (hcl 0 (by simp [iw])).1
      have HA := Lib.hid (H.out.ar.fr HI.out.1)
      clear hcl
      go_upto_region 9 with (first
        | (go_at_call 62; (with_reducible refine (obj_some p va l size a _ _ HA.out HO.out).mono ?_); rintro e wo ⟨rfl, hfo⟩))
      obtain ⟨W2, hW2⟩ : ∃ W2, wo.alloc (.cells #[.int .i64 kd, .int .i64 z, .int .i64 t, .bool nn] 104) = W2 := ⟨_, rfl⟩
      obtain ⟨D, hD⟩ : ∃ D, wo.heap.size = D := ⟨_, rfl⟩
      have hf2 : Fr wr W2 (fun _ => False) := by rw [← hW2]; exact hfo.alloc _
      have hdb : W2.heap[D]? = some (.cells #[.int .i64 kd, .int .i64 z, .int .i64 t, .bool nn] 104 (0, 0)) := by rw [← hW2, ← hD]; exact blk_new _ _ _
      have hown : W2.ownsMap Try.prog 3 (plainElem (H := Unit) Try.prog 3) B 0 (.map []) := by
        obtain ⟨es, clock, hb, r⟩ := HI.out.2.2
        exact ⟨es, clock, hf2.blk hb (fun h => h), r⟩
      have hBD : B ≠ D := by
        rintro rfl
        obtain ⟨es, clock, hb, r⟩ := hown
        rw [hdb] at hb
        cases hb
      have HDB := Lib.hid hdb
      have HBD := Lib.hid hBD
      have HF2 := Lib.hid (HI.out.1.trans hf2)
      simp only [hW2, hD]
      clear hW2 hD hfo hf2 hdb hBD HI
      go_upto_region 10 with (first
        | (at_mapUpdate; refine wpList_mapUpdate_own _ rfl _ _ _ 97 rfl 3 3 lawInt Try.underlying97 _ B 0 _ rfl hown (by decide) _ _ _ rfl rfl (keyOf_int_mk Try.underlying3 (WalkArith.wf_i64 (by omega))) _ [] (plainElem_int Try.underlying3 (WalkArith.wf_i64 (by omega))) ?_; intro w1 hown1 hgrow1))
      have hf1 : Fr w w1 (fun _ => False) := HF2.out.grown hgrow1 (fun k hk hlt => by injection hk with hk; have := HBW.out; omega)
      have hdb1 : w1.heap[D]? = some (.cells #[.int .i64 kd, .int .i64 z, .int .i64 t, .bool nn] 104 (0, 0)) := (hgrow1.block D (Array.getElem?_eq_some_iff.1 HDB.out).1 (fun e => by injection e with e; exact HBD.out e.symm)).trans HDB.out
      have e1 : w1.cell? ⟨D, 1, none⟩ = some (.int .i64 z) := by simp [World.cell?, hdb1]
      have HF1 := Lib.hid hf1
      have HO1 := Lib.hid hown1
      clear hf1 hdb1 hgrow1 hown1 hown
      go_wp2
      go_roundg 0
      case measure => have := HGI.out; omega
      case rel => exact ⟨1, by first | rfl | go_num, rfl, .inr ⟨rfl, Lib.hid ⟨HF1.out, by have := HO1.out; exact this⟩⟩⟩
    · go_wp2
      go_ret2
      exact ⟨B, rfl, HI.out.2, HBW.out.1, HI.out.1⟩
end Go.Proofs.Ytjiaaefpepdoeaa

/-
  WALK: SlideKnown. Conditions: none.
-/
namespace Go.Proofs.Ytjiaaefpepdoeaa
open Go.RowKit Md Go.Maps
set_option linter.unusedVariables false
theorem TA.one {T : TypeId} {W : World} {p : Nat} {v : Value} {ws : List Int} {x size : Int} (h : Ar T W p v ws size) (hx : okW x) (g : Nat) (hg : W.heap.size = g) :
    TA T (W.alloc (.cells #[.int .u64 x] 29)) p v ws size (.slice (some ⟨g, 0, none⟩) 1 1) [x] := by
  subst hg
  exact TA.built (rs := [x]) h (fun y hy => by simp at hy; subst hy; exact hx) (by simp)
theorem ownsMap_fr {H : Type} {P : Program} {k : TypeId} {R : Value → Option (DataW H × List MemPlace)} {w w1 : World} {b n : Nat} {D : DataW H} {S : Nat → Prop} (h : w.ownsMap P k R b n D) (hf : Fr w w1 S) (hn : ¬ S b) : w1.ownsMap P k R b n D := by
  obtain ⟨es, clock, hb, r⟩ := h
  exact ⟨es, clock, hf.blk hb hn, r⟩
/-- what the law's map says -/
theorem mp_len {w : World} {b : Nat} (h : w.ownsMap Try.prog 3 (plainElem (H := Unit) Try.prog 3) b 1 (mp1 4 0)) (ty : TypeId) :
    (Builtin.len_ #[97] ty #[.map (some b)]).run Try.prog w = .ok (.int .i64 1) w := h.len Try.underlying97 ty
set_option maxRecDepth 10000 in
theorem mp_look {w : World} {b : Nat} (h : w.ownsMap Try.prog 3 (plainElem (H := Unit) Try.prog 3) b 1 (mp1 4 0)) :
    (Instr.lookup 97 (.map (some b)) (.int .i64 4) false).run Try.prog w = .ok (.int .i64 0) w := by
  obtain ⟨c, hrun, hat, _⟩ := h.lookup_int lawInt Try.underlying97 Try.underlying3 (zeroInt _) (keyOf_int_mk Try.underlying3 (WalkArith.wf_i64 (show -9223372036854775808 ≤ (4 : Int) ∧ (4 : Int) ≤ 9223372036854775807 by decide)))
  have e : (mp1 4 0).atKey (.int .i64 4) (.lit (.int .i64 0)) = .lit (.int .i64 0) := rfl
  rw [e] at hat
  injection hat with h1
  injection h1 with _ h1
  rw [hrun, ← h1]
set_option maxRecDepth 100000 in
set_option maxHeartbeats 4000000 in
theorem known14_c (w : World) : Calls Try.prog 15 #[] w fun e w' => e = .returned (.bool true) ∧ Fr w w' (fun _ => False) := by
  obtain ⟨B, T, hB, hT, okB, okT, hl3, hsb, him, hob, hgo, hcn, hno, hat, hmv⟩ : ∃ B T, makeH ⟨3, 3, 1, false⟩ = B ∧ makeH ⟨1, 0, 1, false⟩ = T ∧ okW B ∧ okW T ∧ lvM [B, 7, 0, 1, T] 10 [false, false, false, false, false] [69] = some (some [false, false, false, false, true]) ∧
      soundB [B, 7, 0, 1, T] [69] = true ∧ imgs [B, 7, 0, 1, T] [4] [4] = [T] ∧ objs [B, 7, 0, 1, T] = some [0, 4] ∧ goneM [B, 7, 0, 1, T] [4] [0, 4] = [7] ∧ cntM [B, 7, 0, 1, T] [4] [4] = 1 ∧ soundB [T] [69] = false ∧ objAt [B, 7, 0, 1, T] 4 = some ⟨1, 0, 1, false⟩ ∧ ([69] : List Int).map (mvW [B, 7, 0, 1, T] [4]) = [5] :=
    ⟨134218166, 134217750, by decide +kernel, by decide +kernel, by unfold okW; omega, by unfold okW; omega, by decide +kernel, by decide +kernel, by decide +kernel, by decide +kernel, by decide +kernel, by decide +kernel, by decide +kernel, by decide +kernel, by decide +kernel⟩
  have HH := Lib.hid hB
  have HT := Lib.hid hT
  have hl4 : Md.Reach [B, 7, 0, 1, T] [69] [false, false, false, false, true] := lv_of _ _ _ _ hl3
  have HSB := Lib.hid hsb
  have HR := Lib.hid hl4
  have HSL : Hid (seenList [false, false, false, false, true] = [((4 : Nat) : Int)]) := Lib.hid (by decide +kernel)
  have P69 : Hid (ofW 5 4 = 69) := Lib.hid (by decide +kernel)
  have O69 : Hid (okW 69) := Lib.hid (by unfold okW; omega)
  have K5 : Hid (okWs [B, 7, 0, 1, T]) := Lib.hid (fun x hx => by simp at hx; rcases hx with rfl | rfl | rfl | rfl | rfl <;> first | assumption | (unfold okW; omega))
  have Z0 : Hid ((0 : Int) ≤ 0) := Lib.hid (Int.le_refl 0)
  have L5 : Hid ((([B, 7, 0, 1, T] : List Int).length : Int) + 0 ≤ 1048576) := Lib.hid (by simp only [List.length_cons, List.length_nil]; omega)
  have M5 : Hid (([B, 7, 0, 1, T] : List Int).length ≤ 4000) := Lib.hid (by simp only [List.length_cons, List.length_nil]; omega)
  have M69 : Hid (([69] : List Int).length ≤ 4000) := Lib.hid (by simp only [List.length_cons, List.length_nil]; omega)
  have M69b : Hid (([69] : List Int).length ≤ 1048576) := Lib.hid (by simp only [List.length_cons, List.length_nil]; omega)
  have K69 : Hid (okWs [69]) := Lib.hid (fun x hx => by simp at hx; subst hx; unfold okW; omega)
  have HAT : Hid (objAt [B, 7, 0, 1, T] ((4 : Nat) : Int) = some ⟨1, 0, 1, false⟩) := Lib.hid hat
  have HNO := Lib.hid hno
  have hSL : ∀ (p : Nat) (va xv : Value) (size : Int) (w : World), TA 101 w p va [B, 7, 0, 1, T] size xv [69] → Calls Try.prog 58 #[.pointer (some ⟨p, 0, none⟩), xv] w fun e w' => ∃ va' gv, e = .returned (.tuple #[.agg #[.int .i64 1, gv, .int .i64 1], .bool true]) ∧ TA 101 w' p va' [T] size xv [5] ∧ Own w' 3 gv (iw [7]) ∧ Fr w w' (fun i => i = p ∨ UO va xv i) ∧ (∀ k, InBlk va' k → InBlk va k) ∧ ∀ k, InBlk gv k → w.heap.size ≤ k := by
    obtain ⟨L, S⟩ := snd_of hsb
    have e := S.objs
    rw [hob] at e
    injection e with e
    subst e
    intro p va xv size w h
    have := slide_yes p va xv _ _ _ _ _ w h S hl4 M5.out M69.out
    rw [HSL.out] at this
    have e4 : ((4 : Nat) : Int) = 4 := rfl
    rw [e4, him, hgo, hcn, hmv] at this
    exact this
  have HSLD := Lib.hid hSL
  clear hB hT okB okT hl3 hsb him hob hgo hcn hno hat hmv hl4 hSL
  go_enter Try.func15, Try.ntmps15
  go_upto_region 4 with (first
    | (go_at_call 57; (with_reducible refine (awake14_c _).mono ?_); rintro e w0 ⟨rfl, hf⟩; have HF0 := Lib.hid hf; clear hf)
    | (go_at_call 32; (with_reducible refine (Wd.rmake_c 3 3 1 false B _ HH.out).mono ?_); rintro e w1 ⟨rfl, hb⟩; have HF1 := Lib.hid (HF0.out.trans (Fr.of_below hb (fun _ => False))); clear hb)
    | (go_at_call 32; (with_reducible refine (Wd.rmake_c 1 0 1 false T _ HT.out).mono ?_); rintro e w2 ⟨rfl, hb⟩; have HB2 := Lib.hid hb; clear hb))
  have hr3 : Rd (w2.alloc (.cells #[.int .u64 B, .int .u64 7, .int .u64 0, .int .u64 1, .int .u64 T] 29)) (.slice (some ⟨w2.heap.size, 0, none⟩) 5 5) (uw [B, 7, 0, 1, T]) := rd_blk (l := uw [B, 7, 0, 1, T]) (blk_new w2 _ _) (by simp [uw]) (by simp [uw])
  have hf3 : Fr w (w2.alloc (.cells #[.int .u64 B, .int .u64 7, .int .u64 0, .int .u64 1, .int .u64 T] 29)) (fun _ => False) := (HF1.out.trans (Fr.of_below HB2.out _)).alloc _
  obtain ⟨W3, hW3⟩ : ∃ W3, w2.alloc (.cells #[.int .u64 B, .int .u64 7, .int .u64 0, .int .u64 1, .int .u64 T] 29) = W3 := ⟨_, rfl⟩
  obtain ⟨g, hg⟩ : ∃ g, w2.heap.size = g := ⟨_, rfl⟩
  rw [hW3] at hr3 hf3 ⊢
  rw [hg] at hr3 ⊢
  have HR3 := Lib.hid hr3
  have HF3 := Lib.hid hf3
  have tok1 : True := trivial
  have tok2 : True := trivial
  clear hr3 hf3 hW3 hg
  go_upto_region 6 with (first
    | (go_at_call 31; (with_reducible refine (fill_c _ [B, 7, 0, 1, T] 0 _ HR3.out K5.out Z0.out L5.out).mono ?_); rintro e w4 ⟨p, v4, rfl, hn⟩; have HA4 := Lib.hid hn.1; have HF4 := Lib.hid (HF3.out.trans hn.2.1); have HN4 : Hid (w.heap.size ≤ p ∧ ∀ k, InBlk v4 k → w.heap.size ≤ k) := Lib.hid ⟨Nat.le_trans HF3.out.size hn.2.2.1, fun k hk => Nat.le_trans HF3.out.size (hn.2.2.2 k hk)⟩; clear hn)
    | (go_at_call 46; (with_reducible refine (Wd.rof_c 5 4 69 _ P69.out).mono ?_); rintro e w5 ⟨rfl, n5, rfl⟩; have HA5 := Lib.hid (HA4.out.drewN n5); have HF5 := Lib.hid (HF4.out.drewN n5); have HFA : Hid (Fr w4 (w4.drewN n5) (fun _ => False)) := Lib.hid ((Fr.refl _ _).drewN n5))
    | (go_at_call 59; (with_reducible refine (map_one p v4 _ [B, 7, 0, 1, T] [69] 4 [false, false, false, false, true] 1 0 1 false _ _ (TA.one HA5.out O69.out w4.heap.size rfl) HSB.out M5.out M69.out HR.out HSL.out HAT.out (by decide)).mono ?_); rintro e w6 ⟨b, rfl, hom, hbn, hf⟩; have HOM6 := Lib.hid hom; have HA6 := Lib.hid (HA5.out.fr (((Fr.refl _ (fun _ => False)).alloc (.cells #[.int .u64 69] 29)).trans hf)); have HF6 := Lib.hid ((HF5.out.alloc (.cells #[.int .u64 69] 29)).trans hf); have HF46 := Lib.hid ((HFA.out.alloc (.cells #[.int .u64 69] 29)).trans hf); have HBN : Hid (w4.heap.size ≤ b) := Lib.hid (Nat.le_trans ((HFA.out.alloc (.cells #[.int .u64 69] 29)).size) hbn); clear hom hbn hf))
  have HP4 : Hid (p < w4.heap.size ∧ ∀ i, InBlk v4 i → i < w4.heap.size) := Lib.hid ⟨HA4.out.lt, HA4.out.own.lt⟩
  have HS46 : Hid (w4.heap.size ≤ w6.heap.size) := Lib.hid HF46.out.size
  clear HA4 HA5 HF4 HF5 HFA HF46 tok1 tok2
  go_upto_region 7 with (first
    | (go_at_call 46; (with_reducible refine (Wd.rof_c 5 4 69 _ P69.out).mono ?_); rintro e w7 ⟨rfl, n7, rfl⟩; have HA7 := Lib.hid (HA6.out.drewN n7))
    | (go_at_call 58; (with_reducible refine (HSLD.out p v4 _ _ _ (TA.one HA7.out O69.out w6.heap.size rfl)).mono ?_); rintro e w8 ⟨va8, gv, rfl, ht, hg, hf, hv, hgn⟩; obtain ⟨Ag, cg, hgv⟩ := hg.rd.len; rw [show (iw [7]).length = 1 from rfl] at hgv; subst hgv; have HT8 := Lib.hid ht; have HG8 := Lib.hid hg; have HF68 : Hid (Fr w6 w8 (fun i => i = p ∨ UO v4 (.slice (some ⟨w6.heap.size, 0, none⟩) 1 1) i)) := Lib.hid ((((Fr.refl w6 (fun _ => False)).drewN n7).alloc (.cells #[.int .u64 69] 29)).mono (fun _ h _ => h.elim) |>.trans hf); clear ht hg hf hv hgn))
  obtain ⟨W8, hW8⟩ : ∃ W8, w8.alloc (.cells #[.int .i64 1, .slice Ag 1 cg, .int .i64 1] 93) = W8 := ⟨_, rfl⟩
  obtain ⟨D1, hD1⟩ : ∃ D, w8.heap.size = D := ⟨_, rfl⟩
  have hf8 : Fr w8 W8 (fun _ => False) := by rw [← hW8]; exact (Fr.refl _ _).alloc _
  have hdb : W8.heap[D1]? = some (.cells #[.int .i64 1, .slice Ag 1 cg, .int .i64 1] 93 (0, 0)) := by rw [← hW8, ← hD1]; exact blk_new _ _ _
  have HDB8 := Lib.hid hdb
  have HA8 := Lib.hid (HT8.out.ar.fr hf8)
  have HGX8 := Lib.hid (HG8.out.keep hf8 (fun _ _ h => h))
  have HFX8 : Hid (Fr w6 W8 (fun i => i = p ∨ UO v4 (.slice (some ⟨w6.heap.size, 0, none⟩) 1 1) i)) := Lib.hid (HF68.out.then_ hf8 (fun _ h _ => h.elim))
  have HOM8 := Lib.hid (ownsMap_fr HOM6.out HFX8.out (fun e => by
    have h1 := HBN.out
    have h2 := HP4.out
    have h3 := HOM6.out.lt
    rcases e with e | e | e
    · omega
    · have := h2.2 _ e; omega
    · simp [InBlk, Value.ownBlock] at e; omega))
  have HFW8 : Hid (Fr w W8 (fun _ => False)) := Lib.hid (HF6.out.then_ HFX8.out (fun i hi hlt => by
    have h1 := HN4.out
    have h2 := HF6.out.size
    rcases hi with e | e | e
    · omega
    · have := h1.2 _ e; omega
    · simp [InBlk, Value.ownBlock] at e; omega))
  simp only [hW8, hD1]
  clear hW8 hD1 hf8 hdb HT8 HG8 HF68 HA6 HOM6 HFX8
  go_upto_region 8 with (first
    | (go_at_call 46; (with_reducible refine (Wd.rof_c 5 4 69 _ P69.out).mono ?_); rintro e w9 ⟨rfl, n9, rfl⟩; have HA9 := Lib.hid (HA8.out.drewN n9))
    | (go_at_call 58; (with_reducible refine (slide_no p va8 _ [T] [69] _ _ (TA.one HA9.out O69.out W8.heap.size rfl).ar (TA.one HA9.out O69.out W8.heap.size rfl).own.rd K69.out M69b.out HNO.out).mono ?_); rintro e w10 ⟨rfl, hf⟩; have HF810 : Hid (Fr W8 w10 (fun _ => False)) := Lib.hid ((((Fr.refl W8 (fun _ => False)).drewN n9).alloc (.cells #[.int .u64 69] 29)).trans hf); clear hf))
  obtain ⟨W10, hW10⟩ : ∃ W10, w10.alloc (.cells #[.int .i64 0, .slice none 0 0, .int .i64 0] 93) = W10 := ⟨_, rfl⟩
  have hf10 : Fr W8 W10 (fun _ => False) := by rw [← hW10]; exact HF810.out.alloc _
  have HG10 := Lib.hid (HGX8.out.keep hf10 (fun _ _ h => h))
  have hlen := mp_len (ownsMap_fr HOM8.out hf10 (fun h => h))
  have hlook := mp_look (ownsMap_fr HOM8.out hf10 (fun h => h))
  have hdb := hf10.blk HDB8.out (fun h => h)
  have d0 : W10.cell? ⟨D1, 0, none⟩ = some (.int .i64 1) := by simp [World.cell?, hdb]
  have d1 : W10.cell? ⟨D1, 1, none⟩ = some (.slice Ag 1 cg) := by simp [World.cell?, hdb]
  have d2 : W10.cell? ⟨D1, 2, none⟩ = some (.int .i64 1) := by simp [World.cell?, hdb]
  have HF10 := Lib.hid (HFW8.out.trans hf10)
  have HR7 : Hid (Rd (W10.alloc (.cells #[.int .i64 7] 3)) (.slice (some ⟨W10.heap.size, 0, none⟩) 1 1) (iw [7])) := Lib.hid (rd_blk (l := iw [7]) (blk_new W10 _ _) (by simp [iw]) (by simp [iw]))
  have HG11 := Lib.hid (HG10.out.keep ((Fr.refl W10 (fun _ => False)).alloc (.cells #[.int .i64 7] 3)) (fun _ _ h => h))
  have HL7 : Hid (([7] : List Int).length ≤ 1073741824) := Lib.hid (by simp)
  simp only [hW10]
  clear hW10 hf10 hdb
  go_wp2_with (first
    | (go_at_call 34; (with_reducible refine (ints_c _ _ [7] [7] _ HG11.out.rd HR7.out HL7.out).mono ?_); rintro e w12 ⟨rfl, hd⟩; rw [decide_eq_true (rfl : ([7] : List Int) = [7])]; have HF12 := Lib.hid ((HF10.out.alloc (.cells #[.int .i64 7] 3)).trans (hd.fr (fun _ => False))); clear hd))
  go_ret
  exact ⟨rfl, HF12.out⟩
end Go.Proofs.Ytjiaaefpepdoeaa
