/-
  CONTRACTS: the reference's names: Find, Put. Conditions: fewer than 1000 names; Go's two tables of unicode/utf8 stand as laid.
-/
import Derived.Test.YtficfpidodbdcaaDoorPut
import Derived.OwnWalk
namespace Go.Proofs.YtficfpidodbdcaaDoor
open Go.RowKit Md Go.Maps
set_option linter.unusedVariables false
structure Nb (w : World) (q : Nat) (v : Value) (ns : List ByteArray) : Prop where
  blk : w.heap[q]? = some (.cells #[v] 35 (0, 0))
  own : Own w 9 v (sw ns)
  len : ns.length ≤ 1000
section
variable {w w1 : World} {q : Nat} {v : Value} {ns : List ByteArray} {S : Nat → Prop}
theorem Nb.keep (h : Nb w q v ns) (hf : Fr w w1 S) (hp : ¬ S q) (hv : ∀ i, InBlk v i → ¬ S i) : Nb w1 q v ns := ⟨hf.blk h.blk hp, h.own.keep hf hv, h.len⟩
theorem Nb.fr (h : Nb w q v ns) (hf : Fr w w1 (fun _ => False)) : Nb w1 q v ns := h.keep hf (fun h => h) (fun _ _ h => h)
theorem Nb.c0 (h : Nb w q v ns) : w.cell? ⟨q, 0, none⟩ = some v := by simp [World.cell?, h.blk]
theorem Nb.fz (h : Nb w q v ns) (i : Nat) : w.frozen? ⟨q, i, none⟩ = false := by simp [World.frozen?, h.blk]
theorem Nb.lt (h : Nb w q v ns) : q < w.heap.size := (Array.getElem?_eq_some_iff.1 h.blk).1
end
theorem str_inj {s t : ByteArray} (h : s.toList = t.toList) : s = t := by
  have e : ∀ b : ByteArray, b.toList = b.data.toList := fun b => ByteArray.toList_eq b
  rw [e, e] at h
  exact bytes_inj h
theorem fnd_first : ∀ {l : List ByteArray} {s : ByteArray} {k : Nat}, l[k]? = some s → (∀ j, j < k → l[j]? ≠ some s) → fnd l s = some k
  | [], s, k, h, _ => by simp at h
  | a :: l, s, 0, h, _ => by simp at h; subst h; simp [fnd]
  | a :: l, s, k + 1, h, hn => by
    unfold fnd
    have h0 := hn 0 (by omega)
    rw [if_neg (fun e => h0 (by simp [e])), fnd_first (by simpa using h) (fun j hj => by have := hn (j + 1) (by omega); simpa using this)]
    rfl
theorem fnd_nowhere {l : List ByteArray} {s : ByteArray} (h : ∀ j, j < l.length → l[j]? ≠ some s) : fnd l s = none := fnd_of_not (fun hm => by
  obtain ⟨j, hj, e⟩ := List.getElem_of_mem hm
  exact h j hj (by rw [List.getElem?_eq_getElem hj, e]))
set_option maxRecDepth 100000 in
set_option maxHeartbeats 4000000 in
theorem mfind_c (q : Nat) (v : Value) (ns : List ByteArray) (s : ByteArray) (r : Option Nat) (w : World) (h : Nb w q v ns) (hr : fnd ns s = r) :
    Calls Tryd.prog 13 #[.pointer (some ⟨q, 0, none⟩), .string s] w fun e w' => e = .returned (.tuple #[.int .i64 ((r.getD 0 : Nat) : Int), .bool r.isSome]) ∧ w = w' := by
  have c0 := h.c0
  have H := Lib.hid h
  have HR := Lib.hid hr
  have q1 : (ns.length : Int) ≤ 1000 := by have := h.len; omega
  obtain ⟨A, cp, rfl⟩ : ∃ A cp, v = .slice A ns.length cp := by
    obtain ⟨A, cp, e⟩ := h.own.rd.len
    rw [sw_length] at e
    exact ⟨A, cp, e⟩
  clear h hr
  go_enter Tryd.func13, Tryd.ntmps13
  go_wp2
  go_loopg [6] ns.length (fun g a6 wr => wr = w ∧ ∃ k : Nat, a6 = .int .i64 k ∧ g + k = ns.length ∧ Hid (∀ j, j < k → ns[j]? ≠ some s))
  case atStart => exact ⟨rfl, 0, rfl, rfl, Lib.hid (fun j hj => by omega)⟩
  case round =>
    obtain ⟨rfl, k, rfl, hgk, HI⟩ := hrel
    have HG := Lib.hid hgk
    clear hgk
    by_cases hk : k < ns.length
    · have HKL := Lib.hid hk
      have qk : (k : Int) < ns.length := by omega
      obtain ⟨t, ht⟩ : ∃ t, ns[k]? = some t := ⟨_, List.getElem?_eq_getElem hk⟩
      rcases H.out.own.form with ⟨_, h0⟩ | ⟨g, cap, e, hl, hm, hg, hc, hf⟩
      · have : (sw ns).length = 0 := by rw [h0]; rfl
        rw [sw_length] at this; omega
      · injection e with e1 e2 e3
        subst e1
        have ck := hc k (by rw [sw_length]; exact hk)
        rw [sw_get ht] at ck
        have HT := Lib.hid ht
        clear hl hm hc hf hk ht e2 e3
        by_cases e : t = s
        · subst e
          have hrk : r = some k := by rw [← HR.out]; exact fnd_first HT.out HI.out
          have HRK := Lib.hid hrk
          clear hrk
          go_wp2
          go_ret2
          rw [HRK.out]
          exact ⟨rfl, rfl⟩
        · have e1 : (t.toList == s.toList) = false := by simpa using fun h => e (str_inj h)
          have HE := Lib.hid e
          clear e
          go_wp2
          go_roundg (gk - 1)
          case measure => have := HG.out; have := HKL.out; omega
          case rel => exact ⟨rfl, k + 1, by first | rfl | go_num, by have := HG.out; have := HKL.out; omega, Lib.hid (fun j hj => by
            by_cases hjk : j < k
            · exact HI.out j hjk
            · have : j = k := by omega
              subst this
              rw [HT.out]
              intro h
              injection h with h
              exact HE.out h)⟩
    · have hrn : r = none := by rw [← HR.out]; exact fnd_nowhere (fun j hj => HI.out j (by have := HG.out; omega))
      have HRN := Lib.hid hrn
      have b2 : decide (k < ns.length) = false := decide_eq_false hk
      clear hrn hk
      go_wp2
      go_ret2
      rw [HRN.out]
      exact ⟨rfl, rfl⟩
/-- the answer of Put -/
def MPutA (w w' : World) (q : Nat) (v : Value) (z : Put) (e : Ending) : Prop :=
  e = .returned (.tuple #[.int .i64 z.n, .int .i64 z.e]) ∧ ∃ v', Nb w' q v' z.l ∧ Fr w w' (fun i => i = q ∨ InBlk v i) ∧ ∀ k, InBlk v' k → InBlk v k ∨ w.heap.size ≤ k
theorem mput_steps {W : World} {q : Nat} {v : Value} {ns : List ByteArray} (s : ByteArray) (h : Nb W q v ns) (hl : ns.length < 1000) :
    ∃ v' w1, (Builtin.append_ #[32, 32] 32 #[v, .slice (some ⟨W.heap.size, 0, none⟩) 1 1]).run Tryd.prog (W.alloc (.cells #[.string s] 9)) = .ok v' w1 ∧
      w1.cell? ⟨q, 0, none⟩ = some v ∧ w1.frozen? ⟨q, 0, none⟩ = false ∧ Nb (w1.setCell ⟨q, 0, none⟩ v') q v' (ns ++ [s]) ∧ Fr W (w1.setCell ⟨q, 0, none⟩ v') (fun i => i = q ∨ InBlk v i) ∧ ∀ k, InBlk v' k → InBlk v k ∨ W.heap.size ≤ k := by
  obtain ⟨v', w1, hr, ho, hf1, hn⟩ := names_push s h.own h.len
  have hpv : ¬ InBlk v q := fun e => by
    obtain ⟨cur, hc⟩ := h.own.elem q e
    rw [h.blk] at hc; simp at hc
  have hb1 : w1.heap[q]? = some (.cells #[v] 35 (0, 0)) := hf1.blk h.blk hpv
  have hpv' : ∀ k, InBlk v' k → k ≠ q := fun k hk e => by
    obtain ⟨cur, hc⟩ := ho.elem k hk
    rw [e, hb1] at hc; simp at hc
  have hf2 : Fr w1 (w1.setCell ⟨q, 0, none⟩ v') (fun i => i = q) := Fr.setCell (S := fun i => i = q) (a := ⟨q, 0, none⟩) (Fr.refl w1 _) (fun _ => rfl) _
  have hb2 : (w1.setCell ⟨q, 0, none⟩ v').heap[q]? = some (.cells #[v'] 35 (0, 0)) := by
    simp [World.setCell, Array.getElem?_modify, hb1]
  exact ⟨v', w1, hr, by simp [World.cell?, hb1], by simp [World.frozen?, hb1], ⟨hb2, ho.keep hf2 hpv', by rw [List.length_append]; simp; omega⟩, (hf1.mono (fun i hi _ => .inr hi)).trans (hf2.mono (fun i hi _ => .inl hi)), hn⟩
set_option maxRecDepth 100000 in
set_option maxHeartbeats 4000000 in
theorem mput_c (q : Nat) (v : Value) (ns : List ByteArray) (s : ByteArray) (w : World) (h : Nb w q v ns) (hs : s.size ≤ 1000000) (hT : Tabs w) (hl : ns.length < 1000) :
    Calls Tryd.prog 11 #[.pointer (some ⟨q, 0, none⟩), .string s] w fun e w' => MPutA w w' q v (putM ns s) e := by
  have H := Lib.hid h
  have HS : Hid (s.size ≤ 9223372036854775807) := Lib.hid (by omega)
  have HS2 : Hid (s.size < 9223372036854775807) := Lib.hid (by omega)
  have HT := Lib.hid hT
  have same : ∀ (w1 : World) (z : Put), Fr w w1 (fun _ => False) → z.l = ns → MPutA w w1 q v z (.returned (.tuple #[.int .i64 z.n, .int .i64 z.e])) := fun w1 z hf hq =>
    ⟨rfl, v, by rw [hq]; exact H.out.fr hf, hf.mono (fun _ h _ => h.elim), fun k hk => .inl hk⟩
  have HSM := Lib.hid same
  have HTB : Hid (∀ w1 : World, Fr w w1 (fun _ => False) → Tabs w1) := Lib.hid (fun w1 hf => HT.out.below hf.below)
  cases hv : vld s with
  | false =>
    have hq : putM ns s = ⟨0, 4, ns⟩ := by unfold putM; rw [if_pos hv]
    rw [hq]
    have HV := Lib.hid hv
    clear h hs hT hl same hv hq
    go_enter Tryd.func11, Tryd.ntmps11
    go_wp2_with (first
      | (go_at_call 14; (with_reducible refine (valid_c s false _ HS.out HT.out HV.out).mono ?_); rintro e w1 ⟨rfl, hf⟩; have HF := Lib.hid hf; clear hf))
    go_ret2
    exact HSM.out _ ⟨0, 4, ns⟩ HF.out rfl
  | true =>
    have hc : cntZ s = (cnt s : Int) := by unfold cntZ; rw [if_pos hv]
    have HC := Lib.hid hc
    have HV := Lib.hid hv
    obtain ⟨c, hcc⟩ : ∃ c : Nat, cnt s = c := ⟨_, rfl⟩
    rw [hcc] at HC
    by_cases h255 : 255 < c
    · have hq : putM ns s = ⟨0, 3, ns⟩ := by unfold putM; rw [if_neg (by rw [hv]; decide), if_pos (by rw [hcc]; exact h255)]
      rw [hq]
      have d1 : decide ((255 : Int) < c) = true := decide_eq_true (by omega)
      clear h hs hT hl same hv hc hq hcc h255
      go_enter Tryd.func11, Tryd.ntmps11
      go_wp2_with (first
        | (go_at_call 14; (with_reducible refine (valid_c s true _ HS.out HT.out HV.out).mono ?_); rintro e w1 ⟨rfl, hf⟩; have HF := Lib.hid hf; clear hf)
        | (go_at_call 16; (with_reducible refine (mcount_c s (c : Int) _ HS2.out (HTB.out _ HF.out) HC.out).mono ?_); rintro e w2 ⟨rfl, hf⟩; have HF2 := Lib.hid (HF.out.trans hf); clear hf))
      go_ret2
      exact HSM.out _ ⟨0, 3, ns⟩ HF2.out rfl
    · have d1 : decide ((255 : Int) < c) = false := decide_eq_false (by omega)
      cases hr : fnd ns s with
      | some i =>
        have hq : putM ns s = ⟨i, 0, ns⟩ := by unfold putM; rw [if_neg (by rw [hv]; decide), if_neg (by rw [hcc]; exact h255), hr]
        rw [hq]
        have HR := Lib.hid hr
        clear h hs hT hl same hv hc hq hr hcc h255
        go_enter Tryd.func11, Tryd.ntmps11
        go_wp2_with (first
          | (go_at_call 14; (with_reducible refine (valid_c s true _ HS.out HT.out HV.out).mono ?_); rintro e w1 ⟨rfl, hf⟩; have HF := Lib.hid hf; clear hf)
          | (go_at_call 16; (with_reducible refine (mcount_c s (c : Int) _ HS2.out (HTB.out _ HF.out) HC.out).mono ?_); rintro e w2 ⟨rfl, hf⟩; have HF2 := Lib.hid (HF.out.trans hf); clear hf)
          | (go_at_call 13; (with_reducible refine (mfind_c q v ns s (some i) _ (H.out.fr HF2.out) HR.out).mono ?_); rintro e w3 ⟨rfl, rfl⟩))
        go_ret2
        exact HSM.out _ ⟨i, 0, ns⟩ HF2.out rfl
      | none =>
        have hq : putM ns s = ⟨ns.length, 0, ns ++ [s]⟩ := by unfold putM; rw [if_neg (by rw [hv]; decide), if_neg (by rw [hcc]; exact h255), hr]
        rw [hq]
        have HR := Lib.hid hr
        have HL := Lib.hid hl
        have d2 : decide ((1048576 : Int) ≤ ns.length) = false := decide_eq_false (by omega)
        have d2' : decide (1048576 ≤ ns.length) = false := decide_eq_false (by omega)
        have q1 : (ns.length : Int) ≤ 1000 := by omega
        clear h hs hT hl same hv hc hq hr hcc h255
        go_enter Tryd.func11, Tryd.ntmps11
        go_upto_region 8 with (first
          | (go_at_call 14; (with_reducible refine (valid_c s true _ HS.out HT.out HV.out).mono ?_); rintro e w1 ⟨rfl, hf⟩; have HF := Lib.hid hf; clear hf)
          | (go_at_call 16; (with_reducible refine (mcount_c s (c : Int) _ HS2.out (HTB.out _ HF.out) HC.out).mono ?_); rintro e w2 ⟨rfl, hf⟩; have HF2 := Lib.hid (HF.out.trans hf); have H2 := Lib.hid (H.out.fr (HF.out.trans hf)); clear hf)
          | (go_at_call 13; (with_reducible refine (mfind_c q v ns s none _ H2.out HR.out).mono ?_); rintro e w3 ⟨rfl, rfl⟩))
        obtain ⟨v', w4, hr, k0, kf, hnb, hfr, hnw⟩ := mput_steps s H2.out HL.out
        have HNB := Lib.hid hnb
        have HFR := Lib.hid hfr
        have HNW := Lib.hid hnw
        have HRUN := Lib.hid hr
        have c0 := H2.out.c0
        obtain ⟨A, cp, rfl⟩ : ∃ A cp, v = .slice A ns.length cp := by
          obtain ⟨A, cp, e⟩ := H2.out.own.rd.len
          rw [sw_length] at e
          exact ⟨A, cp, e⟩
        obtain ⟨A', cp', rfl⟩ : ∃ A' cp', v' = .slice A' (ns.length + 1) cp' := by
          obtain ⟨A', cp', e⟩ := hnb.own.rd.len
          rw [sw_length, List.length_append] at e
          exact ⟨A', cp', e⟩
        clear hnb hfr hnw hr
        go_wp2_with (at_builtin; refine Lib.wpList_append_run _ rfl _ _ _ _ rfl _ _ rfl rfl _ w4 HRUN.out ?_)
        go_ret2
        refine ⟨by simp, _, HNB.out, (HF2.out.mono (fun _ h _ => h.elim)).trans HFR.out, fun k hk => (HNW.out k hk).imp id (fun h => Nat.le_trans HF2.out.size h)⟩
end Go.Proofs.YtficfpidodbdcaaDoor
