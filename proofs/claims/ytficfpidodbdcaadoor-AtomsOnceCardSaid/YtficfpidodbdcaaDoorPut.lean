/-
  CONTRACT: the table's Put. Conditions: fewer than 1000 names; Go's two tables of unicode/utf8 stand as laid.
-/
import Derived.Test.YtficfpidodbdcaaDoorTb
import Derived.Deep.RegionLaw
import Derived.Lib.AppendZeros
import Derived.BigRegion
import Derived.WalkSpells
namespace Go.Proofs.YtficfpidodbdcaaDoor
open Go.RowKit Md Go.Maps Go.ChangeMaps Go.MapKept Go.WideElems
set_option linter.unusedVariables false
/-- An append whose run is known, at a step of a region that draws its order. -/
theorem step_append_run {P : Program} (w : World) {ops : Array Oper} {o : Oper} {a : Act} {K : Act → World → Prop} {Q : Exit → Act → World → Prop} {E : Prop} (hgd : o.guard = none) (s x : Operand) (t tn : TypeId)
    (ho : o.op = .call { callee := .builtin .append, args := #[s, x], argTypes := #[t, tn] }) (vs vx : Value) (hs : a.eval s = vs) (hx : a.eval x = vx)
    (v' : Value) (w' : World) (hr : (Builtin.append_ #[t, tn] o.type #[vs, vx]).run P w = .ok v' w') (h : K (a.put o.dst v') w') :
    if Region.wanted o (yielded ops a.tmps) = true then Oper.wp P o a w K Q else E := by
  have hw : Region.wanted o (yielded ops a.tmps) = true := by simp [Region.wanted, hgd]
  rw [if_pos hw]
  exact Lib.wp_append_run w s x t tn ho vs vx hs hx v' w' hr h
/-- one name more behind a row of names of the call's own -/
theorem names_push {W : World} {v : Value} {ns : List ByteArray} (s : ByteArray) (h : Own W 9 v (sw ns)) (hl : ns.length ≤ 1000) :
    ∃ v' w1, (Builtin.append_ #[32, 32] 32 #[v, .slice (some ⟨W.heap.size, 0, none⟩) 1 1]).run Tryd.prog (W.alloc (.cells #[.string s] 9)) = .ok v' w1 ∧ Own w1 9 v' (sw (ns ++ [s])) ∧ Fr W w1 (fun i => InBlk v i) ∧ ∀ k, InBlk v' k → InBlk v k ∨ W.heap.size ≤ k := by
  obtain ⟨i0, hi, hz0, hz1, hzb⟩ := info_parts strInfo
  have hf0 : Fr W (W.alloc (.cells #[.string s] 9)) (fun _ => False) := (Fr.refl W _).alloc _
  have hb := blk_new W #[.string s] 9
  have hrd : Rd (W.alloc (.cells #[.string s] 9)) (.slice (some ⟨W.heap.size, 0, none⟩) 1 1) [.string s] := by
    refine .inr ⟨W.heap.size, 0, 1, rfl, by simp, by simp, by unfold maxLen; omega, by simp, fun i hi => ?_⟩
    have : i = 0 := by simp at hi; omega
    subst this
    have e1 : (W.alloc (.cells #[.string s] 9)).cell? ⟨W.heap.size, 0 + 0, none⟩ = (#[Value.string s] : Array Value)[0]? := cell_of_row _ _ 0 _ _ (0, 0) hb
    exact e1
  obtain ⟨v', w1, hr, ho, hg, hn⟩ := run_append_rd (P := Tryd.prog) (W.alloc (.cells #[.string s] 9)) 32 32 9 i0 (.string ByteArray.empty) Tryd.underlying32 hi hz0 hz1 (by omega) rfl v (.slice (some ⟨W.heap.size, 0, none⟩) 1 1) (sw ns) [.string s] (h.keep hf0 (fun _ _ h => h)) hrd (by simp [Value.oneCell']) (by rw [sw_length]; simp; omega)
  refine ⟨v', w1, hr, ?_, (hf0.mono (fun _ h _ => h.elim)).grown hg (fun k hk _ => hk), fun k hk => ?_⟩
  · have e : sw (ns ++ [s]) = sw ns ++ [.string s] := by simp [sw]
    rw [e]; exact ho
  · rcases hn k hk with h1 | h1
    · exact .inl h1
    · exact .inr (Nat.le_trans (Nat.le_succ _) (by simpa using h1))
/-- the table when a new name is put: what append and the map's entry do -/
theorem put_steps {W : World} {p b : Nat} {v : Value} {ns : List ByteArray} (s : ByteArray) (h : Tb W p v b ns) (hs : s.size ≤ maxLen) (hv : vld s = true) (hf : fnd ns s = none) (hl : ns.length < 1000) :
    ∃ v' w1 st W4 W5 v0, (Builtin.append_ #[32, 32] 32 #[v, .slice (some ⟨W.heap.size, 0, none⟩) 1 1]).run Tryd.prog (W.alloc (.cells #[.string s] 9)) = .ok v' w1 ∧
      w1.cell? ⟨p, 0, none⟩ = some v ∧ w1.cell? ⟨p, 1, none⟩ = some (.map (some b)) ∧ w1.frozen? ⟨p, 0, none⟩ = false ∧
      (Instr.mapEntry 44 (.map (some b)) (.string s)).run Tryd.prog (w1.setCell ⟨p, 0, none⟩ v') = .ok (.tuple #[v0, .int .i64 (st : Int)]) W4 ∧
      (Instr.entryStore 44 (.map (some b)) (.int .i64 (st : Int)) (.int .i64 (ns.length : Int))).run Tryd.prog W4 = .ok () W5 ∧
      Tb W5 p v' b (ns ++ [s]) ∧ Fr W W5 (fun i => i = p ∨ i = b ∨ InBlk v i) ∧ ∀ k, InBlk v' k → InBlk v k ∨ W.heap.size ≤ k := by
  obtain ⟨v', w1, hr, ho, hf1, hn⟩ := names_push s h.own h.len
  obtain ⟨D, hm, hD⟩ := h.mp
  have hpv : ¬ InBlk v p := fun e => by
    obtain ⟨cur, hc⟩ := h.own.elem p e
    rw [h.blk] at hc; simp at hc
  have hpb : p ≠ b := by
    rintro rfl
    obtain ⟨es, clock, hb, _⟩ := hm
    rw [h.blk] at hb; cases hb
  have hbv : ¬ InBlk v b := fun e => by
    obtain ⟨cur, hc⟩ := h.own.elem b e
    obtain ⟨es, clock, hb, _⟩ := hm
    rw [hb] at hc; cases hc
  have hb1 : w1.heap[p]? = some (.cells #[v, .map (some b)] 46 (0, 0)) := hf1.blk h.blk hpv
  have hm1 := ownsMap_fr hm hf1 hbv
  have hpv' : ∀ k, InBlk v' k → k ≠ p := fun k hk e => by
    obtain ⟨cur, hc⟩ := ho.elem k hk
    rw [e, hb1] at hc; simp at hc
  have hf2 : Fr w1 (w1.setCell ⟨p, 0, none⟩ v') (fun i => i = p) := Fr.setCell (S := fun i => i = p) (a := ⟨p, 0, none⟩) (Fr.refl w1 _) (fun _ => rfl) _
  have hm2 := ownsMap_fr hm1 hf2 (fun e => hpb e.symm)
  have ho2 := ho.keep hf2 hpv'
  obtain ⟨es, clock, hbk, F, hes, hDe⟩ := hm2
  obtain ⟨v0, st, es1, clock1, hE, _, hS⟩ := WideElems.entry_then_store (WideMaps.string_law Tryd.underlying9) Tryd.underlying44 (fun u => zeroInt u) hbk F (WideMaps.keyOf_string_mk Tryd.underlying9 hs)
  obtain ⟨es', clock', hE2, hU⟩ := hS (setBlock (w1.setCell ⟨p, 0, none⟩ v') b (.map es1 clock1)) (.int .i64 (ns.length : Int)) (heap_setBlock_same hbk _)
  have hwf : (Lit.int .i64 (ns.length : Int)).wf = true := WalkArith.wf_i64 (by omega)
  obtain ⟨w', hU2, hown, hgr⟩ := World.ownsMap.update (D := D) (n := ns.length) ⟨es, clock, hbk, F, hes, hDe⟩ lawStr Tryd.underlying44 (by unfold maxLen; omega) (WideMaps.keyOf_string_mk Tryd.underlying9 hs) (plainElem_int Tryd.underlying3 hwf)
  rw [hU] at hU2
  injection hU2 with _ hw'
  have e5 : setBlock (setBlock (w1.setCell ⟨p, 0, none⟩ v') b (.map es1 clock1)) b (.map es' clock') = w' := by
    rw [← hw']
    simp [setBlock]
  have hf3 : Fr (w1.setCell ⟨p, 0, none⟩ v') w' (fun i => i = b) := (Fr.refl _ _).grown hgr (fun k hk _ => by injection hk with hk; exact hk.symm)
  have hb2 : (w1.setCell ⟨p, 0, none⟩ v').heap[p]? = some (.cells #[v', .map (some b)] 46 (0, 0)) := by
    simp [World.setCell, Array.getElem?_modify, hb1]
  refine ⟨v', w1, st, _, w', v0, hr, by simp [World.cell?, hb1], by simp [World.cell?, hb1], by simp [World.frozen?, hb1], hE, by rw [← e5]; exact hE2, ?_, ?_, hn⟩
  · refine ⟨hf3.blk hb2 hpb, ho2.keep hf3 (fun k hk e => ?_), ⟨_, ?_, hD.put hf⟩, ?_, fun t ht => ?_, by rw [List.length_append]; simp; omega⟩
    · obtain ⟨cur, hc⟩ := ho2.elem k hk
      rw [e, hbk] at hc; cases hc
    · rw [List.length_append]; exact hown
    · exact List.nodup_append.2 ⟨h.nd, by simp, fun a ha c hc => by simp at hc; subst hc; intro e; exact fnd_none hf (e ▸ ha)⟩
    · rcases List.mem_append.1 ht with ht | ht
      · exact h.sz t ht
      · simp only [List.mem_singleton] at ht; subst ht; exact ⟨hs, hv⟩
  · exact (hf1.mono (fun i hi _ => .inr (.inr hi))).trans ((hf2.mono (fun i hi _ => .inl hi)).trans (hf3.mono (fun i hi _ => .inr (.inl hi))))
/-- the answer of Put -/
def PutA (w w' : World) (p b : Nat) (v : Value) (q : Put) (e : Ending) : Prop :=
  e = .returned (.tuple #[.int .i64 q.n, .int .i64 q.e]) ∧ ∃ v', Tb w' p v' b q.l ∧ Fr w w' (fun i => i = p ∨ i = b ∨ InBlk v i) ∧ ∀ k, InBlk v' k → InBlk v k ∨ w.heap.size ≤ k
set_option maxRecDepth 100000 in
set_option maxHeartbeats 4000000 in
theorem put_c (p b : Nat) (v : Value) (ns : List ByteArray) (s : ByteArray) (w : World) (h : Tb w p v b ns) (hs : s.size ≤ 1000000) (hT : Tabs w) (hl : ns.length < 1000) :
    Calls Tryd.prog 8 #[.pointer (some ⟨p, 0, none⟩), .string s] w fun e w' => PutA w w' p b v (putM ns s) e := by
  have H := Lib.hid h
  have HS : Hid (s.size ≤ maxLen) := Lib.hid (by unfold maxLen; omega)
  have HS2 : Hid (s.size < 9223372036854775807) := Lib.hid (by omega)
  have HT := Lib.hid hT
  have same : ∀ (w1 : World) (q : Put), Fr w w1 (fun _ => False) → q.l = ns → PutA w w1 p b v q (.returned (.tuple #[.int .i64 q.n, .int .i64 q.e])) := fun w1 q hf hq =>
    ⟨rfl, v, by rw [hq]; exact H.out.fr hf, hf.mono (fun _ h _ => h.elim), fun k hk => .inl hk⟩
  have HSM := Lib.hid same
  cases hv : vld s with
  | false =>
    have hc : cntZ s = -1 := by unfold cntZ; rw [if_neg (by rw [hv]; decide)]
    have hq : putM ns s = ⟨0, 4, ns⟩ := by unfold putM; rw [if_pos hv]
    rw [hq]
    have HC := Lib.hid hc
    obtain ⟨r, hr⟩ : ∃ r, fnd ns s = r := ⟨_, rfl⟩
    have HR := Lib.hid hr
    clear h hs hT hl same hv hc hq hr
    go_enter Tryd.func8, Tryd.ntmps8
    go_wp2_with (first
      | (go_at_call 15; (with_reducible refine (count_c s (-1) _ HS2.out HT.out HC.out).mono ?_); rintro e w1 ⟨rfl, hf⟩; have HF := Lib.hid hf; clear hf)
      | (go_at_call 10; (with_reducible refine (find_c p v b ns s r _ (H.out.fr HF.out) HS.out HR.out).mono ?_); rintro e w2 ⟨rfl, rfl⟩))
    go_ret2
    exact HSM.out _ ⟨0, 4, ns⟩ HF.out rfl
  | true =>
    have hc : cntZ s = (cnt s : Int) := by unfold cntZ; rw [if_pos hv]
    have HC := Lib.hid hc
    have qc : (0 : Int) ≤ (cnt s : Int) := by omega
    obtain ⟨c, hcc⟩ : ∃ c : Nat, cnt s = c := ⟨_, rfl⟩
    rw [hcc] at HC qc
    have hn0 : decide ((c : Int) < 0) = false := decide_eq_false (by omega)
    by_cases h255 : 255 < c
    · have hq : putM ns s = ⟨0, 3, ns⟩ := by unfold putM; rw [if_neg (by rw [hv]; decide), if_pos (by rw [hcc]; exact h255)]
      rw [hq]
      obtain ⟨r, hr⟩ : ∃ r, fnd ns s = r := ⟨_, rfl⟩
      have HR := Lib.hid hr
      have d1 : decide ((255 : Int) < c) = true := decide_eq_true (by omega)
      clear h hs hT hl same hv hc hq hr hcc h255
      go_enter Tryd.func8, Tryd.ntmps8
      go_wp2_with (first
        | (go_at_call 15; (with_reducible refine (count_c s (c : Int) _ HS2.out HT.out HC.out).mono ?_); rintro e w1 ⟨rfl, hf⟩; have HF := Lib.hid hf; clear hf)
        | (go_at_call 10; (with_reducible refine (find_c p v b ns s r _ (H.out.fr HF.out) HS.out HR.out).mono ?_); rintro e w2 ⟨rfl, rfl⟩))
      go_ret2
      exact HSM.out _ ⟨0, 3, ns⟩ HF.out rfl
    · have d1 : decide ((255 : Int) < c) = false := decide_eq_false (by omega)
      cases hr : fnd ns s with
      | some i =>
        have hq : putM ns s = ⟨i, 0, ns⟩ := by unfold putM; rw [if_neg (by rw [hv]; decide), if_neg (by rw [hcc]; exact h255), hr]
        rw [hq]
        have HR := Lib.hid hr
        have HRI : Hid ((((some i : Option Nat).getD 0 : Nat) : Int) = i) := Lib.hid rfl
        clear h hs hT hl same hv hc hq hr hcc h255
        go_enter Tryd.func8, Tryd.ntmps8
        go_wp2_with (first
          | (go_at_call 15; (with_reducible refine (count_c s (c : Int) _ HS2.out HT.out HC.out).mono ?_); rintro e w1 ⟨rfl, hf⟩; have HF := Lib.hid hf; clear hf)
          | (go_at_call 10; (with_reducible refine (find_c p v b ns s (some i) _ (H.out.fr HF.out) HS.out HR.out).mono ?_); rintro e w2 ⟨rfl, rfl⟩))
        go_ret2
        exact HSM.out _ ⟨i, 0, ns⟩ HF.out rfl
      | none =>
        have hq : putM ns s = ⟨ns.length, 0, ns ++ [s]⟩ := by unfold putM; rw [if_neg (by rw [hv]; decide), if_neg (by rw [hcc]; exact h255), hr]
        rw [hq]
        have HR := Lib.hid hr
        have HV := Lib.hid hv
        have HL := Lib.hid hl
        have d2 : decide ((1048576 : Int) ≤ ns.length) = false := decide_eq_false (by omega)
        have d2' : decide (1048576 ≤ ns.length) = false := decide_eq_false (by omega)
        clear h hs hT hl same hv hc hq hr hcc h255
        go_enter Tryd.func8, Tryd.ntmps8
        go_upto_region 11 with (first
          | (go_at_call 15; (with_reducible refine (count_c s (c : Int) _ HS2.out HT.out HC.out).mono ?_); rintro e w1 ⟨rfl, hf⟩; have HF := Lib.hid hf; have H1 := Lib.hid (H.out.fr hf); clear hf)
          | (go_at_call 10; (with_reducible refine (find_c p v b ns s none _ H1.out HS.out HR.out).mono ?_); rintro e w2 ⟨rfl, rfl⟩))
        obtain ⟨v', w2, st, W4, W5, v0, hr, k0, k1, kf, hE, hE2, htb, hfr, hnw⟩ := put_steps (W := w1.drew) s (H1.out.fr ((Fr.refl w1 (fun _ => False)).drew)) HS.out HV.out HR.out HL.out
        have HTB := Lib.hid htb
        have HFR := Lib.hid hfr
        have HNW := Lib.hid hnw
        have HRUN := Lib.hid hr
        have c0 := H1.out.c0
        have c1 := H1.out.c1
        obtain ⟨A, cp, rfl⟩ : ∃ A cp, v = .slice A ns.length cp := by
          obtain ⟨A, cp, e⟩ := H1.out.own.rd.len
          rw [sw_length] at e
          exact ⟨A, cp, e⟩
        obtain ⟨A', cp', rfl⟩ : ∃ A' cp', v' = .slice A' (ns.length + 1) cp' := by
          obtain ⟨A', cp', e⟩ := htb.own.rd.len
          rw [sw_length, List.length_append] at e
          exact ⟨A', cp', e⟩
        clear htb hfr hnw hr
        have hem : (binOp .eql 44 (.map (some b)) (.map none)).run Tryd.prog w1 = .ok (.bool false) w1 := run_eql_map_nil w1 _ _ _ _ Tryd.underlying44
        go_upto_region 16 with (fail)
        have hr := HRUN.out
        have a0 : (w1.alloc (.cells #[.string s] 9)).cell? ⟨p, 0, none⟩ = some (.slice A ns.length cp) := ((Fr.refl w1 (fun _ => False)).alloc _).cell c0 (fun h => h)
        have a1 : (w1.alloc (.cells #[.string s] 9)).cell? ⟨p, 1, none⟩ = some (.map (some b)) := ((Fr.refl w1 (fun _ => False)).alloc _).cell c1 (fun h => h)
        go_region_law (first
          | (refine step_append_run _ (by rfl) _ _ _ _ (by rfl) _ _ (by rfl) (by rfl) _ _ hr ?_))
        all_goals
          clear hr a0 a1 hem
          go_wp2
          go_ret2
          exact ⟨rfl, _, HTB.out, (HF.out.drew.mono (fun _ h _ => h.elim)).trans HFR.out, fun k hk => (HNW.out k hk).imp id (fun h => Nat.le_trans HF.out.size h)⟩
end Go.Proofs.YtficfpidodbdcaaDoor
