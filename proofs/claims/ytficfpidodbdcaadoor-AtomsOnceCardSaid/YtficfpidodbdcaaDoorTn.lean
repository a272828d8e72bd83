/-
  A TABLE, AND THE REFERENCE's NAMES BESIDE IT, in a call's own memory; the first sentence of layer 4 (awake). Conditions: Go's two tables of unicode/utf8 stand as laid.
-/
import Derived.Test.YtficfpidodbdcaaDoorNm
namespace Go.Proofs.YtficfpidodbdcaaDoor
open Go.RowKit Md Go.Maps
set_option linter.unusedVariables false
structure TbN (w0 w : World) (p : Nat) (v : Value) (b : Nat) (ns : List ByteArray) : Prop where
  t : Tb w p v b ns
  fr : Fr w0 w (fun _ => False)
  np : w0.heap.size ≤ p
  nb : w0.heap.size ≤ b
  nv : ∀ i, InBlk v i → w0.heap.size ≤ i
structure TN (w0 w : World) (p : Nat) (v : Value) (b q : Nat) (u : Value) (ns ms : List ByteArray) : Prop where
  tb : TbN w0 w p v b ns
  n : Nb w q u ms
  nq : w0.heap.size ≤ q
  nu : ∀ i, InBlk u i → w0.heap.size ≤ i
  ap : ∀ i, InBlk v i → ¬ InBlk u i
section
variable {w0 w w1 : World} {p b q : Nat} {v v' u u' : Value} {ns ms l : List ByteArray}
theorem TbN.frm (h : TbN w0 w p v b ns) (hf : Fr w w1 (fun _ => False)) : TbN w0 w1 p v b ns := ⟨h.t.fr hf, h.fr.trans hf, h.np, h.nb, h.nv⟩
theorem TbN.tabs (h : TbN w0 w p v b ns) (hT : Tabs w0) : Tabs w := hT.below h.fr.below
theorem TbN.step (h : TbN w0 w p v b ns) (ht : Tb w1 p v' b l) (hf : Fr w w1 (fun i => i = p ∨ i = b ∨ InBlk v i)) (hn : ∀ k, InBlk v' k → InBlk v k ∨ w.heap.size ≤ k) : TbN w0 w1 p v' b l :=
  ⟨ht, h.fr.then_ hf (fun i hi hlt => by
    rcases hi with e | e | e
    · have := h.np; omega
    · have := h.nb; omega
    · have := h.nv i e; omega), h.np, h.nb, fun i hi => by
    rcases hn i hi with e | e
    · exact h.nv i e
    · exact Nat.le_trans h.fr.size e⟩
theorem TN.frm (h : TN w0 w p v b q u ns ms) (hf : Fr w w1 (fun _ => False)) : TN w0 w1 p v b q u ns ms := ⟨h.tb.frm hf, h.n.fr hf, h.nq, h.nu, h.ap⟩
theorem TN.put (h : TN w0 w p v b q u ns ms) (ht : Tb w1 p v' b l) (hf : Fr w w1 (fun i => i = p ∨ i = b ∨ InBlk v i)) (hn : ∀ k, InBlk v' k → InBlk v k ∨ w.heap.size ≤ k) : TN w0 w1 p v' b q u l ms := by
  obtain ⟨D, hm, _⟩ := h.tb.t.mp
  obtain ⟨es, clock, hb, _⟩ := hm
  have hp := h.tb.t.blk
  have hq := h.n.blk
  refine ⟨h.tb.step ht hf hn, h.n.keep hf (fun e => ?_) (fun i hi e => ?_), h.nq, h.nu, fun i hi hu => ?_⟩
  · rcases e with e | e | e
    · rw [e, hp] at hq; simp at hq
    · rw [e, hb] at hq; cases hq
    · obtain ⟨cur, hc⟩ := h.tb.t.own.elem q e
      rw [hq] at hc; simp at hc
  · obtain ⟨cur, hc⟩ := h.n.own.elem i hi
    rcases e with e | e | e
    · rw [e, hp] at hc; simp at hc
    · rw [e, hb] at hc; cases hc
    · exact h.ap i e hi
  · rcases hn i hi with e | e
    · exact h.ap i e hu
    · have := h.n.own.lt i hu; omega
theorem TN.mput (h : TN w0 w p v b q u ns ms) (ht : Nb w1 q u' l) (hf : Fr w w1 (fun i => i = q ∨ InBlk u i)) (hn : ∀ k, InBlk u' k → InBlk u k ∨ w.heap.size ≤ k) : TN w0 w1 p v b q u' ns l := by
  obtain ⟨D, hm, _⟩ := h.tb.t.mp
  obtain ⟨es, clock, hb, _⟩ := hm
  have hp := h.tb.t.blk
  have hq := h.n.blk
  refine ⟨⟨h.tb.t.keep hf (fun e => ?_) (fun i hi e => ?_) (fun e => ?_), h.tb.fr.then_ hf (fun i hi hlt => ?_), h.tb.np, h.tb.nb, h.tb.nv⟩, ht, h.nq, fun i hi => ?_, fun i hi hu => ?_⟩
  · rcases e with e | e
    · rw [e, hq] at hp; simp at hp
    · obtain ⟨cur, hc⟩ := h.n.own.elem p e
      rw [hp] at hc; simp at hc
  · obtain ⟨cur, hc⟩ := h.tb.t.own.elem i hi
    rcases e with e | e
    · rw [e, hq] at hc; simp at hc
    · exact h.ap i hi e
  · rcases e with e | e
    · rw [e, hq] at hb; cases hb
    · obtain ⟨cur, hc⟩ := h.n.own.elem b e
      rw [hb] at hc; cases hc
  · rcases hi with e | e
    · have := h.nq; omega
    · have := h.nu i e; omega
  · rcases hn i hi with e | e
    · exact h.nu i e
    · exact Nat.le_trans h.tb.fr.size e
  · rcases hn i hu with e | e
    · exact h.ap i hi e
    · have := h.tb.t.own.lt i hi; omega
end
/-- the table alone -/
theorem put_n {w0 : World} {p b : Nat} {v : Value} {ns : List ByteArray} (s : ByteArray) (n e : Int) (l : List ByteArray) (w : World) (h : TbN w0 w p v b ns) (hs : s.size ≤ 1000000) (hT : Tabs w0) (hl : ns.length < 1000) (hq : putM ns s = ⟨n, e, l⟩) :
    Calls Tryd.prog 8 #[.pointer (some ⟨p, 0, none⟩), .string s] w fun r w' => r = .returned (.tuple #[.int .i64 n, .int .i64 e]) ∧ ∃ v', TbN w0 w' p v' b l :=
  (put_c p b v ns s w h.t hs (h.tabs hT) hl).mono fun r w' hr => by
    obtain ⟨rfl, v', ht, hf, hn⟩ := hr
    rw [hq] at ht ⊢
    exact ⟨rfl, v', h.step ht hf hn⟩
theorem new_n (w : World) : Calls Tryd.prog 7 #[] w fun e w' => ∃ p b, e = .returned (.pointer (some ⟨p, 0, none⟩)) ∧ TbN w w' p (.slice none 0 0) b [] :=
  (new_c w).mono fun e w' hr => by
    obtain ⟨p, b, rfl, ht, hf, hp, hb⟩ := hr
    exact ⟨p, b, rfl, ht, hf, hp, hb, fun i hi => by simp [InBlk, Value.ownBlock] at hi⟩
theorem put_mk {ns : List ByteArray} {s : ByteArray} {n : Int} {l : List ByteArray} (hv : vld s = true) (hc : cnt s ≤ 255) (hf : (∃ i, fnd ns s = some i ∧ n = i ∧ l = ns) ∨ (fnd ns s = none ∧ n = ns.length ∧ l = ns ++ [s])) : putM ns s = ⟨n, 0, l⟩ := by
  unfold putM
  rw [if_neg (by rw [hv]; decide), if_neg (by omega)]
  rcases hf with ⟨i, h, rfl, rfl⟩ | ⟨h, rfl, rfl⟩ <;> rw [h]
set_option maxRecDepth 100000 in
set_option maxHeartbeats 4000000 in
theorem awake4_c (w : World) (hT : Tabs w) : Calls Tryd.prog 6 #[] w fun e w' => e = .returned (.bool true) ∧ Fr w w' (fun _ => False) := by
  have hA : putM [] ⟨#[97]⟩ = ⟨0, 0, [⟨#[97]⟩]⟩ := put_mk (by decide +kernel) (by decide +kernel) (.inr ⟨rfl, rfl, rfl⟩)
  have hB : putM [⟨#[97]⟩] ⟨#[98]⟩ = ⟨1, 0, [⟨#[97]⟩, ⟨#[98]⟩]⟩ := put_mk (by decide +kernel) (by decide +kernel) (.inr ⟨by decide +kernel, rfl, rfl⟩)
  have hA2 : putM [⟨#[97]⟩, ⟨#[98]⟩] ⟨#[97]⟩ = ⟨0, 0, [⟨#[97]⟩, ⟨#[98]⟩]⟩ := put_mk (by decide +kernel) (by decide +kernel) (.inl ⟨0, by decide +kernel, rfl, rfl⟩)
  have HA := Lib.hid hA
  have HB := Lib.hid hB
  have HA2 := Lib.hid hA2
  have HT := Lib.hid hT
  have S1 : Hid ((ByteArray.mk #[97]).size ≤ 1000000) := Lib.hid (by decide)
  have S2 : Hid ((ByteArray.mk #[98]).size ≤ 1000000) := Lib.hid (by decide)
  have tok1 : True := trivial
  clear hA hB hA2 hT
  go_enter Tryd.func6, Tryd.ntmps6
  go_wp2_with (first
    | (go_at_call 7; (with_reducible refine (new_n _).mono ?_); rintro e w1 ⟨p, b, rfl, ht⟩; have H1 := Lib.hid ht; clear ht)
    | (go_at_call 8; have _t := tok1; (with_reducible refine (put_n ⟨#[97]⟩ 0 0 _ _ H1.out S1.out HT.out (by decide) HA.out).mono ?_); rintro e w2 ⟨rfl, v2, ht⟩; have H2 := Lib.hid ht; clear ht tok1)
    | (go_at_call 8; (with_reducible refine (put_n ⟨#[98]⟩ 1 0 _ _ H2.out S2.out HT.out (by decide) HB.out).mono ?_); rintro e w3 ⟨rfl, v3, ht⟩; have H3 := Lib.hid ht; clear ht)
    | (go_at_call 8; (with_reducible refine (put_n ⟨#[97]⟩ 0 0 _ _ H3.out S1.out HT.out (by decide) HA2.out).mono ?_); rintro e w4 ⟨rfl, v4, ht⟩; have H4 := Lib.hid ht; clear ht)
    | (go_at_call 12; (with_reducible refine (len_c p v4 b [⟨#[97]⟩, ⟨#[98]⟩] _ H4.out.t).mono ?_); rintro e w5 ⟨rfl, rfl⟩))
  go_ret
  exact ⟨rfl, H4.out.fr⟩
end Go.Proofs.YtficfpidodbdcaaDoor
