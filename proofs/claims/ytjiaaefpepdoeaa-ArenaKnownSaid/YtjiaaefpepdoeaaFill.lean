/-
  CONTRACTS: law 8's Fill, Mem, awake. Conditions: rows of words of 64 bits; at most 2^20 of them with what is more.
-/
import Derived.Test.YtjiaaefpepdoeaaCpy
namespace Go.Proofs.Ytjiaaefpepdoeaa
open Go.RowKit Md
set_option linter.unusedVariables false

theorem take_i (p : Nat) (v : Value) (ws : List Int) (size n : Int) (w : World) (h : Ar 101 w p v ws size) (h0 : 0 ≤ n) (hn : n ≤ size - ws.length) :
    Calls Try.prog 19 #[.pointer (some ⟨p, 0, none⟩), .int .i64 n] w fun e w' => e = .returned (.tuple #[.int .i64 ws.length, .bool true]) ∧
      ∃ v', Ar 101 w' p v' (ws ++ List.replicate n.toNat 0) size ∧ Fr w w' (fun i => i = p ∨ InBlk v i) ∧ ∀ k, InBlk v' k → InBlk v k ∨ w.heap.size ≤ k := by
  obtain ⟨k, rfl⟩ := Int.eq_ofNat_of_zero_le h0
  exact take_c p v ws size k w h hn
/-- an arena that a call has made -/
def NewAr (T : TypeId) (w w' : World) (p : Nat) (v : Value) (ws : List Int) (size : Int) : Prop := Ar T w' p v ws size ∧ Fr w w' (fun _ => False) ∧ w.heap.size ≤ p ∧ ∀ k, InBlk v k → w.heap.size ≤ k
theorem newSize_of {n : Int} (h0 : 0 ≤ n) (h1 : n ≤ 1048576) : newSize n = n := by unfold newSize; rw [if_neg (by omega)]
theorem filled_step {l : List Int} {k : Nat} (h : k < l.length) : wrAt (l.take k ++ List.replicate (l.length - k) 0) k (l.getD k 0) = l.take (k + 1) ++ List.replicate (l.length - (k + 1)) 0 := by
  have hl : (l.take k ++ List.replicate (l.length - k) 0).length = l.length := by simp; omega
  unfold wrAt
  rw [if_pos ⟨by omega, by rw [hl]; omega⟩, Int.toNat_natCast]
  have hk : (l.take k).length = k := by simp; omega
  rw [List.set_append, if_neg (by omega), hk, Nat.sub_self]
  have e : l.length - k = (l.length - (k + 1)) + 1 := by omega
  rw [e, List.replicate_succ, List.set_cons_zero, List.take_succ_eq_append_getElem h, List.append_assoc]
  simp [List.getD, h]
theorem okWs_getD {l : List Int} (h : okWs l) (k : Nat) (hk : k < l.length) : okW (l.getD k 0) := by
  simp only [List.getD, List.getElem?_eq_getElem hk, Option.getD_some]
  exact h _ (List.getElem_mem hk)
set_option maxHeartbeats 1000000 in
theorem fill_c (v : Value) (l : List Int) (more : Int) (w : World) (h : Rd w v (uw l)) (hok : okWs l) (h0 : 0 ≤ more) (h1 : l.length + more ≤ 1048576) :
    Calls Try.prog 31 #[v, .int .i64 more] w fun e w' => ∃ p v', e = .returned (.pointer (some ⟨p, 0, none⟩)) ∧ NewAr 101 w w' p v' l (l.length + more) := by
  have hlt := fun h0 => h.lt h0
  have hsz : newSize (l.length + more) = l.length + more := newSize_of (by omega) h1
  have hsum : IntKind.i64.wrap ((l.length : Int) + more) = l.length + more := by rw [IntKind.wrap_i64]; omega
  have hsum2 : wrap64 ((l.length : Int) + more) = l.length + more := by unfold wrap64; omega
  have HSZ := Lib.hid hsz
  have HOK := Lib.hid hok
  have HR := Lib.hid h
  have HLT := Lib.hid hlt
  clear hsz hok hlt
  obtain ⟨A, cap, rfl⟩ := h.len
  clear h
  rw [uw_length]
  have hA : 0 < l.length → ∃ b off, A = some ⟨b, off, none⟩ ∧ ∀ i, i < l.length → w.cell? ⟨b, off + i, none⟩ = some (.int .u64 (l.getD i 0)) := by
    intro hp
    rcases HR.out with ⟨hx, _⟩ | ⟨b, off, c, e, _, _, _, _, hc⟩
    · have := congrArg List.length hx; rw [uw_length] at this; simp at this; subst this; simp at hp
    · injection e with e1 e2 e3
      exact ⟨b, off, e1, fun i hi => by rw [hc i (by rw [uw_length]; exact hi), uw_get hi]⟩
  by_cases hp : 0 < l.length
  · obtain ⟨b, off, rfl, hc⟩ := hA hp
    have HC := Lib.hid hc
    have hbw : b < w.heap.size := HLT.out (by rw [uw_length]; exact hp) b (by simp [InBlk, Value.ownBlock])
    clear hA hc
    go_enter Try.func31, Try.ntmps31
    go_wp2_with (first | (go_at_call 17; (with_reducible refine (new_c _ _).mono ?_); rintro e w1 ⟨rfl, ha, hf⟩))
    rw [HSZ.out] at ha
    have HA := Lib.hid ha
    have HF := Lib.hid hf
    clear ha hf
    have htk : ((l.length : Nat) : Int) ≤ (l.length + more) - (([] : List Int).length : Int) := by simp; omega
    have HTK := Lib.hid htk
    clear htk
    go_wp2_with (first | (go_at_call 19; (with_reducible refine (take_c _ _ [] (l.length + more) l.length _ HA.out HTK.out).mono ?_); rintro e w2 ⟨rfl, v2, ha2, hf2, hn2⟩))
    simp only [List.nil_append] at ha2
    have hf02 : Fr w w2 (fun _ => False) := HF.out.then_ hf2 (fun i hi hlt => hi.elim (fun e => by omega) (fun e => by simp [InBlk, Value.ownBlock] at e))
    have hin2 : ∀ k, InBlk v2 k → w.heap.size ≤ k := fun k hk => (hn2 k hk).elim (fun e => by simp [InBlk, Value.ownBlock] at e) (fun e => Nat.le_trans HF.out.size e)
    have HA2 := Lib.hid ha2
    have HF2 := Lib.hid hf02
    have HI2 := Lib.hid hin2
    clear ha2 hf2 hn2 hf02 hin2 HA HF hsum hsum2
    have hlen : l.length ≤ 1048576 := by omega
    go_wp2
    go_loopw [6] (fun i wr => ∃ k : Nat, k ≤ l.length ∧ i = .int .i64 k ∧ Hid (Ar 101 wr w.heap.size v2 (l.take k ++ List.replicate (l.length - k) 0) (l.length + more)) ∧ Hid (Fr w wr (fun _ => False))) (fun i _ => l.length - (intOf i).toNat)
    case atStart => exact ⟨0, Nat.zero_le _, rfl, Lib.hid (by simpa using HA2.out), HF2⟩
    case round =>
      obtain ⟨k, hk, rfl, HAr, HFr⟩ := hrel
      by_cases hkl : k < l.length
      · have hcell : wr.cell? ⟨b, off + k, none⟩ = some (.int .u64 (l.getD k 0)) := HFr.out.cell (HC.out k hkl) (fun h => h)
        have hx := okWs_getD HOK.out k hkl
        have HX := Lib.hid hx
        have hst := filled_step hkl
        obtain ⟨x, hxe⟩ : ∃ x, l.getD k 0 = x := ⟨_, rfl⟩
        rw [hxe] at hcell hst
        have HST := Lib.hid hst
        have HXE := Lib.hid hxe
        have hlk : ((l.take k ++ List.replicate (l.length - k) 0).length : Int) = l.length := by simp; omega
        have HLK := Lib.hid hlk
        clear hst hxe hx hlk
        have q1 : (0 : Int) ≤ k := by omega
        have q2 : (k : Int) < l.length := by omega
        go_wp2_with (first | (go_at_call 21; (with_reducible refine (set_c _ _ _ _ _ _ _ HAr.out (HXE.out ▸ HX.out) ⟨q1, by rw [HLK.out]; exact q2⟩).mono ?_); rintro e w3 ⟨rfl, ha3, hf3⟩))
        rw [HST.out] at ha3
        have hf4 : Fr w w3 (fun _ => False) := HFr.out.then_ hf3 (fun i hi hlt => by have := HI2.out i hi; omega)
        have HA3 := Lib.hid ha3
        have HF3 := Lib.hid hf4
        clear ha3 hf3 hf4 HAr HFr
        go_wp2
        go_roundw
        case rel => exact ⟨k + 1, by omega, by go_num, HA3, HF3⟩
        case measure => simp [intOf]; omega
      · have hke : k = l.length := by omega
        have hfin : l.take k ++ List.replicate (l.length - k) 0 = l := by rw [hke]; simp
        have HFIN := Lib.hid hfin
        clear hfin
        go_wp2
        go_ret
        refine ⟨_, v2, rfl, ?_, HFr.out, Nat.le_refl _, HI2.out⟩
        have := HAr.out
        rw [HFIN.out] at this
        exact this
  · have hl0 : l = [] := List.eq_nil_of_length_eq_zero (by omega)
    subst hl0
    clear hA HLT
    simp only [List.length_nil] at *
    go_enter Try.func31, Try.ntmps31
    go_wp2_with (first | (go_at_call 17; (with_reducible refine (new_c _ _).mono ?_); rintro e w1 ⟨rfl, ha, hf⟩))
    have hsz2 : newSize more = ((0 : Nat) : Int) + more := by have := HSZ.out; simpa using this
    rw [hsz2] at ha
    have htk : (0 : Int) ≤ (((0 : Nat) : Int) + more) - (([] : List Int).length : Int) := by simp; omega
    have HA := Lib.hid ha
    have HF := Lib.hid hf
    have HTK := Lib.hid htk
    clear ha hf htk hsz2
    go_wp2_with (first | (go_at_call 19; (with_reducible refine (take_i _ _ [] _ 0 _ HA.out (Int.le_refl 0) HTK.out).mono ?_); rintro e w2 ⟨rfl, v2, ha2, hf2, hn2⟩))
    simp only [List.nil_append, Int.toNat_zero, List.replicate_zero] at ha2
    have hf02 : Fr w w2 (fun _ => False) := HF.out.then_ hf2 (fun i hi hlt => hi.elim (fun e => by omega) (fun e => by simp [InBlk, Value.ownBlock] at e))
    have hin2 : ∀ k, InBlk v2 k → w.heap.size ≤ k := fun k hk => (hn2 k hk).elim (fun e => by simp [InBlk, Value.ownBlock] at e) (fun e => Nat.le_trans HF.out.size e)
    have HA2 := Lib.hid ha2
    have HF2 := Lib.hid hf02
    have HI2 := Lib.hid hin2
    clear ha2 hf2 hn2 hf02 hin2 HA HF hsum hsum2
    go_wp2
    refine wp_loop_rounds 1 ?_
    rw [rounds_succ]
    go_wp2
    go_ret
    exact ⟨_, v2, rfl, HA2.out, HF2.out, Nat.le_refl _, HI2.out⟩
end Go.Proofs.Ytjiaaefpepdoeaa
