/-
  TEXTS JOINED FOR A CLAIM (SlideMeans): Lss Cnm Cmp Rlv Rlw Ant Gr3 Grn Nst Smw. Conditions: none beyond those that each theorem states.
-/
import Derived.Test.YtjiaaefpepdoeaaDoorZ31SlideMeans
import Derived.Test.YtjiaaefpepdoeaaDoorZ30SlideMeans
import Derived.Test.YtjiaaefpepdoeaaDoorZ00SlideMeans
import Derived.OrdersHeld
import Derived.RegionTactic
import Derived.KernelRfl
import Derived.Test.YtjiaaefpepdoeaaDoorZ29SlideMeans
import Derived.BigQuiet
import Derived.Deep.QuietTactic
namespace Go.Proofs.YtjiaaefpepdoeaaDoor
open Go.RowKit Md Go.Proofs.YtjiaaefpepdoeaaDoorW.PrintWords
open Go.Proofs.YtjiaaefpepdoeaaDoor.PSlideMeans (S26 z26 k26 tenementref1_mags.f tenementref1_mags.l0 tenementref1_bytewise.f tenementref1_bytewise.l0 tenementref1_bytewise.j1 tenementref1_order.f)
set_option linter.unusedVariables false
theorem order_c (a : Int) (w : World) : Calls Tryd.prog 82 #[.int .i64 a, .int .i64 a] w fun e w' => e = .returned (.int .i64 0) ∧ Drawn0 w w' :=
 PSlideMeans.tenementref1_order.calls a a 0 w (by unfold tenementref1_order.f; rw [if_neg (by omega), if_neg (by omega)])
theorem mags_ev (l : List Int) (hl : l.length ≤ 1048576) : ∀ j : Nat, j ≤ l.length → ∃ k, tenementref1_mags.l0 k l l ((j : Int) - 1) = some 0 := by
 intro j
 induction j with
 | zero => exact fun _ => ⟨1, by simp only [tenementref1_mags.l0]; rw [if_neg (by omega)]⟩
 | succ j ih =>
  intro hj
  obtain ⟨k, hk⟩ := ih (by omega)
  refine ⟨k + 1, ?_⟩
  have e : ((j + 1 : Nat) : Int) - 1 = (j : Int) := by omega
  have w1 : wrap64 ((j : Int) - 1) = (j : Int) - 1 := by unfold wrap64; omega
  simp only [tenementref1_mags.l0]
  rw [e, if_pos (by omega), if_pos (by omega), if_pos (by omega), if_pos (by omega), if_pos trivial, w1]
  exact hk
theorem c_of_rd {l : List Int} {K : IntKind} {A : Option Addr} {c : Nat} {w : World} (h : Rd w (.slice A l.length c) (nw K l)) : (Kd.int K).C w A l.length l ∧ l.length ≤ c := by
 rcases h with ⟨h0, A', c', e, hA⟩ | ⟨b, off, cap, e, h0, hl, hmm, hb, hc⟩
 ·have hl0 : l = [] := by unfold nw at h0; exact List.map_eq_nil_iff.1 h0
  subst hl0
  exact ⟨⟨rfl, by simp, fun h => absurd h (by simp)⟩, by simp⟩
 ·injection e with e1 e2 e3
  subst e1; subst e3
  rw [nw_length] at hl h0 hc
  refine ⟨Kd.C_of_reads (enc := Value.int K) (d := (0 : Int)) (h1 := fun _ => rfl) ⟨rfl, by unfold maxLen at hmm; omega, fun _ => ⟨_, rfl, fun j hj => ?_⟩⟩, hl⟩
  have h3 := hc j hj
  rw [nw_get hj] at h3
  rw [Addr.add_lit]
  exact h3
theorem mags_c (l : List Int) (hl : l.length ≤ 1048576) (A1 A2 : Option Addr) (c1 c2 : Nat) (w : World) (h1 : Rd w (.slice A1 l.length c1) (nw .u32 l)) (h2 : Rd w (.slice A2 l.length c2) (nw .u32 l)) :
  Calls Tryd.prog 93 #[.slice A1 l.length c1, .slice A2 l.length c2] w fun e w' => e = .returned (.int .i64 0) ∧ Drawn0 w w' := by
 obtain ⟨k, hk⟩ := mags_ev l hl l.length (Nat.le_refl _)
 refine PSlideMeans.tenementref1_mags.calls k A1 c1 l A2 c2 l 0 w (c_of_rd h1).1 (c_of_rd h1).2 (c_of_rd h2).1 (c_of_rd h2).2 ?_
 unfold tenementref1_mags.f
 rw [if_pos rfl]
 have w1 : wrap64 ((l.length : Int) - 1) = (l.length : Int) - 1 := by unfold wrap64; omega
 rw [w1]
 exact hk
theorem byte_ev (l : List Int) (hl : l.length ≤ 1048576) : ∀ j i : Nat, i + j = l.length → ∃ k, tenementref1_bytewise.l0 k l l i = some 0 := by
 intro j
 induction j with
 | zero =>
  intro i hi
  refine ⟨2, ?_⟩
  simp only [tenementref1_bytewise.l0, tenementref1_bytewise.j1]
  rw [if_neg (by omega)]
  simp [tenementref1_order.f]
 | succ j ih =>
  intro i hi
  obtain ⟨k, hk⟩ := ih (i + 1) (by omega)
  refine ⟨k + 2, ?_⟩
  have w1 : wrap64 ((i : Int) + 1) = ((i + 1 : Nat) : Int) := by unfold wrap64; omega
  simp only [tenementref1_bytewise.l0, tenementref1_bytewise.j1]
  rw [if_pos (by omega), if_pos (by simp; omega), if_pos (by omega), if_pos (by omega), if_pos (by omega), if_pos trivial, w1]
  exact hk
theorem bytew_c (l : List Int) (hl : l.length ≤ 1048576) (A1 A2 : Option Addr) (c1 c2 : Nat) (w : World) (h1 : (Kd.int .u8).C w A1 l.length l) (k1 : l.length ≤ c1) (h2 : (Kd.int .u8).C w A2 l.length l) (k2 : l.length ≤ c2) :
  Calls Tryd.prog 85 #[.slice A1 l.length c1, .slice A2 l.length c2] w fun e w' => e = .returned (.int .i64 0) ∧ Drawn0 w w' := by
 obtain ⟨k, hk⟩ := byte_ev l hl l.length 0 (by omega)
 exact PSlideMeans.tenementref1_bytewise.calls k A1 c1 l A2 c2 l 0 w h1 k1 h2 k2 hk
set_option maxRecDepth 100000 in
set_option maxHeartbeats 1000000 in
theorem vs_a (w : World) : Calls Tryd.prog 86 #[.string ⟨#[97]⟩] w fun e w' => e = .returned (.bool true) ∧ w = w' := by
 go_enter Tryd.func86, Tryd.ntmps86
 go_wp2
 go_loopg [0] 1 (fun g a0 wr => w = wr ∧ ((g = 1 ∧ a0 = .string ⟨#[97]⟩) ∨ (g = 0 ∧ a0 = .string ⟨#[]⟩)))
 case atStart => exact ⟨rfl, .inl ⟨rfl, rfl⟩⟩
 case round =>
  obtain ⟨rfl, ⟨rfl, rfl⟩ | ⟨rfl, rfl⟩⟩ := hrel
  ·go_wp2
   go_roundg 0
   case measure => omega
   case rel => exact ⟨rfl, .inr ⟨rfl, by first | rfl | (simp; done) | decide⟩⟩
  ·go_wp2
   go_ret
   exact ⟨rfl, rfl⟩
set_option maxRecDepth 100000 in
set_option maxHeartbeats 1000000 in
theorem vs_b (w : World) : Calls Tryd.prog 86 #[.string ⟨#[98]⟩] w fun e w' => e = .returned (.bool true) ∧ w = w' := by
 go_enter Tryd.func86, Tryd.ntmps86
 go_wp2
 go_loopg [0] 1 (fun g a0 wr => w = wr ∧ ((g = 1 ∧ a0 = .string ⟨#[98]⟩) ∨ (g = 0 ∧ a0 = .string ⟨#[]⟩)))
 case atStart => exact ⟨rfl, .inl ⟨rfl, rfl⟩⟩
 case round =>
  obtain ⟨rfl, ⟨rfl, rfl⟩ | ⟨rfl, rfl⟩⟩ := hrel
  ·go_wp2
   go_roundg 0
   case measure => omega
   case rel => exact ⟨rfl, .inr ⟨rfl, by first | rfl | (simp; done) | decide⟩⟩
  ·go_wp2
   go_ret
   exact ⟨rfl, rfl⟩
set_option maxRecDepth 100000 in
set_option maxHeartbeats 1000000 in
theorem vs_e (w : World) : Calls Tryd.prog 86 #[.string ⟨#[]⟩] w fun e w' => e = .returned (.bool true) ∧ w = w' := by
 go_enter Tryd.func86, Tryd.ntmps86
 go_wp2
 go_loopg [0] 1 (fun g a0 wr => w = wr ∧ a0 = .string ⟨#[]⟩)
 case atStart => exact ⟨rfl, rfl⟩
 case round =>
  obtain ⟨rfl, rfl⟩ := hrel
  go_wp2
  go_ret
  exact ⟨rfl, rfl⟩
def isNm (s : ByteArray) : Prop := s = eStr ∨ s = sA ∨ s = sB
theorem vs_c {s : ByteArray} (h : isNm s) (w : World) : Calls Tryd.prog 86 #[.string s] w fun e w' => e = .returned (.bool true) ∧ w = w' := by
 rcases h with rfl | rfl | rfl
 ·exact vs_e w
 ·exact vs_a w
 ·exact vs_b w
theorem valid_c {s : ByteArray} (h : isNm s) (w : World) : Calls Tryd.prog 63 #[.string s] w fun e w' => e = .returned (.bool true) ∧ w = w' := by
 go_enter Tryd.func63, Tryd.ntmps63
 go_wp2_with (first | (go_at_call 86; (with_reducible refine (vs_c h _).mono ?_); rintro e w1 ⟨rfl, rfl⟩))
 go_ret
 exact ⟨rfl, rfl⟩
theorem runes_nm {s : ByteArray} (h : isNm s) : ∃ zs : List Int, Conv.runesFrom s s.size 0 #[] = (nw .i32 zs).toArray ∧ zs.length ≤ 1 := by
 rcases h with rfl | rfl | rfl
 ·exact ⟨[], by rfl, by simp⟩
 ·exact ⟨[97], by rfl, by simp⟩
 ·exact ⟨[98], by rfl, by simp⟩
theorem runes_run {s : ByteArray} {zs : List Int} (hz : Conv.runesFrom s s.size 0 #[] = (nw .i32 zs).toArray) (hl : zs.length ≤ 1) (w : World) :
  ∃ cap w1, (convert 9 148 (.string s)).run Tryd.prog w = .ok (.slice (some ⟨w.heap.size, 0, none⟩) zs.length cap) w1 ∧ Own w1 21 (.slice (some ⟨w.heap.size, 0, none⟩) zs.length cap) (nw .i32 zs) ∧ Fr w w1 (fun _ => False) := by
 have h := run_runes_of_string (P := Tryd.prog) w 9 148 21 s Tryd.underlying9 Tryd.underlying148 Tryd.underlying21 (by rw [hz]; simp [nw]; omega)
 rw [hz] at h
 have e : (nw .i32 zs).toArray.size = zs.length := by simp [nw]
 rw [e] at h
 have hge := grownCap_ge w zs.length 0 21
 have hcm : grownCap w zs.length 0 21 ≤ maxLen := grownCap_le_maxLen w zs.length 0 21 (by simp only [maxLen]; omega)
 refine ⟨_, _, h, ⟨by rw [nw_length]; omega, .inr ⟨w.heap.size, _, _, by rw [nw_length], Nat.zero_le _, heap_alloc_new w.drew _, by rw [nw_length]; exact hge, hcm, ?_, ?_⟩⟩, ((Fr.refl w _).drew).alloc _⟩
 ·simp only [Array.size_append, List.size_toArray, Array.size_replicate, nw_length]
  omega
 ·rw [nw_length, Nat.mul_one]
  simp only [Array.toList_append]
  rw [← nw_length .i32 zs]
  exact List.take_left
set_option maxRecDepth 100000 in
set_option maxHeartbeats 2000000 in
theorem less_c {s : ByteArray} (h : isNm s) (w : World) : Calls Tryd.prog 84 #[.string s, .string s] w fun e w' => e = .returned (.int .i64 0) ∧ Fr w w' (fun _ => False) := by
 obtain ⟨zs, hz, hl⟩ := runes_nm h
 obtain ⟨c1, w1, hr1, ho1, hf1⟩ := runes_run hz hl w
 obtain ⟨c2, w2, hr2, ho2, hf2⟩ := runes_run hz hl w1
 have HO1 := Lib.hid (ho1.keep hf2 (fun _ _ h => h))
 have HO2 := Lib.hid ho2
 have HF2 := Lib.hid (hf1.trans hf2)
 have HL := Lib.hid hl
 have HN := Lib.hid h
 obtain ⟨g1, hg1⟩ : ∃ g, w.heap.size = g := ⟨_, rfl⟩
 obtain ⟨g2, hg2⟩ : ∃ g, w1.heap.size = g := ⟨_, rfl⟩
 rw [hg1] at hr1 HO1
 rw [hg2] at hr2 HO2
 have qz : (zs.length : Int) ≤ 1 := by omega
 clear hz hl ho1 ho2 hf1 hf2 h hg1 hg2
 go_enter Tryd.func84, Tryd.ntmps84
 go_wp2_with (first | (go_at_call 63; (with_reducible refine (valid_c HN.out _).mono ?_); rintro e wv ⟨rfl, rfl⟩))
 go_loopg [7] zs.length (fun g a7 wr => ∃ i : Nat, a7 = .int .i64 i ∧ g + i = zs.length ∧ Hid (Fr w2 wr (fun _ => False)))
 case atStart => exact ⟨0, rfl, by omega, Lib.hid (Fr.refl _ _)⟩
 case round =>
  obtain ⟨i, rfl, hgi, HI⟩ := hrel
  have HGI := Lib.hid hgi
  clear hgi hr1 hr2
  have qi : (i : Int) ≤ 1 := by have := HGI.out; have := HL.out; omega
  by_cases hi : i < zs.length
  ·have d1 : decide (i < zs.length) = true := decide_eq_true hi
   have q1 : (i : Int) < zs.length := by omega
   have HO1' := HO1.out.keep HI.out (fun _ _ h => h)
   have HO2' := HO2.out.keep HI.out (fun _ _ h => h)
   obtain ⟨b1, e1, _, hc1⟩ := HO1'.cellAt (by rw [nw_length]; omega)
   injection e1 with e1
   injection e1 with e1
   subst e1
   obtain ⟨b2, e2, _, hc2⟩ := HO2'.cellAt (by rw [nw_length]; omega)
   injection e2 with e2
   injection e2 with e2
   subst e2
   have k1 := (hc1 i (by rw [nw_length]; exact hi)).1
   have k2 := (hc2 i (by rw [nw_length]; exact hi)).1
   rw [nw_get hi] at k1 k2
   obtain ⟨z, hz⟩ : ∃ z, zs.getD i 0 = z := ⟨_, rfl⟩
   rw [hz] at k1 k2
   have HIL := Lib.hid hi
   clear hc1 hc2 HO1' HO2' hz hi
   go_upto_region 7 with (fail)
   go_quiet (fail)
   go_wp2_with (fail)
   go_roundg (gk - 1)
   case measure => have := HGI.out; have := HIL.out; omega
   case rel => exact ⟨i + 1, by first | rfl | go_num, by have := HGI.out; have := HIL.out; omega, Lib.hid (HI.out.drewN _)⟩
  ·have d1 : decide (i < zs.length) = false := decide_eq_false hi
   go_wp2_with (first | (go_at_call 82; (with_reducible refine (order_c _ _).mono ?_); rintro e wo ⟨rfl, hd⟩; have HFE := Lib.hid ((HF2.out.trans HI.out).trans (Fr.of_below hd.below _))))
   go_ret
   exact ⟨rfl, HFE.out⟩
end Go.Proofs.YtjiaaefpepdoeaaDoor
namespace Go.Proofs.YtjiaaefpepdoeaaDoor
open Go.RowKit Md Go.Proofs.YtjiaaefpepdoeaaDoorW.PrintWords
set_option linter.unusedVariables false
inductive CS where
 | raw
 | pend (v : Value)
 | done (v : Value)
def CNi (W : World) (D : Nat) (b nb : Bool) (u : Value) (L : List Int) : CS → Prop
 | .raw => W.heap[D]? = some (.cells #[.bool b, u] 76 (0, 0))
 | .pend v => W.heap[D]? = some (.cells #[.bool b, u] 76 (0, 0)) ∧ Own W 123 v (nw .u32 L)
 | .done v => W.heap[D]? = some (.cells #[.bool nb, v] 76 (0, 0)) ∧ Own W 123 v (nw .u32 L)
structure CN (w W : World) (D1 D2 : Nat) (b nb : Bool) (u1 u2 : Value) (L : List Int) (s1 s2 : CS) : Prop where
 fr : Fr w W (fun _ => False)
 i1 : CNi W D1 b nb u1 L s1
 i2 : CNi W D2 b nb u2 L s2
 l1 : w.heap.size ≤ D1
 l2 : w.heap.size ≤ D2
 ne : D1 ≠ D2
section
variable {w W W1 : World} {D1 D2 : Nat} {b nb : Bool} {u1 u2 v : Value} {L : List Int} {s1 s2 : CS}
theorem CNi.fr {D : Nat} {u : Value} {s : CS} (h : CNi W D b nb u L s) (hf : Fr W W1 fun _ => False) : CNi W1 D b nb u L s := by
 cases s with
 | raw => exact hf.blk h (fun h => h)
 | pend v => exact ⟨hf.blk h.1 (fun h => h), h.2.keep hf (fun _ _ h => h)⟩
 | done v => exact ⟨hf.blk h.1 (fun h => h), h.2.keep hf (fun _ _ h => h)⟩
theorem CNi.far {D E : Nat} {u : Value} {s : CS} {c : Array Value} (h : CNi W D b nb u L s) (hf : Fr W W1 fun i => i = E) (ne : D ≠ E) (hE : W.heap[E]? = some (.cells c 76 (0, 0))) : CNi W1 D b nb u L s := by
 have no : ∀ {v : Value}, Own W 123 v (nw .u32 L) → ∀ i, InBlk v i → i ≠ E := fun ho i hi e => by
  obtain ⟨cur, hc⟩ := ho.elem i hi
  rw [e, hE] at hc
  simp at hc
 cases s with
 | raw => exact hf.blk h ne
 | pend v => exact ⟨hf.blk h.1 ne, h.2.keep hf (no h.2)⟩
 | done v => exact ⟨hf.blk h.1 ne, h.2.keep hf (no h.2)⟩
theorem CN.drew (h : CN w W D1 D2 b nb u1 u2 L s1 s2) : CN w W.drew D1 D2 b nb u1 u2 L s1 s2 := ⟨h.fr.drew, h.i1.fr ((Fr.refl W _).drew), h.i2.fr ((Fr.refl W _).drew), h.l1, h.l2, h.ne⟩
theorem CN.call1 (h : CN w W D1 D2 b nb u1 u2 L .raw s2) (hn : NewN .u32 123 W W1 v L) : CN w W1 D1 D2 b nb u1 u2 L (.pend v) s2 := ⟨h.fr.trans hn.2.1, ⟨hn.2.1.blk h.i1 (fun h => h), hn.1⟩, h.i2.fr hn.2.1, h.l1, h.l2, h.ne⟩
theorem CN.call2 (h : CN w W D1 D2 b nb u1 u2 L s1 .raw) (hn : NewN .u32 123 W W1 v L) : CN w W1 D1 D2 b nb u1 u2 L s1 (.pend v) := ⟨h.fr.trans hn.2.1, h.i1.fr hn.2.1, ⟨hn.2.1.blk h.i2 (fun h => h), hn.1⟩, h.l1, h.l2, h.ne⟩
theorem set2_fr (W : World) (D : Nat) (a c : Value) : Fr W ((W.setCell ⟨D, 0, none⟩ a).setCell ⟨D, 1, none⟩ c) (fun i => i = D) := ((Fr.refl W (fun i => i = D)).setCell (a := ⟨D, 0, none⟩) (fun _ => rfl) _).setCell (a := ⟨D, 1, none⟩) (fun _ => rfl) _
theorem set2_blk {D : Nat} {T : TypeId} {o0 o1 : Value} (a c : Value) (h : W.heap[D]? = some (.cells #[o0, o1] T (0, 0))) : ((W.setCell ⟨D, 0, none⟩ a).setCell ⟨D, 1, none⟩ c).heap[D]? = some (.cells #[a, c] T (0, 0)) := by
 refine blk_put (cs := #[a, o1]) ?_ 1 _ rfl
 refine blk_put (cs := #[o0, o1]) ?_ 0 _ rfl
 exact h
theorem own_notnum {D : Nat} {c : Array Value} (ho : Own W 123 v (nw .u32 L)) (hE : W.heap[D]? = some (.cells c 76 (0, 0))) : ∀ i, InBlk v i → i ≠ D := fun i hi e => by
 obtain ⟨cur, hc⟩ := ho.elem i hi
 rw [e, hE] at hc
 simp at hc
theorem CN.store1 (h : CN w W D1 D2 b nb u1 u2 L (.pend v) s2) : CN w ((W.setCell ⟨D1, 0, none⟩ (.bool nb)).setCell ⟨D1, 1, none⟩ v) D1 D2 b nb u1 u2 L (.done v) s2 :=
 ⟨h.fr.then_ (set2_fr W D1 _ _) (fun i hi hl => by have := h.l1; omega), ⟨set2_blk _ _ h.i1.1, h.i1.2.keep (set2_fr W D1 _ _) (own_notnum h.i1.2 h.i1.1)⟩, h.i2.far (set2_fr W D1 _ _) (Ne.symm h.ne) h.i1.1, h.l1, h.l2, h.ne⟩
theorem CN.store2 (h : CN w W D1 D2 b nb u1 u2 L s1 (.pend v)) : CN w ((W.setCell ⟨D2, 0, none⟩ (.bool nb)).setCell ⟨D2, 1, none⟩ v) D1 D2 b nb u1 u2 L s1 (.done v) :=
 ⟨h.fr.then_ (set2_fr W D2 _ _) (fun i hi hl => by have := h.l2; omega), h.i1.far (set2_fr W D2 _ _) h.ne h.i2.1, ⟨set2_blk _ _ h.i2.1, h.i2.2.keep (set2_fr W D2 _ _) (own_notnum h.i2.2 h.i2.1)⟩, h.l1, h.l2, h.ne⟩
theorem CNi.cells {D : Nat} {u : Value} {s : CS} (h : CNi W D b nb u L s) (hs : ∀ v, s ≠ .done v) : W.cell? ⟨D, 0, none⟩ = some (.bool b) ∧ W.cell? ⟨D, 1, none⟩ = some u ∧ W.frozen? ⟨D, 0, none⟩ = false ∧ W.frozen? ⟨D, 1, none⟩ = false := by
 cases s with
 | raw => have h : W.heap[D]? = _ := h; simp [World.cell?, World.frozen?, h]
 | pend v => simp [World.cell?, World.frozen?, h.1]
 | done v => exact absurd rfl (hs v)
end
def CNE (w W : World) (D1 D2 : Nat) (b nb : Bool) (u1 u2 : Value) (L : List Int) : Prop := ∃ v1 v2, CN w W D1 D2 b nb u1 u2 L (.done v1) (.done v2)
set_option maxRecDepth 100000 in
set_option maxHeartbeats 4000000 in
theorem cmpnum_c (b : Bool) (A1 A2 : Option Addr) (c1 c2 : Nat) (l : List Int) (w : World) (h1 : Rd w (.slice A1 l.length c1) (nw .u32 l)) (h2 : Rd w (.slice A2 l.length c2) (nw .u32 l)) (hl : l.length ≤ 1048576) :
  Calls Tryd.prog 83 #[.agg #[.bool b, .slice A1 l.length c1], .agg #[.bool b, .slice A2 l.length c2]] w fun e w' => e = .returned (.int .i64 0) ∧ Fr w w' (fun _ => False) := by
 have hb0 : (w.alloc (.cells #[.bool b, .slice A1 l.length c1] 76)).heap[w.heap.size]? = some (.cells #[.bool b, .slice A1 l.length c1] 76 (0, 0)) := blk_new _ _ _
 obtain ⟨D1, hD1⟩ : ∃ D, w.heap.size = D := ⟨_, rfl⟩
 obtain ⟨w1, hw1⟩ : ∃ w1, w.alloc (.cells #[.bool b, .slice A1 l.length c1] 76) = w1 := ⟨_, rfl⟩
 have hf1 : Fr w w1 (fun _ => False) := by rw [← hw1]; exact (Fr.refl w _).alloc _
 have hs1 : w1.heap.size = D1 + 1 := by rw [← hw1, ← hD1]; simp
 have hb1 : (w1.alloc (.cells #[.bool b, .slice A2 l.length c2] 76)).heap[w1.heap.size]? = some (.cells #[.bool b, .slice A2 l.length c2] 76 (0, 0)) := blk_new _ _ _
 obtain ⟨D2, hD2⟩ : ∃ D, w1.heap.size = D := ⟨_, rfl⟩
 obtain ⟨w2, hw2⟩ : ∃ w2, w1.alloc (.cells #[.bool b, .slice A2 l.length c2] 76) = w2 := ⟨_, rfl⟩
 have hf2 : Fr w w2 (fun _ => False) := by rw [← hw2]; exact hf1.alloc _
 have hb02 : w2.heap[D1]? = some (.cells #[.bool b, .slice A1 l.length c1] 76 (0, 0)) := by
  rw [← hw2, ← hD1]; exact ((Fr.refl w1 (fun _ => False)).alloc _).blk (by rw [← hw1]; exact hb0) (fun h => h)
 rw [hw2, hD2] at hb1
 obtain ⟨nb, hnb⟩ : ∃ nb, normB b l = nb := ⟨_, rfl⟩
 obtain ⟨L, hL⟩ : ∃ L, normD l = L := ⟨_, rfl⟩
 have HNB := Lib.hid hnb
 have HNL := Lib.hid hL
 have hne : D1 ≠ D2 := by rw [← hD2, hs1]; omega
 have hne' : D2 ≠ D1 := Ne.symm hne
 have H0 : Hid (CN w w2.drew D1 D2 b nb (.slice A1 l.length c1) (.slice A2 l.length c2) L .raw .raw) := Lib.hid (CN.drew ⟨hf2, hb02, hb1, by omega, by rw [← hD2, hs1]; omega, hne⟩)
 have HR1 := Lib.hid h1
 have HR2 := Lib.hid h2
 have HLE := Lib.hid hl
 have HLL : Hid (L.length ≤ 1048576) := Lib.hid (by rw [← hL, normD_len]; exact Nat.le_trans (normN_le _ _) hl)
 obtain ⟨k0, k1, kf0, kf1⟩ := H0.out.i1.cells (fun v e => by cases e)
 obtain ⟨g0, g1, gf0, gf1⟩ := H0.out.i2.cells (fun v e => by cases e)
 replace k0 : w2.cell? ⟨D1, 0, none⟩ = _ := k0
 replace k1 : w2.cell? ⟨D1, 1, none⟩ = _ := k1
 replace g0 : w2.cell? ⟨D2, 0, none⟩ = _ := g0
 replace g1 : w2.cell? ⟨D2, 1, none⟩ = _ := g1
 clear hf1 hs1 hf2 hb02 hb1 hb0 h1 h2 hl hnb hL
 go_enter Tryd.func83, Tryd.ntmps83
 go_upto_region 1 with (fail)
 (try simp only [hw1, hD1])
 (try simp only [hw2, hD2])
 clear hw1 hw2 hD1 hD2
 go_cut [2] (fun a2 wx => a2 = .pointer (some ⟨D1, 0, none⟩) ∧ Hid (CNE w wx D1 D2 b nb (.slice A1 l.length c1) (.slice A2 l.length c2) L))
 case first =>
  go_region_with (first
   | (go_at_call 33; (with_reducible refine (norm_c b A1 c1 l _ (HR1.out.keep H0.out.fr (fun _ _ h => h)) HLE.out).mono ?_); rintro e w3 ⟨v, rfl, hn⟩; (rw [HNB.out]; rw [HNL.out] at hn); obtain ⟨Av, cv, rfl⟩ := hn.1.rd.len; rw [nw_length] at hn ⊢; have H3 := Lib.hid (H0.out.call1 hn); obtain ⟨p0, p1, pf0, pf1⟩ := H3.out.i1.cells (fun v e => by cases e); obtain ⟨q0, q1, qf0, qf1⟩ := H3.out.i2.cells (fun v e => by cases e); clear hn)
   | (go_at_call 33; (with_reducible refine (norm_c b A2 c2 l _ (HR2.out.keep H0.out.fr (fun _ _ h => h)) HLE.out).mono ?_); rintro e w3 ⟨v, rfl, hn⟩; (rw [HNB.out]; rw [HNL.out] at hn); obtain ⟨Av, cv, rfl⟩ := hn.1.rd.len; rw [nw_length] at hn ⊢; have H3 := Lib.hid (H0.out.call2 hn); obtain ⟨p0, p1, pf0, pf1⟩ := H3.out.i1.cells (fun v e => by cases e); obtain ⟨q0, q1, qf0, qf1⟩ := H3.out.i2.cells (fun v e => by cases e); clear hn)
   | (go_at_call 33; (with_reducible refine (norm_c b A2 c2 l _ (HR2.out.keep H3.out.fr (fun _ _ h => h)) HLE.out).mono ?_); rintro e w4 ⟨v2, rfl, hn⟩; (rw [HNB.out]; rw [HNL.out] at hn); obtain ⟨Av2, cv2, rfl⟩ := hn.1.rd.len; rw [nw_length] at hn ⊢; have H4 := Lib.hid (H3.out.call2 hn); obtain ⟨r0, r1, rf0, rf1⟩ := H4.out.i1.cells (fun v e => by cases e); obtain ⟨t0, t1, tf0, tf1⟩ := H4.out.i2.cells (fun v e => by cases e); clear hn)
   | (go_at_call 33; (with_reducible refine (norm_c b A1 c1 l _ (HR1.out.keep H3.out.fr (fun _ _ h => h)) HLE.out).mono ?_); rintro e w4 ⟨v2, rfl, hn⟩; (rw [HNB.out]; rw [HNL.out] at hn); obtain ⟨Av2, cv2, rfl⟩ := hn.1.rd.len; rw [nw_length] at hn ⊢; have H4 := Lib.hid (H3.out.call1 hn); obtain ⟨r0, r1, rf0, rf1⟩ := H4.out.i1.cells (fun v e => by cases e); obtain ⟨t0, t1, tf0, tf1⟩ := H4.out.i2.cells (fun v e => by cases e); clear hn)
   | (go_at_call 33; (with_reducible refine (norm_c b A2 c2 l _ (HR2.out.keep H3.out.store1.fr (fun _ _ h => h)) HLE.out).mono ?_); rintro e w4 ⟨v2, rfl, hn⟩; (rw [HNB.out]; rw [HNL.out] at hn); obtain ⟨Av2, cv2, rfl⟩ := hn.1.rd.len; rw [nw_length] at hn ⊢; have H4 := Lib.hid (H3.out.store1.call2 hn); obtain ⟨t0, t1, tf0, tf1⟩ := H4.out.i2.cells (fun v e => by cases e); clear hn)
   | (go_at_call 33; (with_reducible refine (norm_c b A1 c1 l _ (HR1.out.keep H3.out.store2.fr (fun _ _ h => h)) HLE.out).mono ?_); rintro e w4 ⟨v2, rfl, hn⟩; (rw [HNB.out]; rw [HNL.out] at hn); obtain ⟨Av2, cv2, rfl⟩ := hn.1.rd.len; rw [nw_length] at hn ⊢; have H4 := Lib.hid (H3.out.store2.call1 hn); obtain ⟨r0, r1, rf0, rf1⟩ := H4.out.i1.cells (fun v e => by cases e); clear hn))
  all_goals
   go_wp2_with (fail)
   go_meet
   exact ⟨rfl, Lib.hid (by first | exact ⟨_, _, H4.out.store1.store2⟩ | exact ⟨_, _, H4.out.store2.store1⟩ | exact ⟨_, _, H4.out.store1⟩ | exact ⟨_, _, H4.out.store2⟩)⟩
 case rest =>
  obtain ⟨rfl, HC⟩ := hcut
  clear k0 k1 kf0 kf1 g0 g1 gf0 gf1 H0
  obtain ⟨v1, v2, hcn⟩ := HC.out
  have hb1 : wc.heap[D1]? = some (.cells #[.bool nb, v1] 76 (0, 0)) := hcn.i1.1
  have hb2 : wc.heap[D2]? = some (.cells #[.bool nb, v2] 76 (0, 0)) := hcn.i2.1
  have ho1 : Own wc 123 v1 (nw .u32 L) := hcn.i1.2
  have ho2 : Own wc 123 v2 (nw .u32 L) := hcn.i2.2
  have HF := Lib.hid hcn.fr
  obtain ⟨Av1, cv1, rfl⟩ := ho1.rd.len
  obtain ⟨Av2, cv2, rfl⟩ := ho2.rd.len
  rw [nw_length] at ho1 ho2 hb1 hb2
  have HO1 := Lib.hid ho1.rd
  have HO2 := Lib.hid ho2.rd
  have k0 : wc.cell? ⟨D1, 0, none⟩ = some (.bool nb) := by simp [World.cell?, hb1]
  have k1 : wc.cell? ⟨D1, 1, none⟩ = some (.slice Av1 L.length cv1) := by simp [World.cell?, hb1]
  have g0 : wc.cell? ⟨D2, 0, none⟩ = some (.bool nb) := by simp [World.cell?, hb2]
  have g1 : wc.cell? ⟨D2, 1, none⟩ = some (.slice Av2 L.length cv2) := by simp [World.cell?, hb2]
  clear hcn hb1 hb2 ho1 ho2 HC
  cases nb with
  | true =>
   go_wp2_with (first | (go_at_call 93; (with_reducible refine (mags_c L HLL.out Av1 Av2 cv1 cv2 _ HO1.out HO2.out).mono ?_); rintro e wm ⟨rfl, hd⟩; have HFE := Lib.hid (HF.out.trans (Fr.of_below hd.below _)); obtain ⟨nd, rfl⟩ := hd.out))
   go_ret
   exact ⟨rfl, HFE.out⟩
  | false =>
   go_wp2_with (first | (go_at_call 93; (with_reducible refine (mags_c L HLL.out Av1 Av2 cv1 cv2 _ HO1.out HO2.out).mono ?_); rintro e wm ⟨rfl, hd⟩; have HFE := Lib.hid (HF.out.trans (Fr.of_below hd.below _)); obtain ⟨nd, rfl⟩ := hd.out))
   go_ret
   exact ⟨rfl, HFE.out⟩
end Go.Proofs.YtjiaaefpepdoeaaDoor
namespace Go.Proofs.YtjiaaefpepdoeaaDoor
open Go.RowKit Md Go.Proofs.YtjiaaefpepdoeaaDoorW.PrintWords
open Go.Proofs.YtjiaaefpepdoeaaDoor.PSlideMeans (S26 z26 k26 k26_openM)
set_option linter.unusedVariables false
structure RT (w : World) (t : S26) (v2 v5 v6 : Value) : Prop where
 r2 : (Kd.int .u32).R 123 w 0 (fun _ => True) v2 t.f2
 r5 : k26.R 26 w 0 (fun _ => True) v5 t.f5
 r6 : (Kd.int .u8).R 5 w 0 (fun _ => True) v6 t.f6
theorem R_weak {α : Type} {d : Kd α} {e : TypeId} {w : World} {base : Nat} {ok : Nat → Prop} {v : Value} {xs : List α} (h : d.R e w base ok v xs) : d.R e w 0 (fun _ => True) v xs := Kd.R_mono (Kd.R_lower h (Nat.zero_le _)) (fun _ _ => trivial)
theorem RT.fr {w w1 : World} {t : S26} {v2 v5 v6 : Value} (h : RT w t v2 v5 v6) (hf : Fr w w1 fun _ => False) : RT w1 t v2 v5 v6 :=
 ⟨Kd.R_step h.r2 (fun k _ hlt => hf.block k hlt (fun h => h)), Kd.R_step h.r5 (fun k _ hlt => hf.block k hlt (fun h => h)), Kd.R_step h.r6 (fun k _ hlt => hf.block k hlt (fun h => h))⟩
theorem rd_of_R {K : IntKind} {e : TypeId} {w : World} {base : Nat} {ok : Nat → Prop} {v : Value} {l : List Int} (h : (Kd.int K).R e w base ok v l) : Rd w v (nw K l) := by
 have ho := Kd.own_of_R (enc := Value.int K) (h1 := fun _ => rfl) h
 have ho2 : Own w e v (nw K l) := by
  refine ⟨by simp [nw], ?_⟩
  rcases ho.2 with ⟨rfl, h0⟩ | ⟨g, cap, cur, rfl, hb, hg, hl, hm, hs, ht⟩
  ·exact .inl ⟨rfl, by rw [nw_length]; exact h0⟩
  ·exact .inr ⟨g, cap, cur, by rw [nw_length], Nat.zero_le _, hg, by rw [nw_length]; exact hl, hm, hs, by rw [nw_length]; exact ht⟩
 exact ho2.rd
theorem at_elem {w : World} {A : Option Addr} {n c : Nat} {xs : List S26} (h : k26.R 26 w 0 (fun _ => True) (.slice A n c) xs) (i : Nat) (hi : i < xs.length) :
  ∃ g u2 u5 u6, A = some ⟨g, 0, none⟩ ∧ w.cell? ⟨g, i * 7, none⟩ = some (.int .i64 (xs.getD i z26).f0) ∧ w.cell? ⟨g, i * 7 + 1, none⟩ = some (.bool (xs.getD i z26).f1) ∧ w.cell? ⟨g, i * 7 + 2, none⟩ = some u2 ∧ w.cell? ⟨g, i * 7 + 3, none⟩ = some (.string (xs.getD i z26).f3) ∧ w.cell? ⟨g, i * 7 + 4, none⟩ = some (.int .i64 (xs.getD i z26).f4) ∧ w.cell? ⟨g, i * 7 + 5, none⟩ = some u5 ∧ w.cell? ⟨g, i * 7 + 6, none⟩ = some u6 ∧ RT w (xs.getD i z26) u2 u5 u6 := by
 obtain ⟨h0, inner, ho, hr⟩ := h
 have hx : xs[i]? = some (xs.getD i z26) := by rw [List.getD_eq_getElem?_getD, List.getElem?_eq_getElem hi]; rfl
 have hM := hr.2 i _ hx
 obtain ⟨v2, v5, v6, hcs, g2, g5, g6⟩ := k26_openM hM
 have hsz : k26.sz = 7 := rfl
 rw [hsz] at hcs ho hr
 have hil : inner.length = xs.length * 7 := hr.1
 have hA : ∃ g, A = some ⟨g, 0, none⟩ := by
  rcases ho.2 with ⟨hv, h1⟩ | ⟨g, cap, cur, hv, _⟩
  ·omega
  ·injection hv with hv
   exact ⟨g, hv⟩
 obtain ⟨g, rfl⟩ := hA
 have hcell : ∀ j u, inner[j]? = some u → w.cell? ((⟨g, 0, none⟩ : Addr).add j) = some u := World.ownsRow.cells ho (g := g) rfl
 have get : ∀ j u, j < 7 → (([.int .i64 (xs.getD i z26).f0, .bool (xs.getD i z26).f1, v2, .string (xs.getD i z26).f3, .int .i64 (xs.getD i z26).f4, v5, v6] : List Value))[j]? = some u → w.cell? ⟨g, i * 7 + j, none⟩ = some u := fun j u hj hu => by
  have h1 : inner[i * 7 + j]? = some u := by
   rw [← hcs, List.getElem?_take, if_pos hj, List.getElem?_drop] at hu
   exact hu
  have h2 := hcell _ _ h1
  rw [Addr.add_lit, Nat.zero_add] at h2
  exact h2
 have wk : ∀ {α : Type} {d : Kd α} {e : TypeId} {v : Value} {ys : List α} {ok : Nat → Prop}, d.R e w 0 ok v ys → d.R e w 0 (fun _ => True) v ys := fun h => R_weak h
 exact ⟨g, v2, v5, v6, rfl, get 0 _ (by omega) rfl, get 1 _ (by omega) rfl, get 2 _ (by omega) rfl, get 3 _ (by omega) rfl, get 4 _ (by omega) rfl, get 5 _ (by omega) rfl, get 6 _ (by omega) rfl, wk g2, wk g5, wk g6⟩
def CmpC (d : Nat) : Prop := ∀ (t : S26) (A2 A5 A6 B2 B5 B6 : Option Addr) (c2 c5 c6 b2 b5 b6 : Nat) (w : World), OkT d t → RT w t (.slice A2 t.f2.length c2) (.slice A5 t.f5.length c5) (.slice A6 t.f6.length c6) → RT w t (.slice B2 t.f2.length b2) (.slice B5 t.f5.length b5) (.slice B6 t.f6.length b6) →
 Calls Tryd.prog 58 #[.agg #[.int .i64 t.f0, .bool t.f1, .slice A2 t.f2.length c2, .string t.f3, .int .i64 t.f4, .slice A5 t.f5.length c5, .slice A6 t.f6.length c6], .agg #[.int .i64 t.f0, .bool t.f1, .slice B2 t.f2.length b2, .string t.f3, .int .i64 t.f4, .slice B5 t.f5.length b5, .slice B6 t.f6.length b6]] w fun e w' => e = .returned (.int .i64 0) ∧ Fr w w' (fun _ => False)
set_option maxRecDepth 100000 in
set_option maxHeartbeats 8000000 in
theorem cmp_of (d : Nat) (ih : CmpC d) : CmpC (d + 1) := by
 intro t A2 A5 A6 B2 B5 B6 c2 c5 c6 b2 b5 b6 w hok ha hb
 obtain ⟨k, bb, f2, s, nn, f5, f6⟩ := t
 obtain ⟨⟨hk0, hk7, hl2, hd2, hnm, hl5, hl6⟩, hch⟩ := hok
 simp only at hk0 hk7 hl2 hd2 hnm hl5 hl6 hch ha hb ⊢
 have hb0 : (w.alloc (.cells #[.int .i64 k, .bool bb, .slice A2 f2.length c2, .string s, .int .i64 nn, .slice A5 f5.length c5, .slice A6 f6.length c6] 26)).heap[w.heap.size]? = some (.cells #[.int .i64 k, .bool bb, .slice A2 f2.length c2, .string s, .int .i64 nn, .slice A5 f5.length c5, .slice A6 f6.length c6] 26 (0, 0)) := blk_new _ _ _
 obtain ⟨D1, hD1⟩ : ∃ D, w.heap.size = D := ⟨_, rfl⟩
 obtain ⟨w1, hw1⟩ : ∃ w1, w.alloc (.cells #[.int .i64 k, .bool bb, .slice A2 f2.length c2, .string s, .int .i64 nn, .slice A5 f5.length c5, .slice A6 f6.length c6] 26) = w1 := ⟨_, rfl⟩
 have hf1 : Fr w w1 (fun _ => False) := by rw [← hw1]; exact (Fr.refl w _).alloc _
 have hb1 : (w1.alloc (.cells #[.int .i64 k, .bool bb, .slice B2 f2.length b2, .string s, .int .i64 nn, .slice B5 f5.length b5, .slice B6 f6.length b6] 26)).heap[w1.heap.size]? = some (.cells #[.int .i64 k, .bool bb, .slice B2 f2.length b2, .string s, .int .i64 nn, .slice B5 f5.length b5, .slice B6 f6.length b6] 26 (0, 0)) := blk_new _ _ _
 obtain ⟨D2, hD2⟩ : ∃ D, w1.heap.size = D := ⟨_, rfl⟩
 obtain ⟨w2, hw2⟩ : ∃ w2, w1.alloc (.cells #[.int .i64 k, .bool bb, .slice B2 f2.length b2, .string s, .int .i64 nn, .slice B5 f5.length b5, .slice B6 f6.length b6] 26) = w2 := ⟨_, rfl⟩
 have hf2 : Fr w w2 (fun _ => False) := by rw [← hw2]; exact hf1.alloc _
 have hb02 : w2.heap[D1]? = some (.cells #[.int .i64 k, .bool bb, .slice A2 f2.length c2, .string s, .int .i64 nn, .slice A5 f5.length c5, .slice A6 f6.length c6] 26 (0, 0)) := by
  rw [← hw2, ← hD1]; exact ((Fr.refl w1 (fun _ => False)).alloc _).blk (by rw [← hw1]; exact hb0) (fun h => h)
 rw [hw2, hD2] at hb1
 have HK1 := Lib.hid hb02
 have HK2 := Lib.hid hb1
 have HF2 := Lib.hid hf2
 have HA := Lib.hid (ha.fr hf2)
 have HB := Lib.hid (hb.fr hf2)
 have HL2 : Hid (f2.length ≤ 1048576) := Lib.hid (by omega)
 have HL5 := Lib.hid hl5
 have HL6 : Hid (f6.length ≤ 1048576) := Lib.hid (by omega)
 have HS : Hid (isNm s) := Lib.hid hnm
 have HCH := Lib.hid hch
 have HIH := Lib.hid ih
 have ql5 : (f5.length : Int) ≤ 255 := by omega
 have key : k = 0 ∨ k = 1 ∨ k = 2 ∨ k = 3 ∨ k = 7 ∨ k = 5 ∨ k = 4 ∨ k = 6 := by omega
 clear hf1 hf2 hb02 hb1 hb0 ha hb hl2 hl5 hl6 hd2 hnm hch ih hk0 hk7
 have k0 : w2.cell? ⟨D1, 0, none⟩ = some (.int .i64 k) := by simp [World.cell?, HK1.out]
 have kf0 : w2.frozen? ⟨D1, 0, none⟩ = false := by simp [World.frozen?, HK1.out]
 have k1 : w2.cell? ⟨D1, 1, none⟩ = some (.bool bb) := by simp [World.cell?, HK1.out]
 have kf1 : w2.frozen? ⟨D1, 1, none⟩ = false := by simp [World.frozen?, HK1.out]
 have k2 : w2.cell? ⟨D1, 2, none⟩ = some (.slice A2 f2.length c2) := by simp [World.cell?, HK1.out]
 have kf2 : w2.frozen? ⟨D1, 2, none⟩ = false := by simp [World.frozen?, HK1.out]
 have k3 : w2.cell? ⟨D1, 3, none⟩ = some (.string s) := by simp [World.cell?, HK1.out]
 have kf3 : w2.frozen? ⟨D1, 3, none⟩ = false := by simp [World.frozen?, HK1.out]
 have k4 : w2.cell? ⟨D1, 4, none⟩ = some (.int .i64 nn) := by simp [World.cell?, HK1.out]
 have kf4 : w2.frozen? ⟨D1, 4, none⟩ = false := by simp [World.frozen?, HK1.out]
 have k5 : w2.cell? ⟨D1, 5, none⟩ = some (.slice A5 f5.length c5) := by simp [World.cell?, HK1.out]
 have kf5 : w2.frozen? ⟨D1, 5, none⟩ = false := by simp [World.frozen?, HK1.out]
 have k6 : w2.cell? ⟨D1, 6, none⟩ = some (.slice A6 f6.length c6) := by simp [World.cell?, HK1.out]
 have kf6 : w2.frozen? ⟨D1, 6, none⟩ = false := by simp [World.frozen?, HK1.out]
 have g0 : w2.cell? ⟨D2, 0, none⟩ = some (.int .i64 k) := by simp [World.cell?, HK2.out]
 have gf0 : w2.frozen? ⟨D2, 0, none⟩ = false := by simp [World.frozen?, HK2.out]
 have g1 : w2.cell? ⟨D2, 1, none⟩ = some (.bool bb) := by simp [World.cell?, HK2.out]
 have gf1 : w2.frozen? ⟨D2, 1, none⟩ = false := by simp [World.frozen?, HK2.out]
 have g2 : w2.cell? ⟨D2, 2, none⟩ = some (.slice B2 f2.length b2) := by simp [World.cell?, HK2.out]
 have gf2 : w2.frozen? ⟨D2, 2, none⟩ = false := by simp [World.frozen?, HK2.out]
 have g3 : w2.cell? ⟨D2, 3, none⟩ = some (.string s) := by simp [World.cell?, HK2.out]
 have gf3 : w2.frozen? ⟨D2, 3, none⟩ = false := by simp [World.frozen?, HK2.out]
 have g4 : w2.cell? ⟨D2, 4, none⟩ = some (.int .i64 nn) := by simp [World.cell?, HK2.out]
 have gf4 : w2.frozen? ⟨D2, 4, none⟩ = false := by simp [World.frozen?, HK2.out]
 have g5 : w2.cell? ⟨D2, 5, none⟩ = some (.slice B5 f5.length b5) := by simp [World.cell?, HK2.out]
 have gf5 : w2.frozen? ⟨D2, 5, none⟩ = false := by simp [World.frozen?, HK2.out]
 have g6 : w2.cell? ⟨D2, 6, none⟩ = some (.slice B6 f6.length b6) := by simp [World.cell?, HK2.out]
 have gf6 : w2.frozen? ⟨D2, 6, none⟩ = false := by simp [World.frozen?, HK2.out]
 rcases key with rfl | rfl | rfl | rfl | rfl | rfl | rfl | rfl
 ·go_enter Tryd.func58, Tryd.ntmps58
  go_upto_region 1 with (fail)
  (try simp only [hw1, hD1])
  (try simp only [hw2, hD2])
  clear hw1 hw2 hD1 hD2
  go_wp2_with (first | (go_at_call 83; (with_reducible refine (cmpnum_c bb A2 B2 c2 b2 f2 _ (rd_of_R HA.out.r2) (rd_of_R HB.out.r2) HL2.out).mono ?_); rintro e wx ⟨rfl, hf⟩; have HFE := Lib.hid (HF2.out.trans hf); clear hf))
  go_ret
  exact ⟨rfl, HFE.out⟩
 ·go_enter Tryd.func58, Tryd.ntmps58
  go_upto_region 1 with (fail)
  (try simp only [hw1, hD1])
  (try simp only [hw2, hD2])
  clear hw1 hw2 hD1 hD2
  go_wp2_with (first | (go_at_call 84; (with_reducible refine (less_c HS.out _).mono ?_); rintro e wx ⟨rfl, hf⟩; have HFE := Lib.hid (HF2.out.trans hf); clear hf))
  go_ret
  exact ⟨rfl, HFE.out⟩
 ·go_enter Tryd.func58, Tryd.ntmps58
  go_upto_region 1 with (fail)
  (try simp only [hw1, hD1])
  (try simp only [hw2, hD2])
  clear hw1 hw2 hD1 hD2
  go_wp2_with (first | (go_at_call 82; (with_reducible refine (order_c _ _).mono ?_); rintro e wx ⟨rfl, hd⟩; have HFE := Lib.hid (HF2.out.trans (Fr.of_below hd.below _)); clear hd))
  go_ret
  exact ⟨rfl, HFE.out⟩
 ·go_enter Tryd.func58, Tryd.ntmps58
  go_upto_region 1 with (fail)
  (try simp only [hw1, hD1])
  (try simp only [hw2, hD2])
  clear hw1 hw2 hD1 hD2
  go_wp2_with (first | (go_at_call 82; (with_reducible refine (order_c _ _).mono ?_); rintro e wx ⟨rfl, hd⟩; have HFE := Lib.hid (HF2.out.trans (Fr.of_below hd.below _)); clear hd))
  go_ret
  exact ⟨rfl, HFE.out⟩
 ·go_enter Tryd.func58, Tryd.ntmps58
  go_upto_region 1 with (fail)
  (try simp only [hw1, hD1])
  (try simp only [hw2, hD2])
  clear hw1 hw2 hD1 hD2
  go_wp2_with (first | (go_at_call 85; (with_reducible refine (bytew_c f6 HL6.out A6 B6 c6 b6 _ (Kd.R_reads' HA.out.r6).2.2 (Kd.R_reads' HA.out.r6).2.1 (Kd.R_reads' HB.out.r6).2.2 (Kd.R_reads' HB.out.r6).2.1).mono ?_); rintro e wx ⟨rfl, hd⟩; have HFE := Lib.hid (HF2.out.trans (Fr.of_below hd.below _)); clear hd))
  go_ret
  exact ⟨rfl, HFE.out⟩
 ·go_enter Tryd.func58, Tryd.ntmps58
  go_upto_region 1 with (fail)
  (try simp only [hw1, hD1])
  (try simp only [hw2, hD2])
  clear hw1 hw2 hD1 hD2
  go_wp2
  go_ret
  exact ⟨rfl, HF2.out⟩
 ·go_enter Tryd.func58, Tryd.ntmps58
  go_upto_region 1 with (fail)
  (try simp only [hw1, hD1])
  (try simp only [hw2, hD2])
  clear hw1 hw2 hD1 hD2
  go_wp2
  go_loopg [5] f5.length (fun g a5 wr => ∃ i : Nat, a5 = .int .i64 i ∧ g + i = f5.length ∧ Hid (Fr w2 wr (fun _ => False)))
  case atStart => exact ⟨0, rfl, by omega, Lib.hid (Fr.refl _ _)⟩
  case round =>
   obtain ⟨i, rfl, hgi, HI⟩ := hrel
   have HGI := Lib.hid hgi
   clear hgi k0 kf0 g0 gf0 k1 kf1 g1 gf1 k2 kf2 g2 gf2 k3 kf3 g3 gf3 k4 kf4 g4 gf4 k5 kf5 g5 gf5 k6 kf6 g6 gf6
   have HK1r := Lib.hid (HI.out.blk HK1.out (fun h => h))
   have HK2r := Lib.hid (HI.out.blk HK2.out (fun h => h))
   have k0 : wr.cell? ⟨D1, 0, none⟩ = some (.int .i64 4) := by simp [World.cell?, HK1r.out]
   have kf0 : wr.frozen? ⟨D1, 0, none⟩ = false := by simp [World.frozen?, HK1r.out]
   have k1 : wr.cell? ⟨D1, 1, none⟩ = some (.bool bb) := by simp [World.cell?, HK1r.out]
   have kf1 : wr.frozen? ⟨D1, 1, none⟩ = false := by simp [World.frozen?, HK1r.out]
   have k2 : wr.cell? ⟨D1, 2, none⟩ = some (.slice A2 f2.length c2) := by simp [World.cell?, HK1r.out]
   have kf2 : wr.frozen? ⟨D1, 2, none⟩ = false := by simp [World.frozen?, HK1r.out]
   have k3 : wr.cell? ⟨D1, 3, none⟩ = some (.string s) := by simp [World.cell?, HK1r.out]
   have kf3 : wr.frozen? ⟨D1, 3, none⟩ = false := by simp [World.frozen?, HK1r.out]
   have k4 : wr.cell? ⟨D1, 4, none⟩ = some (.int .i64 nn) := by simp [World.cell?, HK1r.out]
   have kf4 : wr.frozen? ⟨D1, 4, none⟩ = false := by simp [World.frozen?, HK1r.out]
   have k5 : wr.cell? ⟨D1, 5, none⟩ = some (.slice A5 f5.length c5) := by simp [World.cell?, HK1r.out]
   have kf5 : wr.frozen? ⟨D1, 5, none⟩ = false := by simp [World.frozen?, HK1r.out]
   have k6 : wr.cell? ⟨D1, 6, none⟩ = some (.slice A6 f6.length c6) := by simp [World.cell?, HK1r.out]
   have kf6 : wr.frozen? ⟨D1, 6, none⟩ = false := by simp [World.frozen?, HK1r.out]
   have g0 : wr.cell? ⟨D2, 0, none⟩ = some (.int .i64 4) := by simp [World.cell?, HK2r.out]
   have gf0 : wr.frozen? ⟨D2, 0, none⟩ = false := by simp [World.frozen?, HK2r.out]
   have g1 : wr.cell? ⟨D2, 1, none⟩ = some (.bool bb) := by simp [World.cell?, HK2r.out]
   have gf1 : wr.frozen? ⟨D2, 1, none⟩ = false := by simp [World.frozen?, HK2r.out]
   have g2 : wr.cell? ⟨D2, 2, none⟩ = some (.slice B2 f2.length b2) := by simp [World.cell?, HK2r.out]
   have gf2 : wr.frozen? ⟨D2, 2, none⟩ = false := by simp [World.frozen?, HK2r.out]
   have g3 : wr.cell? ⟨D2, 3, none⟩ = some (.string s) := by simp [World.cell?, HK2r.out]
   have gf3 : wr.frozen? ⟨D2, 3, none⟩ = false := by simp [World.frozen?, HK2r.out]
   have g4 : wr.cell? ⟨D2, 4, none⟩ = some (.int .i64 nn) := by simp [World.cell?, HK2r.out]
   have gf4 : wr.frozen? ⟨D2, 4, none⟩ = false := by simp [World.frozen?, HK2r.out]
   have g5 : wr.cell? ⟨D2, 5, none⟩ = some (.slice B5 f5.length b5) := by simp [World.cell?, HK2r.out]
   have gf5 : wr.frozen? ⟨D2, 5, none⟩ = false := by simp [World.frozen?, HK2r.out]
   have g6 : wr.cell? ⟨D2, 6, none⟩ = some (.slice B6 f6.length b6) := by simp [World.cell?, HK2r.out]
   have gf6 : wr.frozen? ⟨D2, 6, none⟩ = false := by simp [World.frozen?, HK2r.out]
   have qi : (i : Int) ≤ 255 := by have := HGI.out; omega
   by_cases hi : i < f5.length
   ·have d1 : decide (i < f5.length) = true := decide_eq_true hi
    have q1 : (i : Int) < f5.length := by omega
    obtain ⟨ga, x2, x5, x6, rfl, p0, p1, p2, p3, p4, p5, p6, hra⟩ := at_elem (HA.out.fr HI.out).r5 i hi
    obtain ⟨gb, y2, y5, y6, rfl, r0, r1, r2, r3, r4, r5, r6, hrb⟩ := at_elem (HB.out.fr HI.out).r5 i hi
    obtain ⟨tm, htm⟩ : ∃ tm, f5.getD i z26 = tm := ⟨_, rfl⟩
    have HOK : Hid (OkT d tm) := Lib.hid (by rw [← htm]; exact HCH.out _ (by rw [List.getD_eq_getElem?_getD, List.getElem?_eq_getElem hi]; exact List.getElem_mem hi))
    rw [htm] at p0 p1 p3 p4 hra r0 r1 r3 r4 hrb
    obtain ⟨U2, u2, rfl⟩ := Kd.R_slice hra.r2
    obtain ⟨U5, u5, rfl⟩ := Kd.R_slice hra.r5
    obtain ⟨U6, u6, rfl⟩ := Kd.R_slice hra.r6
    obtain ⟨V2, v2, rfl⟩ := Kd.R_slice hrb.r2
    obtain ⟨V5, v5, rfl⟩ := Kd.R_slice hrb.r5
    obtain ⟨V6, v6, rfl⟩ := Kd.R_slice hrb.r6
    have HRA := Lib.hid hra
    have HRB := Lib.hid hrb
    have HIL := Lib.hid hi
    clear hra hrb htm hi
    go_upto_region 20 with (fail)
    refine wp_region_cls (S := fun w' => Fr wr w' (fun _ => False)) (by kernel_rfl) (by kernel_rfl) ((Fr.refl wr _).drew) (fun ne => ?_)
    generalize hS : (fun w' : World => Fr wr w' (fun _ => False)) = S
    replace ne : Nonempty (Cw S) := by subst hS; exact ne
    have e1 : ∀ x : Cw S, x.val.cell? ⟨D1, 5, none⟩ = some (.slice (some ⟨ga, 0, none⟩) f5.length c5) := by subst hS; exact fun x => x.prop.cell k5 (fun h => h)
    have e2 : ∀ x : Cw S, x.val.cell? ⟨D2, 5, none⟩ = some (.slice (some ⟨gb, 0, none⟩) f5.length b5) := by subst hS; exact fun x => x.prop.cell g5 (fun h => h)
    have pe0 : ∀ x : Cw S, x.val.cell? ⟨ga, i * 7, none⟩ = some (.int .i64 tm.f0) := by subst hS; exact fun x => x.prop.cell p0 (fun h => h)
    have pe1 : ∀ x : Cw S, x.val.cell? ⟨ga, i * 7 + 1, none⟩ = some (.bool tm.f1) := by subst hS; exact fun x => x.prop.cell p1 (fun h => h)
    have pe2 : ∀ x : Cw S, x.val.cell? ⟨ga, i * 7 + 2, none⟩ = some (.slice U2 tm.f2.length u2) := by subst hS; exact fun x => x.prop.cell p2 (fun h => h)
    have pe3 : ∀ x : Cw S, x.val.cell? ⟨ga, i * 7 + 3, none⟩ = some (.string tm.f3) := by subst hS; exact fun x => x.prop.cell p3 (fun h => h)
    have pe4 : ∀ x : Cw S, x.val.cell? ⟨ga, i * 7 + 4, none⟩ = some (.int .i64 tm.f4) := by subst hS; exact fun x => x.prop.cell p4 (fun h => h)
    have pe5 : ∀ x : Cw S, x.val.cell? ⟨ga, i * 7 + 5, none⟩ = some (.slice U5 tm.f5.length u5) := by subst hS; exact fun x => x.prop.cell p5 (fun h => h)
    have pe6 : ∀ x : Cw S, x.val.cell? ⟨ga, i * 7 + 6, none⟩ = some (.slice U6 tm.f6.length u6) := by subst hS; exact fun x => x.prop.cell p6 (fun h => h)
    have re0 : ∀ x : Cw S, x.val.cell? ⟨gb, i * 7, none⟩ = some (.int .i64 tm.f0) := by subst hS; exact fun x => x.prop.cell r0 (fun h => h)
    have re1 : ∀ x : Cw S, x.val.cell? ⟨gb, i * 7 + 1, none⟩ = some (.bool tm.f1) := by subst hS; exact fun x => x.prop.cell r1 (fun h => h)
    have re2 : ∀ x : Cw S, x.val.cell? ⟨gb, i * 7 + 2, none⟩ = some (.slice V2 tm.f2.length v2) := by subst hS; exact fun x => x.prop.cell r2 (fun h => h)
    have re3 : ∀ x : Cw S, x.val.cell? ⟨gb, i * 7 + 3, none⟩ = some (.string tm.f3) := by subst hS; exact fun x => x.prop.cell r3 (fun h => h)
    have re4 : ∀ x : Cw S, x.val.cell? ⟨gb, i * 7 + 4, none⟩ = some (.int .i64 tm.f4) := by subst hS; exact fun x => x.prop.cell r4 (fun h => h)
    have re5 : ∀ x : Cw S, x.val.cell? ⟨gb, i * 7 + 5, none⟩ = some (.slice V5 tm.f5.length v5) := by subst hS; exact fun x => x.prop.cell r5 (fun h => h)
    have re6 : ∀ x : Cw S, x.val.cell? ⟨gb, i * 7 + 6, none⟩ = some (.slice V6 tm.f6.length v6) := by subst hS; exact fun x => x.prop.cell r6 (fun h => h)
    have HXS : Hid (∀ w', S w' → Fr wr w' (fun _ => False)) := Lib.hid (by subst hS; exact fun w' h => h)
    have HK3 : Hid (∀ w1 w2 : World, S w1 → Fr w1 w2 (fun _ => False) → S w2) := Lib.hid (by subst hS; exact fun w1 w2 h hb => h.trans hb)
    have HCA : Hid (∀ w', S w' → RT w' tm (.slice U2 tm.f2.length u2) (.slice U5 tm.f5.length u5) (.slice U6 tm.f6.length u6)) := Lib.hid (by subst hS; exact fun w' h => HRA.out.fr h)
    have HCB : Hid (∀ w', S w' → RT w' tm (.slice V2 tm.f2.length v2) (.slice V5 tm.f5.length v5) (.slice V6 tm.f6.length v6)) := Lib.hid (by subst hS; exact fun w' h => HRB.out.fr h)
    have HCX : Hid (∀ x : Cw S, Calls Tryd.prog 58 #[.agg #[.int .i64 tm.f0, .bool tm.f1, .slice U2 tm.f2.length u2, .string tm.f3, .int .i64 tm.f4, .slice U5 tm.f5.length u5, .slice U6 tm.f6.length u6], .agg #[.int .i64 tm.f0, .bool tm.f1, .slice V2 tm.f2.length v2, .string tm.f3, .int .i64 tm.f4, .slice V5 tm.f5.length v5, .slice V6 tm.f6.length v6]] x.val fun e w' => e = .returned (.int .i64 0) ∧ Fr x.val w' (fun _ => False)) := Lib.hid (fun x => HIH.out tm U2 U5 U6 V2 V5 V6 u2 u5 u6 v2 v5 v6 x.val HOK.out (HCA.out _ x.prop) (HCB.out _ x.prop))
    clear hS p0 p1 p2 p3 p4 p5 p6 r0 r1 r2 r3 r4 r5 r6 k0 kf0 g0 gf0 k1 kf1 g1 gf1 k2 kf2 g2 gf2 k3 kf3 g3 gf3 k4 kf4 g4 gf4 k5 kf5 g5 gf5 k6 kf6 g6 gf6
    repeat (any_goals (first | go_big_quiet_step ((go_at_call 58; with_reducible exact Cw.call (HCX.out _) (fun w' h => HK3.out _ _ (Cw.prop _) h))) | quiet_step ((go_at_call 58; with_reducible exact Cw.call (HCX.out _) (fun w' h => HK3.out _ _ (Cw.prop _) h)))))
    all_goals
     refine wpQuiet_nil ?_
     intro w13 hw13
     obtain ⟨⟨w13, hS13⟩, rfl⟩ := hw13
     have h13 := HXS.out _ hS13
     have HF13 := Lib.hid (HI.out.trans h13)
     clear h13 hS13 HCX HCA HCB HK3 HXS ne e1 e2 pe0 re0 pe1 re1 pe2 re2 pe3 re3 pe4 re4 pe5 re5 pe6 re6
     go_wp2
     go_roundg (gk - 1)
     case measure => have := HGI.out; have := HIL.out; omega
     case rel => exact ⟨i + 1, by first | rfl | go_num, by have := HGI.out; have := HIL.out; omega, HF13⟩
   ·have d1 : decide (i < f5.length) = false := decide_eq_false hi
    go_wp2
    go_ret
    exact ⟨rfl, HF2.out.trans HI.out⟩
 ·go_enter Tryd.func58, Tryd.ntmps58
  go_upto_region 1 with (fail)
  (try simp only [hw1, hD1])
  (try simp only [hw2, hD2])
  clear hw1 hw2 hD1 hD2
  go_wp2
  go_loopg [5] f5.length (fun g a5 wr => ∃ i : Nat, a5 = .int .i64 i ∧ g + i = f5.length ∧ Hid (Fr w2 wr (fun _ => False)))
  case atStart => exact ⟨0, rfl, by omega, Lib.hid (Fr.refl _ _)⟩
  case round =>
   obtain ⟨i, rfl, hgi, HI⟩ := hrel
   have HGI := Lib.hid hgi
   clear hgi k0 kf0 g0 gf0 k1 kf1 g1 gf1 k2 kf2 g2 gf2 k3 kf3 g3 gf3 k4 kf4 g4 gf4 k5 kf5 g5 gf5 k6 kf6 g6 gf6
   have HK1r := Lib.hid (HI.out.blk HK1.out (fun h => h))
   have HK2r := Lib.hid (HI.out.blk HK2.out (fun h => h))
   have k0 : wr.cell? ⟨D1, 0, none⟩ = some (.int .i64 6) := by simp [World.cell?, HK1r.out]
   have kf0 : wr.frozen? ⟨D1, 0, none⟩ = false := by simp [World.frozen?, HK1r.out]
   have k1 : wr.cell? ⟨D1, 1, none⟩ = some (.bool bb) := by simp [World.cell?, HK1r.out]
   have kf1 : wr.frozen? ⟨D1, 1, none⟩ = false := by simp [World.frozen?, HK1r.out]
   have k2 : wr.cell? ⟨D1, 2, none⟩ = some (.slice A2 f2.length c2) := by simp [World.cell?, HK1r.out]
   have kf2 : wr.frozen? ⟨D1, 2, none⟩ = false := by simp [World.frozen?, HK1r.out]
   have k3 : wr.cell? ⟨D1, 3, none⟩ = some (.string s) := by simp [World.cell?, HK1r.out]
   have kf3 : wr.frozen? ⟨D1, 3, none⟩ = false := by simp [World.frozen?, HK1r.out]
   have k4 : wr.cell? ⟨D1, 4, none⟩ = some (.int .i64 nn) := by simp [World.cell?, HK1r.out]
   have kf4 : wr.frozen? ⟨D1, 4, none⟩ = false := by simp [World.frozen?, HK1r.out]
   have k5 : wr.cell? ⟨D1, 5, none⟩ = some (.slice A5 f5.length c5) := by simp [World.cell?, HK1r.out]
   have kf5 : wr.frozen? ⟨D1, 5, none⟩ = false := by simp [World.frozen?, HK1r.out]
   have k6 : wr.cell? ⟨D1, 6, none⟩ = some (.slice A6 f6.length c6) := by simp [World.cell?, HK1r.out]
   have kf6 : wr.frozen? ⟨D1, 6, none⟩ = false := by simp [World.frozen?, HK1r.out]
   have g0 : wr.cell? ⟨D2, 0, none⟩ = some (.int .i64 6) := by simp [World.cell?, HK2r.out]
   have gf0 : wr.frozen? ⟨D2, 0, none⟩ = false := by simp [World.frozen?, HK2r.out]
   have g1 : wr.cell? ⟨D2, 1, none⟩ = some (.bool bb) := by simp [World.cell?, HK2r.out]
   have gf1 : wr.frozen? ⟨D2, 1, none⟩ = false := by simp [World.frozen?, HK2r.out]
   have g2 : wr.cell? ⟨D2, 2, none⟩ = some (.slice B2 f2.length b2) := by simp [World.cell?, HK2r.out]
   have gf2 : wr.frozen? ⟨D2, 2, none⟩ = false := by simp [World.frozen?, HK2r.out]
   have g3 : wr.cell? ⟨D2, 3, none⟩ = some (.string s) := by simp [World.cell?, HK2r.out]
   have gf3 : wr.frozen? ⟨D2, 3, none⟩ = false := by simp [World.frozen?, HK2r.out]
   have g4 : wr.cell? ⟨D2, 4, none⟩ = some (.int .i64 nn) := by simp [World.cell?, HK2r.out]
   have gf4 : wr.frozen? ⟨D2, 4, none⟩ = false := by simp [World.frozen?, HK2r.out]
   have g5 : wr.cell? ⟨D2, 5, none⟩ = some (.slice B5 f5.length b5) := by simp [World.cell?, HK2r.out]
   have gf5 : wr.frozen? ⟨D2, 5, none⟩ = false := by simp [World.frozen?, HK2r.out]
   have g6 : wr.cell? ⟨D2, 6, none⟩ = some (.slice B6 f6.length b6) := by simp [World.cell?, HK2r.out]
   have gf6 : wr.frozen? ⟨D2, 6, none⟩ = false := by simp [World.frozen?, HK2r.out]
   have qi : (i : Int) ≤ 255 := by have := HGI.out; omega
   by_cases hi : i < f5.length
   ·have d1 : decide (i < f5.length) = true := decide_eq_true hi
    have q1 : (i : Int) < f5.length := by omega
    obtain ⟨ga, x2, x5, x6, rfl, p0, p1, p2, p3, p4, p5, p6, hra⟩ := at_elem (HA.out.fr HI.out).r5 i hi
    obtain ⟨gb, y2, y5, y6, rfl, r0, r1, r2, r3, r4, r5, r6, hrb⟩ := at_elem (HB.out.fr HI.out).r5 i hi
    obtain ⟨tm, htm⟩ : ∃ tm, f5.getD i z26 = tm := ⟨_, rfl⟩
    have HOK : Hid (OkT d tm) := Lib.hid (by rw [← htm]; exact HCH.out _ (by rw [List.getD_eq_getElem?_getD, List.getElem?_eq_getElem hi]; exact List.getElem_mem hi))
    rw [htm] at p0 p1 p3 p4 hra r0 r1 r3 r4 hrb
    obtain ⟨U2, u2, rfl⟩ := Kd.R_slice hra.r2
    obtain ⟨U5, u5, rfl⟩ := Kd.R_slice hra.r5
    obtain ⟨U6, u6, rfl⟩ := Kd.R_slice hra.r6
    obtain ⟨V2, v2, rfl⟩ := Kd.R_slice hrb.r2
    obtain ⟨V5, v5, rfl⟩ := Kd.R_slice hrb.r5
    obtain ⟨V6, v6, rfl⟩ := Kd.R_slice hrb.r6
    have HRA := Lib.hid hra
    have HRB := Lib.hid hrb
    have HIL := Lib.hid hi
    clear hra hrb htm hi
    go_upto_region 20 with (fail)
    refine wp_region_cls (S := fun w' => Fr wr w' (fun _ => False)) (by kernel_rfl) (by kernel_rfl) ((Fr.refl wr _).drew) (fun ne => ?_)
    generalize hS : (fun w' : World => Fr wr w' (fun _ => False)) = S
    replace ne : Nonempty (Cw S) := by subst hS; exact ne
    have e1 : ∀ x : Cw S, x.val.cell? ⟨D1, 5, none⟩ = some (.slice (some ⟨ga, 0, none⟩) f5.length c5) := by subst hS; exact fun x => x.prop.cell k5 (fun h => h)
    have e2 : ∀ x : Cw S, x.val.cell? ⟨D2, 5, none⟩ = some (.slice (some ⟨gb, 0, none⟩) f5.length b5) := by subst hS; exact fun x => x.prop.cell g5 (fun h => h)
    have pe0 : ∀ x : Cw S, x.val.cell? ⟨ga, i * 7, none⟩ = some (.int .i64 tm.f0) := by subst hS; exact fun x => x.prop.cell p0 (fun h => h)
    have pe1 : ∀ x : Cw S, x.val.cell? ⟨ga, i * 7 + 1, none⟩ = some (.bool tm.f1) := by subst hS; exact fun x => x.prop.cell p1 (fun h => h)
    have pe2 : ∀ x : Cw S, x.val.cell? ⟨ga, i * 7 + 2, none⟩ = some (.slice U2 tm.f2.length u2) := by subst hS; exact fun x => x.prop.cell p2 (fun h => h)
    have pe3 : ∀ x : Cw S, x.val.cell? ⟨ga, i * 7 + 3, none⟩ = some (.string tm.f3) := by subst hS; exact fun x => x.prop.cell p3 (fun h => h)
    have pe4 : ∀ x : Cw S, x.val.cell? ⟨ga, i * 7 + 4, none⟩ = some (.int .i64 tm.f4) := by subst hS; exact fun x => x.prop.cell p4 (fun h => h)
    have pe5 : ∀ x : Cw S, x.val.cell? ⟨ga, i * 7 + 5, none⟩ = some (.slice U5 tm.f5.length u5) := by subst hS; exact fun x => x.prop.cell p5 (fun h => h)
    have pe6 : ∀ x : Cw S, x.val.cell? ⟨ga, i * 7 + 6, none⟩ = some (.slice U6 tm.f6.length u6) := by subst hS; exact fun x => x.prop.cell p6 (fun h => h)
    have re0 : ∀ x : Cw S, x.val.cell? ⟨gb, i * 7, none⟩ = some (.int .i64 tm.f0) := by subst hS; exact fun x => x.prop.cell r0 (fun h => h)
    have re1 : ∀ x : Cw S, x.val.cell? ⟨gb, i * 7 + 1, none⟩ = some (.bool tm.f1) := by subst hS; exact fun x => x.prop.cell r1 (fun h => h)
    have re2 : ∀ x : Cw S, x.val.cell? ⟨gb, i * 7 + 2, none⟩ = some (.slice V2 tm.f2.length v2) := by subst hS; exact fun x => x.prop.cell r2 (fun h => h)
    have re3 : ∀ x : Cw S, x.val.cell? ⟨gb, i * 7 + 3, none⟩ = some (.string tm.f3) := by subst hS; exact fun x => x.prop.cell r3 (fun h => h)
    have re4 : ∀ x : Cw S, x.val.cell? ⟨gb, i * 7 + 4, none⟩ = some (.int .i64 tm.f4) := by subst hS; exact fun x => x.prop.cell r4 (fun h => h)
    have re5 : ∀ x : Cw S, x.val.cell? ⟨gb, i * 7 + 5, none⟩ = some (.slice V5 tm.f5.length v5) := by subst hS; exact fun x => x.prop.cell r5 (fun h => h)
    have re6 : ∀ x : Cw S, x.val.cell? ⟨gb, i * 7 + 6, none⟩ = some (.slice V6 tm.f6.length v6) := by subst hS; exact fun x => x.prop.cell r6 (fun h => h)
    have HXS : Hid (∀ w', S w' → Fr wr w' (fun _ => False)) := Lib.hid (by subst hS; exact fun w' h => h)
    have HK3 : Hid (∀ w1 w2 : World, S w1 → Fr w1 w2 (fun _ => False) → S w2) := Lib.hid (by subst hS; exact fun w1 w2 h hb => h.trans hb)
    have HCA : Hid (∀ w', S w' → RT w' tm (.slice U2 tm.f2.length u2) (.slice U5 tm.f5.length u5) (.slice U6 tm.f6.length u6)) := Lib.hid (by subst hS; exact fun w' h => HRA.out.fr h)
    have HCB : Hid (∀ w', S w' → RT w' tm (.slice V2 tm.f2.length v2) (.slice V5 tm.f5.length v5) (.slice V6 tm.f6.length v6)) := Lib.hid (by subst hS; exact fun w' h => HRB.out.fr h)
    have HCX : Hid (∀ x : Cw S, Calls Tryd.prog 58 #[.agg #[.int .i64 tm.f0, .bool tm.f1, .slice U2 tm.f2.length u2, .string tm.f3, .int .i64 tm.f4, .slice U5 tm.f5.length u5, .slice U6 tm.f6.length u6], .agg #[.int .i64 tm.f0, .bool tm.f1, .slice V2 tm.f2.length v2, .string tm.f3, .int .i64 tm.f4, .slice V5 tm.f5.length v5, .slice V6 tm.f6.length v6]] x.val fun e w' => e = .returned (.int .i64 0) ∧ Fr x.val w' (fun _ => False)) := Lib.hid (fun x => HIH.out tm U2 U5 U6 V2 V5 V6 u2 u5 u6 v2 v5 v6 x.val HOK.out (HCA.out _ x.prop) (HCB.out _ x.prop))
    clear hS p0 p1 p2 p3 p4 p5 p6 r0 r1 r2 r3 r4 r5 r6 k0 kf0 g0 gf0 k1 kf1 g1 gf1 k2 kf2 g2 gf2 k3 kf3 g3 gf3 k4 kf4 g4 gf4 k5 kf5 g5 gf5 k6 kf6 g6 gf6
    repeat (any_goals (first | go_big_quiet_step ((go_at_call 58; with_reducible exact Cw.call (HCX.out _) (fun w' h => HK3.out _ _ (Cw.prop _) h))) | quiet_step ((go_at_call 58; with_reducible exact Cw.call (HCX.out _) (fun w' h => HK3.out _ _ (Cw.prop _) h)))))
    all_goals
     refine wpQuiet_nil ?_
     intro w13 hw13
     obtain ⟨⟨w13, hS13⟩, rfl⟩ := hw13
     have h13 := HXS.out _ hS13
     have HF13 := Lib.hid (HI.out.trans h13)
     clear h13 hS13 HCX HCA HCB HK3 HXS ne e1 e2 pe0 re0 pe1 re1 pe2 re2 pe3 re3 pe4 re4 pe5 re5 pe6 re6
     go_wp2
     go_roundg (gk - 1)
     case measure => have := HGI.out; have := HIL.out; omega
     case rel => exact ⟨i + 1, by first | rfl | go_num, by have := HGI.out; have := HIL.out; omega, HF13⟩
   ·have d1 : decide (i < f5.length) = false := decide_eq_false hi
    go_wp2
    go_ret
    exact ⟨rfl, HF2.out.trans HI.out⟩
theorem cmp_c : ∀ d, CmpC d
 | 0 => fun t _ _ _ _ _ _ _ _ _ _ _ _ _ h => h.elim
 | d + 1 => cmp_of d (cmp_c d)
set_option maxRecDepth 100000 in
set_option maxHeartbeats 2000000 in
theorem same_c (d : Nat) (t : S26) (A2 A5 A6 B2 B5 B6 : Option Addr) (c2 c5 c6 b2 b5 b6 : Nat) (w : World) (hok : OkT d t) (ha : RT w t (.slice A2 t.f2.length c2) (.slice A5 t.f5.length c5) (.slice A6 t.f6.length c6)) (hb : RT w t (.slice B2 t.f2.length b2) (.slice B5 t.f5.length b5) (.slice B6 t.f6.length b6)) :
  Calls Tryd.prog 24 #[.agg #[.int .i64 t.f0, .bool t.f1, .slice A2 t.f2.length c2, .string t.f3, .int .i64 t.f4, .slice A5 t.f5.length c5, .slice A6 t.f6.length c6], .agg #[.int .i64 t.f0, .bool t.f1, .slice B2 t.f2.length b2, .string t.f3, .int .i64 t.f4, .slice B5 t.f5.length b5, .slice B6 t.f6.length b6]] w fun e w' => e = .returned (.bool true) ∧ Fr w w' (fun _ => False) := by
 obtain ⟨k, bb, f2, s, nn, f5, f6⟩ := t
 simp only at ha hb ⊢
 have hb0 : (w.alloc (.cells #[.int .i64 k, .bool bb, .slice A2 f2.length c2, .string s, .int .i64 nn, .slice A5 f5.length c5, .slice A6 f6.length c6] 26)).heap[w.heap.size]? = some (.cells #[.int .i64 k, .bool bb, .slice A2 f2.length c2, .string s, .int .i64 nn, .slice A5 f5.length c5, .slice A6 f6.length c6] 26 (0, 0)) := blk_new _ _ _
 obtain ⟨D1, hD1⟩ : ∃ D, w.heap.size = D := ⟨_, rfl⟩
 obtain ⟨w1, hw1⟩ : ∃ w1, w.alloc (.cells #[.int .i64 k, .bool bb, .slice A2 f2.length c2, .string s, .int .i64 nn, .slice A5 f5.length c5, .slice A6 f6.length c6] 26) = w1 := ⟨_, rfl⟩
 have hf1 : Fr w w1 (fun _ => False) := by rw [← hw1]; exact (Fr.refl w _).alloc _
 have hb1 : (w1.alloc (.cells #[.int .i64 k, .bool bb, .slice B2 f2.length b2, .string s, .int .i64 nn, .slice B5 f5.length b5, .slice B6 f6.length b6] 26)).heap[w1.heap.size]? = some (.cells #[.int .i64 k, .bool bb, .slice B2 f2.length b2, .string s, .int .i64 nn, .slice B5 f5.length b5, .slice B6 f6.length b6] 26 (0, 0)) := blk_new _ _ _
 obtain ⟨D2, hD2⟩ : ∃ D, w1.heap.size = D := ⟨_, rfl⟩
 obtain ⟨w2, hw2⟩ : ∃ w2, w1.alloc (.cells #[.int .i64 k, .bool bb, .slice B2 f2.length b2, .string s, .int .i64 nn, .slice B5 f5.length b5, .slice B6 f6.length b6] 26) = w2 := ⟨_, rfl⟩
 have hf2 : Fr w w2 (fun _ => False) := by rw [← hw2]; exact hf1.alloc _
 have hb02 : w2.heap[D1]? = some (.cells #[.int .i64 k, .bool bb, .slice A2 f2.length c2, .string s, .int .i64 nn, .slice A5 f5.length c5, .slice A6 f6.length c6] 26 (0, 0)) := by
  rw [← hw2, ← hD1]; exact ((Fr.refl w1 (fun _ => False)).alloc _).blk (by rw [← hw1]; exact hb0) (fun h => h)
 rw [hw2, hD2] at hb1
 have HF2 := Lib.hid hf2
 have HC := Lib.hid (cmp_c d ⟨k, bb, f2, s, nn, f5, f6⟩ A2 A5 A6 B2 B5 B6 c2 c5 c6 b2 b5 b6 w2 hok (ha.fr hf2) (hb.fr hf2))
 have k0 : w2.cell? ⟨D1, 0, none⟩ = some (.int .i64 k) := by simp [World.cell?, hb02]
 have kf0 : w2.frozen? ⟨D1, 0, none⟩ = false := by simp [World.frozen?, hb02]
 have k1 : w2.cell? ⟨D1, 1, none⟩ = some (.bool bb) := by simp [World.cell?, hb02]
 have kf1 : w2.frozen? ⟨D1, 1, none⟩ = false := by simp [World.frozen?, hb02]
 have k2 : w2.cell? ⟨D1, 2, none⟩ = some (.slice A2 f2.length c2) := by simp [World.cell?, hb02]
 have kf2 : w2.frozen? ⟨D1, 2, none⟩ = false := by simp [World.frozen?, hb02]
 have k3 : w2.cell? ⟨D1, 3, none⟩ = some (.string s) := by simp [World.cell?, hb02]
 have kf3 : w2.frozen? ⟨D1, 3, none⟩ = false := by simp [World.frozen?, hb02]
 have k4 : w2.cell? ⟨D1, 4, none⟩ = some (.int .i64 nn) := by simp [World.cell?, hb02]
 have kf4 : w2.frozen? ⟨D1, 4, none⟩ = false := by simp [World.frozen?, hb02]
 have k5 : w2.cell? ⟨D1, 5, none⟩ = some (.slice A5 f5.length c5) := by simp [World.cell?, hb02]
 have kf5 : w2.frozen? ⟨D1, 5, none⟩ = false := by simp [World.frozen?, hb02]
 have k6 : w2.cell? ⟨D1, 6, none⟩ = some (.slice A6 f6.length c6) := by simp [World.cell?, hb02]
 have kf6 : w2.frozen? ⟨D1, 6, none⟩ = false := by simp [World.frozen?, hb02]
 have g0 : w2.cell? ⟨D2, 0, none⟩ = some (.int .i64 k) := by simp [World.cell?, hb1]
 have gf0 : w2.frozen? ⟨D2, 0, none⟩ = false := by simp [World.frozen?, hb1]
 have g1 : w2.cell? ⟨D2, 1, none⟩ = some (.bool bb) := by simp [World.cell?, hb1]
 have gf1 : w2.frozen? ⟨D2, 1, none⟩ = false := by simp [World.frozen?, hb1]
 have g2 : w2.cell? ⟨D2, 2, none⟩ = some (.slice B2 f2.length b2) := by simp [World.cell?, hb1]
 have gf2 : w2.frozen? ⟨D2, 2, none⟩ = false := by simp [World.frozen?, hb1]
 have g3 : w2.cell? ⟨D2, 3, none⟩ = some (.string s) := by simp [World.cell?, hb1]
 have gf3 : w2.frozen? ⟨D2, 3, none⟩ = false := by simp [World.frozen?, hb1]
 have g4 : w2.cell? ⟨D2, 4, none⟩ = some (.int .i64 nn) := by simp [World.cell?, hb1]
 have gf4 : w2.frozen? ⟨D2, 4, none⟩ = false := by simp [World.frozen?, hb1]
 have g5 : w2.cell? ⟨D2, 5, none⟩ = some (.slice B5 f5.length b5) := by simp [World.cell?, hb1]
 have gf5 : w2.frozen? ⟨D2, 5, none⟩ = false := by simp [World.frozen?, hb1]
 have g6 : w2.cell? ⟨D2, 6, none⟩ = some (.slice B6 f6.length b6) := by simp [World.cell?, hb1]
 have gf6 : w2.frozen? ⟨D2, 6, none⟩ = false := by simp [World.frozen?, hb1]
 clear hf1 hf2 hb02 hb1 hb0 ha hb hok
 go_enter Tryd.func24, Tryd.ntmps24
 go_upto_region 1 with (fail)
 (try simp only [hw1, hD1])
 (try simp only [hw2, hD2])
 clear hw1 hw2 hD1 hD2
 go_wp2_with (first | (go_at_call 58; (with_reducible refine HC.out.mono ?_); rintro e wx ⟨rfl, hf⟩; have HFE := Lib.hid (HF2.out.trans hf); clear hf))
 go_ret
 exact ⟨rfl, HFE.out⟩
end Go.Proofs.YtjiaaefpepdoeaaDoor
namespace Go.Proofs.YtjiaaefpepdoeaaDoor.Rl
open Go.RowKit Md
set_option linter.unusedVariables false
structure LV (w W : World) (p : Nat) (v : Value) (ws rs : List Int) (size : Int) (sv tv : Value) (seen : List Bool) (todo : List Int) : Prop where
 ar : Ar 46 W p v ws size
 fr : Fr w W fun _ => False
 so : Own W 4 sv (bw seen)
 own : Own W 39 tv (uw todo)
 ins : ∀ k, InBlk sv k → w.heap.size ≤ k
 int : ∀ k, InBlk tv k → w.heap.size ≤ k
 vlt : ∀ k, InBlk v k → k < w.heap.size
 plt : p < w.heap.size
 okt : okWs todo
 sl : seen.length = ws.length
 back : ∀ r, Lv ws seen todo r → Lv ws (List.replicate ws.length false) rs r
section
variable {w W W1 : World} {p : Nat} {v : Value} {ws rs : List Int} {size : Int} {sv tv : Value} {seen : List Bool} {todo : List Int}
theorem LV.frm (h : LV w W p v ws rs size sv tv seen todo) (hf : Fr W W1 fun _ => False) : LV w W1 p v ws rs size sv tv seen todo :=
 ⟨h.ar.fr hf, h.fr.trans hf, h.so.keep hf (fun _ _ h => h), h.own.keep hf (fun _ _ h => h), h.ins, h.int, h.vlt, h.plt, h.okt, h.sl, h.back⟩
theorem LV.pop {g c n : Nat} {x : Int} {rest : List Int} (h : LV w W p v ws rs size sv (.slice (some ⟨g, 0, none⟩) (n + 1) c) seen (rest ++ [x])) (hn : rest.length = n) (hb : ∀ r, Lv ws seen rest r → Lv ws seen (rest ++ [x]) r) :
  LV w W p v ws rs size sv (.slice (some ⟨g, 0, none⟩) n c) seen rest :=
 ⟨h.ar, h.fr, h.so, Own.pop (x := .int .u64 x) (by have := h.own; rw [uw_append] at this; exact this) (by rw [uw_length]; exact hn), h.ins, fun k hk => h.int k (by simpa [InBlk, Value.ownBlock] using hk), h.vlt, h.plt, fun y hy => h.okt y (by simp [hy]), h.sl, fun r hr => h.back r (hb r hr)⟩
structure LW (w W : World) (p : Nat) (v : Value) (ws : List Int) (size : Int) (sv tv : Value) (seen : List Bool) (todo : List Int) : Prop where
 ar : Ar 46 W p v ws size
 fr : Fr w W fun _ => False
 so : Own W 4 sv (bw seen)
 own : Own W 39 tv (uw todo)
 ins : ∀ k, InBlk sv k → w.heap.size ≤ k
 int : ∀ k, InBlk tv k → w.heap.size ≤ k
 vlt : ∀ k, InBlk v k → k < w.heap.size
 plt : p < w.heap.size
 okt : okWs todo
 sl : seen.length = ws.length
theorem LV.lw (h : LV w W p v ws rs size sv tv seen todo) : LW w W p v ws size sv tv seen todo := ⟨h.ar, h.fr, h.so, h.own, h.ins, h.int, h.vlt, h.plt, h.okt, h.sl⟩
theorem LW.lv (h : LW w W p v ws size sv tv seen todo) (hb : ∀ r, Lv ws seen todo r → Lv ws (List.replicate ws.length false) rs r) : LV w W p v ws rs size sv tv seen todo := ⟨h.ar, h.fr, h.so, h.own, h.ins, h.int, h.vlt, h.plt, h.okt, h.sl, hb⟩
theorem LW.frm (h : LW w W p v ws size sv tv seen todo) (hf : Fr W W1 fun _ => False) : LW w W1 p v ws size sv tv seen todo :=
 ⟨h.ar.fr hf, h.fr.trans hf, h.so.keep hf (fun _ _ h => h), h.own.keep hf (fun _ _ h => h), h.ins, h.int, h.vlt, h.plt, h.okt, h.sl⟩
theorem LW.see {g k cb nb : Nat} (h : LW w W p v ws size (.slice (some ⟨g, 0, none⟩) nb cb) tv seen todo) (hnb : seen.length = nb) (hk : k < seen.length) :
  LW w (W.setCell ⟨g, k, none⟩ (.bool true)) p v ws size (.slice (some ⟨g, 0, none⟩) nb cb) tv (seen.set k true) todo := by
 subst hnb
 have hin : InBlk (.slice (some ⟨g, 0, none⟩) seen.length cb) g := by simp [InBlk, Value.ownBlock]
 have hs := Own.setAt (cap := cb) (g := g) (k := k) (u := .bool true) (xs := bw seen) (e := 4) (W := W) (by rw [bw_length]; exact h.so) (by rw [bw_length]; exact hk)
 have hf := hs.2
 have hs1 := hs.1
 rw [bw_length] at hs1
 have e1 : (bw seen).set k (.bool true) = bw (seen.set k true) := by unfold bw; rw [List.map_set]
 rw [e1] at hs1
 have hgw := h.ins g hin
 exact ⟨h.ar.keep hf (by have := h.plt; omega) (fun i hi e => by have := h.vlt i hi; omega), h.fr.setCell (S := fun _ => False) (a := ⟨g, k, none⟩) (fun (hlt : g < w.heap.size) => by omega) _, hs1, h.own.keep hf (fun i hi e => h.own.apart h.so (by decide) i hi (by rw [e]; exact hin)), h.ins, h.int, h.vlt, h.plt, h.okt, by rw [List.length_set]; exact h.sl⟩
end
theorem LW.app {w W : World} {p : Nat} {v : Value} {ws : List Int} {size : Int} {sv tv u : Value} {seen : List Bool} {todo xs : List Int} (h : LW w W p v ws size sv tv seen todo) (hu : Rd W u (uw xs)) (hx : okWs xs) (hlen : todo.length + xs.length ≤ 1073741824) :
  ∃ v' w1, (Builtin.append_ #[44, 44] 44 #[tv, u]).run Tryd.prog W = .ok v' w1 ∧ LW w w1 p v ws size sv v' seen (todo ++ xs) ∧ Fr W w1 (fun i => InBlk tv i) := by
 obtain ⟨i0, hi0, hz0, hz1, hzb⟩ := info_parts wordInfo
 obtain ⟨v', w1, hr, ho, hg, hn⟩ := run_append_rd (P := Tryd.prog) W 44 44 39 i0 (.int .u64 0) Tryd.underlying44 hi0 hz0 hz1 (by omega) rfl tv u _ _ h.own hu (uw_one _) (by rw [uw_length, uw_length]; exact hlen)
 rw [← uw_append] at ho
 have hf1 : Fr W w1 (fun i => InBlk tv i) := (Fr.refl W _).grown hg (fun k hk _ => hk)
 have n1 : ∀ k, InBlk v k → ¬ InBlk tv k := fun k hk e => by have := h.vlt k hk; have := h.int k e; omega
 have np : ¬ InBlk tv p := fun e => by have := h.plt; have := h.int p e; omega
 refine ⟨v', w1, hr, ⟨h.ar.keep hf1 np n1, h.fr.grown hg (fun k hk hlt => by have := h.int k hk; omega), h.so.keep hf1 (h.so.apart h.own (by decide)), ho, h.ins, fun k hk => ?_, h.vlt, h.plt, okWs_append h.okt hx, h.sl⟩, hf1⟩
 rcases hn k hk with h1 | h1
 ·exact h.int k h1
 ·exact Nat.le_trans h.fr.size h1
theorem okWs_fld {ws : List Int} (hok : okWs ws) (a : Int) (n : Nat) : okWs (fieldsAt ws a n) := fun w hw => by
 unfold fieldsAt at hw
 obtain ⟨k, _, rfl⟩ := List.mem_map.1 hw
 unfold rd0 rdAt
 split
 ·rename_i h
  simp only [Option.getD_some]
  exact hok _ (Md.getD_mem (by omega))
 ·exact ⟨Int.le_refl _, by decide⟩
set_option maxRecDepth 100000 in
set_option maxHeartbeats 4000000 in
theorem rlive_c (p : Nat) (v r : Value) (ws rs : List Int) (size : Int) (w : World) (h : Ar 46 w p v ws size) (hr : Rd w r (uw rs)) (hok : okWs rs) (hl : ws.length ≤ 4000) (hlr : rs.length ≤ 4000) :
  Calls Tryd.prog 55 #[.pointer (some ⟨p, 0, none⟩), r] w fun e w' => LvA w w' ws rs e := by
 have HL : Hid (ws.length ≤ 4000 ∧ rs.length ≤ 4000) := Lib.hid ⟨hl, hlr⟩
 have HM : Hid (rs.length + ws.length * ws.length ≤ 16004000) := Lib.hid (by
  have : ws.length * ws.length ≤ 4000 * 4000 := Nat.mul_le_mul hl hl
  omega)
 have HLR : Hid (rs.length ≤ 1073741824) := Lib.hid (by omega)
 obtain ⟨Av, cv, rfl⟩ := h.own.rd.len
 rw [uw_length] at h
 have H := Lib.hid h
 have HR := Lib.hid hr
 have HOK := Lib.hid hok
 have q1 : (ws.length : Int) ≤ 4000 := by omega
 have c0 := h.c0
 clear h hr hok hl hlr
 go_enter Tryd.func55, Tryd.ntmps55
 obtain ⟨w1, hmk, hbo, hfm⟩ := mk_bools ws.length w (by have := HL.out; omega)
 have HA1 := Lib.hid (H.out.fr hfm)
 have HR1 := Lib.hid (HR.out.keep hfm (fun _ _ h => h))
 have HB1 := Lib.hid hbo
 have HF1 := Lib.hid hfm
 clear hbo hfm
 go_upto_region 3 with (first
  | (go_at_call 18; (with_reducible refine (copy_c _ rs _ HR1.out HLR.out).mono ?_); rintro e w2 ⟨tv, rfl, hn⟩; have HC2 := Lib.hid hn; have HA2 := Lib.hid (HA1.out.fr hn.2.1); have HB2 := Lib.hid (HB1.out.keep hn.2.1 (fun _ _ h => h)); have HF2 := Lib.hid (HF1.out.trans hn.2.1); clear hn))
 have H0 : Hid (LV w w2 p (.slice Av ws.length cv) ws rs size (.slice (some ⟨w.heap.size, 0, none⟩) ws.length ws.length) tv (List.replicate ws.length false) rs) := Lib.hid ⟨HA2.out, HF2.out, HB2.out, HC2.out.1, (fun k hk => by simp [InBlk, Value.ownBlock] at hk; omega), (fun k hk => Nat.le_trans HF1.out.size (HC2.out.2.2 k hk)), H.out.own.lt, H.out.lt, HOK.out, by simp, fun r h => h⟩
 have HMU : Hid (mu ws (List.replicate ws.length false) rs ≤ rs.length + ws.length * ws.length) := Lib.hid (by unfold mu; rw [unseen_new]; exact Nat.le_refl _)
 obtain ⟨gs, hgs⟩ : ∃ gs, w.heap.size = gs := ⟨_, rfl⟩
 have HGS := Lib.hid hgs
 rw [hgs] at H0 ⊢
 clear HA1 HR1 HB1 HF1 HA2 HB2 HF2 HC2 hgs hmk c0
 go_loopg [7] (rs.length + ws.length * ws.length) (fun g a7 wr => ∃ (tv : Value) (seen : List Bool) (todo : List Int), tv = a7 ∧ Hid (mu ws seen todo ≤ g ∧ g ≤ rs.length + ws.length * ws.length) ∧ Hid (LV w wr p (.slice Av ws.length cv) ws rs size (.slice (some ⟨gs, 0, none⟩) ws.length ws.length) tv seen todo))
 case atStart => exact ⟨tv, _, _, rfl, Lib.hid ⟨HMU.out, Nat.le_refl _⟩, H0⟩
 case round =>
  clear H0 HMU
  obtain ⟨tv, seen, todo, rfl, HG, HI⟩ := hrel
  obtain ⟨G, rfl⟩ : ∃ G, G = gk := ⟨_, rfl⟩
  by_cases h0 : todo = []
  ·subst h0
   obtain ⟨At, ct, rfl⟩ := HI.out.own.rd.len
   have e0 : (uw []).length = 0 := rfl
   rw [e0] at HI ⊢
   clear e0
   go_wp2
   have HSL : Hid (seen.length = ws.length) := Lib.hid HI.out.sl
   have HBK := Lib.hid (HI.out.back (some seen) .nil)
   have HSO := Lib.hid HI.out.so
   have HFW := Lib.hid HI.out.fr
   have HNS := Lib.hid HI.out.ins
   clear HI
   obtain ⟨W0, hW0⟩ : ∃ W0, W0 = wr := ⟨_, rfl⟩
   subst hW0
   go_loopg [13, 14] ws.length (fun g a13 a14 wr => ∃ (lv : Value) (i : Nat), lv = a13 ∧ a14 = .int .i64 i ∧ g + i = ws.length ∧ Hid (Fr w wr (fun _ => False) ∧ Own wr 4 (.slice (some ⟨gs, 0, none⟩) ws.length ws.length) (bw seen) ∧ Own wr 3 lv (iw (upTo seen i)) ∧ ∀ k, InBlk lv k → w.heap.size ≤ k))
   case atStart => exact ⟨_, 0, rfl, rfl, rfl, Lib.hid ⟨HFW.out, HSO.out, Own.nil _ _, fun k hk => by simp [InBlk, Value.ownBlock] at hk⟩⟩
   case round =>
    obtain ⟨lv, i, rfl, rfl, hgi, HI⟩ := hrel
    have HGI := Lib.hid hgi
    clear hgi
    by_cases hi : i < ws.length
    ·have HIL := Lib.hid hi
     have b3 : decide (i < ws.length) = true := decide_eq_true hi
     have qi : (i : Int) < ws.length := by omega
     obtain ⟨b, hb⟩ : ∃ b, seen.getD i false = b := ⟨_, rfl⟩
     have HB := Lib.hid hb
     have cb : wr.cell? ⟨gs, i, none⟩ = some (.bool b) := by
      obtain ⟨b2, e, _, hc⟩ := HI.out.2.1.cellAt (by rw [bw_length, HSL.out]; omega)
      injection e with e
      injection e with e
      subst e
      have h1 := (hc i (by rw [bw_length, HSL.out]; exact hi)).1
      rw [bw_get (by rw [HSL.out]; exact hi), hb] at h1
      exact h1
     clear hi hb
     cases b with
     | true =>
      obtain ⟨v', w1, hrun, ho, hf, hn⟩ := ints_push (i : Int) HI.out.2.2.1 (by have := upTo_len seen i; have := HIL.out; have := HL.out; omega)
      have HRUN := Lib.hid hrun
      have HF := Lib.hid hf
      have HO := Lib.hid ho
      have HN := Lib.hid hn
      clear hrun ho hf hn
      go_wp2_with (at_builtin; refine Lib.wpList_append_run _ rfl _ _ _ _ rfl _ _ rfl rfl _ w1 HRUN.out ?_)
      go_roundg (gk - 1)
      case measure => have := HGI.out; have := HIL.out; omega
      case rel =>
       have e1 : upTo seen (i + 1) = upTo seen i ++ [(i : Int)] := by rw [upTo_succ, if_pos HB.out]
       refine ⟨_, i + 1, rfl, by first | rfl | go_num, by have := HGI.out; have := HIL.out; omega, Lib.hid ⟨HI.out.1.then_ HF.out (fun k hk hlt => by have := HI.out.2.2.2 k hk; omega), HI.out.2.1.keep HF.out (fun k hk e => HI.out.2.1.apart HI.out.2.2.1 (by decide) k hk e), by rw [e1]; exact HO.out, fun k hk => ?_⟩⟩
       rcases HN.out k hk with h1 | h1
       ·exact HI.out.2.2.2 k h1
       ·exact Nat.le_trans HI.out.1.size h1
     | false =>
      go_wp2
      go_roundg (gk - 1)
      case measure => have := HGI.out; have := HIL.out; omega
      case rel =>
       have e1 : upTo seen (i + 1) = upTo seen i := by rw [upTo_succ, if_neg (by rw [HB.out]; decide)]
       exact ⟨_, i + 1, rfl, by first | rfl | go_num, by have := HGI.out; have := HIL.out; omega, Lib.hid ⟨HI.out.1, HI.out.2.1, by rw [e1]; exact HI.out.2.2.1, HI.out.2.2.2⟩⟩
    ·have hie : i = ws.length := by have := HGI.out; omega
     have b3 : decide (i < ws.length) = false := decide_eq_false hi
     have HO : Hid (Own wr 3 lv (iw (seenList seen))) := Lib.hid (by have := HI.out.2.2.1; rw [hie, ← HSL.out] at this; exact this)
     clear hi hie
     go_wp2
     go_ret2
     exact ⟨some seen, _, HBK.out, rfl, HO.out, HI.out.1, HI.out.2.2.2⟩
  ·obtain ⟨rest, x, rfl⟩ : ∃ rest x, todo = rest ++ [x] := ⟨todo.dropLast, todo.getLast h0, (List.dropLast_concat_getLast h0).symm⟩
   obtain ⟨n, hn⟩ : ∃ n, rest.length = n := ⟨_, rfl⟩
   have HN := Lib.hid hn
   have hlt : (rest ++ [x]).length = n + 1 := by simp [hn]
   obtain ⟨At, ct, rfl⟩ := HI.out.own.rd.len
   rw [uw_length, hlt] at HI ⊢
   obtain ⟨gt, rfl, _, hct⟩ := HI.out.own.cellAt (by rw [uw_length]; omega)
   have cx := (hct n (by rw [uw_length]; omega)).1
   rw [uw_get (by omega)] at cx
   have hxg : (rest ++ [x]).getD n 0 = x := by rw [← hn]; simp [List.getD]
   rw [hxg] at cx
   have HX : Hid (okW x) := Lib.hid (HI.out.okt x (by simp))
   have hcap : n + 1 ≤ ct := by
    rcases HI.out.own.form with ⟨e, _⟩ | ⟨g', cap', e, hl, _⟩
    ·cases e
    ·injection e with e1 e2 e3; rw [uw_length] at hl; omega
   have qn : (n : Int) ≤ 16004000 := by have := HG.out; have := HM.out; unfold mu at *; omega
   have qc : (n : Int) < ct := by omega
   have hmn : ((n + 1 : Nat) : Int) - 1 = n := by omega
   have qgt : decide ((0 : Int) < (n : Int) + 1) = true := decide_eq_true (by omega)
   have qgt' : decide (0 < n + 1) = true := decide_eq_true (by omega)
   clear h0 hn hlt hct hxg hcap
   go_upto_region 6 with (fail)
   obtain ⟨t, ht⟩ : ∃ t, tagW x = t := ⟨_, rfl⟩
   have HT := Lib.hid ht
   clear ht cx hmn qc qgt qgt'
   by_cases h5 : t = 5
   ·subst h5
    obtain ⟨nv, hnv⟩ : ∃ n, valW x = n := ⟨_, rfl⟩
    have HV := Lib.hid hnv
    cases hob : objAt ws nv with
    | none =>
     have HOB := Lib.hid hob
     have HLW := Lib.hid (HI.out.lw)
     have HBK := Lib.hid (HI.out.back none (.bad HT.out (by rw [hnv]; exact hob)))
     clear hnv hob HI
     go_wp2_with (first | (go_at_call 50; (with_reducible refine (Wd.rtag_c x 5 _ HX.out HT.out).mono ?_); rintro e wt ⟨rfl, nt, rfl⟩) | (go_at_call 49; (with_reducible refine (Wd.rval_c x nv _ HX.out HV.out).mono ?_); rintro e wv ⟨rfl, n3, rfl⟩; have HL3 := Lib.hid (HLW.out.frm ((Fr.refl _ _).drewN (nt + n3)))) | (go_at_call 47; (with_reducible refine (mobj_none p (.slice Av ws.length cv) ws size nv _ HL3.out.ar HOB.out).mono ?_); rintro e wo ⟨rfl, hfo⟩; have HL4 := Lib.hid (HL3.out.frm hfo); clear hfo))
     go_ret2
     exact ⟨none, _, HBK.out, rfl, Own.nil _ _, HL4.out.fr.alloc _, fun k hk => by simp [InBlk, Value.ownBlock] at hk⟩
    | some hd =>
     have HOB := Lib.hid hob
     obtain ⟨hb0, hb1, hrd, hz0, hz1, hz2⟩ := obj_facts hob
     obtain ⟨k, rfl⟩ := Int.eq_ofNat_of_zero_le hb0
     obtain ⟨kd, z, th, nn⟩ := hd
     simp only at hz0 hz1 hz2
     have HZ : Hid (0 ≤ z ∧ z < 1048576 ∧ (k : Int) + 1 + z ≤ ws.length) := Lib.hid ⟨hz0, hz1, hz2⟩
     have qk : (k : Int) < ws.length := hb1
     have HK : Hid (k < ws.length) := Lib.hid (by omega)
     have HKS : Hid (k < seen.length) := Lib.hid (by rw [HI.out.sl]; omega)
     obtain ⟨f, hfd⟩ : ∃ f, fieldsH ⟨kd, z, th, nn⟩ = f := ⟨_, rfl⟩
     have HFD := Lib.hid hfd
     obtain ⟨bs, hbs⟩ : ∃ bs, seen.getD k false = bs := ⟨_, rfl⟩
     have HBS := Lib.hid hbs
     clear hnv hob hb0 hb1 hrd hz0 hz1 hz2 hfd hbs
     go_upto_region 9 with (first | (go_at_call 50; (with_reducible refine (Wd.rtag_c x 5 _ HX.out HT.out).mono ?_); rintro e wt ⟨rfl, nt, rfl⟩) | (go_at_call 49; (with_reducible refine (Wd.rval_c x (k : Int) _ HX.out HV.out).mono ?_); rintro e wv ⟨rfl, n3, rfl⟩; have HL3 := Lib.hid (HI.out.frm ((Fr.refl _ _).drewN (nt + n3)))) | (go_at_call 47; (with_reducible refine (mobj_some p (.slice Av ws.length cv) ws size k _ _ HL3.out.ar HOB.out).mono ?_); rintro e wo ⟨rfl, hfo⟩))
     obtain ⟨W2, hW2⟩ : ∃ W2, wo.alloc (.cells #[.int .i64 kd, .int .i64 z, .int .i64 th, .bool nn] 68) = W2 := ⟨_, rfl⟩
     obtain ⟨D, hD⟩ : ∃ D, wo.heap.size = D := ⟨_, rfl⟩
     have hf2 : Fr (wr.drewN (nt + n3)) W2 (fun _ => False) := by rw [← hW2]; exact hfo.alloc _
     have hdb : W2.heap[D]? = some (.cells #[.int .i64 kd, .int .i64 z, .int .i64 th, .bool nn] 68 (0, 0)) := by rw [← hW2, ← hD]; exact blk_new _ _ _
     have HL4 := Lib.hid (HL3.out.frm hf2)
     have HDB := Lib.hid hdb
     simp only [hW2, hD]
     obtain ⟨cb, fb⟩ : W2.cell? ⟨gs, k, none⟩ = some (.bool bs) ∧ W2.frozen? ⟨gs, k, none⟩ = false := by
      obtain ⟨b, e, _, hc⟩ := HL4.out.so.cellAt (by rw [bw_length]; have := HKS.out; omega)
      injection e with e
      injection e with e
      subst e
      have h1 := hc k (by rw [bw_length]; exact HKS.out)
      rw [bw_get HKS.out, HBS.out] at h1
      exact h1
     have HBK := Lib.hid HI.out.back
     clear hW2 hD hfo hf2 hdb HI HL3
     cases bs with
     | true =>
      have HLP := Lib.hid (HL4.out.pop HN.out (fun r hr => .old HT.out (by rw [HV.out]; exact HOB.out) (by rw [HV.out]; exact HBS.out) hr))
      go_wp2
      go_roundg (G - 1)
      case measure => have := HG.out; unfold mu at this; simp at this; omega
      case rel => exact ⟨_, seen, rest, rfl, Lib.hid ⟨by have := HG.out; unfold mu at this ⊢; simp at this; omega, by have := HG.out; omega⟩, HLP⟩
     | false =>
      go_upto_region 13 with (fail)
      have hlw := HL4.out.lw
      have hpop : LW w W2 p (.slice Av ws.length cv) ws size (.slice (some ⟨gs, 0, none⟩) ws.length ws.length) (.slice (some ⟨gt, 0, none⟩) n ct) seen rest := ⟨hlw.ar, hlw.fr, hlw.so, Own.pop (x := .int .u64 x) (by have := hlw.own; rw [uw_append] at this; exact this) (by rw [uw_length]; exact HN.out), hlw.ins, fun k hk => hlw.int k (by simpa [InBlk, Value.ownBlock] using hk), hlw.vlt, hlw.plt, fun y hy => hlw.okt y (by simp [hy]), hlw.sl⟩
      have HL5 := Lib.hid (hpop.see hlw.sl HKS.out)
      have hD5 := (Fr.setCell (S := fun i => i = gs) (a := ⟨gs, k, none⟩) (Fr.refl W2 _) (fun _ => rfl) (.bool true)).blk HDB.out (fun e => hlw.so.not_box HDB.out (by decide) (by rw [e]; simp [InBlk, Value.ownBlock]))
      obtain ⟨W3, hW3⟩ : ∃ W3, W2.setCell ⟨gs, k, none⟩ (.bool true) = W3 := ⟨_, rfl⟩
      rw [hW3] at HL5 hD5 ⊢
      have d0 : W3.cell? ⟨D, 0, none⟩ = some (.int .i64 kd) := by simp [World.cell?, hD5]
      have d1 : W3.cell? ⟨D, 1, none⟩ = some (.int .i64 z) := by simp [World.cell?, hD5]
      have d2 : W3.cell? ⟨D, 2, none⟩ = some (.int .i64 th) := by simp [World.cell?, hD5]
      have d3 : W3.cell? ⟨D, 3, none⟩ = some (.bool nn) := by simp [World.cell?, hD5]
      clear hlw hpop hW3 hD5 cb fb HL4
      obtain ⟨fm, hfm⟩ : ∃ fm, nFields ⟨kd, z, th, nn⟩ = fm := ⟨_, rfl⟩
      have hfmz : (fm : Int) = min f z := by
       have h1 := HZ.out.1
       have h2 : 0 ≤ f := by rw [← HFD.out]; exact fieldsH_nonneg h1
       rw [← hfm]; unfold nFields; rw [HFD.out]; simp only; omega
      have HFMZ := Lib.hid hfmz
      have HNF := Lib.hid hfm
      have HFM : Hid ((k : Int) + 1 + fm ≤ ws.length) := Lib.hid (by have := HZ.out; omega)
      clear hfm hfmz
      go_cut [12] (fun a12 wx => a12 = .int .i64 (fm : Int) ∧ Hid (LW w wx p (.slice Av ws.length cv) ws size (.slice (some ⟨gs, 0, none⟩) ws.length ws.length) (.slice (some ⟨gt, 0, none⟩) n ct) (seen.set k true) rest))
      case first =>
       have key : (f < z ∧ f < z ∧ fm = f) ∨ (z < f ∧ z < f ∧ fm = z) ∨ (f = z ∧ fm = f) := by
        have := HFMZ.out
        by_cases h1 : f < z
        ·exact .inl ⟨h1, h1, by omega⟩
        ·by_cases h2 : z < f
         ·exact .inr (.inl ⟨h2, h2, by omega⟩)
         ·exact .inr (.inr ⟨by omega, by omega⟩)
       rcases key with ⟨c1, _, hm⟩ | ⟨c1, _, hm⟩ | ⟨hfz, hm⟩
       ·have HMM := Lib.hid hm
        clear hm
        go_region_held3 (fun w' => w'.cell? ⟨D, 0, none⟩ = some (.int .i64 kd) ∧ w'.cell? ⟨D, 1, none⟩ = some (.int .i64 z) ∧ w'.cell? ⟨D, 2, none⟩ = some (.int .i64 th) ∧ w'.cell? ⟨D, 3, none⟩ = some (.bool nn))
         (first | exact ⟨g0, g1, g2, g3⟩ | exact ⟨d0, d1, d2, d3⟩)
         (first
          | (go_at_call 48; (with_reducible refine (Wd.rfields_c kd z th nn f _ HFD.out).mono ?_); rintro e wa ⟨rfl, hb⟩; have hfb := (Fr.of_below hb (fun _ => False)); have g0 := hfb.cell (a := ⟨D, 0, none⟩) d0 (fun h => h); have g1 := hfb.cell (a := ⟨D, 1, none⟩) d1 (fun h => h); have g2 := hfb.cell (a := ⟨D, 2, none⟩) d2 (fun h => h); have g3 := hfb.cell (a := ⟨D, 3, none⟩) d3 (fun h => h); have HL6 := Lib.hid ((HL5.out.frm ((Fr.refl W3 (fun _ => False)).drew)).frm hfb); clear hb hfb))
        all_goals
         go_wp2_with (fail)
         go_meet
         exact ⟨by rw [← HMM.out], HL6⟩
       ·have HMM := Lib.hid hm
        clear hm
        go_region_held3 (fun w' => w'.cell? ⟨D, 0, none⟩ = some (.int .i64 kd) ∧ w'.cell? ⟨D, 1, none⟩ = some (.int .i64 z) ∧ w'.cell? ⟨D, 2, none⟩ = some (.int .i64 th) ∧ w'.cell? ⟨D, 3, none⟩ = some (.bool nn))
         (first | exact ⟨g0, g1, g2, g3⟩ | exact ⟨d0, d1, d2, d3⟩)
         (first
          | (go_at_call 48; (with_reducible refine (Wd.rfields_c kd z th nn f _ HFD.out).mono ?_); rintro e wa ⟨rfl, hb⟩; have hfb := (Fr.of_below hb (fun _ => False)); have g0 := hfb.cell (a := ⟨D, 0, none⟩) d0 (fun h => h); have g1 := hfb.cell (a := ⟨D, 1, none⟩) d1 (fun h => h); have g2 := hfb.cell (a := ⟨D, 2, none⟩) d2 (fun h => h); have g3 := hfb.cell (a := ⟨D, 3, none⟩) d3 (fun h => h); have HL6 := Lib.hid ((HL5.out.frm ((Fr.refl W3 (fun _ => False)).drew)).frm hfb); clear hb hfb))
        all_goals
         go_wp2_with (fail)
         go_meet
         exact ⟨by rw [← HMM.out], HL6⟩
       ·subst hfz
        have HMM := Lib.hid hm
        clear hm
        go_region_held3 (fun w' => w'.cell? ⟨D, 0, none⟩ = some (.int .i64 kd) ∧ w'.cell? ⟨D, 1, none⟩ = some (.int .i64 f) ∧ w'.cell? ⟨D, 2, none⟩ = some (.int .i64 th) ∧ w'.cell? ⟨D, 3, none⟩ = some (.bool nn))
         (first | exact ⟨g0, g1, g2, g3⟩ | exact ⟨d0, d1, d2, d3⟩)
         (first
          | (go_at_call 48; (with_reducible refine (Wd.rfields_c kd f th nn f _ HFD.out).mono ?_); rintro e wa ⟨rfl, hb⟩; have hfb := (Fr.of_below hb (fun _ => False)); have g0 := hfb.cell (a := ⟨D, 0, none⟩) d0 (fun h => h); have g1 := hfb.cell (a := ⟨D, 1, none⟩) d1 (fun h => h); have g2 := hfb.cell (a := ⟨D, 2, none⟩) d2 (fun h => h); have g3 := hfb.cell (a := ⟨D, 3, none⟩) d3 (fun h => h); have HL6 := Lib.hid ((HL5.out.frm ((Fr.refl W3 (fun _ => False)).drew)).frm hfb); clear hb hfb))
        all_goals
         go_wp2_with (fail)
         go_meet
         exact ⟨by rw [← HMM.out], HL6⟩
      case rest =>
       obtain ⟨rfl, HL6⟩ := hcut
       have c6 := HL6.out.ar.c0
       have qf : (fm : Int) ≤ 4000 := by have := HFM.out; have := HL.out; omega
       have qf0 : (0 : Int) ≤ fm := by omega
       have hfmN : k + 1 + fm ≤ ws.length := by have := HFM.out; omega
       obtain ⟨u, hsl, hur⟩ := rd_fields (f := (fm : Int)) (k := k) HL6.out.ar.own (by omega) (by have := HFM.out; omega) (by rw [Int.toNat_natCast]; exact fieldsAt_part hfmN)
       rw [Int.toNat_natCast] at hur
       have hlen : rest.length + (fieldsAt ws k fm).length ≤ 1073741824 := by
        have h1 : (fieldsAt ws k fm).length = fm := by simp [fieldsAt]
        have h2 := HN.out
        have h3 := HFM.out
        have h4 := HL.out
        omega
       obtain ⟨v', w7, hrun, hl7, _⟩ := HL6.out.app (hur _ HL6.out.ar.own) (okWs_fld HL6.out.ar.ok _ _) hlen
       have HL7 := Lib.hid hl7
       have HRUN := Lib.hid hrun
       clear hur hl7 hrun hfmN hlen d0 d1 d2 d3
       go_wp2_with (at_builtin; refine Lib.wpList_append_run _ rfl _ _ _ _ rfl _ _ rfl rfl _ w7 HRUN.out ?_)
       go_roundg (G - 1)
       case measure =>
        have := HG.out
        unfold mu at this; simp at this; omega
       case rel =>
        refine ⟨_, seen.set k true, rest ++ fieldsAt ws k fm, rfl, Lib.hid ⟨?_, by have := HG.out; omega⟩, Lib.hid ?_⟩
        ·have h1 := mu_new (ws := ws) (rest := rest) (x := k) (n := fm) HKS.out HBS.out (by have := HFM.out; omega)
         have h2 := HG.out
         have h3 : mu ws seen (rest ++ [(k : Int)]) = mu ws seen (rest ++ [x]) := by unfold mu; simp
         omega
        ·refine HL7.out.lv (fun r hr => HBK.out r (.new HT.out (by rw [HV.out]; exact HOB.out) (by rw [HV.out]; exact HBS.out) ?_))
         rw [HV.out, HNF.out]
         exact hr
   ·have b5 : (t == 5) = false := by simpa using h5
    have b5n : (t != 5) = true := by simpa using h5
    have HLP := Lib.hid (HI.out.pop HN.out (fun r hr => .other (by rw [HT.out]; exact h5) hr))
    clear HI
    go_wp2_with (first | (go_at_call 50; (with_reducible refine (Wd.rtag_c x t _ HX.out HT.out).mono ?_); rintro e wt ⟨rfl, nt, rfl⟩))
    go_roundg (G - 1)
    case measure => have := HG.out; unfold mu at this; simp at this; omega
    case rel => exact ⟨_, seen, rest, rfl, Lib.hid ⟨by have := HG.out; unfold mu at this ⊢; simp at this; omega, by have := HG.out; omega⟩, Lib.hid (HLP.out.frm ((Fr.refl _ _).drewN nt))⟩
end Go.Proofs.YtjiaaefpepdoeaaDoor.Rl
namespace Go.Proofs.YtjiaaefpepdoeaaDoor
open Go.RowKit Md
set_option linter.unusedVariables false
set_option maxRecDepth 100000 in
set_option maxHeartbeats 4000000 in
theorem rlwords_c (p : Nat) (v r : Value) (ws rs : List Int) (size : Int) (w : World) (h : Ar 46 w p v ws size) (hr : Rd w r (uw rs)) (hok : okWs rs) (hl : ws.length ≤ 4000) (hlr : rs.length ≤ 4000) :
  Calls Tryd.prog 20 #[.pointer (some ⟨p, 0, none⟩), r] w fun e w' => WdA w w' ws rs e := by
 have H := Lib.hid h
 have HR := Lib.hid hr
 have HOK := Lib.hid hok
 have HL := Lib.hid hl
 have HLR := Lib.hid hlr
 have q1 : (ws.length : Int) ≤ 4000 := by omega
 clear h hr hok hl hlr
 go_enter Tryd.func20, Tryd.ntmps20
 go_upto_region 2 with (first
  | (go_at_call 55; (with_reducible refine (Rl.rlive_c p v _ ws rs size _ H.out HR.out HOK.out HL.out HLR.out).mono ?_); rintro e w1 ⟨rr, u, hlv, rfl, hn⟩; have HLV := Lib.hid hlv; have HO1 := Lib.hid hn.1; have HF1 := Lib.hid hn.2.1; have HA1 := Lib.hid (H.out.fr hn.2.1); clear hlv hn))
 obtain ⟨M, hM⟩ : ∃ M, (rr.map seenList).getD [] = M := ⟨_, rfl⟩
 have hlo := live_objs HLV.out
 rw [hM] at HO1 hlo
 have HMM := Lib.hid hM
 have HLO := Lib.hid hlo.1
 have HML := Lib.hid hlo.2
 have qM : (M.length : Int) ≤ 4000 := by have := HML.out; omega
 obtain ⟨Au, cu, rfl⟩ := HO1.out.rd.len
 rw [iw_length] at *
 try simp only [iw_length]
 clear hM hlo
 go_wp2
 go_loopg [7, 8] M.length (fun g a7 a8 wr => ∃ (n : Int) (i : Nat), a7 = .int .i64 n ∧ a8 = .int .i64 i ∧ g + i = M.length ∧ Hid (Fr w1 wr (fun _ => False) ∧ n = wordsM ws (M.take i) ∧ 0 ≤ n ∧ n ≤ i * 4001))
 case atStart => exact ⟨0, 0, rfl, rfl, rfl, Lib.hid ⟨Fr.refl _ _, by simp [wordsM], by omega, by omega⟩⟩
 case round =>
  obtain ⟨n, i, rfl, rfl, hgi, HI⟩ := hrel
  have HGI := Lib.hid hgi
  clear hgi
  by_cases hi : i < M.length
  ·have HIL := Lib.hid hi
   have qi : (i : Int) < M.length := by omega
   have b2 : decide (i < M.length) = true := decide_eq_true hi
   obtain ⟨a, ha⟩ : ∃ a, M.getD i 0 = a := ⟨_, rfl⟩
   have haM : a ∈ M := by rw [← ha, List.getD_eq_getElem?_getD, List.getElem?_eq_getElem hi]; exact List.getElem_mem hi
   obtain ⟨hd, hob⟩ := HLO.out a haM
   obtain ⟨hb0, hb1, hrd, hz0, hz1, hz2⟩ := obj_facts hob
   obtain ⟨kd, z, t, nn⟩ := hd
   simp only at hz0 hz1 hz2
   have HOB := Lib.hid hob
   have HA := Lib.hid ha
   have HZ : Hid (0 ≤ z ∧ a + 1 + z ≤ ws.length ∧ 0 ≤ a) := Lib.hid ⟨hz0, hz2, hb0⟩
   have HO2 := Lib.hid (HO1.out.keep HI.out.1 (fun _ _ h => h))
   obtain ⟨gu, rfl, _, hcu⟩ := HO2.out.cellAt (by rw [iw_length]; omega)
   have ck := (hcu i (by rw [iw_length]; exact hi)).1
   rw [iw_get hi, ha] at ck
   have qn0 : 0 ≤ n := HI.out.2.2.1
   have qn1 : n ≤ 16008001 := by have := HI.out.2.2.2; have := HML.out; have := HL.out; omega
   have qz0 : 0 ≤ z := hz0
   have qz1 : z ≤ 4000 := by omega
   clear hi ha haM hob hb0 hb1 hrd hz0 hz1 hz2 hcu
   go_upto_region 7 with (first | (go_at_call 47; (with_reducible refine (mobj_some p v ws size a _ _ (HA1.out.fr HI.out.1) HOB.out).mono ?_); rintro e wo ⟨rfl, hfo⟩))
   obtain ⟨W2, hW2⟩ : ∃ W2, wo.alloc (.cells #[.int .i64 kd, .int .i64 z, .int .i64 t, .bool nn] 68) = W2 := ⟨_, rfl⟩
   obtain ⟨D, hD⟩ : ∃ D, wo.heap.size = D := ⟨_, rfl⟩
   have hf2 : Fr wr W2 (fun _ => False) := by rw [← hW2]; exact hfo.alloc _
   have hdb : W2.heap[D]? = some (.cells #[.int .i64 kd, .int .i64 z, .int .i64 t, .bool nn] 68 (0, 0)) := by rw [← hW2, ← hD]; exact blk_new _ _ _
   have d1 : W2.cell? ⟨D, 1, none⟩ = some (.int .i64 z) := by simp [World.cell?, hdb]
   have HF2 := Lib.hid (HI.out.1.trans hf2)
   simp only [hW2, hD]
   clear hW2 hD hfo hf2 hdb ck
   go_wp2
   go_roundg (gk - 1)
   case measure => have := HGI.out; have := HIL.out; omega
   case rel =>
    refine ⟨n + (1 + z), i + 1, by first | rfl | go_num, by first | rfl | go_num, by have := HGI.out; have := HIL.out; omega, Lib.hid ⟨HF2.out, ?_, by have := HI.out; have := HZ.out; omega, ?_⟩⟩
    ·have e1 : M.take (i + 1) = M.take i ++ [a] := by
      rw [List.take_succ_eq_append_getElem HIL.out, ← HA.out]
      simp [List.getD, HIL.out]
     rw [e1, wordsM_snoc, ← HI.out.2.1, obj0_of HOB.out]
    ·have := HI.out.2.2.2; have := HZ.out; have := HL.out; push_cast; omega
  ·have hie : i = M.length := by have := HGI.out; omega
   have b2 : decide (i < M.length) = false := decide_eq_false hi
   have HW : Hid (n = wordsM ws M) := Lib.hid (by have := HI.out.2.1; rw [hie, List.take_length] at this; exact this)
   clear hi hie
   go_wp2
   go_ret
   exact ⟨rr, HLV.out, by rw [HMM.out, ← HW.out]; rfl, HF1.out.trans HI.out.1⟩
end Go.Proofs.YtjiaaefpepdoeaaDoor
namespace Go.Proofs.YtjiaaefpepdoeaaDoor
section
variable {P : Program} {ops : Array Oper} {Q : Exit → Act → World → Prop} {md : Region.Mode} {S : World → Prop} {T : Array Bool → Bool}
def wpTill (P : Program) (md : Region.Mode) (ops : Array Oper) (Q : Exit → Act → World → Prop) (S : World → Prop) (T : Array Bool → Bool) : Nat → Array Bool → Act → World → Prop
 | 0, listed, a, w => Region.ready md ops listed = [] ∧ Q .normal a w
 | n + 1, listed, a, w => (Region.ready md ops listed = [] → Q .normal a w) ∧
  ∀ i ∈ Region.ready md ops listed, wpOp P ops Q i (fun a' w' => (T (listed.setIfInBounds i true) = false → S w') ∧ wpTill P md ops Q S T n (listed.setIfInBounds i true) a' w') a w
theorem wpAny_of_till : ∀ (n : Nat) (listed : Array Bool) (a : Act) (w : World), wpTill P md ops Q S T n listed a w → wpAny P md ops Q n listed a w
 | 0, _, _, _, h => h
 | n + 1, _, _, _, h => ⟨h.1, fun i hi => wpOp_mono (fun a' w' h' => wpAny_of_till n _ a' w' h'.2) (h.2 i hi)⟩
theorem wpTill_first {R : World → Prop} {C : Array Bool → Prop} {i : Nat} {oi : Oper} {v : Value} (hi : ops[i]? = some oi) (hsel : ∀ (j : Nat) (o : Oper) cs b, ops[j]? = some o → o.op ≠ .select cs b)
  (hQ : ∀ c a w, Q (.panic c) (a.put oi.dst v) w → Q (.panic c) a w) (hTi : ∀ l, T (l.setIfInBounds i true) = T l)
  (hC : ∀ l j, C l → l.getD i true = false → j ∈ Region.ready md ops l → j ≠ i → C (l.setIfInBounds j true)) (hR : ∀ l w', C l → (T l = false → S w') → R w') :
  ∀ (n : Nat) (listed : Array Bool) (a : Act) (w : World),
   (∀ j oj, ops[j]? = some oj → j ≠ i → listed.getD j true = false → (∀ e ∈ oj.after, Region.binds md e = true → e.on ≠ i) → oi.apart ops oj = true) →
   i ∈ Region.ready md ops listed → YieldsIf P ops R oi v a → C listed → (T listed = false → S w) →
   wpTill P md ops Q S T n (listed.setIfInBounds i true) (a.put oi.dst v) w → wpTill P md ops Q S T (n + 1) listed a w := by
 intro n
 induction n with
 | zero =>
  intro listed a w _ hr hy hc hS H
  refine ⟨fun h => absurd hr (by rw [h]; simp), fun j hj => ?_⟩
  by_cases e : j = i
  ·subst e
   exact hy.wpOp hi (hR _ _ hc hS) ⟨fun h => hS (by rw [← hTi]; exact h), H⟩
  ·exact absurd (ready_mono hj e) (by rw [H.1]; simp)
 | succ n ih =>
  intro listed a w hfree hr hy hc hS H
  refine ⟨fun h => absurd hr (by rw [h]; simp), fun j hj => ?_⟩
  by_cases e : j = i
  ·subst e
   exact hy.wpOp hi (hR _ _ hc hS) ⟨fun h => hS (by rw [← hTi]; exact h), H⟩
  ·obtain ⟨hju, oj, hoj, hall⟩ := mem_ready.1 hj
   have hiu := (mem_ready.1 hr).1
   have hnot : ∀ e ∈ oj.after, Region.binds md e = true → e.on ≠ i := fun e he hb heq => by
    have h1 := hall e he hb
    rw [heq] at h1
    by_cases hsz : i < listed.size
    ·simp [hsz] at hiu h1
     rw [hiu] at h1
     cases h1
    ·simp [Array.getElem?_eq_none (Nat.le_of_not_lt hsz)] at h1
   have h2 := wpOp_putIf hoj (hfree j oj hoj e hju hnot) (fun cs b => hsel i oi cs b hi) (fun cs b => hsel j oj cs b hoj) hQ hy (H.2 j (ready_mono hj e))
   have hc2 := hC listed j hc hiu hj e
   have hfree2 : ∀ k ok, ops[k]? = some ok → k ≠ i → (listed.setIfInBounds j true).getD k true = false → (∀ e ∈ ok.after, Region.binds md e = true → e.on ≠ i) → oi.apart ops ok = true := fun k ok hk hki hun hno => by
    refine hfree k ok hk hki ?_ hno
    by_cases hjk : j = k
    ·subst hjk; exact hju
    ·rw [getD_set_ne true hjk] at hun; exact hun
   refine wpOp_mono (fun a' w' h3 => ?_) h2
   obtain ⟨hy3, hs3, h3⟩ := h3
   rw [Array.setIfInBounds_comm _ _ (Ne.symm e)] at hs3 h3
   have hs4 : T (listed.setIfInBounds j true) = false → S w' := fun h => hs3 (by rw [hTi]; exact h)
   exact ⟨hs4, ih _ a' w' hfree2 (ready_mono hr (Ne.symm e)) hy3 hc2 hs4 h3⟩
theorem wpTill_pure {i : Nat} {oi : Oper} {v : Value} {n : Nat} {listed : Array Bool} {a : Act} {w : World} (hi : ops[i]? = some oi) (hs : Region.noSelect ops = true) (hf : Region.free md ops listed i = true)
  (hr : (Region.ready md ops listed).contains i = true) (hQ : ∀ c a w, Q (.panic c) (a.put oi.dst v) w → Q (.panic c) a w) (hTi : ∀ l, T (l.setIfInBounds i true) = T l) (hy : Yields P ops oi v a) (hS : T listed = false → S w)
  (h : wpTill P md ops Q S T n (listed.setIfInBounds i true) (a.put oi.dst v) w) : wpTill P md ops Q S T (n + 1) listed a w :=
 wpTill_first (R := fun _ => True) (C := fun _ => True) hi (Region.noSelect_spec hs) hQ hTi (fun _ _ _ _ _ _ => trivial) (fun _ _ _ _ => trivial) n listed a w (Region.free_spec hi hf) (by simpa using hr) hy.yieldsIf trivial hS h
theorem wpTill_read {i : Nat} {oi : Oper} {v : Value} {n : Nat} {listed : Array Bool} {a : Act} {w : World} (d : Nat) (hi : ops[i]? = some oi) (hs : Region.noSelect ops = true) (hf : Region.free md ops listed i = true)
  (hr : (Region.ready md ops listed).contains i = true) (hQ : ∀ c a w, Q (.panic c) (a.put oi.dst v) w → Q (.panic c) a w) (hTi : ∀ l, T (l.setIfInBounds i true) = T l) (hTd : ∀ l, T l = true → l.getD d true = true)
  (hdi : ((ops[d]?).map fun o => o.after.any fun e => Region.binds md e && e.on == i) = some true) (hd : listed.getD d true = false) (hy : YieldsIf P ops S oi v a) (hS : S w)
  (h : wpTill P md ops Q S T n (listed.setIfInBounds i true) (a.put oi.dst v) w) : wpTill P md ops Q S T (n + 1) listed a w := by
 refine wpTill_first (R := S) (C := fun l => l.getD d true = false) hi (Region.noSelect_spec hs) hQ hTi (fun l j hc hiu hj hji => ?_) (fun l w' hc hs => hs ?_) n listed a w (Region.free_spec hi hf) (by simpa using hr) hy hd (fun _ => hS) h
 ·by_cases e : j = d
  ·subst e
   obtain ⟨_, oj, hoj, hall⟩ := mem_ready.1 hj
   rw [hoj] at hdi
   simp only [Option.map_some, Option.some.injEq, Array.any_eq_true] at hdi
   obtain ⟨k, hk, hb⟩ := hdi
   simp only [Bool.and_eq_true, beq_iff_eq] at hb
   have h1 := hall _ (Array.getElem_mem hk) hb.1
   rw [hb.2] at h1
   by_cases hsz : i < l.size
   ·simp [hsz] at hiu h1
    rw [hiu] at h1
    cases h1
   ·simp [Array.getElem?_eq_none (Nat.le_of_not_lt hsz)] at h1
  ·show (l.setIfInBounds j true).getD d true = false
   rw [getD_set_ne true e]; exact hc
 ·cases ht : T l with
  | false => rfl
  | true => have := hTd l ht; rw [hc] at this; cases this
theorem wpTill_all {rs : List Nat} {n : Nat} {listed : Array Bool} {a : Act} {w : World} (hr : Region.ready md ops listed = rs) (hne : rs ≠ [])
  (h : ∀ i ∈ rs, wpOp P ops Q i (fun a' w' => (T (listed.setIfInBounds i true) = false → S w') ∧ wpTill P md ops Q S T n (listed.setIfInBounds i true) a' w') a w) : wpTill P md ops Q S T (n + 1) listed a w :=
 ⟨fun h0 => absurd (hr ▸ h0) hne, hr ▸ h⟩
theorem wpTill_done {listed : Array Bool} {a : Act} {w : World} (hr : Region.ready md ops listed = []) (h : Q .normal a w) : ∀ n, wpTill P md ops Q S T n listed a w
 | 0 => ⟨hr, h⟩
 | _ + 1 => ⟨fun _ => h, by rw [hr]; simp⟩
theorem wp_region_till {id : Nat} {a : Act} {w : World} (hm : P.follows .mixedOrders = true) (h : wpTill P .any ops Q S T ops.size (Array.replicate ops.size false) a w.drew) : (Code.region id ops true).wp P Q a w :=
 wp_region_any hm (wpAny_of_till _ _ _ _ h)
end
end Go.Proofs.YtjiaaefpepdoeaaDoor
namespace Go.Proofs.YtjiaaefpepdoeaaDoor
open Go.RowKit Md Go.Proofs.YtjiaaefpepdoeaaDoorW.PrintWords
set_option linter.unusedVariables false
structure StG (W : World) (s : Nat) (bv pv zv cv : Value) (most : Int) (B P Z C : List Int) : Prop where
 blk : W.heap[s]? = some (.cells #[bv, .int .i64 most, pv, zv, cv] 79 (0, 0))
 ob : Own W 5 bv (nw .u8 B)
 op : Own W 3 pv (iw P)
 oz : Own W 3 zv (iw Z)
 oc : Own W 3 cv (iw C)
 a1 : ∀ k, InBlk pv k → ¬ InBlk zv k
 a2 : ∀ k, InBlk pv k → ¬ InBlk cv k
 a3 : ∀ k, InBlk zv k → ¬ InBlk cv k
 lp : P.length = C.length
 lz : Z.length = C.length
inductive RS where
 | raw
 | box (b : Nat)
 | app (v : Value)
def RSi (W : World) (u : Value) (xs : List Int) : RS → Prop
 | .raw => Own W 3 u (iw xs)
 | .box b => Own W 3 u (iw xs) ∧ W.heap[b]? = some (.cells #[.int .i64 0] 3 (0, 0)) ∧ ¬ InBlk u b
 | .app v => Own W 3 v (iw (xs ++ [0]))
def BK (u : Value) : RS → Nat → Prop
 | .raw, k => InBlk u k
 | .box b, k => InBlk u k ∨ k = b
 | .app v, k => InBlk v k
section
variable {w W W1 : World} {u u1 u2 u3 v : Value} {xs P Z C : List Int} {s1 s2 s3 st : RS} {S : Nat → Prop}
theorem RSi.lt (h : RSi W u xs st) : ∀ k, BK u st k → k < W.heap.size := by
 cases st with
 | raw => exact fun k hk => Own.lt h k hk
 | box b => exact fun k hk => hk.elim (fun hk => h.1.lt k hk) (fun e => by rw [e]; exact (Array.getElem?_eq_some_iff.1 h.2.1).1)
 | app v => exact fun k hk => Own.lt h k hk
theorem RSi.keep (h : RSi W u xs st) (hf : Fr W W1 S) (hn : ∀ k, BK u st k → ¬ S k) : RSi W1 u xs st := by
 cases st with
 | raw => exact Own.keep h hf hn
 | box b => exact ⟨h.1.keep hf (fun k hk => hn k (.inl hk)), hf.blk h.2.1 (hn b (.inr rfl)), h.2.2⟩
 | app v => exact Own.keep h hf hn
structure G3 (w W : World) (u1 u2 u3 : Value) (P Z C : List Int) (s1 s2 s3 : RS) : Prop where
 i1 : RSi W u1 P s1
 i2 : RSi W u2 Z s2
 i3 : RSi W u3 C s3
 a1 : ∀ k, BK u1 s1 k → ¬ BK u2 s2 k
 a2 : ∀ k, BK u1 s1 k → ¬ BK u3 s3 k
 a3 : ∀ k, BK u2 s2 k → ¬ BK u3 s3 k
 fr : Fr w W (fun k => InBlk u1 k ∨ InBlk u2 k ∨ InBlk u3 k)
 n1 : ∀ k, BK u1 s1 k → InBlk u1 k ∨ w.heap.size ≤ k
 n2 : ∀ k, BK u2 s2 k → InBlk u2 k ∨ w.heap.size ≤ k
 n3 : ∀ k, BK u3 s3 k → InBlk u3 k ∨ w.heap.size ≤ k
theorem G3.rot (h : G3 w W u1 u2 u3 P Z C s1 s2 s3) : G3 w W u2 u3 u1 Z C P s2 s3 s1 :=
 ⟨h.i2, h.i3, h.i1, h.a3, fun k a b => h.a1 k b a, fun k a b => h.a2 k b a, h.fr.mono (fun i hi _ => by rcases hi with h | h | h; exact .inr (.inr h); exact .inl h; exact .inr (.inl h)), h.n2, h.n3, h.n1⟩
theorem G3.drew (h : G3 w W u1 u2 u3 P Z C s1 s2 s3) : G3 w W.drew u1 u2 u3 P Z C s1 s2 s3 :=
 ⟨h.i1.keep ((Fr.refl W (fun _ => False)).drew) (fun _ _ h => h), h.i2.keep ((Fr.refl W (fun _ => False)).drew) (fun _ _ h => h), h.i3.keep ((Fr.refl W (fun _ => False)).drew) (fun _ _ h => h), h.a1, h.a2, h.a3, h.fr.drew, h.n1, h.n2, h.n3⟩
theorem G3.box (h : G3 w W u1 u2 u3 P Z C .raw s2 s3) : G3 w (W.alloc (.cells #[.int .i64 0] 3)) u1 u2 u3 P Z C (.box W.heap.size) s2 s3 := by
 have hf : Fr W (W.alloc (.cells #[.int .i64 0] 3)) (fun _ => False) := (Fr.refl W _).alloc _
 refine ⟨⟨Own.keep h.i1 hf (fun _ _ h => h), blk_new _ _ _, fun e => by have := h.i1.lt _ e; omega⟩, h.i2.keep hf (fun _ _ h => h), h.i3.keep hf (fun _ _ h => h), fun k hk hk2 => ?_, fun k hk hk2 => ?_, h.a3, h.fr.alloc _, fun k hk => ?_, h.n2, h.n3⟩
 ·rcases hk with hk | rfl
  ·exact h.a1 k hk hk2
  ·have := h.i2.lt _ hk2; omega
 ·rcases hk with hk | rfl
  ·exact h.a2 k hk hk2
  ·have := h.i3.lt _ hk2; omega
 ·rcases hk with hk | rfl
  ·exact .inl hk
  ·exact .inr h.fr.size
theorem G3.app {b : Nat} (h : G3 w W u1 u2 u3 P Z C (.box b) s2 s3) (hl : P.length ≤ 1073741823) :
  ∃ v' W1, (Builtin.append_ #[55, 55] 55 #[u1, .slice (some ⟨b, 0, none⟩) 1 1]).run Tryd.prog W = .ok v' W1 ∧ G3 w W1 u1 u2 u3 P Z C (.app v') s2 s3 ∧ Fr W W1 (fun k => InBlk u1 k) := by
 obtain ⟨i0, hi, hz0, hz1, hzb⟩ := info_parts intInfo
 obtain ⟨ho, hb, hnb⟩ := h.i1
 have hone : Rd W (.slice (some ⟨b, 0, none⟩) 1 1) (iw [0]) := .inr ⟨b, 0, 1, rfl, by simp [iw], by simp [iw], by decide, (Array.getElem?_eq_some_iff.1 hb).1, fun i hi => by
  have : i = 0 := by simp [iw] at hi; exact hi
  subst this
  simp [World.cell?, hb]; rfl⟩
 obtain ⟨v', w1, hr, ho', hg, hn⟩ := run_append_rd (P := Tryd.prog) W 55 55 3 i0 (.int .i64 0) Tryd.underlying55 hi hz0 hz1 (by omega) rfl _ _ (iw P) (iw [0]) ho hone (oneCell_all [0]) (by rw [iw_length, iw_length]; simp; omega)
 rw [← iw_append] at ho'
 have hf : Fr W w1 (fun k => InBlk u1 k) := (Fr.refl W _).grown hg (fun k hk _ => hk)
 have sep : ∀ k, InBlk v' k → InBlk u1 k ∨ W.heap.size ≤ k := hn
 refine ⟨v', w1, hr, ⟨ho', h.i2.keep hf (fun k hk hk1 => h.a1 k (.inl hk1) hk), h.i3.keep hf (fun k hk hk1 => h.a2 k (.inl hk1) hk), fun k hk hk2 => ?_, fun k hk hk2 => ?_, h.a3, h.fr.then_ hf (fun k hk _ => .inl hk), fun k hk => ?_, h.n2, h.n3⟩, hf⟩
 ·rcases sep k hk with h1 | h1
  ·exact h.a1 k (.inl h1) hk2
  ·have := h.i2.lt _ hk2; omega
 ·rcases sep k hk with h1 | h1
  ·exact h.a2 k (.inl h1) hk2
  ·have := h.i3.lt _ hk2; omega
 ·rcases sep k hk with h1 | h1
  ·exact .inl h1
  ·exact .inr (Nat.le_trans h.fr.size h1)
theorem G3.box2 (h : G3 w W u1 u2 u3 P Z C s1 .raw s3) : G3 w (W.alloc (.cells #[.int .i64 0] 3)) u1 u2 u3 P Z C s1 (.box W.heap.size) s3 := h.rot.box.rot.rot
theorem G3.box3 (h : G3 w W u1 u2 u3 P Z C s1 s2 .raw) : G3 w (W.alloc (.cells #[.int .i64 0] 3)) u1 u2 u3 P Z C s1 s2 (.box W.heap.size) := h.rot.rot.box.rot
theorem G3.app2 {b : Nat} (h : G3 w W u1 u2 u3 P Z C s1 (.box b) s3) (hl : Z.length ≤ 1073741823) :
  ∃ v' W1, (Builtin.append_ #[55, 55] 55 #[u2, .slice (some ⟨b, 0, none⟩) 1 1]).run Tryd.prog W = .ok v' W1 ∧ G3 w W1 u1 u2 u3 P Z C s1 (.app v') s3 ∧ Fr W W1 (fun k => InBlk u2 k) := by
 obtain ⟨v', W1, hr, hg, hf⟩ := h.rot.app hl
 exact ⟨v', W1, hr, hg.rot.rot, hf⟩
theorem G3.app3 {b : Nat} (h : G3 w W u1 u2 u3 P Z C s1 s2 (.box b)) (hl : C.length ≤ 1073741823) :
  ∃ v' W1, (Builtin.append_ #[55, 55] 55 #[u3, .slice (some ⟨b, 0, none⟩) 1 1]).run Tryd.prog W = .ok v' W1 ∧ G3 w W1 u1 u2 u3 P Z C s1 s2 (.app v') ∧ Fr W W1 (fun k => InBlk u3 k) := by
 obtain ⟨v', W1, hr, hg, hf⟩ := h.rot.rot.app hl
 exact ⟨v', W1, hr, hg.rot, hf⟩
theorem G3.blk (h : G3 w W u1 u2 u3 P Z C s1 s2 s3) {g : Nat} {c : Array Value} {T : TypeId} (hb : w.heap[g]? = some (.cells c T (0, 0))) (o1 : Own w 3 u1 (iw P)) (o2 : Own w 3 u2 (iw Z)) (o3 : Own w 3 u3 (iw C)) (ne : T ≠ 3) : W.heap[g]? = some (.cells c T (0, 0)) := by
 refine h.fr.blk hb (fun e => ?_)
 have no : ∀ {u : Value} {l : List Int}, Own w 3 u (iw l) → InBlk u g → False := fun ho hi => by
  obtain ⟨cur, hc⟩ := ho.elem g hi
  rw [hc] at hb
  simp at hb
  exact ne hb.2.symm
 rcases e with e | e | e
 ·exact no o1 e
 ·exact no o2 e
 ·exact no o3 e
end
end Go.Proofs.YtjiaaefpepdoeaaDoor
namespace Go.Proofs.YtjiaaefpepdoeaaDoor
open Go.RowKit Md Go.Proofs.YtjiaaefpepdoeaaDoorW.PrintWords
set_option linter.unusedVariables false
def liveTo (Z C : List Int) : Nat → Int
 | 0 => 0
 | i + 1 => liveTo Z C i + if 0 < C.getD i 0 then Z.getD i 0 else 0
def smallZ (Z : List Int) : Prop := ∀ z ∈ Z, 0 ≤ z ∧ z ≤ 4096
theorem smallZ_get {Z : List Int} (h : smallZ Z) (i : Nat) : 0 ≤ Z.getD i 0 ∧ Z.getD i 0 ≤ 4096 := by
 rw [List.getD_eq_getElem?_getD]
 cases hk : Z[i]? with
 | none => simp
 | some x => exact h x (List.mem_of_getElem? hk)
theorem liveTo_bd {Z : List Int} (h : smallZ Z) (C : List Int) : ∀ i : Nat, 0 ≤ liveTo Z C i ∧ liveTo Z C i ≤ i * 4096
 | 0 => ⟨Int.le_refl _, by simp [liveTo]⟩
 | i + 1 => by
  have h1 := liveTo_bd h C i
  have h2 := smallZ_get h i
  unfold liveTo
  split
  ·constructor
   ·omega
   ·push_cast; omega
  ·constructor
   ·omega
   ·push_cast; omega
def T3 (l : Array Bool) : Bool := l.getD 8 false && l.getD 14 false && l.getD 20 false
theorem T3_set {i : Nat} (h8 : i ≠ 8) (h14 : i ≠ 14) (h20 : i ≠ 20) (l : Array Bool) : T3 (l.setIfInBounds i true) = T3 l := by
 have key : ∀ j, i ≠ j → (l.setIfInBounds i true).getD j false = l.getD j false := fun j hj => by
  simp only [Array.getD_eq_getD_getElem?, Array.getElem?_setIfInBounds_ne hj]
 unfold T3
 rw [key 8 h8, key 14 h14, key 20 h20]
theorem T3_k {l : Array Bool} (h : T3 l = true) : l.getD 8 false = true ∧ l.getD 14 false = true ∧ l.getD 20 false = true := by
 unfold T3 at h
 simp only [Bool.and_eq_true] at h
 exact ⟨h.1.1, h.1.2, h.2⟩
theorem getD_ft {l : Array Bool} {j : Nat} (h : l.getD j false = true) : l.getD j true = true := by
 simp only [Array.getD_eq_getD_getElem?] at h ⊢
 cases hj : l[j]? with
 | none => rw [hj] at h; simp at h
 | some x => rw [hj] at h; simpa using h
theorem T3_8 (l : Array Bool) (h : T3 l = true) : l.getD 8 true = true := getD_ft (T3_k h).1
theorem T3_14 (l : Array Bool) (h : T3 l = true) : l.getD 14 true = true := getD_ft (T3_k h).2.1
theorem T3_20 (l : Array Bool) (h : T3 l = true) : l.getD 20 true = true := getD_ft (T3_k h).2.2
section
variable {W W1 : World} {s : Nat} {bv pv zv cv : Value} {most : Int} {B P Z C : List Int}
theorem StG.cells (h : StG W s bv pv zv cv most B P Z C) : W.cell? ⟨s, 0, none⟩ = some bv ∧ W.cell? ⟨s, 1, none⟩ = some (.int .i64 most) ∧ W.cell? ⟨s, 2, none⟩ = some pv ∧ W.cell? ⟨s, 3, none⟩ = some zv ∧ W.cell? ⟨s, 4, none⟩ = some cv := by
 simp [World.cell?, h.blk]
theorem StG.fr (h : StG W s bv pv zv cv most B P Z C) (hf : Fr W W1 fun _ => False) : StG W1 s bv pv zv cv most B P Z C :=
 ⟨hf.blk h.blk (fun h => h), h.ob.keep hf (fun _ _ h => h), h.op.keep hf (fun _ _ h => h), h.oz.keep hf (fun _ _ h => h), h.oc.keep hf (fun _ _ h => h), h.a1, h.a2, h.a3, h.lp, h.lz⟩
end
set_option maxRecDepth 100000 in
set_option maxHeartbeats 2000000 in
theorem slive_c (s : Nat) (bv pv zv cv : Value) (most : Int) (B P Z C : List Int) (w : World) (h : StG w s bv pv zv cv most B P Z C) (hz : smallZ Z) (hl : C.length ≤ 1048576) :
  Calls Tryd.prog 44 #[.pointer (some ⟨s, 0, none⟩)] w fun e w' => e = .returned (.int .i64 (liveTo Z C C.length)) ∧ w = w' := by
 obtain ⟨k0, k1, k2, k3, k4⟩ := h.cells
 obtain ⟨Az, cz, rfl⟩ := h.oz.rd.len
 obtain ⟨Ac, cc, rfl⟩ := h.oc.rd.len
 simp only [iw_length] at k3 k4 h
 have HOZ := Lib.hid h.oz
 have HOC := Lib.hid h.oc
 have HZ := Lib.hid hz
 have HL := Lib.hid hl
 have HLZ := Lib.hid h.lz
 have hlz := h.lz
 have qc : (C.length : Int) ≤ 1048576 := by omega
 clear h hz hl hlz
 go_enter Tryd.func44, Tryd.ntmps44
 go_wp2
 go_loopg [3, 4] C.length (fun g a3 a4 wr => ∃ (n : Int) (i : Nat), a3 = .int .i64 n ∧ a4 = .int .i64 i ∧ g + i = C.length ∧ w = wr ∧ Hid (n = liveTo Z C i ∧ 0 ≤ n ∧ n ≤ 4294967296))
 case atStart => exact ⟨0, 0, rfl, rfl, by omega, rfl, Lib.hid ⟨rfl, by omega, by omega⟩⟩
 case round =>
  obtain ⟨n, i, rfl, rfl, hgi, rfl, HI⟩ := hrel
  have HGI := Lib.hid hgi
  clear hgi
  have n0 := HI.out.2.1
  have n1 := HI.out.2.2
  by_cases hi : i < C.length
  ·have HIL := Lib.hid hi
   have d1 : decide (i < C.length) = true := decide_eq_true hi
   have qi : (i : Int) < C.length := by omega
   have qz : (i : Int) < Z.length := by rw [HLZ.out]; exact qi
   obtain ⟨gc, rfl, _, hc⟩ := HOC.out.cellAt (by rw [iw_length]; omega)
   obtain ⟨gz, rfl, _, hc2⟩ := HOZ.out.cellAt (by rw [iw_length, HLZ.out]; omega)
   have ck := (hc i (by rw [iw_length]; exact hi)).1
   have zk := (hc2 i (by rw [iw_length, HLZ.out]; exact hi)).1
   rw [iw_get hi] at ck
   rw [iw_get (by rw [HLZ.out]; exact hi)] at zk
   have zb := smallZ_get HZ.out i
   obtain ⟨c, hcc⟩ : ∃ c, C.getD i 0 = c := ⟨_, rfl⟩
   obtain ⟨z, hzz⟩ : ∃ z, Z.getD i 0 = z := ⟨_, rfl⟩
   rw [hcc] at ck
   rw [hzz] at zk zb
   have zb1 := zb.1
   have zb2 := zb.2
   have HST : Hid (liveTo Z C (i + 1) = n + if 0 < c then z else 0) := Lib.hid (by rw [HI.out.1, ← hcc, ← hzz]; rfl)
   have HBD := Lib.hid (liveTo_bd HZ.out C (i + 1))
   clear hc hc2 hcc hzz hi zb
   by_cases h0 : 0 < c
   ·have d2 : decide (0 < c) = true := decide_eq_true h0
    clear h0
    go_wp2
    go_roundg (gk - 1)
    case measure => have := HGI.out; have := HIL.out; omega
    case rel =>
     have h1 := HST.out
     rw [if_pos (of_decide_eq_true d2)] at h1
     have h2 := HBD.out
     rw [h1] at h2
     exact ⟨n + z, i + 1, by first | rfl | go_num, by first | rfl | go_num, by have := HGI.out; have := HIL.out; omega, rfl, Lib.hid ⟨h1.symm, h2.1, by have := HL.out; have := HIL.out; push_cast at h2; omega⟩⟩
   ·have d2 : decide (0 < c) = false := decide_eq_false h0
    clear h0
    go_wp2
    go_roundg (gk - 1)
    case measure => have := HGI.out; have := HIL.out; omega
    case rel =>
     have h1 := HST.out
     rw [if_neg (of_decide_eq_false d2), Int.add_zero] at h1
     exact ⟨n, i + 1, by first | rfl | go_num, by first | rfl | go_num, by have := HGI.out; have := HIL.out; omega, rfl, Lib.hid ⟨h1.symm, HI.out.2⟩⟩
  ·have d1 : decide (i < C.length) = false := decide_eq_false hi
   have hie : i = C.length := by have := HGI.out; omega
   have HE : Hid (n = liveTo Z C C.length) := Lib.hid (by rw [← hie]; exact HI.out.1)
   clear hi hie
   go_wp2
   go_ret
   exact ⟨by rw [HE.out]; rfl, rfl⟩
theorem kept3 {w : World} {s : Nat} {a b c : Value} (h : w.cell? ⟨s, 2, none⟩ = some a ∧ w.cell? ⟨s, 3, none⟩ = some b ∧ w.cell? ⟨s, 4, none⟩ = some c) (o : Obj) :
  (w.alloc o).cell? ⟨s, 2, none⟩ = some a ∧ (w.alloc o).cell? ⟨s, 3, none⟩ = some b ∧ (w.alloc o).cell? ⟨s, 4, none⟩ = some c :=
 ⟨((Fr.refl w (fun _ => False)).alloc _).cell h.1 (fun h => h), ((Fr.refl w (fun _ => False)).alloc _).cell h.2.1 (fun h => h), ((Fr.refl w (fun _ => False)).alloc _).cell h.2.2 (fun h => h)⟩
theorem kept3f {w W : World} {s : Nat} {u a b c : Value} (h : w.cell? ⟨s, 2, none⟩ = some a ∧ w.cell? ⟨s, 3, none⟩ = some b ∧ w.cell? ⟨s, 4, none⟩ = some c) (hf : Fr w W (fun k => InBlk u k)) (n : ¬ InBlk u s) :
  W.cell? ⟨s, 2, none⟩ = some a ∧ W.cell? ⟨s, 3, none⟩ = some b ∧ W.cell? ⟨s, 4, none⟩ = some c :=
 ⟨hf.cell h.1 n, hf.cell h.2.1 n, hf.cell h.2.2 n⟩
theorem len_app {w : World} {v : Value} {L : List Int} (ho : Own w 3 v (iw (L ++ [0]))) : ∃ A c, v = .slice A (L.length + 1) c := by
 obtain ⟨A, c, e⟩ := ho.rd.len
 rw [iw_length, List.length_append] at e
 exact ⟨A, c, e⟩
structure G3E (w W : World) (s : Nat) (bv v1 v2 v3 pv zv cv : Value) (most : Int) (B P Z C : List Int) : Prop where
 blk : W.heap[s]? = some (.cells #[bv, .int .i64 most, v1, v2, v3] 79 (0, 0))
 ob : Own W 5 bv (nw .u8 B)
 o1 : Own W 3 v1 (iw (P ++ [0]))
 o2 : Own W 3 v2 (iw (Z ++ [0]))
 o3 : Own W 3 v3 (iw (C ++ [0]))
 a1 : ∀ k, InBlk v1 k → ¬ InBlk v2 k
 a2 : ∀ k, InBlk v1 k → ¬ InBlk v3 k
 a3 : ∀ k, InBlk v2 k → ¬ InBlk v3 k
 fr : Fr w W (fun k => k = s ∨ InBlk pv k ∨ InBlk zv k ∨ InBlk cv k)
 n1 : ∀ k, InBlk v1 k → InBlk pv k ∨ w.heap.size ≤ k
 n2 : ∀ k, InBlk v2 k → InBlk zv k ∨ w.heap.size ≤ k
 n3 : ∀ k, InBlk v3 k → InBlk cv k ∨ w.heap.size ≤ k
theorem g3_end {w W : World} {s : Nat} {bv v1 v2 v3 pv zv cv : Value} {most : Int} {B P Z C : List Int} (h0 : StG w s bv pv zv cv most B P Z C) (h : G3 w W pv zv cv P Z C (.app v1) (.app v2) (.app v3)) : G3E w (((W.setCell ⟨s, 2, none⟩ v1).setCell ⟨s, 3, none⟩ v2).setCell ⟨s, 4, none⟩ v3) s bv v1 v2 v3 pv zv cv most B P Z C := by
 have hb := h.blk h0.blk h0.op h0.oz h0.oc (by decide)
 have hf : Fr W (((W.setCell ⟨s, 2, none⟩ v1).setCell ⟨s, 3, none⟩ v2).setCell ⟨s, 4, none⟩ v3) (fun i => i = s) := (((Fr.refl W (fun i => i = s)).setCell (a := ⟨s, 2, none⟩) (fun _ => rfl) _).setCell (a := ⟨s, 3, none⟩) (fun _ => rfl) _).setCell (a := ⟨s, 4, none⟩) (fun _ => rfl) _
 have ob : Own W 5 bv (nw .u8 B) := h0.ob.keep h.fr (fun k hk e => by
  obtain ⟨c, hc⟩ := h0.ob.elem k hk
  rcases e with e | e | e
  ·obtain ⟨c2, hc2⟩ := h0.op.elem k e; rw [hc] at hc2; simp at hc2
  ·obtain ⟨c2, hc2⟩ := h0.oz.elem k e; rw [hc] at hc2; simp at hc2
  ·obtain ⟨c2, hc2⟩ := h0.oc.elem k e; rw [hc] at hc2; simp at hc2)
 have ns : ∀ {e : TypeId} {v : Value} {xs : List Value}, Own W e v xs → e ≠ 79 → ∀ k, InBlk v k → k ≠ s := fun {e v xs} ho ne k hk es => by
  obtain ⟨c, hc⟩ := ho.elem k hk
  rw [es, hb] at hc
  simp at hc
  exact ne hc.2.symm
 refine ⟨?_, ob.keep hf (ns ob (by decide)), Own.keep h.i1 hf (ns h.i1 (by decide)), Own.keep h.i2 hf (ns h.i2 (by decide)), Own.keep h.i3 hf (ns h.i3 (by decide)), h.a1, h.a2, h.a3, (h.fr.mono (fun i hi _ => .inr hi)).then_ hf (fun i hi _ => .inl hi), h.n1, h.n2, h.n3⟩
 refine blk_put (cs := #[bv, .int .i64 most, v1, v2, cv]) ?_ 4 _ rfl
 refine blk_put (cs := #[bv, .int .i64 most, v1, zv, cv]) ?_ 3 _ rfl
 refine blk_put (cs := #[bv, .int .i64 most, pv, zv, cv]) ?_ 2 _ rfl
 exact hb
theorem set_last (L : List Int) (x : Int) {n : Nat} (hn : L.length = n) : (iw (L ++ [0])).set n (.int .i64 x) = iw (L ++ [x]) := by
 subst hn
 unfold iw
 simp
theorem g5_set {w W : World} {s g1 g2 g3 c1 c2 c3 n : Nat} {bv pv zv cv : Value} {most : Int} {B P Z C : List Int} (x y z : Int) (h : G3E w W s bv (.slice (some ⟨g1, 0, none⟩) (P.length + 1) c1) (.slice (some ⟨g2, 0, none⟩) (Z.length + 1) c2) (.slice (some ⟨g3, 0, none⟩) (C.length + 1) c3) pv zv cv most B P Z C) (hp : P.length = n) (hz : Z.length = n) (hc : C.length = n) :
  StG ((((W.setCell ⟨g1, n, none⟩ (.int .i64 x)).setCell ⟨g2, n, none⟩ (.int .i64 y)).setCell ⟨g3, n, none⟩ (.int .i64 z)).drew) s bv (.slice (some ⟨g1, 0, none⟩) (P.length + 1) c1) (.slice (some ⟨g2, 0, none⟩) (Z.length + 1) c2) (.slice (some ⟨g3, 0, none⟩) (C.length + 1) c3) most B (P ++ [x]) (Z ++ [y]) (C ++ [z]) ∧
  Fr w ((((W.setCell ⟨g1, n, none⟩ (.int .i64 x)).setCell ⟨g2, n, none⟩ (.int .i64 y)).setCell ⟨g3, n, none⟩ (.int .i64 z)).drew) (fun k => k = s ∨ InBlk pv k ∨ InBlk zv k ∨ InBlk cv k) := by
 have own1 : InBlk (.slice (some ⟨g1, 0, none⟩) (P.length + 1) c1) g1 := by simp [InBlk, Value.ownBlock]
 have own2 : InBlk (.slice (some ⟨g2, 0, none⟩) (Z.length + 1) c2) g2 := by simp [InBlk, Value.ownBlock]
 have own3 : InBlk (.slice (some ⟨g3, 0, none⟩) (C.length + 1) c3) g3 := by simp [InBlk, Value.ownBlock]
 have only : ∀ {g m c k : Nat}, InBlk (.slice (some ⟨g, 0, none⟩) m c) k → k = g := fun hk => by simp [InBlk, Value.ownBlock] at hk; exact hk.symm
 have n12 : g1 ≠ g2 := fun e => h.a1 g1 own1 (by rw [e]; exact own2)
 have n13 : g1 ≠ g3 := fun e => h.a2 g1 own1 (by rw [e]; exact own3)
 have n23 : g2 ≠ g3 := fun e => h.a3 g2 own2 (by rw [e]; exact own3)
 have l1 : (iw (P ++ [0])).length = P.length + 1 := by rw [iw_length, List.length_append]; rfl
 have l2 : (iw (Z ++ [0])).length = Z.length + 1 := by rw [iw_length, List.length_append]; rfl
 have l3 : (iw (C ++ [0])).length = C.length + 1 := by rw [iw_length, List.length_append]; rfl
 have o1 := h.o1
 have o2 := h.o2
 have o3 := h.o3
 rw [← l1] at o1
 rw [← l2] at o2
 rw [← l3] at o3
 obtain ⟨t1, f1⟩ := Own.setAt (k := n) (u := .int .i64 x) o1 (by rw [l1]; omega)
 obtain ⟨t2, f2⟩ := Own.setAt (k := n) (u := .int .i64 y) (o2.keep f1 (fun k hk e => n12 (by rw [← e]; exact only hk))) (by rw [l2]; omega)
 obtain ⟨t3, f3⟩ := Own.setAt (k := n) (u := .int .i64 z) ((o3.keep f1 (fun k hk e => n13 (by rw [← e]; exact only hk))).keep f2 (fun k hk e => n23 (by rw [← e]; exact only hk))) (by rw [l3]; omega)
 rw [set_last P x hp, l1] at t1
 rw [set_last Z y hz, l2] at t2
 rw [set_last C z hc, l3] at t3
 have fd : ∀ V : World, Fr V V.drew (fun _ => False) := fun V => (Fr.refl V _).drew
 have s1 : s ≠ g1 := fun e => h.o1.not_box h.blk (by decide) (by rw [e]; exact own1)
 have s2 : s ≠ g2 := fun e => h.o2.not_box h.blk (by decide) (by rw [e]; exact own2)
 have s3 : s ≠ g3 := fun e => h.o3.not_box h.blk (by decide) (by rw [e]; exact own3)
 have ob := h.ob
 have ty : ∀ {g : Nat}, (∃ c, W.heap[g]? = some (.cells c 3 (0, 0))) → ∀ k, InBlk bv k → k ≠ g := fun hc k hk e => by
  obtain ⟨c, hc⟩ := hc
  obtain ⟨c2, hc2⟩ := ob.elem k hk
  rw [e, hc] at hc2
  simp at hc2
 have b1 := ty (h.o1.elem g1 own1)
 have b2 := ty (h.o2.elem g2 own2)
 have b3 := ty (h.o3.elem g3 own3)
 refine ⟨⟨(fd _).blk (f3.blk (f2.blk (f1.blk h.blk s1) s2) s3) (fun h => h), ((((ob.keep f1 b1).keep f2 b2).keep f3 b3)).keep (fd _) (fun _ _ h => h), ?_, ?_, t3.keep (fd _) (fun _ _ h => h), h.a1, h.a2, h.a3, by simp [hp, hc], by simp [hz, hc]⟩, ?_⟩
 ·exact ((t1.keep f2 (fun k hk e => n12 (by rw [← only hk]; exact e))).keep f3 (fun k hk e => n13 (by rw [← only hk]; exact e))).keep (fd _) (fun _ _ h => h)
 ·exact (t2.keep f3 (fun k hk e => n23 (by rw [← only hk]; exact e))).keep (fd _) (fun _ _ h => h)
 ·have up : ∀ {g : Nat} {v u : Value}, InBlk v g → (∀ k, InBlk v k → InBlk u k ∨ w.heap.size ≤ k) → g < w.heap.size → InBlk u g := fun hi hn hl => (hn _ hi).elim id (fun e => absurd hl (Nat.not_lt.2 e))
  exact (((h.fr.then_ f1 (fun i hi hl => by rw [hi] at hl ⊢; exact .inr (.inl (up own1 h.n1 hl)))).then_ f2 (fun i hi hl => by rw [hi] at hl ⊢; exact .inr (.inr (.inl (up own2 h.n2 hl))))).then_ f3 (fun i hi hl => by rw [hi] at hl ⊢; exact .inr (.inr (.inr (up own3 h.n3 hl))))).drew
def GrA (w : World) (s : Nat) (bv pv zv cv : Value) (most : Int) (B P Z C b : List Int) (e : Ending) (w' : World) : Prop :=
 ∃ bv' pv' zv' cv', e = .returned (.tuple #[.int .i64 ((C.length : Int) + 1), .bool true]) ∧ StG w' s bv' pv' zv' cv' most (B ++ b) (P ++ [(B.length : Int)]) (Z ++ [(b.length : Int)]) (C ++ [1]) ∧ Fr w w' (fun k => k = s ∨ InBlk bv k ∨ InBlk pv k ∨ InBlk zv k ∨ InBlk cv k) ∧ (∀ k, InBlk bv' k → InBlk bv k ∨ w.heap.size ≤ k) ∧ (∀ k, InBlk pv' k → InBlk pv k ∨ w.heap.size ≤ k) ∧ (∀ k, InBlk zv' k → InBlk zv k ∨ w.heap.size ≤ k) ∧ ∀ k, InBlk cv' k → InBlk cv k ∨ w.heap.size ≤ k
set_option maxRecDepth 100000 in
set_option maxHeartbeats 16000000 in
theorem grant_new (s : Nat) (bv pv zv cv : Value) (most : Int) (B P Z C b : List Int) (A : Option Addr) (cap : Nat) (w : World) (h : StG w s bv pv zv cv most B P Z C) (hb : Rd w (.slice A b.length cap) (nw .u8 b)) (h0 : 0 < b.length) (hb1 : b.length ≤ 4096)
    (apb : ∀ k, InBlk (.slice A b.length cap) k → ¬ (k = s ∨ InBlk pv k ∨ InBlk zv k ∨ InBlk cv k)) (hc : ∀ c ∈ C, 0 < c) (hz : smallZ Z) (hm : 0 ≤ most ∧ most ≤ 1048576) (hlv : liveTo Z C C.length ≤ most - b.length) (hB : (B.length : Int) ≤ most - b.length) (hC : C.length ≤ 1000000) :
    Calls Tryd.prog 15 #[.pointer (some ⟨s, 0, none⟩), .slice A b.length cap] w (GrA w s bv pv zv cv most B P Z C b) := by
  have H := Lib.hid h
  obtain ⟨Ab, cb, rfl⟩ := h.ob.rd.len
  obtain ⟨Ap, cp, rfl⟩ := h.op.rd.len
  obtain ⟨Az, cz, rfl⟩ := h.oz.rd.len
  obtain ⟨Ac, cc, rfl⟩ := h.oc.rd.len
  simp only [iw_length, nw_length] at h H ⊢ apb
  obtain ⟨lv, hlvv⟩ : ∃ lv, liveTo Z C C.length = lv := ⟨_, rfl⟩
  have HLV := Lib.hid hlvv
  rw [hlvv] at hlv
  have hlb : 0 ≤ lv := by rw [← hlvv]; exact (liveTo_bd hz C C.length).1
  have HZ := Lib.hid hz
  have HCC := Lib.hid hc
  have HBR := Lib.hid hb
  have HAP := Lib.hid apb
  have HL0 : Hid (C.length ≤ 1048576) := Lib.hid (by omega)
  have HL1 : Hid (P.length ≤ 1073741823) := Lib.hid (by have := h.lp; omega)
  have HL2 : Hid (Z.length ≤ 1073741823) := Lib.hid (by have := h.lz; omega)
  have HL3 : Hid (C.length ≤ 1073741823) := Lib.hid (by omega)
  have HB1 : Hid (0 < b.length ∧ b.length ≤ 4096 ∧ (B.length : Int) ≤ most - b.length ∧ most ≤ 1048576 ∧ C.length ≤ 1000000) := Lib.hid ⟨h0, hb1, hB, hm.2, hC⟩
  have m0 := hm.1
  have m1 := hm.2
  have qb0 : (0 : Int) < b.length := by omega
  have qb1 : (b.length : Int) ≤ 4096 := by omega
  have qB : (B.length : Int) ≤ 1048576 := by omega
  have qC : (C.length : Int) ≤ 1000000 := by omega
  have d0 : (b.length == 0) = false := beq_eq_false_iff_ne.2 (by omega)
  have d0' : ((b.length : Int) == 0) = false := beq_eq_false_iff_ne.2 (by omega)
  have d1 : decide (most - (b.length : Int) < lv) = false := decide_eq_false (by omega)
  have d2 : decide (most - (b.length : Int) < (B.length : Int)) = false := decide_eq_false (by omega)
  have hw1 : IntKind.i64.wrap (most - (b.length : Int)) = most - b.length := IntWalk.i64_in _ (by omega)
  have HLQ : Hid (∀ n, Calls Tryd.prog 44 #[.pointer (some ⟨s, 0, none⟩)] (w.drewN n) fun e w' => e = .returned (.int .i64 lv) ∧ w' = w.drewN n) := Lib.hid (fun n => by
    have h2 := slive_c s _ _ _ _ most B P Z C (w.drewN n) (h.fr ((Fr.refl w (fun _ => False)).drewN n)) hz (by omega)
    rw [hlvv] at h2
    exact h2.mono fun e w' hh => ⟨hh.1, hh.2.symm⟩)
  clear h hb hc hz hlv hlvv hB hC h0 hb1 apb hm
  have k0 : w.cell? ⟨s, 0, none⟩ = some (.slice Ab B.length cb) := by simp [World.cell?, H.out.blk]
  have kf0 : w.frozen? ⟨s, 0, none⟩ = false := by simp [World.frozen?, H.out.blk]
  have k1 : w.cell? ⟨s, 1, none⟩ = some (.int .i64 most) := by simp [World.cell?, H.out.blk]
  have kf1 : w.frozen? ⟨s, 1, none⟩ = false := by simp [World.frozen?, H.out.blk]
  have k2 : w.cell? ⟨s, 2, none⟩ = some (.slice Ap P.length cp) := by simp [World.cell?, H.out.blk]
  have kf2 : w.frozen? ⟨s, 2, none⟩ = false := by simp [World.frozen?, H.out.blk]
  have k3 : w.cell? ⟨s, 3, none⟩ = some (.slice Az Z.length cz) := by simp [World.cell?, H.out.blk]
  have kf3 : w.frozen? ⟨s, 3, none⟩ = false := by simp [World.frozen?, H.out.blk]
  have k4 : w.cell? ⟨s, 4, none⟩ = some (.slice Ac C.length cc) := by simp [World.cell?, H.out.blk]
  have kf4 : w.frozen? ⟨s, 4, none⟩ = false := by simp [World.frozen?, H.out.blk]
  go_enter Tryd.func15, Tryd.ntmps15
  go_upto_region 3 with (fail)
  go_quiet ((go_at_call 44; exact Calls.quiet_of_same (HLQ.out _)))
  have H1 := Lib.hid (H.out.fr ((Fr.refl w (fun _ => False)).drewN nq))
  have HF1 := Lib.hid ((Fr.refl w (fun _ => False)).drewN nq)
  obtain ⟨w1, hw1_⟩ : ∃ w1, w.drewN nq = w1 := ⟨_, rfl⟩
  rw [hw1_] at H1 HF1
  (try simp only [hw1_])
  clear hw1_ k0 kf0 k1 kf1 k2 kf2 k3 kf3 k4 kf4
  have k0 : w1.cell? ⟨s, 0, none⟩ = some (.slice Ab B.length cb) := by simp [World.cell?, H1.out.blk]
  have kf0 : w1.frozen? ⟨s, 0, none⟩ = false := by simp [World.frozen?, H1.out.blk]
  have k1 : w1.cell? ⟨s, 1, none⟩ = some (.int .i64 most) := by simp [World.cell?, H1.out.blk]
  have kf1 : w1.frozen? ⟨s, 1, none⟩ = false := by simp [World.frozen?, H1.out.blk]
  have k2 : w1.cell? ⟨s, 2, none⟩ = some (.slice Ap P.length cp) := by simp [World.cell?, H1.out.blk]
  have kf2 : w1.frozen? ⟨s, 2, none⟩ = false := by simp [World.frozen?, H1.out.blk]
  have k3 : w1.cell? ⟨s, 3, none⟩ = some (.slice Az Z.length cz) := by simp [World.cell?, H1.out.blk]
  have kf3 : w1.frozen? ⟨s, 3, none⟩ = false := by simp [World.frozen?, H1.out.blk]
  have k4 : w1.cell? ⟨s, 4, none⟩ = some (.slice Ac C.length cc) := by simp [World.cell?, H1.out.blk]
  have kf4 : w1.frozen? ⟨s, 4, none⟩ = false := by simp [World.frozen?, H1.out.blk]
  go_upto_region 5 with (fail)
  go_quiet (fail)
  have H2 := Lib.hid (H1.out.fr ((Fr.refl w1 (fun _ => False)).drewN nq))
  have HF2 := Lib.hid (HF1.out.trans ((Fr.refl w1 (fun _ => False)).drewN nq))
  obtain ⟨w2, hw2_⟩ : ∃ w2, w1.drewN nq = w2 := ⟨_, rfl⟩
  rw [hw2_] at H2 HF2
  (try simp only [hw2_])
  clear hw2_ k0 kf0 k1 kf1 k2 kf2 k3 kf3 k4 kf4 d1 d2 hw1
  have k0 : w2.cell? ⟨s, 0, none⟩ = some (.slice Ab B.length cb) := by simp [World.cell?, H2.out.blk]
  have kf0 : w2.frozen? ⟨s, 0, none⟩ = false := by simp [World.frozen?, H2.out.blk]
  have k1 : w2.cell? ⟨s, 1, none⟩ = some (.int .i64 most) := by simp [World.cell?, H2.out.blk]
  have kf1 : w2.frozen? ⟨s, 1, none⟩ = false := by simp [World.frozen?, H2.out.blk]
  have k2 : w2.cell? ⟨s, 2, none⟩ = some (.slice Ap P.length cp) := by simp [World.cell?, H2.out.blk]
  have kf2 : w2.frozen? ⟨s, 2, none⟩ = false := by simp [World.frozen?, H2.out.blk]
  have k3 : w2.cell? ⟨s, 3, none⟩ = some (.slice Az Z.length cz) := by simp [World.cell?, H2.out.blk]
  have kf3 : w2.frozen? ⟨s, 3, none⟩ = false := by simp [World.frozen?, H2.out.blk]
  have k4 : w2.cell? ⟨s, 4, none⟩ = some (.slice Ac C.length cc) := by simp [World.cell?, H2.out.blk]
  have kf4 : w2.frozen? ⟨s, 4, none⟩ = false := by simp [World.frozen?, H2.out.blk]
  go_wp2
  go_loopg [6] C.length (fun g a6 wr => ∃ i : Nat, a6 = .int .i64 i ∧ g + i = C.length ∧ w2 = wr)
  case atStart => exact ⟨0, rfl, by omega, rfl⟩
  case round =>
    obtain ⟨i, rfl, hgi, rfl⟩ := hrel
    have HGI := Lib.hid hgi
    clear hgi
    by_cases hi : i < C.length
    · have HIL := Lib.hid hi
      have e1 : decide (i < C.length) = true := decide_eq_true hi
      have qi : (i : Int) < C.length := by omega
      obtain ⟨gc, rfl, _, hcc⟩ := H2.out.oc.cellAt (by rw [iw_length]; omega)
      have ck := (hcc i (by rw [iw_length]; exact hi)).1
      rw [iw_get hi] at ck
      have hpos := HCC.out (C.getD i 0) (by rw [List.getD_eq_getElem?_getD, List.getElem?_eq_getElem hi]; exact List.getElem_mem hi)
      obtain ⟨c, hce⟩ : ∃ c, C.getD i 0 = c := ⟨_, rfl⟩
      rw [hce] at ck hpos
      have e2 : decide (0 < c) = true := decide_eq_true hpos
      clear hcc hce hpos hi
      go_wp2
      go_roundg (gk - 1)
      case measure => have := HGI.out; have := HIL.out; omega
      case rel => exact ⟨i + 1, by first | rfl | go_num, by have := HGI.out; have := HIL.out; omega, rfl⟩
    · have e1 : decide (i < C.length) = false := decide_eq_false hi
      have hie : i = C.length := by have := HGI.out; omega
      subst hie
      clear hi HGI
      go_upto_region 11 with (fail)
      go_cut [6] (fun a6 wx => a6 = .int .i64 C.length ∧ ∃ A1 c1 A2 c2 A3 c3, Hid (G3E w2 wx s (.slice Ab B.length cb) (.slice A1 (P.length + 1) c1) (.slice A2 (Z.length + 1) c2) (.slice A3 (C.length + 1) c3) (.slice Ap P.length cp) (.slice Az Z.length cz) (.slice Ac C.length cc) most B P Z C))
      case first =>
        have HG0 : Hid (G3 w2 w2.drew (.slice Ap P.length cp) (.slice Az Z.length cz) (.slice Ac C.length cc) P Z C .raw .raw .raw) := Lib.hid (G3.drew ⟨H2.out.op, H2.out.oz, H2.out.oc, H2.out.a1, H2.out.a2, H2.out.a3, Fr.refl _ _, fun k hk => .inl hk, fun k hk => .inl hk, fun k hk => .inl hk⟩)
        have HNS1 : Hid (¬ InBlk (.slice Ap P.length cp) s) := Lib.hid (fun e => H2.out.op.not_box H2.out.blk (by decide) e)
        have HNS2 : Hid (¬ InBlk (.slice Az Z.length cz) s) := Lib.hid (fun e => H2.out.oz.not_box H2.out.blk (by decide) e)
        have HNS3 : Hid (¬ InBlk (.slice Ac C.length cc) s) := Lib.hid (fun e => H2.out.oc.not_box H2.out.blk (by decide) e)
        have k2d : w2.drew.cell? ⟨s, 2, none⟩ = some (.slice Ap P.length cp) := k2
        have k3d : w2.drew.cell? ⟨s, 3, none⟩ = some (.slice Az Z.length cz) := k3
        have k4d : w2.drew.cell? ⟨s, 4, none⟩ = some (.slice Ac C.length cc) := k4
        clear k0 kf0 k1 kf1 k2 kf2 k3 kf3 k4 kf4
        refine wp_region_till (S := fun w' => w'.cell? ⟨s, 2, none⟩ = some (.slice Ap P.length cp) ∧ w'.cell? ⟨s, 3, none⟩ = some (.slice Az Z.length cz) ∧ w'.cell? ⟨s, 4, none⟩ = some (.slice Ac C.length cc)) (T := T3) (by kernel_rfl) ?_
        have hS := And.intro k2d (And.intro k3d k4d)
        obtain ⟨w3, hw3⟩ : ∃ w3, w2.drew = w3 := ⟨_, rfl⟩
        rw [hw3] at hS HG0 ⊢
        clear hw3 k2d k3d k4d
        refine wpTill_pure (i := 0) (v := .pointer (some ⟨s, 0, none⟩)) rfl (by kernel_rfl) (by kernel_rfl) (by kernel_rfl) (fun _ _ _ h => h) (T3_set (by decide) (by decide) (by decide)) (Or.inl ⟨by rfl, ?_⟩) (fun _ => hS) ?_
        · intro w; go_simp; try rfl
        (try simp only [Act.put, List.setIfInBounds_toArray, List.set_cons_zero, List.set_cons_succ])
        refine wpTill_pure (i := 1) (v := .pointer (some ⟨s, 0, none⟩)) rfl (by kernel_rfl) (by kernel_rfl) (by kernel_rfl) (fun _ _ _ h => h) (T3_set (by decide) (by decide) (by decide)) (Or.inl ⟨by rfl, ?_⟩) (fun _ => hS) ?_
        · intro w; go_simp; try rfl
        (try simp only [Act.put, List.setIfInBounds_toArray, List.set_cons_zero, List.set_cons_succ])
        refine wpTill_pure (i := 2) (v := .pointer (some ⟨s, 0, none⟩)) rfl (by kernel_rfl) (by kernel_rfl) (by kernel_rfl) (fun _ _ _ h => h) (T3_set (by decide) (by decide) (by decide)) (Or.inl ⟨by rfl, ?_⟩) (fun _ => hS) ?_
        · intro w; go_simp; try rfl
        (try simp only [Act.put, List.setIfInBounds_toArray, List.set_cons_zero, List.set_cons_succ])
        refine wpTill_pure (i := 3) (v := .pointer (some ⟨s, 0, none⟩)) rfl (by kernel_rfl) (by kernel_rfl) (by kernel_rfl) (fun _ _ _ h => h) (T3_set (by decide) (by decide) (by decide)) (Or.inl ⟨by rfl, ?_⟩) (fun _ => hS) ?_
        · intro w; go_simp; try rfl
        (try simp only [Act.put, List.setIfInBounds_toArray, List.set_cons_zero, List.set_cons_succ])
        refine wpTill_pure (i := 4) (v := .pointer (some ⟨s, 0, none⟩)) rfl (by kernel_rfl) (by kernel_rfl) (by kernel_rfl) (fun _ _ _ h => h) (T3_set (by decide) (by decide) (by decide)) (Or.inl ⟨by rfl, ?_⟩) (fun _ => hS) ?_
        · intro w; go_simp; try rfl
        (try simp only [Act.put, List.setIfInBounds_toArray, List.set_cons_zero, List.set_cons_succ])
        refine wpTill_pure (i := 5) (v := .pointer (some ⟨s, 2, none⟩)) rfl (by kernel_rfl) (by kernel_rfl) (by kernel_rfl) (fun _ _ _ h => h) (T3_set (by decide) (by decide) (by decide)) (Or.inl ⟨by rfl, ?_⟩) (fun _ => hS) ?_
        · intro w; go_simp; try rfl
        (try simp only [Act.put, List.setIfInBounds_toArray, List.set_cons_zero, List.set_cons_succ])
        refine wpTill_read 8 (i := 6) (v := .slice Ap P.length cp) rfl (by kernel_rfl) (by kernel_rfl) (by kernel_rfl) (fun _ _ _ h => h) (T3_set (by decide) (by decide) (by decide)) T3_8 (by kernel_rfl) (by kernel_rfl) (Or.inl ⟨by rfl, ?_⟩) hS ?_
        · intro w hSw; obtain ⟨j2, j3, j4⟩ := hSw; go_simp; try rfl
        (try simp only [Act.put, List.setIfInBounds_toArray, List.set_cons_zero, List.set_cons_succ])
        refine wpTill_pure (i := 9) (v := .pointer (some ⟨s, 0, none⟩)) rfl (by kernel_rfl) (by kernel_rfl) (by kernel_rfl) (fun _ _ _ h => h) (T3_set (by decide) (by decide) (by decide)) (Or.inl ⟨by rfl, ?_⟩) (fun _ => hS) ?_
        · intro w; go_simp; try rfl
        (try simp only [Act.put, List.setIfInBounds_toArray, List.set_cons_zero, List.set_cons_succ])
        refine wpTill_pure (i := 10) (v := .pointer (some ⟨s, 0, none⟩)) rfl (by kernel_rfl) (by kernel_rfl) (by kernel_rfl) (fun _ _ _ h => h) (T3_set (by decide) (by decide) (by decide)) (Or.inl ⟨by rfl, ?_⟩) (fun _ => hS) ?_
        · intro w; go_simp; try rfl
        (try simp only [Act.put, List.setIfInBounds_toArray, List.set_cons_zero, List.set_cons_succ])
        refine wpTill_pure (i := 11) (v := .pointer (some ⟨s, 3, none⟩)) rfl (by kernel_rfl) (by kernel_rfl) (by kernel_rfl) (fun _ _ _ h => h) (T3_set (by decide) (by decide) (by decide)) (Or.inl ⟨by rfl, ?_⟩) (fun _ => hS) ?_
        · intro w; go_simp; try rfl
        (try simp only [Act.put, List.setIfInBounds_toArray, List.set_cons_zero, List.set_cons_succ])
        refine wpTill_read 14 (i := 12) (v := .slice Az Z.length cz) rfl (by kernel_rfl) (by kernel_rfl) (by kernel_rfl) (fun _ _ _ h => h) (T3_set (by decide) (by decide) (by decide)) T3_14 (by kernel_rfl) (by kernel_rfl) (Or.inl ⟨by rfl, ?_⟩) hS ?_
        · intro w hSw; obtain ⟨j2, j3, j4⟩ := hSw; go_simp; try rfl
        (try simp only [Act.put, List.setIfInBounds_toArray, List.set_cons_zero, List.set_cons_succ])
        refine wpTill_pure (i := 15) (v := .pointer (some ⟨s, 0, none⟩)) rfl (by kernel_rfl) (by kernel_rfl) (by kernel_rfl) (fun _ _ _ h => h) (T3_set (by decide) (by decide) (by decide)) (Or.inl ⟨by rfl, ?_⟩) (fun _ => hS) ?_
        · intro w; go_simp; try rfl
        (try simp only [Act.put, List.setIfInBounds_toArray, List.set_cons_zero, List.set_cons_succ])
        refine wpTill_pure (i := 16) (v := .pointer (some ⟨s, 0, none⟩)) rfl (by kernel_rfl) (by kernel_rfl) (by kernel_rfl) (fun _ _ _ h => h) (T3_set (by decide) (by decide) (by decide)) (Or.inl ⟨by rfl, ?_⟩) (fun _ => hS) ?_
        · intro w; go_simp; try rfl
        (try simp only [Act.put, List.setIfInBounds_toArray, List.set_cons_zero, List.set_cons_succ])
        refine wpTill_pure (i := 17) (v := .pointer (some ⟨s, 4, none⟩)) rfl (by kernel_rfl) (by kernel_rfl) (by kernel_rfl) (fun _ _ _ h => h) (T3_set (by decide) (by decide) (by decide)) (Or.inl ⟨by rfl, ?_⟩) (fun _ => hS) ?_
        · intro w; go_simp; try rfl
        (try simp only [Act.put, List.setIfInBounds_toArray, List.set_cons_zero, List.set_cons_succ])
        refine wpTill_read 20 (i := 18) (v := .slice Ac C.length cc) rfl (by kernel_rfl) (by kernel_rfl) (by kernel_rfl) (fun _ _ _ h => h) (T3_set (by decide) (by decide) (by decide)) T3_20 (by kernel_rfl) (by kernel_rfl) (Or.inl ⟨by rfl, ?_⟩) hS ?_
        · intro w hSw; obtain ⟨j2, j3, j4⟩ := hSw; go_simp; try rfl
        (try simp only [Act.put, List.setIfInBounds_toArray, List.set_cons_zero, List.set_cons_succ])
        refine wpTill_all (rs := [7, 13, 19]) (by kernel_rfl) (by simp) ?_
        intro i hi
        simp only [List.mem_cons, List.not_mem_nil, or_false] at hi
        rcases hi with rfl | rfl | rfl
        focus
         refine wpOp_step rfl (fun K hK => ?_)
         go_simp
         have hg := HG0.out.box
         have hS2 := kept3 hS (.cells #[.int .i64 0] 3)
         obtain ⟨b1, hb1⟩ : ∃ b, w3.heap.size = b := ⟨_, rfl⟩
         obtain ⟨W1, hW1⟩ : ∃ W, w3.alloc (.cells #[.int .i64 0] 3) = W := ⟨_, rfl⟩
         rw [hW1] at hg hS2
         rw [hb1] at hg
         (try simp only [hW1, hb1])
         have HG1 := Lib.hid hg
         clear hS hg hW1 hb1
         have hS := hS2
         clear hS2
         refine hK _ _ ⟨fun _ => hS, ?_⟩
         clear hK K
         (try simp only [Act.put, List.setIfInBounds_toArray, List.set_cons_zero, List.set_cons_succ])
         refine wpTill_all (rs := [8, 13, 19]) (by kernel_rfl) (by simp) ?_
         intro i hi
         simp only [List.mem_cons, List.not_mem_nil, or_false] at hi
         rcases hi with rfl | rfl | rfl
         focus
          obtain ⟨v1, W2, hr, hg, hf⟩ := HG1.out.app HL1.out
          obtain ⟨Ax1, cx1, ex1⟩ := len_app hg.i1
          subst ex1
          refine wpOp_step rfl (fun K hK => ?_)
          refine step_append_run W1 (by rfl) _ _ _ _ (by rfl) _ _ (by rfl) (by rfl) _ _ hr ?_
          have hS2 := kept3f hS hf HNS1.out
          have HG2 := Lib.hid hg
          clear hS hg hr hf
          have hS := hS2
          clear hS2
          refine hK _ _ ⟨fun _ => hS, ?_⟩
          clear hK K
          (try simp only [Act.put, List.setIfInBounds_toArray, List.set_cons_zero, List.set_cons_succ])
          refine wpTill_all (rs := [13, 19]) (by kernel_rfl) (by simp) ?_
          intro i hi
          simp only [List.mem_cons, List.not_mem_nil, or_false] at hi
          rcases hi with rfl | rfl
          focus
           refine wpOp_step rfl (fun K hK => ?_)
           go_simp
           have hg := HG2.out.box2
           have hS2 := kept3 hS (.cells #[.int .i64 0] 3)
           obtain ⟨b3, hb3⟩ : ∃ b, W2.heap.size = b := ⟨_, rfl⟩
           obtain ⟨W3, hW3⟩ : ∃ W, W2.alloc (.cells #[.int .i64 0] 3) = W := ⟨_, rfl⟩
           rw [hW3] at hg hS2
           rw [hb3] at hg
           (try simp only [hW3, hb3])
           have HG3 := Lib.hid hg
           clear hS hg hW3 hb3
           have hS := hS2
           clear hS2
           refine hK _ _ ⟨fun _ => hS, ?_⟩
           clear hK K
           (try simp only [Act.put, List.setIfInBounds_toArray, List.set_cons_zero, List.set_cons_succ])
           refine wpTill_all (rs := [14, 19]) (by kernel_rfl) (by simp) ?_
           intro i hi
           simp only [List.mem_cons, List.not_mem_nil, or_false] at hi
           rcases hi with rfl | rfl
           focus
            obtain ⟨v2, W4, hr, hg, hf⟩ := HG3.out.app2 HL2.out
            obtain ⟨Ax2, cx2, ex2⟩ := len_app hg.i2
            subst ex2
            refine wpOp_step rfl (fun K hK => ?_)
            refine step_append_run W3 (by rfl) _ _ _ _ (by rfl) _ _ (by rfl) (by rfl) _ _ hr ?_
            have hS2 := kept3f hS hf HNS2.out
            have HG4 := Lib.hid hg
            clear hS hg hr hf
            have hS := hS2
            clear hS2
            refine hK _ _ ⟨fun _ => hS, ?_⟩
            clear hK K
            (try simp only [Act.put, List.setIfInBounds_toArray, List.set_cons_zero, List.set_cons_succ])
            refine wpTill_all (rs := [19]) (by kernel_rfl) (by simp) ?_
            intro i hi
            simp only [List.mem_cons, List.not_mem_nil, or_false] at hi
            subst hi
            refine wpOp_step rfl (fun K hK => ?_)
            go_simp
            have hg := HG4.out.box3
            have hS2 := kept3 hS (.cells #[.int .i64 0] 3)
            obtain ⟨b5, hb5⟩ : ∃ b, W4.heap.size = b := ⟨_, rfl⟩
            obtain ⟨W5, hW5⟩ : ∃ W, W4.alloc (.cells #[.int .i64 0] 3) = W := ⟨_, rfl⟩
            rw [hW5] at hg hS2
            rw [hb5] at hg
            (try simp only [hW5, hb5])
            have HG5 := Lib.hid hg
            clear hS hg hW5 hb5
            have hS := hS2
            clear hS2
            refine hK _ _ ⟨fun _ => hS, ?_⟩
            clear hK K
            (try simp only [Act.put, List.setIfInBounds_toArray, List.set_cons_zero, List.set_cons_succ])
            refine wpTill_all (rs := [20]) (by kernel_rfl) (by simp) ?_
            intro i hi
            simp only [List.mem_cons, List.not_mem_nil, or_false] at hi
            subst hi
            obtain ⟨v3, W6, hr, hg, hf⟩ := HG5.out.app3 HL3.out
            obtain ⟨Ax3, cx3, ex3⟩ := len_app hg.i3
            subst ex3
            refine wpOp_step rfl (fun K hK => ?_)
            refine step_append_run W5 (by rfl) _ _ _ _ (by rfl) _ _ (by rfl) (by rfl) _ _ hr ?_
            have hS2 := kept3f hS hf HNS3.out
            have HG6 := Lib.hid hg
            clear hS hg hr hf
            have hS := hS2
            clear hS2
            refine hK _ _ ⟨fun _ => hS, ?_⟩
            clear hK K
            (try simp only [Act.put, List.setIfInBounds_toArray, List.set_cons_zero, List.set_cons_succ])
           rotate_left 1
           focus
            refine wpOp_step rfl (fun K hK => ?_)
            go_simp
            have hg := HG3.out.box3
            have hS2 := kept3 hS (.cells #[.int .i64 0] 3)
            obtain ⟨b4, hb4⟩ : ∃ b, W3.heap.size = b := ⟨_, rfl⟩
            obtain ⟨W4, hW4⟩ : ∃ W, W3.alloc (.cells #[.int .i64 0] 3) = W := ⟨_, rfl⟩
            rw [hW4] at hg hS2
            rw [hb4] at hg
            (try simp only [hW4, hb4])
            have HG4 := Lib.hid hg
            clear hS hg hW4 hb4
            have hS := hS2
            clear hS2
            refine hK _ _ ⟨fun _ => hS, ?_⟩
            clear hK K
            (try simp only [Act.put, List.setIfInBounds_toArray, List.set_cons_zero, List.set_cons_succ])
            refine wpTill_all (rs := [14]) (by kernel_rfl) (by simp) ?_
            intro i hi
            simp only [List.mem_cons, List.not_mem_nil, or_false] at hi
            subst hi
            obtain ⟨v2, W5, hr, hg, hf⟩ := HG4.out.app2 HL2.out
            obtain ⟨Ax2, cx2, ex2⟩ := len_app hg.i2
            subst ex2
            refine wpOp_step rfl (fun K hK => ?_)
            refine step_append_run W4 (by rfl) _ _ _ _ (by rfl) _ _ (by rfl) (by rfl) _ _ hr ?_
            have hS2 := kept3f hS hf HNS2.out
            have HG5 := Lib.hid hg
            clear hS hg hr hf
            have hS := hS2
            clear hS2
            refine hK _ _ ⟨fun _ => hS, ?_⟩
            clear hK K
            (try simp only [Act.put, List.setIfInBounds_toArray, List.set_cons_zero, List.set_cons_succ])
            refine wpTill_all (rs := [20]) (by kernel_rfl) (by simp) ?_
            intro i hi
            simp only [List.mem_cons, List.not_mem_nil, or_false] at hi
            subst hi
            obtain ⟨v3, W6, hr, hg, hf⟩ := HG5.out.app3 HL3.out
            obtain ⟨Ax3, cx3, ex3⟩ := len_app hg.i3
            subst ex3
            refine wpOp_step rfl (fun K hK => ?_)
            refine step_append_run W5 (by rfl) _ _ _ _ (by rfl) _ _ (by rfl) (by rfl) _ _ hr ?_
            have hS2 := kept3f hS hf HNS3.out
            have HG6 := Lib.hid hg
            clear hS hg hr hf
            have hS := hS2
            clear hS2
            refine hK _ _ ⟨fun _ => hS, ?_⟩
            clear hK K
            (try simp only [Act.put, List.setIfInBounds_toArray, List.set_cons_zero, List.set_cons_succ])
           rotate_left 1
          rotate_left 2
          focus
           refine wpOp_step rfl (fun K hK => ?_)
           go_simp
           have hg := HG2.out.box3
           have hS2 := kept3 hS (.cells #[.int .i64 0] 3)
           obtain ⟨b3, hb3⟩ : ∃ b, W2.heap.size = b := ⟨_, rfl⟩
           obtain ⟨W3, hW3⟩ : ∃ W, W2.alloc (.cells #[.int .i64 0] 3) = W := ⟨_, rfl⟩
           rw [hW3] at hg hS2
           rw [hb3] at hg
           (try simp only [hW3, hb3])
           have HG3 := Lib.hid hg
           clear hS hg hW3 hb3
           have hS := hS2
           clear hS2
           refine hK _ _ ⟨fun _ => hS, ?_⟩
           clear hK K
           (try simp only [Act.put, List.setIfInBounds_toArray, List.set_cons_zero, List.set_cons_succ])
           refine wpTill_all (rs := [13]) (by kernel_rfl) (by simp) ?_
           intro i hi
           simp only [List.mem_cons, List.not_mem_nil, or_false] at hi
           subst hi
           refine wpOp_step rfl (fun K hK => ?_)
           go_simp
           have hg := HG3.out.box2
           have hS2 := kept3 hS (.cells #[.int .i64 0] 3)
           obtain ⟨b4, hb4⟩ : ∃ b, W3.heap.size = b := ⟨_, rfl⟩
           obtain ⟨W4, hW4⟩ : ∃ W, W3.alloc (.cells #[.int .i64 0] 3) = W := ⟨_, rfl⟩
           rw [hW4] at hg hS2
           rw [hb4] at hg
           (try simp only [hW4, hb4])
           have HG4 := Lib.hid hg
           clear hS hg hW4 hb4
           have hS := hS2
           clear hS2
           refine hK _ _ ⟨fun _ => hS, ?_⟩
           clear hK K
           (try simp only [Act.put, List.setIfInBounds_toArray, List.set_cons_zero, List.set_cons_succ])
           refine wpTill_all (rs := [14]) (by kernel_rfl) (by simp) ?_
           intro i hi
           simp only [List.mem_cons, List.not_mem_nil, or_false] at hi
           subst hi
           obtain ⟨v2, W5, hr, hg, hf⟩ := HG4.out.app2 HL2.out
           obtain ⟨Ax2, cx2, ex2⟩ := len_app hg.i2
           subst ex2
           refine wpOp_step rfl (fun K hK => ?_)
           refine step_append_run W4 (by rfl) _ _ _ _ (by rfl) _ _ (by rfl) (by rfl) _ _ hr ?_
           have hS2 := kept3f hS hf HNS2.out
           have HG5 := Lib.hid hg
           clear hS hg hr hf
           have hS := hS2
           clear hS2
           refine hK _ _ ⟨fun _ => hS, ?_⟩
           clear hK K
           (try simp only [Act.put, List.setIfInBounds_toArray, List.set_cons_zero, List.set_cons_succ])
           refine wpTill_all (rs := [20]) (by kernel_rfl) (by simp) ?_
           intro i hi
           simp only [List.mem_cons, List.not_mem_nil, or_false] at hi
           subst hi
           obtain ⟨v3, W6, hr, hg, hf⟩ := HG5.out.app3 HL3.out
           obtain ⟨Ax3, cx3, ex3⟩ := len_app hg.i3
           subst ex3
           refine wpOp_step rfl (fun K hK => ?_)
           refine step_append_run W5 (by rfl) _ _ _ _ (by rfl) _ _ (by rfl) (by rfl) _ _ hr ?_
           have hS2 := kept3f hS hf HNS3.out
           have HG6 := Lib.hid hg
           clear hS hg hr hf
           have hS := hS2
           clear hS2
           refine hK _ _ ⟨fun _ => hS, ?_⟩
           clear hK K
           (try simp only [Act.put, List.setIfInBounds_toArray, List.set_cons_zero, List.set_cons_succ])
          rotate_left 1
         rotate_left 3
         focus
          refine wpOp_step rfl (fun K hK => ?_)
          go_simp
          have hg := HG1.out.box2
          have hS2 := kept3 hS (.cells #[.int .i64 0] 3)
          obtain ⟨b2, hb2⟩ : ∃ b, W1.heap.size = b := ⟨_, rfl⟩
          obtain ⟨W2, hW2⟩ : ∃ W, W1.alloc (.cells #[.int .i64 0] 3) = W := ⟨_, rfl⟩
          rw [hW2] at hg hS2
          rw [hb2] at hg
          (try simp only [hW2, hb2])
          have HG2 := Lib.hid hg
          clear hS hg hW2 hb2
          have hS := hS2
          clear hS2
          refine hK _ _ ⟨fun _ => hS, ?_⟩
          clear hK K
          (try simp only [Act.put, List.setIfInBounds_toArray, List.set_cons_zero, List.set_cons_succ])
          refine wpTill_all (rs := [8, 19]) (by kernel_rfl) (by simp) ?_
          intro i hi
          simp only [List.mem_cons, List.not_mem_nil, or_false] at hi
          rcases hi with rfl | rfl
          focus
           obtain ⟨v1, W3, hr, hg, hf⟩ := HG2.out.app HL1.out
           obtain ⟨Ax1, cx1, ex1⟩ := len_app hg.i1
           subst ex1
           refine wpOp_step rfl (fun K hK => ?_)
           refine step_append_run W2 (by rfl) _ _ _ _ (by rfl) _ _ (by rfl) (by rfl) _ _ hr ?_
           have hS2 := kept3f hS hf HNS1.out
           have HG3 := Lib.hid hg
           clear hS hg hr hf
           have hS := hS2
           clear hS2
           refine hK _ _ ⟨fun _ => hS, ?_⟩
           clear hK K
           (try simp only [Act.put, List.setIfInBounds_toArray, List.set_cons_zero, List.set_cons_succ])
           refine wpTill_all (rs := [14, 19]) (by kernel_rfl) (by simp) ?_
           intro i hi
           simp only [List.mem_cons, List.not_mem_nil, or_false] at hi
           rcases hi with rfl | rfl
           focus
            obtain ⟨v2, W4, hr, hg, hf⟩ := HG3.out.app2 HL2.out
            obtain ⟨Ax2, cx2, ex2⟩ := len_app hg.i2
            subst ex2
            refine wpOp_step rfl (fun K hK => ?_)
            refine step_append_run W3 (by rfl) _ _ _ _ (by rfl) _ _ (by rfl) (by rfl) _ _ hr ?_
            have hS2 := kept3f hS hf HNS2.out
            have HG4 := Lib.hid hg
            clear hS hg hr hf
            have hS := hS2
            clear hS2
            refine hK _ _ ⟨fun _ => hS, ?_⟩
            clear hK K
            (try simp only [Act.put, List.setIfInBounds_toArray, List.set_cons_zero, List.set_cons_succ])
            refine wpTill_all (rs := [19]) (by kernel_rfl) (by simp) ?_
            intro i hi
            simp only [List.mem_cons, List.not_mem_nil, or_false] at hi
            subst hi
            refine wpOp_step rfl (fun K hK => ?_)
            go_simp
            have hg := HG4.out.box3
            have hS2 := kept3 hS (.cells #[.int .i64 0] 3)
            obtain ⟨b5, hb5⟩ : ∃ b, W4.heap.size = b := ⟨_, rfl⟩
            obtain ⟨W5, hW5⟩ : ∃ W, W4.alloc (.cells #[.int .i64 0] 3) = W := ⟨_, rfl⟩
            rw [hW5] at hg hS2
            rw [hb5] at hg
            (try simp only [hW5, hb5])
            have HG5 := Lib.hid hg
            clear hS hg hW5 hb5
            have hS := hS2
            clear hS2
            refine hK _ _ ⟨fun _ => hS, ?_⟩
            clear hK K
            (try simp only [Act.put, List.setIfInBounds_toArray, List.set_cons_zero, List.set_cons_succ])
            refine wpTill_all (rs := [20]) (by kernel_rfl) (by simp) ?_
            intro i hi
            simp only [List.mem_cons, List.not_mem_nil, or_false] at hi
            subst hi
            obtain ⟨v3, W6, hr, hg, hf⟩ := HG5.out.app3 HL3.out
            obtain ⟨Ax3, cx3, ex3⟩ := len_app hg.i3
            subst ex3
            refine wpOp_step rfl (fun K hK => ?_)
            refine step_append_run W5 (by rfl) _ _ _ _ (by rfl) _ _ (by rfl) (by rfl) _ _ hr ?_
            have hS2 := kept3f hS hf HNS3.out
            have HG6 := Lib.hid hg
            clear hS hg hr hf
            have hS := hS2
            clear hS2
            refine hK _ _ ⟨fun _ => hS, ?_⟩
            clear hK K
            (try simp only [Act.put, List.setIfInBounds_toArray, List.set_cons_zero, List.set_cons_succ])
           rotate_left 1
           focus
            refine wpOp_step rfl (fun K hK => ?_)
            go_simp
            have hg := HG3.out.box3
            have hS2 := kept3 hS (.cells #[.int .i64 0] 3)
            obtain ⟨b4, hb4⟩ : ∃ b, W3.heap.size = b := ⟨_, rfl⟩
            obtain ⟨W4, hW4⟩ : ∃ W, W3.alloc (.cells #[.int .i64 0] 3) = W := ⟨_, rfl⟩
            rw [hW4] at hg hS2
            rw [hb4] at hg
            (try simp only [hW4, hb4])
            have HG4 := Lib.hid hg
            clear hS hg hW4 hb4
            have hS := hS2
            clear hS2
            refine hK _ _ ⟨fun _ => hS, ?_⟩
            clear hK K
            (try simp only [Act.put, List.setIfInBounds_toArray, List.set_cons_zero, List.set_cons_succ])
            refine wpTill_all (rs := [14]) (by kernel_rfl) (by simp) ?_
            intro i hi
            simp only [List.mem_cons, List.not_mem_nil, or_false] at hi
            subst hi
            obtain ⟨v2, W5, hr, hg, hf⟩ := HG4.out.app2 HL2.out
            obtain ⟨Ax2, cx2, ex2⟩ := len_app hg.i2
            subst ex2
            refine wpOp_step rfl (fun K hK => ?_)
            refine step_append_run W4 (by rfl) _ _ _ _ (by rfl) _ _ (by rfl) (by rfl) _ _ hr ?_
            have hS2 := kept3f hS hf HNS2.out
            have HG5 := Lib.hid hg
            clear hS hg hr hf
            have hS := hS2
            clear hS2
            refine hK _ _ ⟨fun _ => hS, ?_⟩
            clear hK K
            (try simp only [Act.put, List.setIfInBounds_toArray, List.set_cons_zero, List.set_cons_succ])
            refine wpTill_all (rs := [20]) (by kernel_rfl) (by simp) ?_
            intro i hi
            simp only [List.mem_cons, List.not_mem_nil, or_false] at hi
            subst hi
            obtain ⟨v3, W6, hr, hg, hf⟩ := HG5.out.app3 HL3.out
            obtain ⟨Ax3, cx3, ex3⟩ := len_app hg.i3
            subst ex3
            refine wpOp_step rfl (fun K hK => ?_)
            refine step_append_run W5 (by rfl) _ _ _ _ (by rfl) _ _ (by rfl) (by rfl) _ _ hr ?_
            have hS2 := kept3f hS hf HNS3.out
            have HG6 := Lib.hid hg
            clear hS hg hr hf
            have hS := hS2
            clear hS2
            refine hK _ _ ⟨fun _ => hS, ?_⟩
            clear hK K
            (try simp only [Act.put, List.setIfInBounds_toArray, List.set_cons_zero, List.set_cons_succ])
           rotate_left 1
          rotate_left 2
          focus
           refine wpOp_step rfl (fun K hK => ?_)
           go_simp
           have hg := HG2.out.box3
           have hS2 := kept3 hS (.cells #[.int .i64 0] 3)
           obtain ⟨b3, hb3⟩ : ∃ b, W2.heap.size = b := ⟨_, rfl⟩
           obtain ⟨W3, hW3⟩ : ∃ W, W2.alloc (.cells #[.int .i64 0] 3) = W := ⟨_, rfl⟩
           rw [hW3] at hg hS2
           rw [hb3] at hg
           (try simp only [hW3, hb3])
           have HG3 := Lib.hid hg
           clear hS hg hW3 hb3
           have hS := hS2
           clear hS2
           refine hK _ _ ⟨fun _ => hS, ?_⟩
           clear hK K
           (try simp only [Act.put, List.setIfInBounds_toArray, List.set_cons_zero, List.set_cons_succ])
           refine wpTill_all (rs := [8]) (by kernel_rfl) (by simp) ?_
           intro i hi
           simp only [List.mem_cons, List.not_mem_nil, or_false] at hi
           subst hi
           obtain ⟨v1, W4, hr, hg, hf⟩ := HG3.out.app HL1.out
           obtain ⟨Ax1, cx1, ex1⟩ := len_app hg.i1
           subst ex1
           refine wpOp_step rfl (fun K hK => ?_)
           refine step_append_run W3 (by rfl) _ _ _ _ (by rfl) _ _ (by rfl) (by rfl) _ _ hr ?_
           have hS2 := kept3f hS hf HNS1.out
           have HG4 := Lib.hid hg
           clear hS hg hr hf
           have hS := hS2
           clear hS2
           refine hK _ _ ⟨fun _ => hS, ?_⟩
           clear hK K
           (try simp only [Act.put, List.setIfInBounds_toArray, List.set_cons_zero, List.set_cons_succ])
           refine wpTill_all (rs := [14]) (by kernel_rfl) (by simp) ?_
           intro i hi
           simp only [List.mem_cons, List.not_mem_nil, or_false] at hi
           subst hi
           obtain ⟨v2, W5, hr, hg, hf⟩ := HG4.out.app2 HL2.out
           obtain ⟨Ax2, cx2, ex2⟩ := len_app hg.i2
           subst ex2
           refine wpOp_step rfl (fun K hK => ?_)
           refine step_append_run W4 (by rfl) _ _ _ _ (by rfl) _ _ (by rfl) (by rfl) _ _ hr ?_
           have hS2 := kept3f hS hf HNS2.out
           have HG5 := Lib.hid hg
           clear hS hg hr hf
           have hS := hS2
           clear hS2
           refine hK _ _ ⟨fun _ => hS, ?_⟩
           clear hK K
           (try simp only [Act.put, List.setIfInBounds_toArray, List.set_cons_zero, List.set_cons_succ])
           refine wpTill_all (rs := [20]) (by kernel_rfl) (by simp) ?_
           intro i hi
           simp only [List.mem_cons, List.not_mem_nil, or_false] at hi
           subst hi
           obtain ⟨v3, W6, hr, hg, hf⟩ := HG5.out.app3 HL3.out
           obtain ⟨Ax3, cx3, ex3⟩ := len_app hg.i3
           subst ex3
           refine wpOp_step rfl (fun K hK => ?_)
           refine step_append_run W5 (by rfl) _ _ _ _ (by rfl) _ _ (by rfl) (by rfl) _ _ hr ?_
           have hS2 := kept3f hS hf HNS3.out
           have HG6 := Lib.hid hg
           clear hS hg hr hf
           have hS := hS2
           clear hS2
           refine hK _ _ ⟨fun _ => hS, ?_⟩
           clear hK K
           (try simp only [Act.put, List.setIfInBounds_toArray, List.set_cons_zero, List.set_cons_succ])
          rotate_left 1
         rotate_left 3
         focus
          refine wpOp_step rfl (fun K hK => ?_)
          go_simp
          have hg := HG1.out.box3
          have hS2 := kept3 hS (.cells #[.int .i64 0] 3)
          obtain ⟨b2, hb2⟩ : ∃ b, W1.heap.size = b := ⟨_, rfl⟩
          obtain ⟨W2, hW2⟩ : ∃ W, W1.alloc (.cells #[.int .i64 0] 3) = W := ⟨_, rfl⟩
          rw [hW2] at hg hS2
          rw [hb2] at hg
          (try simp only [hW2, hb2])
          have HG2 := Lib.hid hg
          clear hS hg hW2 hb2
          have hS := hS2
          clear hS2
          refine hK _ _ ⟨fun _ => hS, ?_⟩
          clear hK K
          (try simp only [Act.put, List.setIfInBounds_toArray, List.set_cons_zero, List.set_cons_succ])
          refine wpTill_all (rs := [8, 13]) (by kernel_rfl) (by simp) ?_
          intro i hi
          simp only [List.mem_cons, List.not_mem_nil, or_false] at hi
          rcases hi with rfl | rfl
          focus
           obtain ⟨v1, W3, hr, hg, hf⟩ := HG2.out.app HL1.out
           obtain ⟨Ax1, cx1, ex1⟩ := len_app hg.i1
           subst ex1
           refine wpOp_step rfl (fun K hK => ?_)
           refine step_append_run W2 (by rfl) _ _ _ _ (by rfl) _ _ (by rfl) (by rfl) _ _ hr ?_
           have hS2 := kept3f hS hf HNS1.out
           have HG3 := Lib.hid hg
           clear hS hg hr hf
           have hS := hS2
           clear hS2
           refine hK _ _ ⟨fun _ => hS, ?_⟩
           clear hK K
           (try simp only [Act.put, List.setIfInBounds_toArray, List.set_cons_zero, List.set_cons_succ])
           refine wpTill_all (rs := [13]) (by kernel_rfl) (by simp) ?_
           intro i hi
           simp only [List.mem_cons, List.not_mem_nil, or_false] at hi
           subst hi
           refine wpOp_step rfl (fun K hK => ?_)
           go_simp
           have hg := HG3.out.box2
           have hS2 := kept3 hS (.cells #[.int .i64 0] 3)
           obtain ⟨b4, hb4⟩ : ∃ b, W3.heap.size = b := ⟨_, rfl⟩
           obtain ⟨W4, hW4⟩ : ∃ W, W3.alloc (.cells #[.int .i64 0] 3) = W := ⟨_, rfl⟩
           rw [hW4] at hg hS2
           rw [hb4] at hg
           (try simp only [hW4, hb4])
           have HG4 := Lib.hid hg
           clear hS hg hW4 hb4
           have hS := hS2
           clear hS2
           refine hK _ _ ⟨fun _ => hS, ?_⟩
           clear hK K
           (try simp only [Act.put, List.setIfInBounds_toArray, List.set_cons_zero, List.set_cons_succ])
           refine wpTill_all (rs := [14]) (by kernel_rfl) (by simp) ?_
           intro i hi
           simp only [List.mem_cons, List.not_mem_nil, or_false] at hi
           subst hi
           obtain ⟨v2, W5, hr, hg, hf⟩ := HG4.out.app2 HL2.out
           obtain ⟨Ax2, cx2, ex2⟩ := len_app hg.i2
           subst ex2
           refine wpOp_step rfl (fun K hK => ?_)
           refine step_append_run W4 (by rfl) _ _ _ _ (by rfl) _ _ (by rfl) (by rfl) _ _ hr ?_
           have hS2 := kept3f hS hf HNS2.out
           have HG5 := Lib.hid hg
           clear hS hg hr hf
           have hS := hS2
           clear hS2
           refine hK _ _ ⟨fun _ => hS, ?_⟩
           clear hK K
           (try simp only [Act.put, List.setIfInBounds_toArray, List.set_cons_zero, List.set_cons_succ])
           refine wpTill_all (rs := [20]) (by kernel_rfl) (by simp) ?_
           intro i hi
           simp only [List.mem_cons, List.not_mem_nil, or_false] at hi
           subst hi
           obtain ⟨v3, W6, hr, hg, hf⟩ := HG5.out.app3 HL3.out
           obtain ⟨Ax3, cx3, ex3⟩ := len_app hg.i3
           subst ex3
           refine wpOp_step rfl (fun K hK => ?_)
           refine step_append_run W5 (by rfl) _ _ _ _ (by rfl) _ _ (by rfl) (by rfl) _ _ hr ?_
           have hS2 := kept3f hS hf HNS3.out
           have HG6 := Lib.hid hg
           clear hS hg hr hf
           have hS := hS2
           clear hS2
           refine hK _ _ ⟨fun _ => hS, ?_⟩
           clear hK K
           (try simp only [Act.put, List.setIfInBounds_toArray, List.set_cons_zero, List.set_cons_succ])
          rotate_left 1
          focus
           refine wpOp_step rfl (fun K hK => ?_)
           go_simp
           have hg := HG2.out.box2
           have hS2 := kept3 hS (.cells #[.int .i64 0] 3)
           obtain ⟨b3, hb3⟩ : ∃ b, W2.heap.size = b := ⟨_, rfl⟩
           obtain ⟨W3, hW3⟩ : ∃ W, W2.alloc (.cells #[.int .i64 0] 3) = W := ⟨_, rfl⟩
           rw [hW3] at hg hS2
           rw [hb3] at hg
           (try simp only [hW3, hb3])
           have HG3 := Lib.hid hg
           clear hS hg hW3 hb3
           have hS := hS2
           clear hS2
           refine hK _ _ ⟨fun _ => hS, ?_⟩
           clear hK K
           (try simp only [Act.put, List.setIfInBounds_toArray, List.set_cons_zero, List.set_cons_succ])
           refine wpTill_all (rs := [8]) (by kernel_rfl) (by simp) ?_
           intro i hi
           simp only [List.mem_cons, List.not_mem_nil, or_false] at hi
           subst hi
           obtain ⟨v1, W4, hr, hg, hf⟩ := HG3.out.app HL1.out
           obtain ⟨Ax1, cx1, ex1⟩ := len_app hg.i1
           subst ex1
           refine wpOp_step rfl (fun K hK => ?_)
           refine step_append_run W3 (by rfl) _ _ _ _ (by rfl) _ _ (by rfl) (by rfl) _ _ hr ?_
           have hS2 := kept3f hS hf HNS1.out
           have HG4 := Lib.hid hg
           clear hS hg hr hf
           have hS := hS2
           clear hS2
           refine hK _ _ ⟨fun _ => hS, ?_⟩
           clear hK K
           (try simp only [Act.put, List.setIfInBounds_toArray, List.set_cons_zero, List.set_cons_succ])
           refine wpTill_all (rs := [14]) (by kernel_rfl) (by simp) ?_
           intro i hi
           simp only [List.mem_cons, List.not_mem_nil, or_false] at hi
           subst hi
           obtain ⟨v2, W5, hr, hg, hf⟩ := HG4.out.app2 HL2.out
           obtain ⟨Ax2, cx2, ex2⟩ := len_app hg.i2
           subst ex2
           refine wpOp_step rfl (fun K hK => ?_)
           refine step_append_run W4 (by rfl) _ _ _ _ (by rfl) _ _ (by rfl) (by rfl) _ _ hr ?_
           have hS2 := kept3f hS hf HNS2.out
           have HG5 := Lib.hid hg
           clear hS hg hr hf
           have hS := hS2
           clear hS2
           refine hK _ _ ⟨fun _ => hS, ?_⟩
           clear hK K
           (try simp only [Act.put, List.setIfInBounds_toArray, List.set_cons_zero, List.set_cons_succ])
           refine wpTill_all (rs := [20]) (by kernel_rfl) (by simp) ?_
           intro i hi
           simp only [List.mem_cons, List.not_mem_nil, or_false] at hi
           subst hi
           obtain ⟨v3, W6, hr, hg, hf⟩ := HG5.out.app3 HL3.out
           obtain ⟨Ax3, cx3, ex3⟩ := len_app hg.i3
           subst ex3
           refine wpOp_step rfl (fun K hK => ?_)
           refine step_append_run W5 (by rfl) _ _ _ _ (by rfl) _ _ (by rfl) (by rfl) _ _ hr ?_
           have hS2 := kept3f hS hf HNS3.out
           have HG6 := Lib.hid hg
           clear hS hg hr hf
           have hS := hS2
           clear hS2
           refine hK _ _ ⟨fun _ => hS, ?_⟩
           clear hK K
           (try simp only [Act.put, List.setIfInBounds_toArray, List.set_cons_zero, List.set_cons_succ])
          rotate_left 1
         rotate_left 2
        rotate_left 8
        focus
         refine wpOp_step rfl (fun K hK => ?_)
         go_simp
         have hg := HG0.out.box2
         have hS2 := kept3 hS (.cells #[.int .i64 0] 3)
         obtain ⟨b1, hb1⟩ : ∃ b, w3.heap.size = b := ⟨_, rfl⟩
         obtain ⟨W1, hW1⟩ : ∃ W, w3.alloc (.cells #[.int .i64 0] 3) = W := ⟨_, rfl⟩
         rw [hW1] at hg hS2
         rw [hb1] at hg
         (try simp only [hW1, hb1])
         have HG1 := Lib.hid hg
         clear hS hg hW1 hb1
         have hS := hS2
         clear hS2
         refine hK _ _ ⟨fun _ => hS, ?_⟩
         clear hK K
         (try simp only [Act.put, List.setIfInBounds_toArray, List.set_cons_zero, List.set_cons_succ])
         refine wpTill_all (rs := [7, 19]) (by kernel_rfl) (by simp) ?_
         intro i hi
         simp only [List.mem_cons, List.not_mem_nil, or_false] at hi
         rcases hi with rfl | rfl
         focus
          refine wpOp_step rfl (fun K hK => ?_)
          go_simp
          have hg := HG1.out.box
          have hS2 := kept3 hS (.cells #[.int .i64 0] 3)
          obtain ⟨b2, hb2⟩ : ∃ b, W1.heap.size = b := ⟨_, rfl⟩
          obtain ⟨W2, hW2⟩ : ∃ W, W1.alloc (.cells #[.int .i64 0] 3) = W := ⟨_, rfl⟩
          rw [hW2] at hg hS2
          rw [hb2] at hg
          (try simp only [hW2, hb2])
          have HG2 := Lib.hid hg
          clear hS hg hW2 hb2
          have hS := hS2
          clear hS2
          refine hK _ _ ⟨fun _ => hS, ?_⟩
          clear hK K
          (try simp only [Act.put, List.setIfInBounds_toArray, List.set_cons_zero, List.set_cons_succ])
          refine wpTill_all (rs := [8, 19]) (by kernel_rfl) (by simp) ?_
          intro i hi
          simp only [List.mem_cons, List.not_mem_nil, or_false] at hi
          rcases hi with rfl | rfl
          focus
           obtain ⟨v1, W3, hr, hg, hf⟩ := HG2.out.app HL1.out
           obtain ⟨Ax1, cx1, ex1⟩ := len_app hg.i1
           subst ex1
           refine wpOp_step rfl (fun K hK => ?_)
           refine step_append_run W2 (by rfl) _ _ _ _ (by rfl) _ _ (by rfl) (by rfl) _ _ hr ?_
           have hS2 := kept3f hS hf HNS1.out
           have HG3 := Lib.hid hg
           clear hS hg hr hf
           have hS := hS2
           clear hS2
           refine hK _ _ ⟨fun _ => hS, ?_⟩
           clear hK K
           (try simp only [Act.put, List.setIfInBounds_toArray, List.set_cons_zero, List.set_cons_succ])
           refine wpTill_all (rs := [14, 19]) (by kernel_rfl) (by simp) ?_
           intro i hi
           simp only [List.mem_cons, List.not_mem_nil, or_false] at hi
           rcases hi with rfl | rfl
           focus
            obtain ⟨v2, W4, hr, hg, hf⟩ := HG3.out.app2 HL2.out
            obtain ⟨Ax2, cx2, ex2⟩ := len_app hg.i2
            subst ex2
            refine wpOp_step rfl (fun K hK => ?_)
            refine step_append_run W3 (by rfl) _ _ _ _ (by rfl) _ _ (by rfl) (by rfl) _ _ hr ?_
            have hS2 := kept3f hS hf HNS2.out
            have HG4 := Lib.hid hg
            clear hS hg hr hf
            have hS := hS2
            clear hS2
            refine hK _ _ ⟨fun _ => hS, ?_⟩
            clear hK K
            (try simp only [Act.put, List.setIfInBounds_toArray, List.set_cons_zero, List.set_cons_succ])
            refine wpTill_all (rs := [19]) (by kernel_rfl) (by simp) ?_
            intro i hi
            simp only [List.mem_cons, List.not_mem_nil, or_false] at hi
            subst hi
            refine wpOp_step rfl (fun K hK => ?_)
            go_simp
            have hg := HG4.out.box3
            have hS2 := kept3 hS (.cells #[.int .i64 0] 3)
            obtain ⟨b5, hb5⟩ : ∃ b, W4.heap.size = b := ⟨_, rfl⟩
            obtain ⟨W5, hW5⟩ : ∃ W, W4.alloc (.cells #[.int .i64 0] 3) = W := ⟨_, rfl⟩
            rw [hW5] at hg hS2
            rw [hb5] at hg
            (try simp only [hW5, hb5])
            have HG5 := Lib.hid hg
            clear hS hg hW5 hb5
            have hS := hS2
            clear hS2
            refine hK _ _ ⟨fun _ => hS, ?_⟩
            clear hK K
            (try simp only [Act.put, List.setIfInBounds_toArray, List.set_cons_zero, List.set_cons_succ])
            refine wpTill_all (rs := [20]) (by kernel_rfl) (by simp) ?_
            intro i hi
            simp only [List.mem_cons, List.not_mem_nil, or_false] at hi
            subst hi
            obtain ⟨v3, W6, hr, hg, hf⟩ := HG5.out.app3 HL3.out
            obtain ⟨Ax3, cx3, ex3⟩ := len_app hg.i3
            subst ex3
            refine wpOp_step rfl (fun K hK => ?_)
            refine step_append_run W5 (by rfl) _ _ _ _ (by rfl) _ _ (by rfl) (by rfl) _ _ hr ?_
            have hS2 := kept3f hS hf HNS3.out
            have HG6 := Lib.hid hg
            clear hS hg hr hf
            have hS := hS2
            clear hS2
            refine hK _ _ ⟨fun _ => hS, ?_⟩
            clear hK K
            (try simp only [Act.put, List.setIfInBounds_toArray, List.set_cons_zero, List.set_cons_succ])
           rotate_left 1
           focus
            refine wpOp_step rfl (fun K hK => ?_)
            go_simp
            have hg := HG3.out.box3
            have hS2 := kept3 hS (.cells #[.int .i64 0] 3)
            obtain ⟨b4, hb4⟩ : ∃ b, W3.heap.size = b := ⟨_, rfl⟩
            obtain ⟨W4, hW4⟩ : ∃ W, W3.alloc (.cells #[.int .i64 0] 3) = W := ⟨_, rfl⟩
            rw [hW4] at hg hS2
            rw [hb4] at hg
            (try simp only [hW4, hb4])
            have HG4 := Lib.hid hg
            clear hS hg hW4 hb4
            have hS := hS2
            clear hS2
            refine hK _ _ ⟨fun _ => hS, ?_⟩
            clear hK K
            (try simp only [Act.put, List.setIfInBounds_toArray, List.set_cons_zero, List.set_cons_succ])
            refine wpTill_all (rs := [14]) (by kernel_rfl) (by simp) ?_
            intro i hi
            simp only [List.mem_cons, List.not_mem_nil, or_false] at hi
            subst hi
            obtain ⟨v2, W5, hr, hg, hf⟩ := HG4.out.app2 HL2.out
            obtain ⟨Ax2, cx2, ex2⟩ := len_app hg.i2
            subst ex2
            refine wpOp_step rfl (fun K hK => ?_)
            refine step_append_run W4 (by rfl) _ _ _ _ (by rfl) _ _ (by rfl) (by rfl) _ _ hr ?_
            have hS2 := kept3f hS hf HNS2.out
            have HG5 := Lib.hid hg
            clear hS hg hr hf
            have hS := hS2
            clear hS2
            refine hK _ _ ⟨fun _ => hS, ?_⟩
            clear hK K
            (try simp only [Act.put, List.setIfInBounds_toArray, List.set_cons_zero, List.set_cons_succ])
            refine wpTill_all (rs := [20]) (by kernel_rfl) (by simp) ?_
            intro i hi
            simp only [List.mem_cons, List.not_mem_nil, or_false] at hi
            subst hi
            obtain ⟨v3, W6, hr, hg, hf⟩ := HG5.out.app3 HL3.out
            obtain ⟨Ax3, cx3, ex3⟩ := len_app hg.i3
            subst ex3
            refine wpOp_step rfl (fun K hK => ?_)
            refine step_append_run W5 (by rfl) _ _ _ _ (by rfl) _ _ (by rfl) (by rfl) _ _ hr ?_
            have hS2 := kept3f hS hf HNS3.out
            have HG6 := Lib.hid hg
            clear hS hg hr hf
            have hS := hS2
            clear hS2
            refine hK _ _ ⟨fun _ => hS, ?_⟩
            clear hK K
            (try simp only [Act.put, List.setIfInBounds_toArray, List.set_cons_zero, List.set_cons_succ])
           rotate_left 1
          rotate_left 2
          focus
           refine wpOp_step rfl (fun K hK => ?_)
           go_simp
           have hg := HG2.out.box3
           have hS2 := kept3 hS (.cells #[.int .i64 0] 3)
           obtain ⟨b3, hb3⟩ : ∃ b, W2.heap.size = b := ⟨_, rfl⟩
           obtain ⟨W3, hW3⟩ : ∃ W, W2.alloc (.cells #[.int .i64 0] 3) = W := ⟨_, rfl⟩
           rw [hW3] at hg hS2
           rw [hb3] at hg
           (try simp only [hW3, hb3])
           have HG3 := Lib.hid hg
           clear hS hg hW3 hb3
           have hS := hS2
           clear hS2
           refine hK _ _ ⟨fun _ => hS, ?_⟩
           clear hK K
           (try simp only [Act.put, List.setIfInBounds_toArray, List.set_cons_zero, List.set_cons_succ])
           refine wpTill_all (rs := [8]) (by kernel_rfl) (by simp) ?_
           intro i hi
           simp only [List.mem_cons, List.not_mem_nil, or_false] at hi
           subst hi
           obtain ⟨v1, W4, hr, hg, hf⟩ := HG3.out.app HL1.out
           obtain ⟨Ax1, cx1, ex1⟩ := len_app hg.i1
           subst ex1
           refine wpOp_step rfl (fun K hK => ?_)
           refine step_append_run W3 (by rfl) _ _ _ _ (by rfl) _ _ (by rfl) (by rfl) _ _ hr ?_
           have hS2 := kept3f hS hf HNS1.out
           have HG4 := Lib.hid hg
           clear hS hg hr hf
           have hS := hS2
           clear hS2
           refine hK _ _ ⟨fun _ => hS, ?_⟩
           clear hK K
           (try simp only [Act.put, List.setIfInBounds_toArray, List.set_cons_zero, List.set_cons_succ])
           refine wpTill_all (rs := [14]) (by kernel_rfl) (by simp) ?_
           intro i hi
           simp only [List.mem_cons, List.not_mem_nil, or_false] at hi
           subst hi
           obtain ⟨v2, W5, hr, hg, hf⟩ := HG4.out.app2 HL2.out
           obtain ⟨Ax2, cx2, ex2⟩ := len_app hg.i2
           subst ex2
           refine wpOp_step rfl (fun K hK => ?_)
           refine step_append_run W4 (by rfl) _ _ _ _ (by rfl) _ _ (by rfl) (by rfl) _ _ hr ?_
           have hS2 := kept3f hS hf HNS2.out
           have HG5 := Lib.hid hg
           clear hS hg hr hf
           have hS := hS2
           clear hS2
           refine hK _ _ ⟨fun _ => hS, ?_⟩
           clear hK K
           (try simp only [Act.put, List.setIfInBounds_toArray, List.set_cons_zero, List.set_cons_succ])
           refine wpTill_all (rs := [20]) (by kernel_rfl) (by simp) ?_
           intro i hi
           simp only [List.mem_cons, List.not_mem_nil, or_false] at hi
           subst hi
           obtain ⟨v3, W6, hr, hg, hf⟩ := HG5.out.app3 HL3.out
           obtain ⟨Ax3, cx3, ex3⟩ := len_app hg.i3
           subst ex3
           refine wpOp_step rfl (fun K hK => ?_)
           refine step_append_run W5 (by rfl) _ _ _ _ (by rfl) _ _ (by rfl) (by rfl) _ _ hr ?_
           have hS2 := kept3f hS hf HNS3.out
           have HG6 := Lib.hid hg
           clear hS hg hr hf
           have hS := hS2
           clear hS2
           refine hK _ _ ⟨fun _ => hS, ?_⟩
           clear hK K
           (try simp only [Act.put, List.setIfInBounds_toArray, List.set_cons_zero, List.set_cons_succ])
          rotate_left 1
         rotate_left 3
         focus
          refine wpOp_step rfl (fun K hK => ?_)
          go_simp
          have hg := HG1.out.box3
          have hS2 := kept3 hS (.cells #[.int .i64 0] 3)
          obtain ⟨b2, hb2⟩ : ∃ b, W1.heap.size = b := ⟨_, rfl⟩
          obtain ⟨W2, hW2⟩ : ∃ W, W1.alloc (.cells #[.int .i64 0] 3) = W := ⟨_, rfl⟩
          rw [hW2] at hg hS2
          rw [hb2] at hg
          (try simp only [hW2, hb2])
          have HG2 := Lib.hid hg
          clear hS hg hW2 hb2
          have hS := hS2
          clear hS2
          refine hK _ _ ⟨fun _ => hS, ?_⟩
          clear hK K
          (try simp only [Act.put, List.setIfInBounds_toArray, List.set_cons_zero, List.set_cons_succ])
          refine wpTill_all (rs := [7]) (by kernel_rfl) (by simp) ?_
          intro i hi
          simp only [List.mem_cons, List.not_mem_nil, or_false] at hi
          subst hi
          refine wpOp_step rfl (fun K hK => ?_)
          go_simp
          have hg := HG2.out.box
          have hS2 := kept3 hS (.cells #[.int .i64 0] 3)
          obtain ⟨b3, hb3⟩ : ∃ b, W2.heap.size = b := ⟨_, rfl⟩
          obtain ⟨W3, hW3⟩ : ∃ W, W2.alloc (.cells #[.int .i64 0] 3) = W := ⟨_, rfl⟩
          rw [hW3] at hg hS2
          rw [hb3] at hg
          (try simp only [hW3, hb3])
          have HG3 := Lib.hid hg
          clear hS hg hW3 hb3
          have hS := hS2
          clear hS2
          refine hK _ _ ⟨fun _ => hS, ?_⟩
          clear hK K
          (try simp only [Act.put, List.setIfInBounds_toArray, List.set_cons_zero, List.set_cons_succ])
          refine wpTill_all (rs := [8]) (by kernel_rfl) (by simp) ?_
          intro i hi
          simp only [List.mem_cons, List.not_mem_nil, or_false] at hi
          subst hi
          obtain ⟨v1, W4, hr, hg, hf⟩ := HG3.out.app HL1.out
          obtain ⟨Ax1, cx1, ex1⟩ := len_app hg.i1
          subst ex1
          refine wpOp_step rfl (fun K hK => ?_)
          refine step_append_run W3 (by rfl) _ _ _ _ (by rfl) _ _ (by rfl) (by rfl) _ _ hr ?_
          have hS2 := kept3f hS hf HNS1.out
          have HG4 := Lib.hid hg
          clear hS hg hr hf
          have hS := hS2
          clear hS2
          refine hK _ _ ⟨fun _ => hS, ?_⟩
          clear hK K
          (try simp only [Act.put, List.setIfInBounds_toArray, List.set_cons_zero, List.set_cons_succ])
          refine wpTill_all (rs := [14]) (by kernel_rfl) (by simp) ?_
          intro i hi
          simp only [List.mem_cons, List.not_mem_nil, or_false] at hi
          subst hi
          obtain ⟨v2, W5, hr, hg, hf⟩ := HG4.out.app2 HL2.out
          obtain ⟨Ax2, cx2, ex2⟩ := len_app hg.i2
          subst ex2
          refine wpOp_step rfl (fun K hK => ?_)
          refine step_append_run W4 (by rfl) _ _ _ _ (by rfl) _ _ (by rfl) (by rfl) _ _ hr ?_
          have hS2 := kept3f hS hf HNS2.out
          have HG5 := Lib.hid hg
          clear hS hg hr hf
          have hS := hS2
          clear hS2
          refine hK _ _ ⟨fun _ => hS, ?_⟩
          clear hK K
          (try simp only [Act.put, List.setIfInBounds_toArray, List.set_cons_zero, List.set_cons_succ])
          refine wpTill_all (rs := [20]) (by kernel_rfl) (by simp) ?_
          intro i hi
          simp only [List.mem_cons, List.not_mem_nil, or_false] at hi
          subst hi
          obtain ⟨v3, W6, hr, hg, hf⟩ := HG5.out.app3 HL3.out
          obtain ⟨Ax3, cx3, ex3⟩ := len_app hg.i3
          subst ex3
          refine wpOp_step rfl (fun K hK => ?_)
          refine step_append_run W5 (by rfl) _ _ _ _ (by rfl) _ _ (by rfl) (by rfl) _ _ hr ?_
          have hS2 := kept3f hS hf HNS3.out
          have HG6 := Lib.hid hg
          clear hS hg hr hf
          have hS := hS2
          clear hS2
          refine hK _ _ ⟨fun _ => hS, ?_⟩
          clear hK K
          (try simp only [Act.put, List.setIfInBounds_toArray, List.set_cons_zero, List.set_cons_succ])
         rotate_left 1
        rotate_left 4
        focus
         refine wpOp_step rfl (fun K hK => ?_)
         go_simp
         have hg := HG0.out.box3
         have hS2 := kept3 hS (.cells #[.int .i64 0] 3)
         obtain ⟨b1, hb1⟩ : ∃ b, w3.heap.size = b := ⟨_, rfl⟩
         obtain ⟨W1, hW1⟩ : ∃ W, w3.alloc (.cells #[.int .i64 0] 3) = W := ⟨_, rfl⟩
         rw [hW1] at hg hS2
         rw [hb1] at hg
         (try simp only [hW1, hb1])
         have HG1 := Lib.hid hg
         clear hS hg hW1 hb1
         have hS := hS2
         clear hS2
         refine hK _ _ ⟨fun _ => hS, ?_⟩
         clear hK K
         (try simp only [Act.put, List.setIfInBounds_toArray, List.set_cons_zero, List.set_cons_succ])
         refine wpTill_all (rs := [7, 13]) (by kernel_rfl) (by simp) ?_
         intro i hi
         simp only [List.mem_cons, List.not_mem_nil, or_false] at hi
         rcases hi with rfl | rfl
         focus
          refine wpOp_step rfl (fun K hK => ?_)
          go_simp
          have hg := HG1.out.box
          have hS2 := kept3 hS (.cells #[.int .i64 0] 3)
          obtain ⟨b2, hb2⟩ : ∃ b, W1.heap.size = b := ⟨_, rfl⟩
          obtain ⟨W2, hW2⟩ : ∃ W, W1.alloc (.cells #[.int .i64 0] 3) = W := ⟨_, rfl⟩
          rw [hW2] at hg hS2
          rw [hb2] at hg
          (try simp only [hW2, hb2])
          have HG2 := Lib.hid hg
          clear hS hg hW2 hb2
          have hS := hS2
          clear hS2
          refine hK _ _ ⟨fun _ => hS, ?_⟩
          clear hK K
          (try simp only [Act.put, List.setIfInBounds_toArray, List.set_cons_zero, List.set_cons_succ])
          refine wpTill_all (rs := [8, 13]) (by kernel_rfl) (by simp) ?_
          intro i hi
          simp only [List.mem_cons, List.not_mem_nil, or_false] at hi
          rcases hi with rfl | rfl
          focus
           obtain ⟨v1, W3, hr, hg, hf⟩ := HG2.out.app HL1.out
           obtain ⟨Ax1, cx1, ex1⟩ := len_app hg.i1
           subst ex1
           refine wpOp_step rfl (fun K hK => ?_)
           refine step_append_run W2 (by rfl) _ _ _ _ (by rfl) _ _ (by rfl) (by rfl) _ _ hr ?_
           have hS2 := kept3f hS hf HNS1.out
           have HG3 := Lib.hid hg
           clear hS hg hr hf
           have hS := hS2
           clear hS2
           refine hK _ _ ⟨fun _ => hS, ?_⟩
           clear hK K
           (try simp only [Act.put, List.setIfInBounds_toArray, List.set_cons_zero, List.set_cons_succ])
           refine wpTill_all (rs := [13]) (by kernel_rfl) (by simp) ?_
           intro i hi
           simp only [List.mem_cons, List.not_mem_nil, or_false] at hi
           subst hi
           refine wpOp_step rfl (fun K hK => ?_)
           go_simp
           have hg := HG3.out.box2
           have hS2 := kept3 hS (.cells #[.int .i64 0] 3)
           obtain ⟨b4, hb4⟩ : ∃ b, W3.heap.size = b := ⟨_, rfl⟩
           obtain ⟨W4, hW4⟩ : ∃ W, W3.alloc (.cells #[.int .i64 0] 3) = W := ⟨_, rfl⟩
           rw [hW4] at hg hS2
           rw [hb4] at hg
           (try simp only [hW4, hb4])
           have HG4 := Lib.hid hg
           clear hS hg hW4 hb4
           have hS := hS2
           clear hS2
           refine hK _ _ ⟨fun _ => hS, ?_⟩
           clear hK K
           (try simp only [Act.put, List.setIfInBounds_toArray, List.set_cons_zero, List.set_cons_succ])
           refine wpTill_all (rs := [14]) (by kernel_rfl) (by simp) ?_
           intro i hi
           simp only [List.mem_cons, List.not_mem_nil, or_false] at hi
           subst hi
           obtain ⟨v2, W5, hr, hg, hf⟩ := HG4.out.app2 HL2.out
           obtain ⟨Ax2, cx2, ex2⟩ := len_app hg.i2
           subst ex2
           refine wpOp_step rfl (fun K hK => ?_)
           refine step_append_run W4 (by rfl) _ _ _ _ (by rfl) _ _ (by rfl) (by rfl) _ _ hr ?_
           have hS2 := kept3f hS hf HNS2.out
           have HG5 := Lib.hid hg
           clear hS hg hr hf
           have hS := hS2
           clear hS2
           refine hK _ _ ⟨fun _ => hS, ?_⟩
           clear hK K
           (try simp only [Act.put, List.setIfInBounds_toArray, List.set_cons_zero, List.set_cons_succ])
           refine wpTill_all (rs := [20]) (by kernel_rfl) (by simp) ?_
           intro i hi
           simp only [List.mem_cons, List.not_mem_nil, or_false] at hi
           subst hi
           obtain ⟨v3, W6, hr, hg, hf⟩ := HG5.out.app3 HL3.out
           obtain ⟨Ax3, cx3, ex3⟩ := len_app hg.i3
           subst ex3
           refine wpOp_step rfl (fun K hK => ?_)
           refine step_append_run W5 (by rfl) _ _ _ _ (by rfl) _ _ (by rfl) (by rfl) _ _ hr ?_
           have hS2 := kept3f hS hf HNS3.out
           have HG6 := Lib.hid hg
           clear hS hg hr hf
           have hS := hS2
           clear hS2
           refine hK _ _ ⟨fun _ => hS, ?_⟩
           clear hK K
           (try simp only [Act.put, List.setIfInBounds_toArray, List.set_cons_zero, List.set_cons_succ])
          rotate_left 1
          focus
           refine wpOp_step rfl (fun K hK => ?_)
           go_simp
           have hg := HG2.out.box2
           have hS2 := kept3 hS (.cells #[.int .i64 0] 3)
           obtain ⟨b3, hb3⟩ : ∃ b, W2.heap.size = b := ⟨_, rfl⟩
           obtain ⟨W3, hW3⟩ : ∃ W, W2.alloc (.cells #[.int .i64 0] 3) = W := ⟨_, rfl⟩
           rw [hW3] at hg hS2
           rw [hb3] at hg
           (try simp only [hW3, hb3])
           have HG3 := Lib.hid hg
           clear hS hg hW3 hb3
           have hS := hS2
           clear hS2
           refine hK _ _ ⟨fun _ => hS, ?_⟩
           clear hK K
           (try simp only [Act.put, List.setIfInBounds_toArray, List.set_cons_zero, List.set_cons_succ])
           refine wpTill_all (rs := [8]) (by kernel_rfl) (by simp) ?_
           intro i hi
           simp only [List.mem_cons, List.not_mem_nil, or_false] at hi
           subst hi
           obtain ⟨v1, W4, hr, hg, hf⟩ := HG3.out.app HL1.out
           obtain ⟨Ax1, cx1, ex1⟩ := len_app hg.i1
           subst ex1
           refine wpOp_step rfl (fun K hK => ?_)
           refine step_append_run W3 (by rfl) _ _ _ _ (by rfl) _ _ (by rfl) (by rfl) _ _ hr ?_
           have hS2 := kept3f hS hf HNS1.out
           have HG4 := Lib.hid hg
           clear hS hg hr hf
           have hS := hS2
           clear hS2
           refine hK _ _ ⟨fun _ => hS, ?_⟩
           clear hK K
           (try simp only [Act.put, List.setIfInBounds_toArray, List.set_cons_zero, List.set_cons_succ])
           refine wpTill_all (rs := [14]) (by kernel_rfl) (by simp) ?_
           intro i hi
           simp only [List.mem_cons, List.not_mem_nil, or_false] at hi
           subst hi
           obtain ⟨v2, W5, hr, hg, hf⟩ := HG4.out.app2 HL2.out
           obtain ⟨Ax2, cx2, ex2⟩ := len_app hg.i2
           subst ex2
           refine wpOp_step rfl (fun K hK => ?_)
           refine step_append_run W4 (by rfl) _ _ _ _ (by rfl) _ _ (by rfl) (by rfl) _ _ hr ?_
           have hS2 := kept3f hS hf HNS2.out
           have HG5 := Lib.hid hg
           clear hS hg hr hf
           have hS := hS2
           clear hS2
           refine hK _ _ ⟨fun _ => hS, ?_⟩
           clear hK K
           (try simp only [Act.put, List.setIfInBounds_toArray, List.set_cons_zero, List.set_cons_succ])
           refine wpTill_all (rs := [20]) (by kernel_rfl) (by simp) ?_
           intro i hi
           simp only [List.mem_cons, List.not_mem_nil, or_false] at hi
           subst hi
           obtain ⟨v3, W6, hr, hg, hf⟩ := HG5.out.app3 HL3.out
           obtain ⟨Ax3, cx3, ex3⟩ := len_app hg.i3
           subst ex3
           refine wpOp_step rfl (fun K hK => ?_)
           refine step_append_run W5 (by rfl) _ _ _ _ (by rfl) _ _ (by rfl) (by rfl) _ _ hr ?_
           have hS2 := kept3f hS hf HNS3.out
           have HG6 := Lib.hid hg
           clear hS hg hr hf
           have hS := hS2
           clear hS2
           refine hK _ _ ⟨fun _ => hS, ?_⟩
           clear hK K
           (try simp only [Act.put, List.setIfInBounds_toArray, List.set_cons_zero, List.set_cons_succ])
          rotate_left 1
         rotate_left 2
         focus
          refine wpOp_step rfl (fun K hK => ?_)
          go_simp
          have hg := HG1.out.box2
          have hS2 := kept3 hS (.cells #[.int .i64 0] 3)
          obtain ⟨b2, hb2⟩ : ∃ b, W1.heap.size = b := ⟨_, rfl⟩
          obtain ⟨W2, hW2⟩ : ∃ W, W1.alloc (.cells #[.int .i64 0] 3) = W := ⟨_, rfl⟩
          rw [hW2] at hg hS2
          rw [hb2] at hg
          (try simp only [hW2, hb2])
          have HG2 := Lib.hid hg
          clear hS hg hW2 hb2
          have hS := hS2
          clear hS2
          refine hK _ _ ⟨fun _ => hS, ?_⟩
          clear hK K
          (try simp only [Act.put, List.setIfInBounds_toArray, List.set_cons_zero, List.set_cons_succ])
          refine wpTill_all (rs := [7]) (by kernel_rfl) (by simp) ?_
          intro i hi
          simp only [List.mem_cons, List.not_mem_nil, or_false] at hi
          subst hi
          refine wpOp_step rfl (fun K hK => ?_)
          go_simp
          have hg := HG2.out.box
          have hS2 := kept3 hS (.cells #[.int .i64 0] 3)
          obtain ⟨b3, hb3⟩ : ∃ b, W2.heap.size = b := ⟨_, rfl⟩
          obtain ⟨W3, hW3⟩ : ∃ W, W2.alloc (.cells #[.int .i64 0] 3) = W := ⟨_, rfl⟩
          rw [hW3] at hg hS2
          rw [hb3] at hg
          (try simp only [hW3, hb3])
          have HG3 := Lib.hid hg
          clear hS hg hW3 hb3
          have hS := hS2
          clear hS2
          refine hK _ _ ⟨fun _ => hS, ?_⟩
          clear hK K
          (try simp only [Act.put, List.setIfInBounds_toArray, List.set_cons_zero, List.set_cons_succ])
          refine wpTill_all (rs := [8]) (by kernel_rfl) (by simp) ?_
          intro i hi
          simp only [List.mem_cons, List.not_mem_nil, or_false] at hi
          subst hi
          obtain ⟨v1, W4, hr, hg, hf⟩ := HG3.out.app HL1.out
          obtain ⟨Ax1, cx1, ex1⟩ := len_app hg.i1
          subst ex1
          refine wpOp_step rfl (fun K hK => ?_)
          refine step_append_run W3 (by rfl) _ _ _ _ (by rfl) _ _ (by rfl) (by rfl) _ _ hr ?_
          have hS2 := kept3f hS hf HNS1.out
          have HG4 := Lib.hid hg
          clear hS hg hr hf
          have hS := hS2
          clear hS2
          refine hK _ _ ⟨fun _ => hS, ?_⟩
          clear hK K
          (try simp only [Act.put, List.setIfInBounds_toArray, List.set_cons_zero, List.set_cons_succ])
          refine wpTill_all (rs := [14]) (by kernel_rfl) (by simp) ?_
          intro i hi
          simp only [List.mem_cons, List.not_mem_nil, or_false] at hi
          subst hi
          obtain ⟨v2, W5, hr, hg, hf⟩ := HG4.out.app2 HL2.out
          obtain ⟨Ax2, cx2, ex2⟩ := len_app hg.i2
          subst ex2
          refine wpOp_step rfl (fun K hK => ?_)
          refine step_append_run W4 (by rfl) _ _ _ _ (by rfl) _ _ (by rfl) (by rfl) _ _ hr ?_
          have hS2 := kept3f hS hf HNS2.out
          have HG5 := Lib.hid hg
          clear hS hg hr hf
          have hS := hS2
          clear hS2
          refine hK _ _ ⟨fun _ => hS, ?_⟩
          clear hK K
          (try simp only [Act.put, List.setIfInBounds_toArray, List.set_cons_zero, List.set_cons_succ])
          refine wpTill_all (rs := [20]) (by kernel_rfl) (by simp) ?_
          intro i hi
          simp only [List.mem_cons, List.not_mem_nil, or_false] at hi
          subst hi
          obtain ⟨v3, W6, hr, hg, hf⟩ := HG5.out.app3 HL3.out
          obtain ⟨Ax3, cx3, ex3⟩ := len_app hg.i3
          subst ex3
          refine wpOp_step rfl (fun K hK => ?_)
          refine step_append_run W5 (by rfl) _ _ _ _ (by rfl) _ _ (by rfl) (by rfl) _ _ hr ?_
          have hS2 := kept3f hS hf HNS3.out
          have HG6 := Lib.hid hg
          clear hS hg hr hf
          have hS := hS2
          clear hS2
          refine hK _ _ ⟨fun _ => hS, ?_⟩
          clear hK K
          (try simp only [Act.put, List.setIfInBounds_toArray, List.set_cons_zero, List.set_cons_succ])
         rotate_left 1
        rotate_left 3
        all_goals
         have hb := HG6.out.blk H2.out.blk H2.out.op H2.out.oz H2.out.oc (by decide)
         have kk2 : W6.cell? ⟨s, 2, none⟩ = some (.slice Ap P.length cp) := by simp [World.cell?, hb]
         have kkf2 : W6.frozen? ⟨s, 2, none⟩ = false := by simp [World.frozen?, hb]
         have kk3 : W6.cell? ⟨s, 3, none⟩ = some (.slice Az Z.length cz) := by simp [World.cell?, hb]
         have kkf3 : W6.frozen? ⟨s, 3, none⟩ = false := by simp [World.frozen?, hb]
         have kk4 : W6.cell? ⟨s, 4, none⟩ = some (.slice Ac C.length cc) := by simp [World.cell?, hb]
         have kkf4 : W6.frozen? ⟨s, 4, none⟩ = false := by simp [World.frozen?, hb]
         clear hb
         refine wpTill_pure (i := 21) (v := .pointer (some ⟨s, 0, none⟩)) rfl (by kernel_rfl) (by kernel_rfl) (by kernel_rfl) (fun _ _ _ h => h) (T3_set (by decide) (by decide) (by decide)) (Or.inl ⟨by rfl, ?_⟩) (fun _ => hS) ?_
         · intro w; go_simp; try rfl
         (try simp only [Act.put, List.setIfInBounds_toArray, List.set_cons_zero, List.set_cons_succ])
         refine wpTill_pure (i := 22) (v := .pointer (some ⟨s, 2, none⟩)) rfl (by kernel_rfl) (by kernel_rfl) (by kernel_rfl) (fun _ _ _ h => h) (T3_set (by decide) (by decide) (by decide)) (Or.inl ⟨by rfl, ?_⟩) (fun _ => hS) ?_
         · intro w; go_simp; try rfl
         (try simp only [Act.put, List.setIfInBounds_toArray, List.set_cons_zero, List.set_cons_succ])
         refine wpTill_all (rs := [23]) (by kernel_rfl) (by simp) ?_
         intro i hi
         simp only [List.mem_cons, List.not_mem_nil, or_false] at hi
         subst hi
         refine wpOp_step rfl (fun K hK => ?_)
         go_simp
         refine hK _ _ ⟨(fun h => Bool.noConfusion (h.symm.trans (by kernel_rfl : T3 _ = true))), ?_⟩
         clear hK K
         (try simp only [Act.put, List.setIfInBounds_toArray, List.set_cons_zero, List.set_cons_succ])
         refine wpTill_pure (i := 24) (v := .pointer (some ⟨s, 0, none⟩)) rfl (by kernel_rfl) (by kernel_rfl) (by kernel_rfl) (fun _ _ _ h => h) (T3_set (by decide) (by decide) (by decide)) (Or.inl ⟨by rfl, ?_⟩) (fun h => Bool.noConfusion (h.symm.trans (by kernel_rfl : T3 _ = true))) ?_
         · intro w; go_simp; try rfl
         (try simp only [Act.put, List.setIfInBounds_toArray, List.set_cons_zero, List.set_cons_succ])
         refine wpTill_pure (i := 25) (v := .pointer (some ⟨s, 3, none⟩)) rfl (by kernel_rfl) (by kernel_rfl) (by kernel_rfl) (fun _ _ _ h => h) (T3_set (by decide) (by decide) (by decide)) (Or.inl ⟨by rfl, ?_⟩) (fun h => Bool.noConfusion (h.symm.trans (by kernel_rfl : T3 _ = true))) ?_
         · intro w; go_simp; try rfl
         (try simp only [Act.put, List.setIfInBounds_toArray, List.set_cons_zero, List.set_cons_succ])
         refine wpTill_all (rs := [26]) (by kernel_rfl) (by simp) ?_
         intro i hi
         simp only [List.mem_cons, List.not_mem_nil, or_false] at hi
         subst hi
         refine wpOp_step rfl (fun K hK => ?_)
         go_simp
         refine hK _ _ ⟨(fun h => Bool.noConfusion (h.symm.trans (by kernel_rfl : T3 _ = true))), ?_⟩
         clear hK K
         (try simp only [Act.put, List.setIfInBounds_toArray, List.set_cons_zero, List.set_cons_succ])
         refine wpTill_pure (i := 27) (v := .pointer (some ⟨s, 0, none⟩)) rfl (by kernel_rfl) (by kernel_rfl) (by kernel_rfl) (fun _ _ _ h => h) (T3_set (by decide) (by decide) (by decide)) (Or.inl ⟨by rfl, ?_⟩) (fun h => Bool.noConfusion (h.symm.trans (by kernel_rfl : T3 _ = true))) ?_
         · intro w; go_simp; try rfl
         (try simp only [Act.put, List.setIfInBounds_toArray, List.set_cons_zero, List.set_cons_succ])
         refine wpTill_pure (i := 28) (v := .pointer (some ⟨s, 4, none⟩)) rfl (by kernel_rfl) (by kernel_rfl) (by kernel_rfl) (fun _ _ _ h => h) (T3_set (by decide) (by decide) (by decide)) (Or.inl ⟨by rfl, ?_⟩) (fun h => Bool.noConfusion (h.symm.trans (by kernel_rfl : T3 _ = true))) ?_
         · intro w; go_simp; try rfl
         (try simp only [Act.put, List.setIfInBounds_toArray, List.set_cons_zero, List.set_cons_succ])
         refine wpTill_all (rs := [29]) (by kernel_rfl) (by simp) ?_
         intro i hi
         simp only [List.mem_cons, List.not_mem_nil, or_false] at hi
         subst hi
         refine wpOp_step rfl (fun K hK => ?_)
         go_simp
         refine hK _ _ ⟨(fun h => Bool.noConfusion (h.symm.trans (by kernel_rfl : T3 _ = true))), ?_⟩
         clear hK K
         (try simp only [Act.put, List.setIfInBounds_toArray, List.set_cons_zero, List.set_cons_succ])
         refine wpTill_done (by kernel_rfl) ?_ _
         go_wp2_with (fail)
         go_meet
         exact ⟨rfl, _, _, _, _, _, _, Lib.hid (g3_end H2.out HG6.out)⟩
      case rest =>
        obtain ⟨rfl, A1, c1, A2, c2, A3, c3, HE⟩ := hcut
        have HLP := Lib.hid H2.out.lp
        have HLZ := Lib.hid H2.out.lz
        have hlp := HLP.out
        have hlz := HLZ.out
        obtain ⟨g1, rfl, _, hc1⟩ := HE.out.o1.cellAt (by rw [iw_length]; simp)
        obtain ⟨g2, rfl, _, hc2⟩ := HE.out.o2.cellAt (by rw [iw_length]; simp)
        obtain ⟨g3, rfl, _, hc3⟩ := HE.out.o3.cellAt (by rw [iw_length]; simp)
        have r1 := (hc1 C.length (by rw [iw_length, List.length_append, hlp]; simp))
        have r2 := (hc2 C.length (by rw [iw_length, List.length_append, hlz]; simp))
        have r3 := (hc3 C.length (by rw [iw_length, List.length_append]; simp))
        rw [iw_get (by rw [List.length_append, hlp]; simp)] at r1
        rw [iw_get (by rw [List.length_append, hlz]; simp)] at r2
        rw [iw_get (by rw [List.length_append]; simp)] at r3
        obtain ⟨x1, hx1⟩ : ∃ x, (P ++ [0]).getD C.length 0 = x := ⟨_, rfl⟩
        obtain ⟨x2, hx2⟩ : ∃ x, (Z ++ [0]).getD C.length 0 = x := ⟨_, rfl⟩
        obtain ⟨x3, hx3⟩ : ∃ x, (C ++ [0]).getD C.length 0 = x := ⟨_, rfl⟩
        rw [hx1] at r1
        rw [hx2] at r2
        rw [hx3] at r3
        obtain ⟨r1, rf1⟩ := r1
        obtain ⟨r2, rf2⟩ := r2
        obtain ⟨r3, rf3⟩ := r3
        have n12 : g1 ≠ g2 := fun e => HE.out.a1 g1 (by simp [InBlk, Value.ownBlock]) (by rw [e]; simp [InBlk, Value.ownBlock])
        have n13 : g1 ≠ g3 := fun e => HE.out.a2 g1 (by simp [InBlk, Value.ownBlock]) (by rw [e]; simp [InBlk, Value.ownBlock])
        have n23 : g2 ≠ g3 := fun e => HE.out.a3 g2 (by simp [InBlk, Value.ownBlock]) (by rw [e]; simp [InBlk, Value.ownBlock])
        have n1s : g1 ≠ s := fun e => HE.out.o1.not_box HE.out.blk (by decide) (by rw [e]; simp [InBlk, Value.ownBlock])
        have n2s : g2 ≠ s := fun e => HE.out.o2.not_box HE.out.blk (by decide) (by rw [e]; simp [InBlk, Value.ownBlock])
        have n3s : g3 ≠ s := fun e => HE.out.o3.not_box HE.out.blk (by decide) (by rw [e]; simp [InBlk, Value.ownBlock])
        have m12 := Ne.symm n12
        have m13 := Ne.symm n13
        have m23 := Ne.symm n23
        have m1s := Ne.symm n1s
        have m2s := Ne.symm n2s
        have m3s := Ne.symm n3s
        have q1 : (C.length : Int) < (P.length : Int) + 1 := by omega
        have q2 : (C.length : Int) < (Z.length : Int) + 1 := by omega
        have q3 : (C.length : Int) < (C.length : Int) + 1 := by omega
        have q1' : (C.length : Int) < ((P.length + 1 : Nat) : Int) := by omega
        have q2' : (C.length : Int) < ((Z.length + 1 : Nat) : Int) := by omega
        have q3' : (C.length : Int) < ((C.length + 1 : Nat) : Int) := by omega
        clear hc1 hc2 hc3 hx1 hx2 hx3 hlp hlz k0 kf0 k1 kf1 k2 kf2 k3 kf3 k4 kf4
        have k0 : wc.cell? ⟨s, 0, none⟩ = some (.slice Ab B.length cb) := by simp [World.cell?, HE.out.blk]
        have kf0 : wc.frozen? ⟨s, 0, none⟩ = false := by simp [World.frozen?, HE.out.blk]
        have k1 : wc.cell? ⟨s, 1, none⟩ = some (.int .i64 most) := by simp [World.cell?, HE.out.blk]
        have kf1 : wc.frozen? ⟨s, 1, none⟩ = false := by simp [World.frozen?, HE.out.blk]
        have k2 : wc.cell? ⟨s, 2, none⟩ = some (.slice (some ⟨g1, 0, none⟩) (P.length + 1) c1) := by simp [World.cell?, HE.out.blk]
        have kf2 : wc.frozen? ⟨s, 2, none⟩ = false := by simp [World.frozen?, HE.out.blk]
        have k3 : wc.cell? ⟨s, 3, none⟩ = some (.slice (some ⟨g2, 0, none⟩) (Z.length + 1) c2) := by simp [World.cell?, HE.out.blk]
        have kf3 : wc.frozen? ⟨s, 3, none⟩ = false := by simp [World.frozen?, HE.out.blk]
        have k4 : wc.cell? ⟨s, 4, none⟩ = some (.slice (some ⟨g3, 0, none⟩) (C.length + 1) c3) := by simp [World.cell?, HE.out.blk]
        have kf4 : wc.frozen? ⟨s, 4, none⟩ = false := by simp [World.frozen?, HE.out.blk]
        go_upto_region 12 with (fail)
        go_region_held3 (fun w' => w'.cell? ⟨s, 0, none⟩ = some (.slice Ab B.length cb) ∧ w'.cell? ⟨s, 2, none⟩ = some (.slice (some ⟨g1, 0, none⟩) (P.length + 1) c1) ∧ w'.cell? ⟨s, 3, none⟩ = some (.slice (some ⟨g2, 0, none⟩) (Z.length + 1) c2) ∧ w'.cell? ⟨s, 4, none⟩ = some (.slice (some ⟨g3, 0, none⟩) (C.length + 1) c3)) (go_keep) (fail)
        all_goals
          have H5 := g5_set (B.length : Int) (b.length : Int) 1 HE.out HLP.out HLZ.out rfl
          obtain ⟨w5, hw5⟩ : ∃ w5, ((((wc.setCell ⟨g1, C.length, none⟩ (.int .i64 (B.length : Int))).setCell ⟨g2, C.length, none⟩ (.int .i64 (b.length : Int))).setCell ⟨g3, C.length, none⟩ (.int .i64 1)).drew) = w5 := ⟨_, rfl⟩
          rw [hw5] at H5
          (try simp only [hw5])
          have HG5 := Lib.hid H5.1
          have HF5 : Hid (Fr w w5 (fun k => k = s ∨ InBlk (.slice Ap P.length cp) k ∨ InBlk (.slice Az Z.length cz) k ∨ InBlk (.slice Ac C.length cc) k)) := Lib.hid ((HF2.out.mono (fun _ h _ => h.elim)).trans (H5.2.mono (fun i hi _ => hi)))
          have HN1 := Lib.hid HE.out.n1
          have HN2 := Lib.hid HE.out.n2
          have HN3 := Lib.hid HE.out.n3
          have HR5 := Lib.hid (HBR.out.keep HF5.out (fun k hk => HAP.out k hk))
          obtain ⟨i0, hi0, hz0, hz1, hzb⟩ := info_parts infoU8
          obtain ⟨bv', w6, hrun, ho6, hg6, hn6⟩ := run_append_rd (P := Tryd.prog) w5 24 24 5 i0 (.int .u8 0) Tryd.underlying24 hi0 hz0 hz1 (by omega) rfl _ _ (nw .u8 B) (nw .u8 b) HG5.out.ob HR5.out (nw_one .u8 b) (by rw [nw_length, nw_length]; have := HB1.out; omega)
          have eBb : nw .u8 B ++ nw .u8 b = nw .u8 (B ++ b) := by simp [nw]
          rw [eBb] at ho6
          obtain ⟨A6, c6, e6⟩ := ho6.rd.len
          rw [nw_length, List.length_append] at e6
          subst e6
          have HO6 := Lib.hid ho6
          have HN6 := Lib.hid hn6
          have HF6 : Hid (Fr w5 w6 (fun k => InBlk (.slice Ab B.length cb) k)) := Lib.hid ((Fr.refl w5 _).grown hg6 (fun k hk _ => hk))
          have nsb : ¬ InBlk (.slice Ab B.length cb) s := fun e => HG5.out.ob.not_box HG5.out.blk (by decide) e
          have hb6 := HF6.out.blk HG5.out.blk nsb
          have HB6 := Lib.hid hb6
          clear k0 kf0 k1 kf1 k2 kf2 k3 kf3 k4 kf4 r1 r2 r3 rf1 rf2 rf3 hw5 H5 ho6 hn6 hg6 eBb n12 n13 n23 n1s n2s n3s m12 m13 m23 m1s m2s m3s q1 q2 q3 q1' q2' q3' nsb
          have kb0 : w5.cell? ⟨s, 0, none⟩ = some (.slice Ab B.length cb) := HG5.out.cells.1
          have kc0 : w6.cell? ⟨s, 0, none⟩ = some (.slice Ab B.length cb) := by simp [World.cell?, hb6]
          have kcf : w6.frozen? ⟨s, 0, none⟩ = false := by simp [World.frozen?, hb6]
          clear hb6
          go_wp2_with (at_builtin; refine Lib.wpList_append_run _ rfl _ _ _ _ rfl _ _ rfl rfl _ w6 hrun ?_)
          go_ret2
          have f7 : Fr w6 (w6.setCell ⟨s, 0, none⟩ (.slice A6 (B.length + b.length) c6)) (fun i => i = s) := (Fr.refl w6 (fun i => i = s)).setCell (a := ⟨s, 0, none⟩) (fun _ => rfl) _
          have ns : ∀ {e : TypeId} {v : Value} {xs : List Value}, Own w6 e v xs → e ≠ 79 → ∀ k, InBlk v k → k ≠ s := fun {e v xs} ho ne k hk es => by
            obtain ⟨c, hc⟩ := ho.elem k hk
            rw [es, HB6.out] at hc
            simp at hc
            exact ne hc.2.symm
          have kp : ∀ {v : Value} {xs : List Int}, Own w5 3 v (iw xs) → Own w6 3 v (iw xs) := fun ho => ho.keep HF6.out (fun k hk e => by
            obtain ⟨c, hc⟩ := ho.elem k hk
            obtain ⟨c2, hc2⟩ := HG5.out.ob.elem k e
            rw [hc] at hc2; simp at hc2)
          have p1 := kp HG5.out.op
          have p2 := kp HG5.out.oz
          have p3 := kp HG5.out.oc
          have sz5 := HF5.out.size
          have sz2 := HF2.out.size
          refine ⟨.slice A6 (B.length + b.length) c6, _, _, _, rfl, ⟨blk_put (cs := #[.slice Ab B.length cb, .int .i64 most, _, _, _]) HB6.out 0 _ rfl, HO6.out.keep f7 (ns HO6.out (by decide)), p1.keep f7 (ns p1 (by decide)), p2.keep f7 (ns p2 (by decide)), p3.keep f7 (ns p3 (by decide)), HG5.out.a1, HG5.out.a2, HG5.out.a3, HG5.out.lp, HG5.out.lz⟩, ((HF5.out.mono (S1 := fun k => k = s ∨ InBlk (.slice Ab B.length cb) k ∨ InBlk (.slice Ap P.length cp) k ∨ InBlk (.slice Az Z.length cz) k ∨ InBlk (.slice Ac C.length cc) k) (fun i hi _ => hi.elim .inl (fun h => .inr (.inr h)))).then_ HF6.out (fun i hi _ => .inr (.inl hi))).then_ f7 (fun i hi _ => .inl hi), fun k hk => ?_, fun k hk => (HN1.out k hk).imp id (fun h => Nat.le_trans sz2 h), fun k hk => (HN2.out k hk).imp id (fun h => Nat.le_trans sz2 h), fun k hk => (HN3.out k hk).imp id (fun h => Nat.le_trans sz2 h)⟩
          exact (HN6.out k hk).imp id (fun h => Nat.le_trans sz5 h)
end Go.Proofs.YtjiaaefpepdoeaaDoor
namespace Go.Proofs.YtjiaaefpepdoeaaDoor
open Go.RowKit Md
set_option linter.unusedVariables false
def nl : Value := .slice none 0 0
theorem not_nil (k : Nat) : ¬ InBlk (.slice none 0 0) k := fun h => by simp [InBlk, Value.ownBlock] at h
theorem newstore9 (w : World) : Calls Tryd.prog 9 #[.int .i64 9] w fun e w' => ∃ s, e = .returned (.pointer (some ⟨s, 0, none⟩)) ∧ StG w' s (.slice none 0 0) (.slice none 0 0) (.slice none 0 0) (.slice none 0 0) 9 [] [] [] [] ∧ Fr w w' (fun _ => False) ∧ w.heap.size ≤ s := by
 go_enter Tryd.func9, Tryd.ntmps9
 go_wp2
 go_ret
 exact ⟨_, rfl, ⟨blk_new _ _ _, Own.nil _ _, Own.nil _ _, Own.nil _ _, Own.nil _ _, fun k hk => absurd hk (not_nil k), fun k hk => absurd hk (not_nil k), fun k hk => absurd hk (not_nil k), rfl, rfl⟩, (Fr.refl w _).alloc _, Nat.le_refl _⟩
theorem own_one {W : World} {e : TypeId} {v : Value} {xs : List Value} {n : Nat} (h : Own W e v xs) (hn : xs.length = n) (h0 : 0 < n) : ∃ g c, v = .slice (some ⟨g, 0, none⟩) n c := by
 rcases h.form with ⟨_, h1⟩ | ⟨g, c, hv, _⟩
 ·rw [h1] at hn; simp at hn; omega
 ·exact ⟨g, c, by rw [hv, hn]⟩
theorem grant5 (s : Nat) (A : Option Addr) (cap : Nat) (w : World) (h : StG w s (.slice none 0 0) (.slice none 0 0) (.slice none 0 0) (.slice none 0 0) 9 [] [] [] []) (hb : Rd w (.slice A 5 cap) (nw .u8 [1, 2, 3, 4, 5])) (hs : ∀ k, InBlk (.slice A 5 cap) k → k ≠ s) :
  Calls Tryd.prog 15 #[.pointer (some ⟨s, 0, none⟩), .slice A 5 cap] w fun e w' => ∃ r gb cb gp cp gs cs gc cc, e = .returned r ∧ StS w' s gb cb gp cp gs cs gc cc ∧ Fr w w' (fun k => k = s) := by
 have hg := grant_new s _ _ _ _ 9 [] [] [] [] [1, 2, 3, 4, 5] A cap w h hb (by decide) (by decide) (fun k hk e => by
  rcases e with e | e | e | e
  ·exact hs k hk e
  ·exact not_nil k e
  ·exact not_nil k e
  ·exact not_nil k e) (fun c hc => by cases hc) (fun z hz => by cases hz) (by decide) (by decide) (by decide) (by decide)
 refine hg.mono fun e w' hh => ?_
 obtain ⟨bv, pv, zv, cv, he, hst, hf, _⟩ := hh
 obtain ⟨gb, cb, rfl⟩ := own_one (n := 5) hst.ob rfl (by decide)
 obtain ⟨gp, cp, rfl⟩ := own_one (n := 1) hst.op rfl (by decide)
 obtain ⟨gs, cs, rfl⟩ := own_one (n := 1) hst.oz rfl (by decide)
 obtain ⟨gc, cc, rfl⟩ := own_one (n := 1) hst.oc rfl (by decide)
 refine ⟨_, gb, cb, gp, cp, gs, cs, gc, cc, he, ⟨hst.blk, hst.ob, hst.op, hst.oz, hst.oc⟩, hf.mono fun i hi _ => ?_⟩
 rcases hi with e | e | e | e | e
 ·exact e
 ·exact absurd e (not_nil i)
 ·exact absurd e (not_nil i)
 ·exact absurd e (not_nil i)
 ·exact absurd e (not_nil i)
end Go.Proofs.YtjiaaefpepdoeaaDoor
namespace Go.Proofs.YtjiaaefpepdoeaaDoor
open Go.RowKit Md Go.Proofs.YtjiaaefpepdoeaaDoorW.PrintWords
open Go.Proofs.YtjiaaefpepdoeaaDoor.PSlideMeans (S26 z26 k26)
set_option linter.unusedVariables false
theorem own_lit {W : World} {g : Nat} {e : TypeId} {xs : List Value} {n : Nat} (h : W.heap[g]? = some (.cells xs.toArray e (0, 0))) (hn : xs.length = n) (hm : n ≤ 1073741824) : Own W e (.slice (some ⟨g, 0, none⟩) n n) xs := by
 subst hn
 exact ⟨by omega, .inr ⟨g, xs.length, xs.toArray, rfl, Nat.zero_le _, h, Nat.le_refl _, by unfold maxLen; omega, by simp, by simp⟩⟩
set_option maxRecDepth 100000 in
set_option maxHeartbeats 8000000 in
theorem mean_yes (Al Ax : Option Addr) (cl cx : Nat) (l rs : List Int) (w : World) (h1 : l.length ≤ 400) (h2 : rs.length ≤ 30)
  (hl : Rd w (.slice Al l.length cl) (uw l)) (hx : Rd w (.slice Ax rs.length cx) (uw rs)) (hok : okWs l) (hor : okWs rs) (hs : soundB l rs = true) :
  Calls Tryd.prog 4 #[.slice Al l.length cl, .slice Ax rs.length cx] w fun e w' => e = .returned (.bool true) ∧ Fr w w' (fun _ => False) := by
 have d1 : decide ((400 : Int) < l.length) = false := decide_eq_false (by omega)
 have d2 : decide ((30 : Int) < rs.length) = false := decide_eq_false (by omega)
 have d1' : decide (400 < l.length) = false := decide_eq_false (by omega)
 have d2' : decide (30 < rs.length) = false := decide_eq_false (by omega)
 obtain ⟨I, X, G, c, hT⟩ := mnp_of h1 h2 hok hor hs
 have HT := Lib.hid hT
 have HL := Lib.hid hl
 have HX := Lib.hid hx
 have HOK := Lib.hid hok
 have HOR := Lib.hid hor
 have HS := Lib.hid hs
 have Z0 : Hid ((0 : Int) ≤ 0) := Lib.hid (Int.le_refl 0)
 have HM : Hid ((l.length : Int) + 0 ≤ 1048576) := Lib.hid (by omega)
 have HLR : Hid (rs.length ≤ 1048576) := Lib.hid (by omega)
 have HL4 : Hid (l.length ≤ 4000 ∧ rs.length ≤ 4000) := Lib.hid ⟨by omega, by omega⟩
 have HX3 : Hid (rs.length ≤ 1073741824) := Lib.hid (by omega)
 have H1 := Lib.hid h1
 have H2 := Lib.hid h2
 clear hl hx hok hor hs h1 h2 hT
 go_enter Tryd.func4, Tryd.ntmps4
 go_upto_region 6 with (first
  | (go_at_call 14; (with_reducible refine (awake14_c _).mono ?_); rintro e w1 ⟨rfl, hf⟩; have HF1 := Lib.hid hf; have HL1 := Lib.hid (HL.out.keep hf (fun _ _ h => h)); have HX1 := Lib.hid (HX.out.keep hf (fun _ _ h => h)); clear hf)
  | (go_at_call 9; (with_reducible refine (newstore9 _).mono ?_); rintro e w2 ⟨s, rfl, hst, hf, hsn⟩; have HST2 := Lib.hid hst; have HF2 := Lib.hid (HF1.out.trans hf); have HL2 := Lib.hid (HL1.out.keep hf (fun _ _ h => h)); have HX2 := Lib.hid (HX1.out.keep hf (fun _ _ h => h)); have HSN : Hid (w.heap.size ≤ s) := Lib.hid (Nat.le_trans HF1.out.size hsn); clear hst hf hsn))
 have hb5 : (w2.alloc (.cells #[.int .u8 1, .int .u8 2, .int .u8 3, .int .u8 4, .int .u8 5] 5)).heap[w2.heap.size]? = some (.cells #[.int .u8 1, .int .u8 2, .int .u8 3, .int .u8 4, .int .u8 5] 5 (0, 0)) := blk_new _ _ _
 obtain ⟨b5, hb5n⟩ : ∃ b, w2.heap.size = b := ⟨_, rfl⟩
 obtain ⟨w3, hw3⟩ : ∃ W, w2.alloc (.cells #[.int .u8 1, .int .u8 2, .int .u8 3, .int .u8 4, .int .u8 5] 5) = W := ⟨_, rfl⟩
 have f23 : Fr w2 w3 (fun _ => False) := by rw [← hw3]; exact (Fr.refl w2 _).alloc _
 rw [hw3, hb5n] at hb5
 have HF3 := Lib.hid (HF2.out.trans f23)
 have HL3 := Lib.hid (HL2.out.keep f23 (fun _ _ h => h))
 have HX3w := Lib.hid (HX2.out.keep f23 (fun _ _ h => h))
 have HST3 := Lib.hid (HST2.out.fr f23)
 have HB5 : Hid (Rd w3 (.slice (some ⟨b5, 0, none⟩) 5 5) (nw .u8 [1, 2, 3, 4, 5])) := Lib.hid ((own_lit (xs := nw .u8 [1, 2, 3, 4, 5]) (n := 5) hb5 rfl (by omega)).rd)
 have HB5S : Hid (∀ k, InBlk (.slice (some ⟨b5, 0, none⟩) 5 5) k → k ≠ s) := Lib.hid (fun k hk e => by
  simp [InBlk, Value.ownBlock] at hk
  have h3 := HST3.out.blk
  rw [← e, ← hk, hb5] at h3
  simp at h3)
 clear f23 hb5
 go_upto_region 7 with (first
  | ((try simp only [hw3, hb5n]); go_at_call 15; (with_reducible refine (grant5 s (some ⟨b5, 0, none⟩) 5 _ HST3.out HB5.out HB5S.out).mono ?_); rintro e w4 ⟨rv, gb, cb, gp, cp, gs, cs, gc, cc, rfl, hst, hf⟩; have HST4 := Lib.hid hst; have HF4 : Hid (Fr w w4 (fun _ => False)) := Lib.hid (HF3.out.then_ hf (fun i hi hl => by have := HSN.out; omega)); have HL4w := Lib.hid (HL.out.keep HF4.out (fun _ _ h => h)); have HX4 := Lib.hid (HX.out.keep HF4.out (fun _ _ h => h)); clear hst hf))
 go_upto_region 8 with (first
  | (go_at_call 16; (with_reducible refine (mem_c _ l 0 _ HL4w.out HOK.out Z0.out HM.out).mono ?_); rintro e w5 ⟨q, vm, rfl, hn⟩; have HM5 := Lib.hid hn.1; have HF5 := Lib.hid (HF4.out.trans hn.2.1); have HX5 := Lib.hid (HX.out.keep HF5.out (fun _ _ h => h)); have HL5 := Lib.hid (HL.out.keep HF5.out (fun _ _ h => h)); have HST5 := Lib.hid (HST4.out.fr hn.2.1); clear hn))
 clear hw3 hb5n HST2 HST3 HST4 HB5 HB5S HSN HL1 HL2 HL3 HX1 HX2 HX3w HX4 HL4w HF1 HF2 HF3
 have hn5 : (w5.alloc (.cells #[.string ⟨#[97]⟩, .string ⟨#[98]⟩] 9)).heap[w5.heap.size]? = some (.cells #[.string ⟨#[97]⟩, .string ⟨#[98]⟩] 9 (0, 0)) := blk_new _ _ _
 obtain ⟨gn, hgn⟩ : ∃ b, w5.heap.size = b := ⟨_, rfl⟩
 obtain ⟨w6, hw6⟩ : ∃ W, w5.alloc (.cells #[.string ⟨#[97]⟩, .string ⟨#[98]⟩] 9) = W := ⟨_, rfl⟩
 have f56 : Fr w5 w6 (fun _ => False) := by rw [← hw6]; exact (Fr.refl w5 _).alloc _
 rw [hw6, hgn] at hn5
 have hn6 : (w6.alloc (.cells #[.slice (some ⟨gn, 0, none⟩) 2 2] 35)).heap[w6.heap.size]? = some (.cells #[.slice (some ⟨gn, 0, none⟩) 2 2] 35 (0, 0)) := blk_new _ _ _
 obtain ⟨t, hgt⟩ : ∃ b, w6.heap.size = b := ⟨_, rfl⟩
 obtain ⟨w7, hw7⟩ : ∃ W, w6.alloc (.cells #[.slice (some ⟨gn, 0, none⟩) 2 2] 35) = W := ⟨_, rfl⟩
 have f67 : Fr w6 w7 (fun _ => False) := by rw [← hw7]; exact (Fr.refl w6 _).alloc _
 rw [hw7, hgt] at hn6
 have f57 := f56.trans f67
 have HF7 := Lib.hid (HF5.out.trans f57)
 have HX7 := Lib.hid (HX5.out.keep f57 (fun _ _ h => h))
 have HL7 := Lib.hid (HL5.out.keep f57 (fun _ _ h => h))
 have HGS7 : Hid (GS w7 ⟨0, q, t, s, vm, gn, 2, gb, cb, gp, cp, gs, cs, gc, cc⟩ l (l.length + 0)) := Lib.hid ⟨HM5.out.fr f57, hn6, own_lit (xs := [.string sA, .string sB]) (n := 2) (f67.blk hn5 (fun h => h)) rfl (by omega), HST5.out.fr f57⟩
 clear f56 f67 f57 hn5 hn6 HM5 HX5 HL5 HST5 HF4 HF5
 go_upto_region 12 with (first
  | ((try simp only [hw6, hgn]); (try simp only [hw7, hgt]); go_at_call 17; (with_reducible refine (sound8_c q vm _ l rs _ _ HGS7.out.mem HX7.out HOR.out HLR.out).mono ?_); rintro e w8 ⟨rfl, hf⟩; rw [HS.out]; have HF8 := Lib.hid (HF7.out.trans hf); have HX8 := Lib.hid (HX7.out.keep hf (fun _ _ h => h)); have HL8 := Lib.hid (HL7.out.keep hf (fun _ _ h => h)); have HGS8 := Lib.hid (HGS7.out.fr hf); clear hf)
  | (go_at_call 11; (with_reducible refine (fill_c _ l 0 _ HL8.out HOK.out Z0.out HM.out).mono ?_); rintro e w9 ⟨p, va, rfl, hn⟩; have HA9 := Lib.hid hn.1; have HF9 := Lib.hid (HF8.out.trans hn.2.1); have HX9 := Lib.hid (HX8.out.keep hn.2.1 (fun _ _ h => h)); have HGS9 := Lib.hid (HGS8.out.fr hn.2.1); have HN9 : Hid (w8.heap.size ≤ p ∧ ∀ k, InBlk va k → w8.heap.size ≤ k) := Lib.hid hn.2.2; have HF89 := Lib.hid hn.2.1; clear hn))
 clear hw6 hgn hw7 hgt HL7 HX7 HGS7 HF7 HL8 HX8 HGS9
 go_upto_region 15 with (first
  | (go_at_call 18; (with_reducible refine (copy_c _ rs _ HX9.out HX3.out).mono ?_); rintro e w10 ⟨xv, rfl, hn⟩; have HC10 := Lib.hid hn; clear hn))
 have HTA10 : Hid (TA 112 w10 p va l (l.length + 0) xv rs) := Lib.hid ⟨HA9.out.fr HC10.out.2.1, HC10.out.1, Apt.new HA9.out.own HC10.out.2.2, HOR.out, by have := HLR.out; omega⟩
 have HF810 : Hid (Fr w8 w10 (fun _ => False)) := Lib.hid (HF89.out.trans HC10.out.2.1)
 have HX10 := Lib.hid (HX9.out.keep HC10.out.2.1 (fun _ _ h => h))
 have HUO : Hid (∀ i, (i = p ∨ UO va xv i) → w8.heap.size ≤ i) := Lib.hid (fun i hi => by
  rcases hi with e | e | e
  ·rw [e]; exact HN9.out.1
  ·exact HN9.out.2 i e
  ·exact Nat.le_trans HF89.out.size (HC10.out.2.2 i e))
 clear HA9 HC10 HX9 HF89
 go_upto_region 16 with (first
  | (go_at_call 19; (with_reducible refine (HT.out.sa p va _ _ HTA10.out).mono ?_); rintro e w11 ⟨va11, gv, rfl, ht, hg, hf, hv, hgn⟩; obtain ⟨Ag, cg, hgv⟩ := hg.rd.len; rw [iw_length] at hgv; subst hgv; have HT11 := Lib.hid ht; have HF11 := Lib.hid hf; have HV11 := Lib.hid hv; clear ht hg hf hv hgn))
 obtain ⟨W12, hW12⟩ : ∃ W, w11.alloc (.cells #[.int .i64 I.length, .slice Ag G.length cg, .int .i64 c] 57) = W := ⟨_, rfl⟩
 obtain ⟨D1, hD1⟩ : ∃ D, w11.heap.size = D := ⟨_, rfl⟩
 have f1112 : Fr w11 W12 (fun _ => False) := by rw [← hW12]; exact (Fr.refl _ _).alloc _
 have hdb : W12.heap[D1]? = some (.cells #[.int .i64 I.length, .slice Ag G.length cg, .int .i64 c] 57 (0, 0)) := by rw [← hW12, ← hD1]; exact blk_new _ _ _
 have HDB12 := Lib.hid hdb
 have HTA12 := Lib.hid (HT11.out.fr f1112)
 have HF812 : Hid (Fr w8 W12 (fun _ => False)) := Lib.hid ((HF810.out.then_ HF11.out (fun i hi hl => by have := HUO.out i hi; omega)).trans f1112)
 have HF12 : Hid (Fr w W12 (fun _ => False)) := Lib.hid (HF8.out.trans HF812.out)
 have HGS12 := Lib.hid (HGS8.out.fr HF812.out)
 have HX12 := Lib.hid (HX.out.keep HF12.out (fun _ _ h => h))
 have HSZ12 : Hid (w10.heap.size ≤ D1 ∧ D1 < W12.heap.size ∧ w8.heap.size ≤ w10.heap.size) := Lib.hid ⟨by rw [← hD1]; exact HF11.out.size, (Array.getElem?_eq_some_iff.1 hdb).1, HF810.out.size⟩
 simp only [hW12, hD1]
 clear hW12 hD1 f1112 hdb HT11 HF11 HTA10 HX10 HGS8 HF810
 have c0 : W12.cell? ⟨D1, 0, none⟩ = some (.int .i64 I.length) := by simp [World.cell?, HDB12.out]
 have HGMd := Lib.hid ((HGS12.out.fr ((Fr.refl W12 (fun _ => False)).drew)).mem)
 have HXd := Lib.hid (HX12.out.keep ((Fr.refl W12 (fun _ => False)).drew) (fun _ _ h => h))
 have HTAd := Lib.hid (HTA12.out.fr ((Fr.refl W12 (fun _ => False)).drew))
 go_cut [72] (fun a72 wx => a72 = .bool false ∧ Hid (Fr W12 wx (fun _ => False)))
 case first =>
  go_region_held3 (fun w' => w'.cell? ⟨D1, 0, none⟩ = some (.int .i64 I.length)) (first | exact g0 | exact c0)
   (first
    | (go_at_call 20; (with_reducible refine (rlwords_c q vm _ l rs _ _ HGMd.out HXd.out HOR.out HL4.out.1 HL4.out.2).mono ?_); rintro e wl ⟨rr, hlv, rfl, hf⟩; rw [HT.out.used rr hlv]; have g0 := hf.cell (w := W12.drew) (a := ⟨D1, 0, none⟩) c0 (fun h => h); have HTAl := Lib.hid (HTAd.out.fr hf); have HFl : Hid (Fr W12 wl (fun _ => False)) := Lib.hid (((Fr.refl W12 (fun _ => False)).drew).trans hf); clear hf hlv)
    | (go_at_call 21; (with_reducible refine (used_c p va11 I _ _ HTAl.out.ar).mono ?_); rintro e wu ⟨rfl, rfl⟩))
  all_goals
   go_wp2_with (fail)
   go_meet
   exact ⟨by first | rfl | (simp; done), HFl⟩
 case rest =>
  obtain ⟨rfl, HFC⟩ := hcut
  have HTA13 := Lib.hid (HTA12.out.fr HFC.out)
  have HGS13 := Lib.hid (HGS12.out.fr HFC.out)
  have HF13 := Lib.hid (HF12.out.trans HFC.out)
  have HDB13 := Lib.hid (HFC.out.blk HDB12.out (fun h => h))
  have HSZ13 : Hid (w10.heap.size ≤ D1 ∧ D1 < wc.heap.size ∧ w8.heap.size ≤ w10.heap.size) := Lib.hid (by have h1 := HSZ12.out; have h2 := HFC.out.size; omega)
  clear c0 HGMd HXd HTAd HTA12 HGS12 HDB12 HSZ12 HFC HX12 HF812
  go_upto_region 19 with (first
   | (go_at_call 22; (with_reducible refine (words_c p va11 I _ _ HTA13.out.ar).mono ?_); rintro e w14 ⟨uv, rfl, hn⟩; obtain ⟨Au, cu, hu⟩ := hn.1.rd.len; rw [uw_length] at hu; subst hu; have HU14 := Lib.hid hn; clear hn))
  obtain ⟨q2, hq2⟩ : ∃ b, w14.heap.size = b := ⟨_, rfl⟩
  obtain ⟨w15, hw15⟩ : ∃ W, w14.alloc (.cells #[.slice Au I.length cu, .int .i64 l.length] 46) = W := ⟨_, rfl⟩
  have hqb : w15.heap[q2]? = some (.cells #[.slice Au I.length cu, .int .i64 l.length] 46 (0, 0)) := by rw [← hw15, ← hq2]; exact blk_new _ _ _
  have f1415 : Fr w14 w15 (fun _ => False) := by rw [← hw15]; exact (Fr.refl _ _).alloc _
  have f15 := HU14.out.2.1.trans f1415
  have HTA15 := Lib.hid (HTA13.out.fr f15)
  have HGA15 := Lib.hid (HGS13.out.fr f15)
  have HF15 := Lib.hid (HF13.out.trans f15)
  have HDB15 := Lib.hid (f15.blk HDB13.out (fun h => h))
  have HGB15 : Hid (GS w15 ⟨0, q2, t, s, .slice Au I.length cu, gn, 2, gb, cb, gp, cp, gs, cs, gc, cc⟩ I (l.length : Int)) := Lib.hid ⟨⟨hqb, HU14.out.1.keep f1415 (fun _ _ h => h), by have := HT.out.ile; omega, by have := H1.out; omega, HT.out.oki, by decide⟩, HGA15.out.nblk, HGA15.out.nown, HGA15.out.sto⟩
  have HUN : Hid (wc.heap.size ≤ q2 ∧ (∀ k, InBlk (.slice Au I.length cu) k → wc.heap.size ≤ k) ∧ wc.heap.size ≤ w15.heap.size) := Lib.hid ⟨by rw [← hq2]; exact HU14.out.2.1.size, HU14.out.2.2, f15.size⟩
  have HX15 := Lib.hid (HX.out.keep HF15.out (fun _ _ h => h))
  (try simp only [hw15, hq2])
  have HPV : Hid (p < wc.heap.size ∧ ∀ k, InBlk va11 k → k < wc.heap.size) := Lib.hid ⟨HTA13.out.ar.lt, HTA13.out.ar.own.lt⟩
  clear hw15 hq2 hqb f1415 f15 HU14 HTA13 HGS13 HDB13 HF13
  have qr : (rs.length : Int) ≤ 30 := by have := H2.out; omega
  obtain ⟨Axx, cxx, hxx⟩ := HTA15.out.own.rd.len
  rw [uw_length] at hxx
  subst hxx
  rw [HT.out.xl] at *
  go_wp2
  go_loopg [13] rs.length (fun g a13 wr => ∃ i : Nat, a13 = .int .i64 i ∧ g + i = rs.length ∧ Hid (Fr w15 wr (fun _ => False)))
  case atStart => exact ⟨0, rfl, by omega, Lib.hid (Fr.refl _ _)⟩
  case round =>
   obtain ⟨i, rfl, hgi, HI⟩ := hrel
   have HGI := Lib.hid hgi
   clear hgi
   by_cases hi : i < rs.length
   ·have HIL := Lib.hid hi
    have e1 : decide (i < rs.length) = true := decide_eq_true hi
    have qi : (i : Int) < rs.length := by omega
    have qi30 : (i : Int) ≤ 30 := by omega
    obtain ⟨bx, ox, rfl, hcx⟩ := rn_cell (K := .u64) (HX15.out.keep HI.out (fun _ _ h => h)) (by omega)
    have cx := hcx i hi
    obtain ⟨gx, rfl, _, hcy⟩ := (HTA15.out.own.keep HI.out (fun _ _ h => h)).cellAt (by rw [uw_length, HT.out.xl]; omega)
    have cy := (hcy i (by rw [uw_length, HT.out.xl]; exact hi)).1
    rw [uw_get (by rw [HT.out.xl]; exact hi)] at cy
    obtain ⟨x1, hx1⟩ : ∃ x, rs.getD i 0 = x := ⟨_, rfl⟩
    obtain ⟨x2, hx2⟩ : ∃ x, X.getD i 0 = x := ⟨_, rfl⟩
    rw [hx1] at cx
    rw [hx2] at cy
    have hok1 : okW x1 := by rw [← hx1]; exact HOR.out _ (getD_mem hi)
    have hok2 : okW x2 := by rw [← hx2]; exact HT.out.okx _ (getD_mem (by rw [HT.out.xl]; exact hi))
    have heq : termM I x2 = termM l x1 := by
     have h := HT.out.get nmAB lookM trT 65537 0 i hi
     rw [hx1, hx2] at h
     unfold termM
     rw [h]
    obtain ⟨ro, hro⟩ : ∃ ro, termM l x1 = ro := ⟨_, rfl⟩
    rw [hro] at heq
    obtain ⟨tm, htm⟩ : ∃ tm, ro.getD z26 = tm := ⟨_, rfl⟩
    have HOKT : Hid (OkT 65538 tm) := Lib.hid (by rw [← htm, ← hro]; exact okT_termM HOK.out hok1)
    have HTM := Lib.hid htm
    have HGA := Lib.hid (HGA15.out.fr HI.out)
    have HGB := Lib.hid (HGB15.out.fr HI.out)
    have HC1 : Hid (∀ W, GS W ⟨0, q, t, s, vm, gn, 2, gb, cb, gp, cp, gs, cs, gc, cc⟩ l (l.length + 0) → Calls Tryd.prog 23 #[.pointer (some ⟨q, 0, none⟩), .pointer (some ⟨t, 0, none⟩), .int .u64 x1, .pointer (some ⟨s, 0, none⟩)] W (fun e w' => GTA W w' ro e)) := Lib.hid (fun W hW => by
     have := getterm_c ⟨0, q, t, s, vm, gn, 2, gb, cb, gp, cp, gs, cs, gc, cc⟩ l _ x1 W hW hok1
     rw [hro] at this
     exact this)
    have HC2 : Hid (∀ W, GS W ⟨0, q2, t, s, .slice Au I.length cu, gn, 2, gb, cb, gp, cp, gs, cs, gc, cc⟩ I (l.length : Int) → Calls Tryd.prog 23 #[.pointer (some ⟨q2, 0, none⟩), .pointer (some ⟨t, 0, none⟩), .int .u64 x2, .pointer (some ⟨s, 0, none⟩)] W (fun e w' => GTA W w' ro e)) := Lib.hid (fun W hW => by
     have := getterm_c ⟨0, q2, t, s, .slice Au I.length cu, gn, 2, gb, cb, gp, cp, gs, cs, gc, cc⟩ I _ x2 W hW hok2
     rw [heq] at this
     exact this)
    obtain ⟨ob, hob⟩ : ∃ ob, ro.isSome = ob := ⟨_, rfl⟩
    have HOB := Lib.hid hob
    clear hcx hcy hx1 hx2 hok1 hok2 heq hro htm hi hob
    go_upto_region 23 with (first
     | (go_at_call 23; (with_reducible refine (HC1.out _ HGA.out).mono ?_); rintro e w16 ⟨v2, v5, v6, rfl, h2, h5, h6, hf⟩; rw [HTM.out] at h2 h5 h6 ⊢; rw [HOB.out]; obtain ⟨U2, uc2, rfl⟩ := Kd.R_slice h2; obtain ⟨U5, uc5, rfl⟩ := Kd.R_slice h5; obtain ⟨U6, uc6, rfl⟩ := Kd.R_slice h6; have HRT : Hid (RT w16 tm (.slice U2 tm.f2.length uc2) (.slice U5 tm.f5.length uc5) (.slice U6 tm.f6.length uc6)) := Lib.hid ⟨R_weak h2, R_weak h5, R_weak h6⟩; have HF16 := Lib.hid hf; clear h2 h5 h6 hf))
    obtain ⟨F1, hF1⟩ : ∃ b, w16.heap.size = b := ⟨_, rfl⟩
    obtain ⟨w17, hw17⟩ : ∃ W, w16.alloc (.cells #[.int .i64 tm.f0, .bool tm.f1, .slice U2 tm.f2.length uc2, .string tm.f3, .int .i64 tm.f4, .slice U5 tm.f5.length uc5, .slice U6 tm.f6.length uc6] 26) = W := ⟨_, rfl⟩
    have hfb1 : w17.heap[F1]? = some (.cells #[.int .i64 tm.f0, .bool tm.f1, .slice U2 tm.f2.length uc2, .string tm.f3, .int .i64 tm.f4, .slice U5 tm.f5.length uc5, .slice U6 tm.f6.length uc6] 26 (0, 0)) := by rw [← hw17, ← hF1]; exact blk_new _ _ _
    have f1617 : Fr w16 w17 (fun _ => False) := by rw [← hw17]; exact (Fr.refl _ _).alloc _
    have HFB1 := Lib.hid hfb1
    have HRT17 := Lib.hid (HRT.out.fr f1617)
    have HF17 := Lib.hid (HF16.out.trans f1617)
    have HGB17 := Lib.hid (HGB.out.fr HF17.out)
    have cy17 := HF17.out.cell cy (fun h => h)
    (try simp only [hw17, hF1])
    clear hw17 hF1 f1617 hfb1 HRT HF16 cx cy
    go_upto_region 24 with (first
     | (go_at_call 23; (with_reducible refine (HC2.out _ HGB17.out).mono ?_); rintro e w18 ⟨v2, v5, v6, rfl, h2, h5, h6, hf⟩; rw [HTM.out] at h2 h5 h6 ⊢; rw [HOB.out]; obtain ⟨V2, vc2, rfl⟩ := Kd.R_slice h2; obtain ⟨V5, vc5, rfl⟩ := Kd.R_slice h5; obtain ⟨V6, vc6, rfl⟩ := Kd.R_slice h6; have HRV : Hid (RT w18 tm (.slice V2 tm.f2.length vc2) (.slice V5 tm.f5.length vc5) (.slice V6 tm.f6.length vc6)) := Lib.hid ⟨R_weak h2, R_weak h5, R_weak h6⟩; have HF18 := Lib.hid hf; clear h2 h5 h6 hf))
    obtain ⟨F2, hF2⟩ : ∃ b, w18.heap.size = b := ⟨_, rfl⟩
    obtain ⟨w19, hw19⟩ : ∃ W, w18.alloc (.cells #[.int .i64 tm.f0, .bool tm.f1, .slice V2 tm.f2.length vc2, .string tm.f3, .int .i64 tm.f4, .slice V5 tm.f5.length vc5, .slice V6 tm.f6.length vc6] 26) = W := ⟨_, rfl⟩
    have hfb2 : w19.heap[F2]? = some (.cells #[.int .i64 tm.f0, .bool tm.f1, .slice V2 tm.f2.length vc2, .string tm.f3, .int .i64 tm.f4, .slice V5 tm.f5.length vc5, .slice V6 tm.f6.length vc6] 26 (0, 0)) := by rw [← hw19, ← hF2]; exact blk_new _ _ _
    have f1819 : Fr w18 w19 (fun _ => False) := by rw [← hw19]; exact (Fr.refl _ _).alloc _
    have hfb1 := (HF18.out.trans f1819).blk HFB1.out (fun h => h)
    have HRV19 := Lib.hid (HRV.out.fr f1819)
    have HRT19 := Lib.hid (HRT17.out.fr (HF18.out.trans f1819))
    have HF19 := Lib.hid ((HI.out.trans HF17.out).trans (HF18.out.trans f1819))
    (try simp only [hw19, hF2])
    have m0 : w19.cell? ⟨F1, 0, none⟩ = some (.int .i64 tm.f0) := by simp [World.cell?, hfb1]
    have m1 : w19.cell? ⟨F1, 1, none⟩ = some (.bool tm.f1) := by simp [World.cell?, hfb1]
    have m2 : w19.cell? ⟨F1, 2, none⟩ = some (.slice U2 tm.f2.length uc2) := by simp [World.cell?, hfb1]
    have m3 : w19.cell? ⟨F1, 3, none⟩ = some (.string tm.f3) := by simp [World.cell?, hfb1]
    have m4 : w19.cell? ⟨F1, 4, none⟩ = some (.int .i64 tm.f4) := by simp [World.cell?, hfb1]
    have m5 : w19.cell? ⟨F1, 5, none⟩ = some (.slice U5 tm.f5.length uc5) := by simp [World.cell?, hfb1]
    have m6 : w19.cell? ⟨F1, 6, none⟩ = some (.slice U6 tm.f6.length uc6) := by simp [World.cell?, hfb1]
    have r0 : w19.cell? ⟨F2, 0, none⟩ = some (.int .i64 tm.f0) := by simp [World.cell?, hfb2]
    have r1 : w19.cell? ⟨F2, 1, none⟩ = some (.bool tm.f1) := by simp [World.cell?, hfb2]
    have r2 : w19.cell? ⟨F2, 2, none⟩ = some (.slice V2 tm.f2.length vc2) := by simp [World.cell?, hfb2]
    have r3 : w19.cell? ⟨F2, 3, none⟩ = some (.string tm.f3) := by simp [World.cell?, hfb2]
    have r4 : w19.cell? ⟨F2, 4, none⟩ = some (.int .i64 tm.f4) := by simp [World.cell?, hfb2]
    have r5 : w19.cell? ⟨F2, 5, none⟩ = some (.slice V5 tm.f5.length vc5) := by simp [World.cell?, hfb2]
    have r6 : w19.cell? ⟨F2, 6, none⟩ = some (.slice V6 tm.f6.length vc6) := by simp [World.cell?, hfb2]
    have hbb : (ob != ob) = false := by cases ob <;> rfl
    clear hw19 hF2 f1819 hfb1 hfb2 HRV HF18 HF17 HFB1 HRT17 HGB17 cy17
    go_wp2_with (first | (go_at_call 24; (with_reducible refine (same_c 65538 tm U2 U5 U6 V2 V5 V6 uc2 uc5 uc6 vc2 vc5 vc6 _ HOKT.out HRT19.out HRV19.out).mono ?_); rintro e w20 ⟨rfl, hf⟩; have HF20 := Lib.hid (HF19.out.trans hf); clear hf))
    go_roundg (gk - 1)
    case measure => have := HGI.out; have := HIL.out; omega
    case rel => exact ⟨i + 1, by first | rfl | go_num, by have := HGI.out; have := HIL.out; omega, HF20⟩
   ·have e1 : decide (i < rs.length) = false := decide_eq_false hi
    clear hi HGI
    have HTAr := Lib.hid (HTA15.out.fr HI.out)
    have HGBr := Lib.hid (HGB15.out.fr HI.out)
    have HDBr := Lib.hid (HI.out.blk HDB15.out (fun h => h))
    have HFr := Lib.hid (HF15.out.trans HI.out)
    have HSr := Lib.hid HI.out.size
    have HXK2 : Hid (X.length ≤ 1073741824) := Lib.hid (by have := H2.out; have := HT.out.xl; omega)
    have HXLT := Lib.hid (HTAr.out.own.lt)
    clear HTA15 HGA15 HDB15
    go_upto_region 27 with (first
     | (go_at_call 18; (with_reducible refine (copy_c _ X _ HTAr.out.own.rd HXK2.out).mono ?_); rintro e w21 ⟨yv, rfl, hn⟩; obtain ⟨Ay, cy, hy⟩ := hn.1.rd.len; rw [uw_length, HT.out.xl] at hy; subst hy; have HY21 := Lib.hid hn; clear hn))
    have HTY21 : Hid (TA 112 w21 p va11 I (l.length + 0) (.slice Ay rs.length cy) X) := Lib.hid ⟨HTAr.out.ar.fr HY21.out.2.1, HY21.out.1, Apt.new HTAr.out.ar.own HY21.out.2.2, HT.out.okx, by have := HT.out.xl; have := H2.out; omega⟩
    have HO21 := Lib.hid (HTAr.out.own.keep HY21.out.2.1 (fun _ _ h => h))
    have HGB21 := Lib.hid (HGBr.out.fr HY21.out.2.1)
    have HDB21 := Lib.hid (HY21.out.2.1.blk HDBr.out (fun h => h))
    have nS : ∀ i, (i = p ∨ UO va11 (.slice Ay rs.length cy) i) → (i = p ∨ InBlk va11 i ∨ wr.heap.size ≤ i) := fun i hi => by
     rcases hi with e | e | e
     ·exact .inl e
     ·exact .inr (.inl e)
     ·exact .inr (.inr (HY21.out.2.2 i e))
    have HN1 : Hid (¬ (D1 = p ∨ UO va11 (.slice Ay rs.length cy) D1)) := Lib.hid (fun e => by
     rcases nS _ e with e | e | e
     ·exact ne_of_types HDBr.out HTAr.out.ar.blk (by decide) e
     ·exact HTAr.out.ar.own.not_box HDBr.out (by decide) e
     ·have := (Array.getElem?_eq_some_iff.1 HDBr.out).1; omega)
    have HN2 : Hid (¬ (q2 = p ∨ UO va11 (.slice Ay rs.length cy) q2)) := Lib.hid (fun e => by
     rcases nS _ e with e | e | e
     ·exact ne_of_types HGBr.out.mem.blk HTAr.out.ar.blk (by decide) e
     ·exact HTAr.out.ar.own.not_box HGBr.out.mem.blk (by decide) e
     ·have := HGBr.out.mem.lt; simp only at this; omega)
    have HN3 : Hid (∀ i, InBlk (.slice Axx rs.length cxx) i → ¬ (i = p ∨ UO va11 (.slice Ay rs.length cy) i)) := Lib.hid (fun i hi e => by
     rcases nS _ e with e | e | e
     ·exact HTAr.out.own.not_box HTAr.out.ar.blk (by decide) (by rw [← e]; exact hi)
     ·exact HTAr.out.ap i e hi
     ·have := HXLT.out i hi; omega)
    have HN4 : Hid (∀ i, InBlk (.slice Au I.length cu) i → ¬ (i = p ∨ UO va11 (.slice Ay rs.length cy) i)) := Lib.hid (fun i hi e => by
     have h1 := HUN.out.2.1 i hi
     rcases nS _ e with e | e | e
     ·have := HPV.out.1; omega
     ·have := HPV.out.2 i e; omega
     ·have := HGBr.out.mem.own.lt i hi; omega)
    have HN5 : Hid (∀ i, (i = p ∨ UO va11 (.slice Ay rs.length cy) i) → w.heap.size ≤ i) := Lib.hid (fun i hi => by
     have h8 := HF8.out.size
     rcases nS _ hi with e | e | e
     ·have := HN9.out.1; omega
     ·have := HN9.out.2 i (HV11.out i e); omega
     ·have := HFr.out.size; omega)
    clear nS
    go_upto_region 28 with (first
     | (go_at_call 19; (with_reducible refine (HT.out.sz p va11 _ _ HTY21.out).mono ?_); rintro e w22 ⟨va22, gv2, rfl, ht, hg, hf, hv, hgn⟩; obtain ⟨Ag2, cg2, hgv⟩ := hg.rd.len; rw [iw_length, List.length_nil] at hgv; subst hgv; have HT22 := Lib.hid ht; have HF22 := Lib.hid hf; clear ht hg hf hv hgn))
    obtain ⟨W23, hW23⟩ : ∃ W, w22.alloc (.cells #[.int .i64 I.length, .slice Ag2 0 cg2, .int .i64 0] 57) = W := ⟨_, rfl⟩
    obtain ⟨D2, hD2⟩ : ∃ D, w22.heap.size = D := ⟨_, rfl⟩
    have f23 : Fr w22 W23 (fun _ => False) := by rw [← hW23]; exact (Fr.refl _ _).alloc _
    have hdb2 : W23.heap[D2]? = some (.cells #[.int .i64 I.length, .slice Ag2 0 cg2, .int .i64 0] 57 (0, 0)) := by rw [← hW23, ← hD2]; exact blk_new _ _ _
    have hdb1 := f23.blk (HF22.out.blk HDB21.out HN1.out) (fun h => h)
    have hq23 := f23.blk (HF22.out.blk HGB21.out.mem.blk HN2.out) (fun h => h)
    have HTX23 := Lib.hid (HT22.out.fr f23)
    have HX23 := Lib.hid ((HO21.out.keep HF22.out HN3.out).keep f23 (fun _ _ h => h))
    have HU23 := Lib.hid ((HGB21.out.mem.own.keep HF22.out HN4.out).keep f23 (fun _ _ h => h))
    have HF23 : Hid (Fr w W23 (fun _ => False)) := Lib.hid (((HFr.out.trans HY21.out.2.1).then_ HF22.out (fun i hi hl => by have := HN5.out i hi; omega)).trans f23)
    simp only [hW23, hD2]
    have a0 : W23.cell? ⟨D1, 0, none⟩ = some (.int .i64 I.length) := by simp [World.cell?, hdb1]
    have b0 : W23.cell? ⟨D2, 0, none⟩ = some (.int .i64 I.length) := by simp [World.cell?, hdb2]
    have b1 : W23.cell? ⟨D2, 1, none⟩ = some (.slice Ag2 0 cg2) := by simp [World.cell?, hdb2]
    have b2 : W23.cell? ⟨D2, 2, none⟩ = some (.int .i64 0) := by simp [World.cell?, hdb2]
    have q0 : W23.cell? ⟨q2, 0, none⟩ = some (.slice Au I.length cu) := by simp [World.cell?, hq23]
    clear hW23 hD2 f23 hdb1 hdb2 hq23 HT22 HF22 HTY21 HO21 HGB21 HDB21
    have HXd := Lib.hid (HX23.out.rd.keep ((Fr.refl W23 (fun _ => False)).drew) (fun _ _ h => h))
    have HYd := Lib.hid (HTX23.out.own.rd.keep ((Fr.refl W23 (fun _ => False)).drew) (fun _ _ h => h))
    have HIK : Hid (I.length ≤ 1073741824) := Lib.hid (by have := HT.out.il; omega)
    go_region_held3 (fun w' => w'.cell? ⟨D1, 0, none⟩ = some (.int .i64 I.length) ∧ w'.cell? ⟨D2, 0, none⟩ = some (.int .i64 I.length) ∧ w'.cell? ⟨D2, 1, none⟩ = some (.slice Ag2 0 cg2) ∧ w'.cell? ⟨D2, 2, none⟩ = some (.int .i64 0) ∧ w'.cell? ⟨q2, 0, none⟩ = some (.slice Au I.length cu))
     (first | exact ⟨ta0, tb0, tb1, tb2, tq0⟩ | exact ⟨sa0, sb0, sb1, sb2, sq0⟩ | exact ⟨ra0, rb0, rb1, rb2, rq0⟩ | exact ⟨a0, b0, b1, b2, q0⟩)
     (first
      | (go_at_call 25; (with_reducible refine (samew_c (.slice Axx rs.length cxx) (.slice Ay rs.length cy) X X _ HXd.out HYd.out HXK2.out).mono ?_); rintro e w24 ⟨rfl, hd⟩; rw [decide_eq_true (rfl : X = X)]; have hf := hd.fr (fun _ => False); have ra0 := hf.cell (w := W23.drew) (a := ⟨D1, 0, none⟩) a0 (fun h => h); have rb0 := hf.cell (w := W23.drew) (a := ⟨D2, 0, none⟩) b0 (fun h => h); have rb1 := hf.cell (w := W23.drew) (a := ⟨D2, 1, none⟩) b1 (fun h => h); have rb2 := hf.cell (w := W23.drew) (a := ⟨D2, 2, none⟩) b2 (fun h => h); have rq0 := hf.cell (w := W23.drew) (a := ⟨q2, 0, none⟩) q0 (fun h => h); have HT24 := Lib.hid ((HTX23.out.fr ((Fr.refl W23 (fun _ => False)).drew)).fr hf); have HU24 := Lib.hid ((HU23.out.keep ((Fr.refl W23 (fun _ => False)).drew) (fun _ _ h => h)).keep hf (fun _ _ h => h)); have HF24 : Hid (Fr w w24 (fun _ => False)) := Lib.hid ((HF23.out.trans ((Fr.refl W23 (fun _ => False)).drew)).trans hf); clear hd hf)
      | (go_at_call 22; (with_reducible refine (words_c p va22 I _ _ HT24.out.ar).mono ?_); rintro e w25 ⟨wv, rfl, hn⟩; obtain ⟨Aw, cw, hw⟩ := hn.1.rd.len; rw [uw_length] at hw; subst hw; have hf := hn.2.1; have sa0 := hf.cell (a := ⟨D1, 0, none⟩) ra0 (fun h => h); have sb0 := hf.cell (a := ⟨D2, 0, none⟩) rb0 (fun h => h); have sb1 := hf.cell (a := ⟨D2, 1, none⟩) rb1 (fun h => h); have sb2 := hf.cell (a := ⟨D2, 2, none⟩) rb2 (fun h => h); have sq0 := hf.cell (a := ⟨q2, 0, none⟩) rq0 (fun h => h); have HW25 := Lib.hid hn.1; have HU25 := Lib.hid (HU24.out.keep hf (fun _ _ h => h)); have HF25 := Lib.hid (HF24.out.trans hf); clear hn hf)
      | (go_at_call 25; (with_reducible refine (samew_c (.slice Aw I.length cw) (.slice Au I.length cu) I I _ HW25.out.rd HU25.out.rd HIK.out).mono ?_); rintro e w26 ⟨rfl, hd⟩; rw [decide_eq_true (rfl : I = I)]; have hf := hd.fr (fun _ => False); have ta0 := hf.cell (a := ⟨D1, 0, none⟩) sa0 (fun h => h); have tb0 := hf.cell (a := ⟨D2, 0, none⟩) sb0 (fun h => h); have tb1 := hf.cell (a := ⟨D2, 1, none⟩) sb1 (fun h => h); have tb2 := hf.cell (a := ⟨D2, 2, none⟩) sb2 (fun h => h); have tq0 := hf.cell (a := ⟨q2, 0, none⟩) sq0 (fun h => h); have HF26 := Lib.hid (HF25.out.trans hf); clear hd hf))
    all_goals
     go_wp2
     go_ret
     exact ⟨rfl, HF26.out⟩
end Go.Proofs.YtjiaaefpepdoeaaDoor
