/-
  TEXTS JOINED FOR A CLAIM (SlideMeans): Smc Opn RowSm. Conditions: none beyond those that each theorem states.
-/
import Derived.Test.YtjiaaefpepdoeaaDoorZ32SlideMeans
import Derived.Test.YtjiaaefpepdoeaaDoorZ29SlideMeans
import Derived.Test.YtjiaaefpepdoeaaDoorChecked
import Derived.WalkKit
import Derived.ProofKit
import Derived.OpenShut
import Derived.ChangeSlices
import Derived.ChangeOld
import Derived.Test.YtjiaaefpepdoeaaDoorRows
import Derived.Test.YtjiaaefpepdoeaaDoorTie
import Derived.Test.YtjiaaefpepdoeaaDoorCards
import Derived.Lib.LaidIn
import Derived.LaidMore
import Derived.Lay
import Derived.SevenTiedAt
import Derived.Stop.Joined
import Derived.Below
namespace Go.Proofs.YtjiaaefpepdoeaaDoor
open Go.RowKit Md Go.Proofs.YtjiaaefpepdoeaaDoorW.PrintWords
set_option linter.unusedVariables false
set_option maxRecDepth 100000 in
set_option maxHeartbeats 4000000 in
theorem mean_far (Al Ar : Option Addr) (nl cl nr cr : Nat) (w : World) (h : 400 < nl ∨ 30 < nr) :
  Calls Tryd.prog 4 #[.slice Al nl cl, .slice Ar nr cr] w fun e w' => e = .returned (.bool true) ∧ Fr w w' (fun _ => False) := by
 by_cases h1 : 400 < nl
 ·have d1 : decide ((400 : Int) < nl) = true := decide_eq_true (by omega)
  clear h h1
  go_enter Tryd.func4, Tryd.ntmps4
  go_wp2_with (first | (go_at_call 14; (with_reducible refine (awake14_c _).mono ?_); rintro e w1 ⟨rfl, hf1⟩))
  go_ret
  exact ⟨rfl, hf1⟩
 ·have d1 : decide ((400 : Int) < nl) = false := decide_eq_false (by omega)
  have d2 : decide ((30 : Int) < nr) = true := decide_eq_true (by omega)
  clear h h1
  go_enter Tryd.func4, Tryd.ntmps4
  go_wp2_with (first | (go_at_call 14; (with_reducible refine (awake14_c _).mono ?_); rintro e w1 ⟨rfl, hf1⟩))
  go_ret
  exact ⟨rfl, hf1⟩
set_option maxRecDepth 100000 in
set_option maxHeartbeats 8000000 in
theorem mean_no (Al Ax : Option Addr) (cl cx : Nat) (l rs : List Int) (w : World) (h1 : l.length ≤ 400) (h2 : rs.length ≤ 30)
  (hl : Rd w (.slice Al l.length cl) (uw l)) (hx : Rd w (.slice Ax rs.length cx) (uw rs)) (hok : okWs l) (hor : okWs rs) (hs : soundB l rs = false) :
  Calls Tryd.prog 4 #[.slice Al l.length cl, .slice Ax rs.length cx] w fun e w' => e = .returned (.bool true) ∧ Fr w w' (fun _ => False) := by
 have d1 : decide ((400 : Int) < l.length) = false := decide_eq_false (by omega)
 have d2 : decide ((30 : Int) < rs.length) = false := decide_eq_false (by omega)
 have d1' : decide (400 < l.length) = false := decide_eq_false (by omega)
 have d2' : decide (30 < rs.length) = false := decide_eq_false (by omega)
 have HL := Lib.hid hl
 have HX := Lib.hid hx
 have HOK := Lib.hid hok
 have HOR := Lib.hid hor
 have HS := Lib.hid hs
 have Z0 : Hid ((0 : Int) ≤ 0) := Lib.hid (Int.le_refl 0)
 have HM : Hid ((l.length : Int) + 0 ≤ 1048576) := Lib.hid (by omega)
 have HLR : Hid (rs.length ≤ 1048576) := Lib.hid (by omega)
 clear hl hx hok hor hs h1 h2
 go_enter Tryd.func4, Tryd.ntmps4
 go_upto_region 6 with (first
  | (go_at_call 14; (with_reducible refine (awake14_c _).mono ?_); rintro e w1 ⟨rfl, hf⟩; have HF1 := Lib.hid hf; have HL1 := Lib.hid (HL.out.keep hf (fun _ _ h => h)); have HX1 := Lib.hid (HX.out.keep hf (fun _ _ h => h)); clear hf)
  | (go_at_call 9; (with_reducible refine (newstore9 _).mono ?_); rintro e w2 ⟨s, rfl, hst, hf, hsn⟩; have HST2 := Lib.hid hst; have HF2 := Lib.hid (HF1.out.trans hf); have HL2 := Lib.hid (HL1.out.keep hf (fun _ _ h => h)); have HX2 := Lib.hid (HX1.out.keep hf (fun _ _ h => h)); have HSN : Hid (w.heap.size ≤ s) := Lib.hid (Nat.le_trans HF1.out.size hsn); clear hst hf hsn))
 have hb5 : (w2.alloc (.cells #[.int .u8 1, .int .u8 2, .int .u8 3, .int .u8 4, .int .u8 5] 5)).heap[w2.heap.size]? = some (.cells #[.int .u8 1, .int .u8 2, .int .u8 3, .int .u8 4, .int .u8 5] 5 (0, 0)) := blk_new _ _ _
 obtain ⟨b5, hb5n⟩ : ∃ b, w2.heap.size = b := ⟨_, rfl⟩
 obtain ⟨w3, hw3⟩ : ∃ W, w2.alloc (.cells #[.int .u8 1, .int .u8 2, .int .u8 3, .int .u8 4, .int .u8 5] 5) = W := ⟨_, rfl⟩
 have f23 : Fr w2 w3 (fun _ => False) := by rw [← hw3]; exact (Fr.refl w2 _).alloc _
 rw [hw3, hb5n] at hb5
 have HF3 := Lib.hid (HF2.out.trans f23)
 have HL3 := Lib.hid (HL2.out.keep f23 (fun _ _ h => h))
 have HX3w := Lib.hid (HX2.out.keep f23 (fun _ _ h => h))
 have HST3 := Lib.hid (HST2.out.fr f23)
 have HB5 : Hid (Rd w3 (.slice (some ⟨b5, 0, none⟩) 5 5) (nw .u8 [1, 2, 3, 4, 5])) := Lib.hid ((own_lit (xs := nw .u8 [1, 2, 3, 4, 5]) (n := 5) hb5 rfl (by omega)).rd)
 have HB5S : Hid (∀ k, InBlk (.slice (some ⟨b5, 0, none⟩) 5 5) k → k ≠ s) := Lib.hid (fun k hk e => by
  simp [InBlk, Value.ownBlock] at hk
  have h3 := HST3.out.blk
  rw [← e, ← hk, hb5] at h3
  simp at h3)
 clear f23 hb5
 go_upto_region 7 with (first
  | ((try simp only [hw3, hb5n]); go_at_call 15; (with_reducible refine (grant5 s (some ⟨b5, 0, none⟩) 5 _ HST3.out HB5.out HB5S.out).mono ?_); rintro e w4 ⟨rv, gb, cb, gp, cp, gs, cs, gc, cc, rfl, hst, hf⟩; have HST4 := Lib.hid hst; have HF4 : Hid (Fr w w4 (fun _ => False)) := Lib.hid (HF3.out.then_ hf (fun i hi hl => by have := HSN.out; omega)); have HL4w := Lib.hid (HL.out.keep HF4.out (fun _ _ h => h)); have HX4 := Lib.hid (HX.out.keep HF4.out (fun _ _ h => h)); clear hst hf))
 go_upto_region 8 with (first
  | (go_at_call 16; (with_reducible refine (mem_c _ l 0 _ HL4w.out HOK.out Z0.out HM.out).mono ?_); rintro e w5 ⟨q, vm, rfl, hn⟩; have HM5 := Lib.hid hn.1; have HF5 := Lib.hid (HF4.out.trans hn.2.1); have HX5 := Lib.hid (HX.out.keep HF5.out (fun _ _ h => h)); have HL5 := Lib.hid (HL.out.keep HF5.out (fun _ _ h => h)); have HST5 := Lib.hid (HST4.out.fr hn.2.1); clear hn))
 clear hw3 hb5n HST2 HST3 HST4 HB5 HB5S HSN HL1 HL2 HL3 HX1 HX2 HX3w HX4 HL4w HF1 HF2 HF3
 have hn5 : (w5.alloc (.cells #[.string ⟨#[97]⟩, .string ⟨#[98]⟩] 9)).heap[w5.heap.size]? = some (.cells #[.string ⟨#[97]⟩, .string ⟨#[98]⟩] 9 (0, 0)) := blk_new _ _ _
 obtain ⟨gn, hgn⟩ : ∃ b, w5.heap.size = b := ⟨_, rfl⟩
 obtain ⟨w6, hw6⟩ : ∃ W, w5.alloc (.cells #[.string ⟨#[97]⟩, .string ⟨#[98]⟩] 9) = W := ⟨_, rfl⟩
 have f56 : Fr w5 w6 (fun _ => False) := by rw [← hw6]; exact (Fr.refl w5 _).alloc _
 rw [hw6, hgn] at hn5
 have hn6 : (w6.alloc (.cells #[.slice (some ⟨gn, 0, none⟩) 2 2] 35)).heap[w6.heap.size]? = some (.cells #[.slice (some ⟨gn, 0, none⟩) 2 2] 35 (0, 0)) := blk_new _ _ _
 obtain ⟨t, hgt⟩ : ∃ b, w6.heap.size = b := ⟨_, rfl⟩
 obtain ⟨w7, hw7⟩ : ∃ W, w6.alloc (.cells #[.slice (some ⟨gn, 0, none⟩) 2 2] 35) = W := ⟨_, rfl⟩
 have f67 : Fr w6 w7 (fun _ => False) := by rw [← hw7]; exact (Fr.refl w6 _).alloc _
 rw [hw7, hgt] at hn6
 have f57 := f56.trans f67
 have HF7 := Lib.hid (HF5.out.trans f57)
 have HX7 := Lib.hid (HX5.out.keep f57 (fun _ _ h => h))
 have HL7 := Lib.hid (HL5.out.keep f57 (fun _ _ h => h))
 have HGS7 : Hid (GS w7 ⟨0, q, t, s, vm, gn, 2, gb, cb, gp, cp, gs, cs, gc, cc⟩ l (l.length + 0)) := Lib.hid ⟨HM5.out.fr f57, hn6, own_lit (xs := [.string sA, .string sB]) (n := 2) (f67.blk hn5 (fun h => h)) rfl (by omega), HST5.out.fr f57⟩
 clear f56 f67 f57 hn5 hn6 HM5 HX5 HL5 HST5 HF4 HF5
 go_wp2_with (first
  | ((try simp only [hw6, hgn]); (try simp only [hw7, hgt]); go_at_call 17; (with_reducible refine (sound8_c q vm _ l rs _ _ HGS7.out.mem HX7.out HOR.out HLR.out).mono ?_); rintro e w8 ⟨rfl, hf⟩; rw [HS.out]; have HF8 := Lib.hid (HF7.out.trans hf); clear hf))
 go_ret
 exact ⟨rfl, HF8.out⟩
theorem mean_c (Al Ar : Option Addr) (cl cr : Nat) (l rs : List Int) (w : World)
  (hl : Rd w (.slice Al l.length cl) (uw l)) (hr : Rd w (.slice Ar rs.length cr) (uw rs)) (hok : okWs l) (hor : okWs rs) :
  Calls Tryd.prog 4 #[.slice Al l.length cl, .slice Ar rs.length cr] w fun e w' => e = .returned (.bool true) ∧ Fr w w' (fun _ => False) := by
 by_cases h : 400 < l.length ∨ 30 < rs.length
 ·exact mean_far Al Ar l.length cl rs.length cr w h
 ·cases hs : soundB l rs with
  | false => exact mean_no Al Ar cl cr l rs w (by omega) (by omega) hl hr hok hor hs
  | true => exact mean_yes Al Ar cl cr l rs w (by omega) (by omega) hl hr hok hor hs
end Go.Proofs.YtjiaaefpepdoeaaDoor
namespace Go.Proofs.YtjiaaefpepdoeaaDoor.Opn
open Go.ChangeShapes Go.WideShapes Go.ChangeAt Go.RowKit
set_option linter.unusedVariables false
theorem spot_none {w : World} {a : Addr} {v : Value} (h : w.cell? a = some v) : a.spot = none := by
 unfold World.cell? at h
 split at h
 ·split at h
  ·cases h
  ·rename_i h1; simpa using h1
 ·cases h
section
variable {H : Type} {enc : TypeId × Value → H} {P : Program} {w : World} {base : Nat} {held : Bool}
theorem open_row {t e : TypeId} {k : IntKind} {fuel len cap : Nat} {A : Option Addr} {x : DataW H × List MemPlace} (ht : P.underlying t = some (.slice e)) (he : P.underlying e = some (.int k)) (hc : P.cellsOf e = 1)
  (h : DataW.trod enc P w base (fun _ => true) held fuel t [.slice A len cap] = some x) :
  ∃ zs : List Int, zs.length = len ∧ (∀ n ∈ zs, (Lit.int k n).wf = true) ∧ Rd w (.slice A len cap) (zs.map (Value.int k)) := by
 rcases open_ints ht he hc h with ⟨hcs, _⟩ | ⟨a, l, c, zs, hcs, _, hl, hm, hz, _, hcell, hwz⟩
 ·simp at hcs
  obtain ⟨rfl, rfl, rfl⟩ := hcs
  exact ⟨[], rfl, (fun n hn => by cases hn), .inl ⟨rfl, none, 0, rfl, fun _ => rfl⟩⟩
 ·simp at hcs
  obtain ⟨rfl, rfl, rfl⟩ := hcs
  simp only [if_true] at hz
  have hlz : (zs.take len).length = len := by simp; omega
  refine ⟨zs.take len, hlz, fun n hn => hwz n (List.mem_of_mem_take hn), ?_⟩
  by_cases h0 : len = 0
  ·subst h0
   exact .inl ⟨by simp, some a, cap, rfl, fun h => by cases h⟩
  ·obtain ⟨b, off, sp⟩ := a
   have h1 := hcell 0 (by omega)
   have h2 := spot_none h1
   simp [Addr.add] at h2
   subst h2
   have ad : ∀ n, (Addr.mk b off none).add n = ⟨b, off + n, none⟩ := fun n => by
    unfold Addr.add; split
    ·subst_vars; rfl
    ·rfl
   have hb := World.block_lt_of_cell? w _ h1
   rw [ad] at hb
   refine .inr ⟨b, off, cap, by rw [List.length_map, hlz], by rw [List.length_map, hlz]; omega, by rw [List.length_map, hlz]; exact hl, hm, hb, fun i hi => ?_⟩
   have hi' : i < len := by rw [List.length_map, hlz] at hi; exact hi
   have h3 := hcell i (by omega)
   rw [ad] at h3
   rw [h3]
   simp [List.getD, List.getElem?_eq_getElem (show i < zs.length by omega), List.getElem?_take, hi']
end
end Go.Proofs.YtjiaaefpepdoeaaDoor.Opn
namespace Go.Proofs.YtjiaaefpepdoeaaDoor.slideMeans
open Go.ChangeShapes Go.WideShapes Go.ChangeAt Go.RowKit Go.Lib Go.Proofs
open Go.ChangeMaps (open_string shut_string)
set_option linter.unusedVariables false
theorem own : ownKnob Tryd.prog.godebug = none := by kernel_rfl
theorem laidOut : laidOutB Tryd.prog = true := by kernel_rfl
set_option maxRecDepth 100000 in
set_option maxHeartbeats 2000000 in
theorem lifted (os : Os) (started : os.Started) (H : Type) (enc : TypeId × Value → H) :
  ReturnsInHanded {} Tryd.checked os 4 .any (fun w args => (Rows.slideMeansSpec.pre enc Tryd.prog Tryd.f4 Rows.slideMeansRow.domain false w args ∧ laidMetH Tryd.prog Rows.slideMeansRow.laid w) ∧ sizedMet enc Tryd.prog Tryd.f4 (OpenSpec.ofChange Rows.slideMeansSpec) false w args)
   (Rows.slideMeansSpec.post enc Tryd.prog Tryd.f4 false true false false) := by
 refine returnsInHanded_of_change_and (C := Tryd.checked) (X := fun w _ => laidMetH Tryd.prog Rows.slideMeansRow.laid w) (fun _ _ _ hh h => h.of_heap hh) own started (by kernel_rfl) Tryd.func4
  (ChangeSpec.witness_shaped (enc := enc) (C := Tryd.checked) (os := os) (X := fun w _ => laidMetH Tryd.prog Rows.slideMeansRow.laid w) false (World.laidAll Tryd.prog os Rows.slideMeansRow.laid) #[.slice none 0 0, .slice none 0 0] 8 (World.laidAll_os _ _ _)
   (World.shaped_of_ZipB (by kernel_rfl) (by kernel_rfl)) (by kernel_rfl) (by kernel_rfl) (by kernel_rfl)
   (by rw [MakeChecks.laidMetH_plain _ _ _ (by kernel_rfl)]; exact laidMet_laidAll _ (by kernel_rfl) (by kernel_rfl))) ?_
 intro W base args ds gs before hval0 hW hc hsz0 hL _
 have hval : ∀ (j : Nat) t v, Tryd.f4.params[j]? = some t → args[j]? = some v → Value.okWide Tryd.prog W .any base t v := hval0
 have hW' := hW
 obtain ⟨p, q, hA0, hV, rfl, hfz, hnd⟩ := hW
 have hA : DataW.TrodAll enc Tryd.prog W 0 (fun _ => true) true Tryd.f4.params.toList args.toList ds p := hA0
 rw [Tryd.params4] at hA hval
 obtain ⟨v0, vs0, d0, ds0, p0, q0, hargs, rfl, rfl, h0, r0⟩ := trodAll_cons hA
 obtain ⟨v1, vs1, d1, ds1, p1, q1, rfl, rfl, rfl, h1, r1⟩ := trodAll_cons r0
 obtain ⟨rfl, rfl, rfl⟩ := trodAll_nil r1
 obtain rfl : args = #[v0, v1] := by cases args; simp_all
 obtain ⟨rfl, rfl⟩ := trodVars_none hV
 have k0 := h0
 have lt0 : ∀ x ∈ p0, x.block < W.heap.size := by obtain ⟨m, hm⟩ := k0; exact DataW.trod_lt m _ _ _ hm
 have k1 := h1
 have lt1 : ∀ x ∈ p1, x.block < W.heap.size := by obtain ⟨m, hm⟩ := k1; exact DataW.trod_lt m _ _ _ hm
 obtain ⟨A, len, cap, rfl⟩ := okWide_slice Tryd.underlying44 (hval 0 44 v0 rfl rfl)
 obtain ⟨B, lenb, capb, rfl⟩ := okWide_slice Tryd.underlying44 (hval 1 44 v1 rfl rfl)
 obtain ⟨l, rfl, hw, hl⟩ : ∃ zs : List Int, zs.length = len ∧ (∀ n ∈ zs, (Lit.int .u64 n).wf = true) ∧ Rd W (.slice A len cap) (zs.map (Value.int .u64)) := by
  obtain ⟨fuel, hf⟩ := h0
  simp only [Value.cells] at hf
  exact Opn.open_row Tryd.underlying44 Tryd.underlying39 (by kernel_rfl) hf
 obtain ⟨rs, rfl, hws, hs⟩ : ∃ zs : List Int, zs.length = lenb ∧ (∀ n ∈ zs, (Lit.int .u64 n).wf = true) ∧ Rd W (.slice B lenb capb) (zs.map (Value.int .u64)) := by
  obtain ⟨fuel, hf⟩ := h1
  simp only [Value.cells] at hf
  exact Opn.open_row Tryd.underlying44 Tryd.underlying39 (by kernel_rfl) hf
 have hok : Md.okWs l := fun n hn => by
  have wf := hw n hn
  simp [Lit.wf, IntKind.min, IntKind.max, IntKind.bits, IntKind.signed] at wf
  unfold Md.okW; omega
 have hor : Md.okWs rs := fun n hn => by
  have wf := hws n hn
  simp [Lit.wf, IntKind.min, IntKind.max, IntKind.bits, IntKind.signed] at wf
  unfold Md.okW; omega
 clear hA0 hval0
 refine (((mean_c A B cap capb l rs W hl hs hok hor).mono fun _ _ h => ⟨h.1, h.2.below⟩ : Calls Tryd.prog 4 #[.slice A l.length cap, .slice B rs.length capb] W fun e W' => e = .returned (.bool true) ∧ Below W.heap.size W W')).mono fun e W' ⟨he, bel⟩ => ?_
 subst he
 exact ⟨_, rfl, _, _, _, [], _, [], hW', trodAll_mk1 (shut_bool Tryd.underlying4 _), (trodAll_cons_mk (Below.trod laidOut (by kernel_rfl) (of_decide_eq_true (by kernel_rfl)) k0 bel lt0) (trodAll_cons_mk (Below.trod laidOut (by kernel_rfl) (of_decide_eq_true (by kernel_rfl)) k1 bel lt1) trodAll_mk0)), rfl, bel.frame _, fun h => by cases h⟩
theorem over : Rows.SlideMeansSaid :=
 OpenClaim.holds_of_wide 4 Tryd.f4 rfl rfl rfl rfl rfl rfl rfl ⟨rfl, rfl, rfl, rfl, rfl⟩ rfl rfl rfl rfl rfl (by kernel_rfl) Tryd.func4 (by kernel_rfl)
  (of_decide_eq_true (by kernel_rfl)) (by unfold Func.isWrapper; first | (rw [if_pos (by decide +kernel)]; kernel_rfl) | (rw [if_neg (by decide +kernel)]; exact ⟨rfl, rfl⟩))
  (fun os started H enc _ => lifted os started H enc)
theorem card : Rows.SlideMeansCardSaid :=
 Claim7.holds_tied_plain_at .later [] [.data, .pinned] true (true, "cf60415a4f504a5a12f9536100e0c887734a2276fb40bfcdd5ac7af27a6c738f") false over (fun _ h => by cases h) (by kernel_rfl) (fun _ h => by cases h) slideMeans_row_tie rfl ⟨rfl, rfl⟩ (by kernel_rfl) rfl
  (fun f fn hf hfn => by
   obtain rfl : f = 4 := Option.some.inj ((show Tryd.prog.funcNamed "tenement/tenementlaw14.SlideMeans" = some 4 by kernel_rfl).symm.trans hf) |>.symm
   obtain rfl : fn = Tryd.f4 := (Option.some.inj (Tryd.func4.symm.trans hfn)).symm
   exact ⟨by kernel_rfl, fun j t ht => by
    rw [Tryd.params4] at ht
    have hm : t ∈ [44, 44] := by simpa using Array.mem_of_getElem? ht
    have hall : ([44, 44].all fun u => !Tryd.prog.wantsStandIn u) = true := by kernel_rfl
    exact (show Tryd.prog.wantsStandIn t = false by simpa using List.all_eq_true.1 hall t hm)⟩)
  (by kernel_rfl)
end Go.Proofs.YtjiaaefpepdoeaaDoor.slideMeans
namespace Go.Proofs.YtjiaaefpepdoeaaDoor
theorem slideMeans_holds : Rows.SlideMeansCardSaid := slideMeans.card
#print axioms slideMeans_holds
end Go.Proofs.YtjiaaefpepdoeaaDoor
