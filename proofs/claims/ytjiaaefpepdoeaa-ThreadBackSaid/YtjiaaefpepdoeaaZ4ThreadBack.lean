/-
  TEXTS JOINED FOR A CLAIM (ThreadBack): Bk0 Back. What each proves, and under which conditions, stands at its head. Conditions: none beyond those.
-/
import Derived.Test.YtjiaaefpepdoeaaZ3ThreadBack
import Derived.Test.YtjiaaefpepdoeaaZ0ThreadBack
import Derived.Deep.DeepCutAuto
import Derived.Test.YtjiaaefpepdoeaaZ1ThreadBack
import Derived.Test.YtjiaaefpepdoeaaZ2ThreadBack
/-
  FOR ThreadBack AND ThreadAll: the rows that the law holds beside the arena, and what a thread, a store leave of them. Conditions: those named in each.
-/
namespace Go.Proofs.Ytjiaaefpepdoeaa
open Go.RowKit Md
set_option linter.unusedVariables false
theorem Rd.keep2 {w w1 : World} {v : Value} {xs : List Value} {S : Nat → Prop} (h : Rd w v xs) (hf : Fr w w1 S) (hn : 0 < xs.length → ∀ i, InBlk v i → ¬ S i) : Rd w1 v xs := by
  by_cases h0 : 0 < xs.length
  · exact h.keep hf (hn h0)
  · rcases h with h | ⟨b, off, cap, rfl, hx, _⟩
    · exact .inl h
    · omega
/-- a row that is read: the cell of an index -/
theorem Rd.cellAt {w : World} {A : Option Addr} {n cap : Nat} {xs : List Value} (h : Rd w (.slice A n cap) xs) (h0 : 0 < xs.length) : ∃ b off, A = some ⟨b, off, none⟩ ∧ ∀ i, i < xs.length → w.cell? ⟨b, off + i, none⟩ = xs[i]? := by
  rcases h with ⟨rfl, _⟩ | ⟨b, off, cap', e, _, _, _, _, hc⟩
  · simp at h0
  · injection e with e1 e2 e3; exact ⟨b, off, e1, hc⟩
theorem Own.cellAt {w : World} {e : TypeId} {A : Option Addr} {n cap : Nat} {xs : List Value} (h : Own w e (.slice A n cap) xs) (h0 : 0 < xs.length) : ∃ b, A = some ⟨b, 0, none⟩ ∧ b < w.heap.size ∧ ∀ i, i < xs.length → w.cell? ⟨b, i, none⟩ = xs[i]? ∧ w.frozen? ⟨b, i, none⟩ = false := by
  rcases h.form with ⟨e, rfl⟩ | ⟨b, cap', e, hl, hm, hg, hc, hf⟩
  · simp at h0
  · injection e with e1 e2 e3; exact ⟨b, e1, hg, fun i hi => ⟨hc i hi, hf i⟩⟩
theorem Apt.new {W : World} {e : TypeId} {v u : Value} {xs : List Value} (h : Own W e v xs) (hu : ∀ k, InBlk u k → W.heap.size ≤ k) : Apt v u := fun k hk h2 => by
  have := h.lt k hk; have := hu k h2; omega
/-- The law's rows: the words and roots that came in (lA, rA), the model's arena (q, vm), the program's (p, va) and its roots (xv), two copies (wv, wrv), the objects (ov). -/
structure BI (w W : World) (p q : Nat) (va vm xv wv wrv ov lA rA : Value) (l rs L : List Int) (sz sm : Int) (ws ys want wr : List Int) : Prop where
  ta : TA 101 W p va ws sz xv ys
  m : Ar 41 W q vm l sm
  o : Own W 3 ov (iw L)
  want : Own W 29 wv (uw want)
  wr : Own W 29 wrv (uw wr)
  l0 : Rd W lA (uw l)
  r0 : Rd W rA (uw rs)
  fr : Fr w W fun _ => False
  nva : ∀ k, InBlk va k → w.heap.size ≤ k
  nxv : ∀ k, InBlk xv k → w.heap.size ≤ k
  nwv : ∀ k, InBlk wv k → w.heap.size ≤ k
  nwr : ∀ k, InBlk wrv k → w.heap.size ≤ k
  ll : 0 < l.length → ∀ k, InBlk lA k → k < w.heap.size
  lr : 0 < rs.length → ∀ k, InBlk rA k → k < w.heap.size
  a1 : Apt va wv
  a2 : Apt va wrv
  a3 : Apt va vm
  a4 : Apt xv wv
  a5 : Apt xv wrv
  a6 : Apt xv vm
  a7 : Apt wv wrv
  a8 : Apt wv vm
  a9 : Apt wrv vm
section
variable {w W W1 : World} {p q : Nat} {va vm xv wv wrv ov lA rA : Value} {l rs L : List Int} {sz sm : Int} {ws ys want wr ws' ys' : List Int}
theorem BI.frm (h : BI w W p q va vm xv wv wrv ov lA rA l rs L sz sm ws ys want wr) (hf : Fr W W1 fun _ => False) : BI w W1 p q va vm xv wv wrv ov lA rA l rs L sz sm ws ys want wr :=
  ⟨h.ta.fr hf, h.m.fr hf, h.o.keep hf (fun _ _ h => h), h.want.keep hf (fun _ _ h => h), h.wr.keep hf (fun _ _ h => h), h.l0.keep hf (fun _ _ h => h), h.r0.keep hf (fun _ _ h => h), h.fr.trans hf, h.nva, h.nxv, h.nwv, h.nwr, h.ll, h.lr, h.a1, h.a2, h.a3, h.a4, h.a5, h.a6, h.a7, h.a8, h.a9⟩
/-- a field is threaded, or loosened -/
theorem BI.thr (h : BI w W p q va vm xv wv wrv ov lA rA l rs L sz sm ws ys want wr) (ht : TA 101 W1 p va ws' sz xv ys') (hf : Fr W W1 (UO va xv)) : BI w W1 p q va vm xv wv wrv ov lA rA l rs L sz sm ws' ys' want wr := by
  refine ⟨ht, h.m.keep hf (fun e => ?_) (fun i hi e => ?_), h.o.keep hf (fun i hi e => ?_), h.want.keep hf (fun i hi e => ?_), h.wr.keep hf (fun i hi e => ?_), h.l0.keep2 hf (fun h0 i hi e => ?_), h.r0.keep2 hf (fun h0 i hi e => ?_), h.fr.then_ hf (fun i e hlt => ?_), h.nva, h.nxv, h.nwv, h.nwr, h.ll, h.lr, h.a1, h.a2, h.a3, h.a4, h.a5, h.a6, h.a7, h.a8, h.a9⟩
  · rcases e with e | e
    · exact h.ta.ar.own.not_ptr h.m (by decide) q e rfl
    · exact h.ta.own.not_ptr h.m (by decide) q e rfl
  · rcases e with e | e
    · exact h.a3 i e hi
    · exact h.a6 i e hi
  · rcases e with e | e
    · exact h.o.apart h.ta.ar.own (by decide) i hi e
    · exact h.o.apart h.ta.own (by decide) i hi e
  · rcases e with e | e
    · exact h.a1 i e hi
    · exact h.a4 i e hi
  · rcases e with e | e
    · exact h.a2 i e hi
    · exact h.a5 i e hi
  · have := h.ll (by rw [uw_length] at h0; exact h0) i hi
    rcases e with e | e
    · have := h.nva i e; omega
    · have := h.nxv i e; omega
  · have := h.lr (by rw [uw_length] at h0; exact h0) i hi
    rcases e with e | e
    · have := h.nva i e; omega
    · have := h.nxv i e; omega
  · rcases e with e | e
    · have := h.nva i e; omega
    · have := h.nxv i e; omega
theorem BI.setw {gw cw j nw : Nat} {x : Int} (h : BI w W p q va vm xv (.slice (some ⟨gw, 0, none⟩) nw cw) wrv ov lA rA l rs L sz sm ws ys want wr) (hnw : want.length = nw) (hj : j < want.length) :
    BI w (W.setCell ⟨gw, j, none⟩ (.int .u64 x)) p q va vm xv (.slice (some ⟨gw, 0, none⟩) nw cw) wrv ov lA rA l rs L sz sm ws ys (want.set j x) wr := by
  subst hnw
  have hin : InBlk (.slice (some ⟨gw, 0, none⟩) want.length cw) gw := by simp [InBlk, Value.ownBlock]
  have hs := Own.setAt (cap := cw) (g := gw) (k := j) (u := .int .u64 x) (xs := uw want) (e := 29) (W := W) (by rw [uw_length]; exact h.want) (by rw [uw_length]; exact hj)
  have hf := hs.2
  have hs1 := hs.1
  rw [uw_length] at hs1
  have e1 : (uw want).set j (.int .u64 x) = uw (want.set j x) := by unfold uw; rw [List.map_set]
  rw [e1] at hs1
  have hgw := h.nwv gw hin
  exact ⟨⟨h.ta.ar.keep hf (fun e => h.want.not_ptr h.ta.ar (by decide) gw hin e.symm) (fun i hi e => h.a1 i hi (by rw [e]; exact hin)), h.ta.own.keep hf (fun i hi e => h.a4 i hi (by rw [e]; exact hin)), h.ta.ap, h.ta.okr, h.ta.lenr⟩,
    h.m.keep hf (fun e => h.want.not_ptr h.m (by decide) gw hin e.symm) (fun i hi e => h.a8 i (by rw [e]; exact hin) hi), h.o.keep hf (fun i hi e => h.o.apart h.want (by decide) i hi (by rw [e]; exact hin)), hs1, h.wr.keep hf (fun i hi e => h.a7 i (by rw [e]; exact hin) hi),
    h.l0.keep2 hf (fun h0 i hi e => by have := h.ll (by rw [uw_length] at h0; exact h0) i hi; omega), h.r0.keep2 hf (fun h0 i hi e => by have := h.lr (by rw [uw_length] at h0; exact h0) i hi; omega), h.fr.setCell (S := fun _ => False) (a := ⟨gw, j, none⟩) (fun (hlt : gw < w.heap.size) => by omega) _, h.nva, h.nxv, h.nwv, h.nwr, h.ll, h.lr, h.a1, h.a2, h.a3, h.a4, h.a5, h.a6, h.a7, h.a8, h.a9⟩
theorem BI.setr {gw cw j nw : Nat} {x : Int} (h : BI w W p q va vm xv wv (.slice (some ⟨gw, 0, none⟩) nw cw) ov lA rA l rs L sz sm ws ys want wr) (hnw : wr.length = nw) (hj : j < wr.length) :
    BI w (W.setCell ⟨gw, j, none⟩ (.int .u64 x)) p q va vm xv wv (.slice (some ⟨gw, 0, none⟩) nw cw) ov lA rA l rs L sz sm ws ys want (wr.set j x) := by
  subst hnw
  have hin : InBlk (.slice (some ⟨gw, 0, none⟩) wr.length cw) gw := by simp [InBlk, Value.ownBlock]
  have hs := Own.setAt (cap := cw) (g := gw) (k := j) (u := .int .u64 x) (xs := uw wr) (e := 29) (W := W) (by rw [uw_length]; exact h.wr) (by rw [uw_length]; exact hj)
  have hf := hs.2
  have hs1 := hs.1
  rw [uw_length] at hs1
  have e1 : (uw wr).set j (.int .u64 x) = uw (wr.set j x) := by unfold uw; rw [List.map_set]
  rw [e1] at hs1
  have hgw := h.nwr gw hin
  exact ⟨⟨h.ta.ar.keep hf (fun e => h.wr.not_ptr h.ta.ar (by decide) gw hin e.symm) (fun i hi e => h.a2 i hi (by rw [e]; exact hin)), h.ta.own.keep hf (fun i hi e => h.a5 i hi (by rw [e]; exact hin)), h.ta.ap, h.ta.okr, h.ta.lenr⟩,
    h.m.keep hf (fun e => h.wr.not_ptr h.m (by decide) gw hin e.symm) (fun i hi e => h.a9 i (by rw [e]; exact hin) hi), h.o.keep hf (fun i hi e => h.o.apart h.wr (by decide) i hi (by rw [e]; exact hin)), h.want.keep hf (fun i hi e => h.a7 i hi (by rw [e]; exact hin)), hs1,
    h.l0.keep2 hf (fun h0 i hi e => by have := h.ll (by rw [uw_length] at h0; exact h0) i hi; omega), h.r0.keep2 hf (fun h0 i hi e => by have := h.lr (by rw [uw_length] at h0; exact h0) i hi; omega), h.fr.setCell (S := fun _ => False) (a := ⟨gw, j, none⟩) (fun (hlt : gw < w.heap.size) => by omega) _, h.nva, h.nxv, h.nwv, h.nwr, h.ll, h.lr, h.a1, h.a2, h.a3, h.a4, h.a5, h.a6, h.a7, h.a8, h.a9⟩
end
end Go.Proofs.Ytjiaaefpepdoeaa

/-
  WALK: ThreadBack's back. Conditions: none but that the arguments read as words.
-/
namespace Go.Proofs.Ytjiaaefpepdoeaa
open Go.RowKit Md
set_option linter.unusedVariables false
set_option maxRecDepth 100000 in
set_option maxHeartbeats 4000000 in
theorem back_far (Al Ar : Option Addr) (nl cl nr cr : Nat) (wh dst : Int) (w : World) (h : 300 < nl ∨ 20 < nr ∨ nl = 0) :
    Calls Try.prog 38 #[.slice Al nl cl, .slice Ar nr cr, .int .u8 wh, .int .u16 dst] w fun e w' => e = .returned (.bool true) ∧ Fr w w' (fun _ => False) := by
  by_cases h1 : 300 < nl
  · have d1 : decide ((300 : Int) < nl) = true := decide_eq_true (by omega)
    clear h h1
    go_enter Try.func38, Try.ntmps38
    go_wp2_with (first | (go_at_call 37; (with_reducible refine (awake13_c _).mono ?_); rintro e w1 ⟨rfl, hf1⟩))
    go_ret
    exact ⟨rfl, hf1⟩
  · have d1 : decide ((300 : Int) < nl) = false := decide_eq_false (by omega)
    by_cases h2 : 20 < nr
    · have d2 : decide ((20 : Int) < nr) = true := decide_eq_true (by omega)
      clear h h1 h2
      go_enter Try.func38, Try.ntmps38
      go_wp2_with (first | (go_at_call 37; (with_reducible refine (awake13_c _).mono ?_); rintro e w1 ⟨rfl, hf1⟩))
      go_ret
      exact ⟨rfl, hf1⟩
    · have d2 : decide ((20 : Int) < nr) = false := decide_eq_false (by omega)
      have h3 : nl = 0 := by omega
      subst h3
      clear h h1 h2
      go_enter Try.func38, Try.ntmps38
      go_wp2_with (first | (go_at_call 37; (with_reducible refine (awake13_c _).mono ?_); rintro e w1 ⟨rfl, hf1⟩))
      go_ret
      exact ⟨rfl, hf1⟩
set_option maxRecDepth 100000 in
set_option maxHeartbeats 4000000 in
theorem back_no (Al Ar : Option Addr) (cl cr : Nat) (l rs : List Int) (wh dst : Int) (w : World) (h1 : l.length ≤ 300) (h2 : rs.length ≤ 20) (h3 : l.length ≠ 0)
    (hl : Rd w (.slice Al l.length cl) (uw l)) (hr : Rd w (.slice Ar rs.length cr) (uw rs)) (hok : okWs l) (hor : okWs rs) (hs : soundB l rs = false) :
    Calls Try.prog 38 #[.slice Al l.length cl, .slice Ar rs.length cr, .int .u8 wh, .int .u16 dst] w fun e w' => e = .returned (.bool true) ∧ Fr w w' (fun _ => False) := by
  have d1 : decide ((300 : Int) < l.length) = false := decide_eq_false (by omega)
  have d2 : decide ((20 : Int) < rs.length) = false := decide_eq_false (by omega)
  have d3 : ((l.length : Int) == 0) = false := by simpa using h3
  have HL := Lib.hid hl
  have HR := Lib.hid hr
  have HOK := Lib.hid hok
  have HOR := Lib.hid hor
  have HS := Lib.hid hs
  have Z0 : Hid ((0 : Int) ≤ 0) := Lib.hid (Int.le_refl 0)
  have HM : Hid ((l.length : Int) + 0 ≤ 1048576) := Lib.hid (by omega)
  have HLR : Hid (rs.length ≤ 1048576) := Lib.hid (by omega)
  clear hl hr hok hor hs h1 h2 h3
  go_enter Try.func38, Try.ntmps38
  go_wp2_with (first
    | (go_at_call 35; (with_reducible refine (mem_c _ l 0 _ HL.out HOK.out Z0.out HM.out).mono ?_); rintro e w2 ⟨q, v2, rfl, hn⟩; have HM2 := Lib.hid hn.1; have HF2 := Lib.hid hn.2.1; have HR2 := Lib.hid (HR.out.keep hn.2.1 (fun _ _ h => h)); clear hn)
    | (go_at_call 39; (with_reducible refine (sound8_c q v2 _ l rs _ _ HM2.out HR2.out HOR.out HLR.out).mono ?_); rintro e w3 ⟨rfl, hf⟩; rw [HS.out]; have HF3 := Lib.hid (HF2.out.trans hf); clear hf)
    | (go_at_call 37; (with_reducible refine (awake13_c _).mono ?_); rintro e w1 ⟨rfl, hf1⟩))
  go_ret
  exact ⟨rfl, HF3.out.trans hf1⟩
set_option maxRecDepth 100000 in
set_option maxHeartbeats 4000000 in
theorem back_yes (Al Ar : Option Addr) (cl cr : Nat) (l rs L : List Int) (wh dst : Nat) (w : World) (h1 : l.length ≤ 300) (h2 : rs.length ≤ 20) (h3 : l.length ≠ 0) (h4 : wh < 256) (h5 : dst < 65536)
    (hl : Rd w (.slice Al l.length cl) (uw l)) (hr : Rd w (.slice Ar rs.length cr) (uw rs)) (hok : okWs l) (hor : okWs rs) (hs : soundB l rs = true) (S : Snd l rs L) :
    Calls Try.prog 38 #[.slice Al l.length cl, .slice Ar rs.length cr, .int .u8 wh, .int .u16 dst] w fun e w' => e = .returned (.bool true) ∧ Fr w w' (fun _ => False) := by
  have d1 : decide ((300 : Int) < l.length) = false := decide_eq_false (by omega)
  have d2 : decide ((20 : Int) < rs.length) = false := decide_eq_false (by omega)
  have d3 : ((l.length : Int) == 0) = false := by simpa using h3
  have HL := Lib.hid hl
  have HR := Lib.hid hr
  have HOK := Lib.hid hok
  have HOR := Lib.hid hor
  have HS := Lib.hid hs
  have HSN := Lib.hid S
  have HO : Hid ((objs l).isSome = true) := Lib.hid (by rw [S.objs]; rfl)
  have HOL : Hid ((objs l).getD [] = L) := Lib.hid (by rw [S.objs]; rfl)
  have hL0 : 0 < L.length := by
    have := S.rows
    cases L with
    | nil =>
      exfalso
      have h9 := S.objs
      have hr := S.rows
      generalize hz : (0 : Int) = z at hr
      cases hr
      omega
    | cons a L => simp
  have hLn := S.rows.len
  have Z0 : Hid ((0 : Int) ≤ 0) := Lib.hid (Int.le_refl 0)
  have HM : Hid ((l.length : Int) + 0 ≤ 1048576) := Lib.hid (by omega)
  have HLR : Hid (rs.length ≤ 1048576) := Lib.hid (by omega)
  have HLB : Hid (l.length ≤ 300 ∧ rs.length ≤ 20) := Lib.hid ⟨h1, h2⟩
  have HLZ : Hid (l.length ≤ 1073741824 ∧ rs.length ≤ 1073741824) := Lib.hid (by omega)
  have HLP : Hid (0 < l.length) := Lib.hid (by omega)
  have HSM : Hid (St.small ⟨l, rs⟩) := Lib.hid (by unfold St.small; simp only; omega)
  have HLT : Hid (0 < l.length → ∀ k, InBlk (.slice Al l.length cl) k → k < w.heap.size) := Lib.hid (fun h0 => hl.lt (by rw [uw_length]; exact h0))
  have HRT : Hid (0 < rs.length → ∀ k, InBlk (.slice Ar rs.length cr) k → k < w.heap.size) := Lib.hid (fun h0 => hr.lt (by rw [uw_length]; exact h0))
  obtain ⟨jn, hjn⟩ : ∃ jn, wh % L.length = jn := ⟨_, rfl⟩
  have hjl : jn < L.length := by rw [← hjn]; exact Nat.mod_lt _ hL0
  have hrem : (wh : Int) % (L.length : Int) = jn := by rw [← hjn]; rfl
  have HJL := Lib.hid hjl
  have HJ0 := Lib.hid hL0
  have qj : (jn : Int) < L.length := by omega
  have qL : (0 : Int) < L.length := by omega
  have qL1 : (L.length : Int) ≤ 300 := by omega
  have qw : (wh : Int) < 256 := by omega
  have qto : (dst : Int) < 65536 := by omega
  clear hl hr hok hor hs h1 h2 h3 h4 h5 S hjn hjl hL0 hLn
  go_enter Try.func38, Try.ntmps38
  go_upto_region 10 with (first
    | (go_at_call 35; (with_reducible refine (mem_c _ l 0 _ HL.out HOK.out Z0.out HM.out).mono ?_); rintro e w2 ⟨q, vm, rfl, hn⟩; have HM2 := Lib.hid hn.1; have HF2 := Lib.hid hn.2.1; have HR2 := Lib.hid (HR.out.keep hn.2.1 (fun _ _ h => h)); have HL2 := Lib.hid (HL.out.keep hn.2.1 (fun _ _ h => h)); clear hn)
    | (go_at_call 39; (with_reducible refine (sound8_c q vm _ l rs _ _ HM2.out HR2.out HOR.out HLR.out).mono ?_); rintro e w3 ⟨rfl, hf⟩; rw [HS.out]; have HF3 := Lib.hid (HF2.out.trans hf); have HM3 := Lib.hid (HM2.out.fr hf); have HR3 := Lib.hid (HR2.out.keep hf (fun _ _ h => h)); have HL3 := Lib.hid (HL2.out.keep hf (fun _ _ h => h)); clear hf)
    | (go_at_call 31; (with_reducible refine (fill_c _ l 0 _ HL3.out HOK.out Z0.out HM.out).mono ?_); rintro e w4 ⟨p, va, rfl, hn⟩; have HA4 := Lib.hid hn.1; have HN4 := Lib.hid hn.2.2.2; have HF4 := Lib.hid (HF3.out.trans hn.2.1); have HM4 := Lib.hid (HM3.out.fr hn.2.1); have HR4 := Lib.hid (HR3.out.keep hn.2.1 (fun _ _ h => h)); have HL4 := Lib.hid (HL3.out.keep hn.2.1 (fun _ _ h => h)); clear hn)
    | (go_at_call 36; (with_reducible refine (mobjects_c q vm l _ _ HM4.out).mono ?_); rintro e w5 ⟨ov, rfl, hn⟩; rw [HO.out]; rw [HOL.out] at hn; have HO5 := Lib.hid hn.1; have HF5 := Lib.hid (HF4.out.trans hn.2.1); have HA5 := Lib.hid (HA4.out.fr hn.2.1); have HM5 := Lib.hid (HM4.out.fr hn.2.1); have HR5 := Lib.hid (HR4.out.keep hn.2.1 (fun _ _ h => h)); have HL5 := Lib.hid (HL4.out.keep hn.2.1 (fun _ _ h => h)); clear hn))
  obtain ⟨Ao, co, rfl⟩ := HO5.out.rd.len
  rw [iw_length] at *
  obtain ⟨go, rfl, _, hco⟩ := HO5.out.cellAt (by rw [iw_length]; exact HJ0.out)
  have cj := (hco jn (by rw [iw_length]; exact HJL.out)).1
  rw [iw_get HJL.out] at cj
  obtain ⟨a0, ha0⟩ : ∃ a0, L.getD jn 0 = a0 := ⟨_, rfl⟩
  rw [ha0] at cj
  have hm0 : a0 ∈ L := by rw [← ha0, List.getD_eq_getElem?_getD, List.getElem?_eq_getElem HJL.out]; exact List.getElem_mem HJL.out
  obtain ⟨_, _, _, hn0, hn1, _⟩ := HSN.out.rows.obj a0 hm0
  obtain ⟨pt, rfl⟩ := Int.eq_ofNat_of_zero_le hn0
  have HMP := Lib.hid hm0
  obtain ⟨pw, hpw⟩ : ∃ pw, ofW 5 (pt : Int) = pw := ⟨_, rfl⟩
  have HPW := Lib.hid hpw
  obtain ⟨qw2, hqw⟩ : ∃ q2, ofW 5 (dst : Int) = q2 := ⟨_, rfl⟩
  have HQW := Lib.hid hqw
  clear hco ha0 hm0 hn0 hn1 hpw hqw
  go_upto_region 16 with (first
    | (go_at_call 40; (with_reducible refine (copy_c _ rs _ HR9.out HLZ.out.2).mono ?_); rintro e wc ⟨wrv, rfl, hn⟩; have HC10 := Lib.hid hn; have HB10 := Lib.hid (HB9.out.keep hn.2.1 (fun _ _ h => h)); have HD10 := Lib.hid (HD9.out.keep hn.2.1 (fun _ _ h => h)); have HL10 := Lib.hid (HL9.out.keep hn.2.1 (fun _ _ h => h)); have HR10 := Lib.hid (HR9.out.keep hn.2.1 (fun _ _ h => h)); have HA10 := Lib.hid (HA9.out.fr hn.2.1); have HM10 := Lib.hid (HM9.out.fr hn.2.1); have HO10 := Lib.hid (HO9.out.keep hn.2.1 (fun _ _ h => h)); have HF10 := Lib.hid (HF9.out.trans hn.2.1); clear hn)
    | (go_at_call 40; (with_reducible refine (copy_c _ l _ HL8.out HLZ.out.1).mono ?_); rintro e wb ⟨wv, rfl, hn⟩; have HC9 := Lib.hid hn; have HD9 := Lib.hid hn.1; have HB9 := Lib.hid (HB8.out.keep hn.2.1 (fun _ _ h => h)); have HL9 := Lib.hid (HL8.out.keep hn.2.1 (fun _ _ h => h)); have HR9 := Lib.hid (HR8.out.keep hn.2.1 (fun _ _ h => h)); have HA9 := Lib.hid (HA8.out.fr hn.2.1); have HM9 := Lib.hid (HM8.out.fr hn.2.1); have HO9 := Lib.hid (HO8.out.keep hn.2.1 (fun _ _ h => h)); have HF9 := Lib.hid (HF8.out.trans hn.2.1); clear hn)
    | (go_at_call 40; (with_reducible refine (copy_c _ rs _ HR7.out HLZ.out.2).mono ?_); rintro e wa ⟨xv, rfl, hn⟩; have HC8 := Lib.hid hn; have HB8 := Lib.hid hn.1; have HL8 := Lib.hid (HL7.out.keep hn.2.1 (fun _ _ h => h)); have HR8 := Lib.hid (HR7.out.keep hn.2.1 (fun _ _ h => h)); have HA8 := Lib.hid (HA7.out.fr hn.2.1); have HM8 := Lib.hid (HM7.out.fr hn.2.1); have HO8 := Lib.hid (HO7.out.keep hn.2.1 (fun _ _ h => h)); have HF8 := Lib.hid (HF7.out.trans hn.2.1); clear hn)
    | (go_at_call 46; (with_reducible refine (Wd.rof_c 5 pt pw _ HPW.out).mono ?_); rintro e w6 ⟨rfl, n6, rfl⟩)
    | (go_at_call 46; (with_reducible refine (Wd.rof_c 5 dst qw2 _ HQW.out).mono ?_); rintro e w7 ⟨rfl, n7, rfl⟩; have HX := Lib.hid ((Fr.refl w5 (fun _ => False)).drewN (n6 + n7)); have HL7 := Lib.hid (HL5.out.keep HX.out (fun _ _ h => h)); have HR7 := Lib.hid (HR5.out.keep HX.out (fun _ _ h => h)); have HA7 := Lib.hid (HA5.out.fr HX.out); have HM7 := Lib.hid (HM5.out.fr HX.out); have HO7 := Lib.hid (HO5.out.keep HX.out (fun _ _ h => h)); have HF7 := Lib.hid (HF5.out.trans HX.out)))
  obtain ⟨Ax, cx, rfl⟩ := HB10.out.rd.len
  obtain ⟨Aw, cw, rfl⟩ := HD10.out.rd.len
  obtain ⟨Av, cv, rfl⟩ := HC10.out.1.rd.len
  rw [uw_length] at *
  simp only [uw_length]
  obtain ⟨gw, rfl, _, _⟩ := HD10.out.cellAt (by rw [uw_length]; exact HLP.out)
  have HBI : Hid (BI w wc p q va vm (.slice Ax rs.length cx) (.slice (some ⟨gw, 0, none⟩) l.length cw) (.slice Av rs.length cv) (.slice (some ⟨go, 0, none⟩) L.length co) (.slice Al l.length cl) (.slice Ar rs.length cr) l rs L (l.length + 0) (l.length + 0) l rs l rs) := Lib.hid
    ⟨⟨HA10.out, HB10.out, Apt.new HA7.out.own HC8.out.2.2, HOR.out, HLR.out⟩, HM10.out, HO10.out, HD10.out, HC10.out.1, HL10.out, HR10.out, HF10.out, (fun k hk => Nat.le_trans HF3.out.size (HN4.out k hk)), (fun k hk => Nat.le_trans HF7.out.size (HC8.out.2.2 k hk)), (fun k hk => Nat.le_trans HF8.out.size (HC9.out.2.2 k hk)), (fun k hk => Nat.le_trans HF9.out.size (HC10.out.2.2 k hk)), HLT.out, HRT.out,
      Apt.new HA8.out.own HC9.out.2.2, Apt.new HA9.out.own HC10.out.2.2, (Apt.new HM3.out.own HN4.out).symm, Apt.new HB8.out HC9.out.2.2, Apt.new HB9.out HC10.out.2.2, (Apt.new HM7.out.own HC8.out.2.2).symm, Apt.new HD9.out HC10.out.2.2, (Apt.new HM8.out.own HC9.out.2.2).symm, (Apt.new HM9.out.own HC10.out.2.2).symm⟩
  obtain ⟨bl, ol, rfl, _⟩ := HL10.out.cellAt (by rw [uw_length]; exact HLP.out)
  clear HA4 HA5 HA7 HA8 HA9 HA10 HM2 HM3 HM4 HM5 HM7 HM8 HM9 HM10 HL2 HL3 HL4 HL5 HL7 HL8 HL9 HL10 HR2 HR3 HR4 HR5 HR7 HR8 HR9 HR10 HO5 HO7 HO8 HO9 HO10 HF2 HF3 HF4 HF5 HF7 HF8 HF9 HF10 HB8 HB9 HB10 HC8 HC9 HC10 HD9 HD10 HN4 HX
  go_loopg [19, 20] L.length (fun g a19 a20 wr => ∃ (n i : Nat) (ws ys want P R : List Int) (B : Nat), a19 = .int .i64 n ∧ a20 = .int .i64 i ∧ g + i = L.length ∧ Hid (BI w wr p q va vm (.slice Ax rs.length cx) (.slice (some ⟨gw, 0, none⟩) l.length cw) (.slice Av rs.length cv) (.slice (some ⟨go, 0, none⟩) L.length co) (.slice (some ⟨bl, ol, none⟩) l.length cl) (.slice Ar rs.length cr) l rs L (l.length + 0) (l.length + 0) ws ys want rs ∧ Bk l rs L pt qw2 B 0 n ws ys want rs ∧ L = P ++ R ∧ P.length = i ∧ Md.Rows l B R))
  case atStart => exact ⟨0, 0, _, _, _, [], L, 0, rfl, rfl, rfl, Lib.hid ⟨HBI.out, Bk.start HSN.out, rfl, rfl, HSN.out.rows⟩⟩
  case round =>
    clear HBI
    obtain ⟨n, i, ws, ys, want, P, R, B, rfl, rfl, hgi, HI⟩ := hrel
    obtain ⟨G, rfl⟩ : ∃ G, G = gk := ⟨_, rfl⟩
    have HGI := Lib.hid hgi
    clear hgi
    by_cases hi : i < L.length
    · obtain ⟨R2, hd, hR, hob, hrw⟩ : ∃ R2 hd, R = (B : Int) :: R2 ∧ objAt l B = some hd ∧ Md.Rows l (B + 1 + hd.size) R2 := by
        have h1 := HI.out.2.2.2.2
        have h2 := HI.out.2.2.1
        have h3 := HI.out.2.2.2.1
        cases R with
        | nil => rw [h2] at hi; simp at hi; omega
        | cons a R2 => cases h1 with
          | cons ho hr => exact ⟨R2, _, rfl, ho, hr⟩
      subst hR
      have hBL : (B : Int) ∈ L := by rw [HI.out.2.2.1]; simp
      have hgB : L.getD i 0 = B := by
        have h2 := HI.out.2.2.1
        have h3 := HI.out.2.2.2.1
        rw [h2, ← h3]
        simp [List.getD]
      obtain ⟨hb0, hb1, hrd, hz0, hz1, hz2⟩ := obj_facts hob
      have hfit := HSN.out.fit _ hBL
      have ho0 := obj0_of hob
      rw [ho0] at hfit
      obtain ⟨kd, z, t, nn⟩ := hd
      obtain ⟨f, hfd⟩ : ∃ f, fieldsH ⟨kd, z, t, nn⟩ = f := ⟨_, rfl⟩
      have hf0 : 0 ≤ f := by rw [← hfd]; exact fieldsH_nonneg hz0
      rw [hfd] at hfit
      obtain ⟨fn, rfl⟩ := Int.eq_ofNat_of_zero_le hf0
      simp only at hz0 hz1 hz2 hfit hrw
      have HFD := Lib.hid hfd
      have HOB := Lib.hid hob
      have HBL := Lib.hid hBL
      have HRW := Lib.hid hrw
      have HO0 := Lib.hid ho0
      have HGB := Lib.hid hgB
      have HIL := Lib.hid hi
      have HZ : Hid (B < l.length ∧ (fn : Int) ≤ z ∧ B + 1 + z ≤ l.length ∧ 0 ≤ z) := Lib.hid (by omega)
      have HFN : Hid (∀ j : Nat, B < j → j ≤ B + fn → fldB l L j = true) := Lib.hid (fun j h1 h2 => fld_of hBL (by omega) (by rw [ho0, hfd]; omega))
      have ck : wr.cell? ⟨go, i, none⟩ = some (.int .i64 B) := by
        obtain ⟨b, e, _, hc⟩ := HI.out.1.o.cellAt (by rw [iw_length]; omega)
        injection e with e
        injection e with e
        subst e
        have := (hc i (by rw [iw_length]; exact hi)).1
        rw [iw_get hi, hgB] at this
        exact this
      have qi : (i : Int) < L.length := by omega
      have qB : (B : Int) < l.length := by omega
      have qf : (fn : Int) ≤ 300 := by have := HLB.out; omega
      have ql : (l.length : Int) ≤ 300 := by have := HLB.out; omega
      clear hi hob hrd hz0 hz1 hz2 hfit ho0 hfd hf0 hBL hgB hb0 hb1 hrw
      go_upto_region 19 with (first | (go_at_call 41; (with_reducible refine (mobj_some q _ l _ B _ _ HI.out.1.m HOB.out).mono ?_); rintro e wo ⟨rfl, hfo⟩))
      obtain ⟨W2, hW2⟩ : ∃ W2, wo.alloc (.cells #[.int .i64 kd, .int .i64 z, .int .i64 t, .bool nn] 50) = W2 := ⟨_, rfl⟩
      obtain ⟨D, hD⟩ : ∃ D, wo.heap.size = D := ⟨_, rfl⟩
      have hf2 : Fr wr W2 (fun _ => False) := by rw [← hW2]; exact hfo.alloc _
      have hdb : W2.heap[D]? = some (.cells #[.int .i64 kd, .int .i64 z, .int .i64 t, .bool nn] 50 (0, 0)) := by rw [← hW2, ← hD]; exact blk_new _ _ _
      simp only [hW2, hD]
      have HI2 := Lib.hid (HI.out.1.frm hf2)
      have HBK2 : Hid (Bk l rs L pt qw2 (B + 1) 0 n ws ys want rs) := Lib.hid (HI.out.2.1.skip (by omega) (fun j h1 h2 => by
        have : j = B := by omega
        subst this
        exact HSN.out.fld_not HBL.out (Int.le_refl _) (by rw [HO0.out]; have := HZ.out; simp only; omega) (.inl rfl)))
      have HDB := Lib.hid hdb
      have HPR := Lib.hid HI.out.2.2
      clear hW2 hD hfo hf2 hdb ck HI
      go_wp2
      go_loopg [19, 23] fn (fun g a19 a23 wr => ∃ (n k : Nat) (ws ys want : List Int), a19 = .int .i64 n ∧ a23 = .int .i64 k ∧ g + k = fn + 1 ∧ 1 ≤ k ∧ Hid (BI w wr p q va vm (.slice Ax rs.length cx) (.slice (some ⟨gw, 0, none⟩) l.length cw) (.slice Av rs.length cv) (.slice (some ⟨go, 0, none⟩) L.length co) (.slice (some ⟨bl, ol, none⟩) l.length cl) (.slice Ar rs.length cr) l rs L (l.length + 0) (l.length + 0) ws ys want rs ∧ Bk l rs L pt qw2 (B + k) 0 n ws ys want rs ∧ wr.heap[D]? = some (.cells #[.int .i64 kd, .int .i64 z, .int .i64 t, .bool nn] 50 (0, 0))))
      case atStart => exact ⟨n, 1, _, _, _, rfl, rfl, by omega, Nat.le_refl _, Lib.hid ⟨HI2.out, HBK2.out, HDB.out⟩⟩
      case round =>
        clear HI2 HBK2 HDB
        obtain ⟨n, k, ws, ys, want, rfl, rfl, hgk, hk1, HI⟩ := hrel
        have hdb := HI.out.2.2
        have HGK := Lib.hid hgk
        have HK1 := Lib.hid hk1
        have d0 : wr.cell? ⟨D, 0, none⟩ = some (.int .i64 kd) := by simp [World.cell?, hdb]
        have d1 : wr.cell? ⟨D, 1, none⟩ = some (.int .i64 z) := by simp [World.cell?, hdb]
        have d2 : wr.cell? ⟨D, 2, none⟩ = some (.int .i64 t) := by simp [World.cell?, hdb]
        have d3 : wr.cell? ⟨D, 3, none⟩ = some (.bool nn) := by simp [World.cell?, hdb]
        by_cases hk : k ≤ fn
        · have b1 : decide ((k : Int) ≤ fn) = true := decide_eq_true (by omega)
          have HKF := Lib.hid hk
          have hz := HZ.out
          obtain ⟨j, hj⟩ : ∃ j : Nat, B + k = j := ⟨_, rfl⟩
          have qj : (j : Int) < l.length := by omega
          have hjs : (B : Int) + k = j := by omega
          have hjl : j < l.length := by omega
          have HJ2 := Lib.hid hj
          have HJS := Lib.hid hjs
          have HJN := Lib.hid hjl
          have HFJ : Hid (fldB l L j = true) := Lib.hid (HFN.out j (by omega) (by omega))
          obtain ⟨x, hx⟩ : ∃ x, l.getD j 0 = x := ⟨_, rfl⟩
          have HX := Lib.hid hx
          clear hz hj hjl hx hdb hgk hk1 hjs
          go_upto_region 22 with (first | (go_at_call 42; (with_reducible refine (Wd.rfields_c kd z t nn fn _ HFD.out).mono ?_); rintro e wa ⟨rfl, hb⟩))
          have hfa := Fr.of_below hb (fun _ => False)
          have HIa := Lib.hid (HI.out.1.frm hfa)
          have HDa := Lib.hid (hfa.blk HI.out.2.2 (fun h => h))
          have HBKa := Lib.hid HI.out.2.1
          have ck : wa.cell? ⟨go, i, none⟩ = some (.int .i64 B) := by
            obtain ⟨b, e, _, hc⟩ := HIa.out.o.cellAt (by rw [iw_length]; have := HIL.out; omega)
            injection e with e
            injection e with e
            subst e
            have := (hc i (by rw [iw_length]; exact HIL.out)).1
            rw [iw_get HIL.out, HGB.out] at this
            exact this
          have cx : wa.cell? ⟨bl, ol + j, none⟩ = some (.int .u64 x) := by
            obtain ⟨b, o2, e, hc⟩ := HIa.out.l0.cellAt (by rw [uw_length]; exact HLP.out)
            injection e with e
            injection e with e1 e2
            subst e1 e2
            have := hc j (by rw [uw_length]; exact HJN.out)
            rw [uw_get HJN.out, HX.out] at this
            exact this
          have hjs := HJS.out
          clear hb hfa HI d0 d1 d2 d3 b1
          by_cases hxp : x = pw
          · have e1 : (x == pw) = true := by simpa using hxp
            obtain ⟨kw, kf⟩ : wa.cell? ⟨gw, j, none⟩ = some (.int .u64 (want.getD j 0)) ∧ wa.frozen? ⟨gw, j, none⟩ = false := by
              obtain ⟨b, e, _, hc⟩ := HIa.out.want.cellAt (by rw [uw_length, HBKa.out.w1]; exact HLP.out)
              injection e with e
              injection e with e
              subst e
              have h1 := hc j (by rw [uw_length, HBKa.out.w1]; exact HJN.out)
              rw [uw_get (by rw [HBKa.out.w1]; exact HJN.out)] at h1
              exact h1
            obtain ⟨y, hy⟩ : ∃ y, want.getD j 0 = y := ⟨_, rfl⟩
            rw [hy] at kw
            clear hy
            have qn : (n : Int) ≤ 320 := by have := HBKa.out.le HSN.out HMP.out; have := HLB.out; omega
            go_upto_region 25 with (fail)
            have HI3 := Lib.hid (HIa.out.setw (j := j) (x := qw2) HBKa.out.w1 (by rw [HBKa.out.w1]; exact HJN.out))
            have hD3 := (Fr.setCell (S := fun i => i = gw) (a := ⟨gw, j, none⟩) (Fr.refl wa _) (fun _ => rfl) (.int .u64 qw2)).blk HDa.out (fun e => HIa.out.want.not_box HDa.out (by decide) (by rw [e]; simp [InBlk, Value.ownBlock]))
            obtain ⟨W3, hW3⟩ : ∃ W3, wa.setCell ⟨gw, j, none⟩ (.int .u64 qw2) = W3 := ⟨_, rfl⟩
            rw [hW3] at HI3 hD3 ⊢
            have HD3 := Lib.hid hD3
            clear hW3 hD3 kw kf ck cx HIa HDa
            have ck : W3.cell? ⟨go, i, none⟩ = some (.int .i64 B) := by
              obtain ⟨b, e, _, hc⟩ := HI3.out.o.cellAt (by rw [iw_length]; have := HIL.out; omega)
              injection e with e
              injection e with e
              subst e
              have := (hc i (by rw [iw_length]; exact HIL.out)).1
              rw [iw_get HIL.out, HGB.out] at this
              exact this
            obtain ⟨ws', ys', hth, hbk⟩ := HBKa.out.fld_yes HSM.out HSN.out HMP.out (by rw [HJ2.out]; exact HFJ.out) (by rw [HJ2.out, HX.out, hxp]; exact HPW.out.symm)
            rw [HJ2.out] at hth hbk
            have HTH := Lib.hid hth
            have HBK3 := Lib.hid hbk
            clear hth hbk
            go_wp2_with (first | (go_at_call 44; (with_reducible refine (thread_yes p va _ ws ys ws' ys' _ j false _ HI3.out.ta HTH.out).mono ?_); rintro e w5 ⟨rfl, ht5, hf5⟩; have HI5 := Lib.hid (HI3.out.thr ht5 hf5); have HD5 := Lib.hid (hf5.blk HD3.out (fun e => e.elim (HI3.out.ta.ar.own.not_box HD3.out (by decide)) (HI3.out.ta.own.not_box HD3.out (by decide)))); clear ht5 hf5))
            go_roundg (gk - 1)
            case measure => have := HGK.out; have := HKF.out; omega
            case rel =>
              refine ⟨n + 1, k + 1, ws', ys', want.set j qw2, by first | rfl | go_num, by first | rfl | go_num, by have := HGK.out; have := HKF.out; omega, by omega, Lib.hid ⟨HI5.out, ?_, HD5.out⟩⟩
              have e2 : B + (k + 1) = j + 1 := by have := HJ2.out; omega
              rw [e2]
              exact HBK3.out
          · have e1 : (x == pw) = false := by simpa using hxp
            go_wp2
            go_roundg (gk - 1)
            case measure => have := HGK.out; have := HKF.out; omega
            case rel =>
              refine ⟨n, k + 1, ws, ys, want, rfl, by first | rfl | go_num, by have := HGK.out; have := HKF.out; omega, by omega, Lib.hid ⟨HIa.out, ?_, HDa.out⟩⟩
              have e2 : B + (k + 1) = B + k + 1 := by omega
              rw [e2]
              refine HBKa.out.fld_no ?_
              rw [HJ2.out, HX.out]
              show x ≠ ofW 5 (pt : Int)
              rw [HPW.out]
              exact hxp
        · have b1 : True := trivial
          have HKE : Hid (k = fn + 1) := Lib.hid (by omega)
          have b2 : decide (k ≤ fn) = false := decide_eq_false hk
          clear hdb hgk hk1 hk b1
          go_wp2_with (first | (go_at_call 42; (with_reducible refine (Wd.rfields_c kd z t nn fn _ HFD.out).mono ?_); rintro e wa ⟨rfl, hb⟩; have HIa := Lib.hid (HI.out.1.frm (Fr.of_below hb (fun _ => False))); clear hb))
          go_roundg (G - 1)
          case measure => have := HGI.out; have := HIL.out; omega
          case rel =>
            refine ⟨n, i + 1, ws, ys, want, P ++ [(B : Int)], R2, (B + 1 + z).toNat, rfl, by first | rfl | go_num, by have := HGI.out; have := HIL.out; omega, Lib.hid ⟨HIa.out, ?_, ?_, ?_, ?_⟩⟩
            · have hz := HZ.out
              have hke := HKE.out
              refine HI.out.2.1.skip (by omega) (fun j h1 h2 => HSN.out.fld_not HBL.out (by omega) (by rw [HO0.out]; simp only; omega) (.inr (by rw [HO0.out, HFD.out]; omega)))
            · rw [HPR.out.1]; simp
            · rw [List.length_append, HPR.out.2.1]; rfl
            · have hz := HZ.out
              rw [Int.toNat_of_nonneg (by omega)]
              exact HRW.out
    · have hie : i = L.length := by have := HGI.out; omega
      have HBE : Hid (Bk l rs L pt qw2 l.length 0 n ws ys want rs) := Lib.hid (by
        have h1 := HI.out.2.2.2.2
        have h2 := HI.out.2.2.1
        have h3 := HI.out.2.2.2.1
        have h4 : R = [] := by
          rw [h2, List.length_append] at hie
          exact List.eq_nil_of_length_eq_zero (by omega)
        subst h4
        have h5 : B = l.length := by
          generalize hz : (B : Int) = bz at h1
          cases h1
          omega
        rw [← h5]
        exact HI.out.2.1)
      have HI1 := Lib.hid HI.out.1
      have HIE := Lib.hid hie
      have b3 : decide (i < L.length) = false := decide_eq_false hi
      clear hi hie HI
      obtain ⟨W0, hW0⟩ : ∃ W0, W0 = wr := ⟨_, rfl⟩
      subst hW0
      go_wp2
      go_loopg [19, 24] rs.length (fun g a19 a24 wr => ∃ (n i : Nat) (ws ys wrt : List Int), a19 = .int .i64 n ∧ a24 = .int .i64 i ∧ g + i = rs.length ∧ Hid (BI w wr p q va vm (.slice Ax rs.length cx) (.slice (some ⟨gw, 0, none⟩) l.length cw) (.slice Av rs.length cv) (.slice (some ⟨go, 0, none⟩) L.length co) (.slice (some ⟨bl, ol, none⟩) l.length cl) (.slice Ar rs.length cr) l rs L (l.length + 0) (l.length + 0) ws ys want wrt ∧ Bk l rs L pt qw2 l.length i n ws ys want wrt))
      case atStart => exact ⟨n, 0, _, _, _, rfl, rfl, by omega, Lib.hid ⟨HI1.out, HBE.out⟩⟩
      case round =>
        clear HI1 HBE
        obtain ⟨n, i, ws, ys, wrt, rfl, rfl, hgi, HI⟩ := hrel
        have HGJ := Lib.hid hgi
        clear hgi
        by_cases hi : i < rs.length
        · have HIL := Lib.hid hi
          obtain ⟨br, oR, rfl, _⟩ := HI.out.1.r0.cellAt (by rw [uw_length]; omega)
          have cx : wr.cell? ⟨br, oR + i, none⟩ = some (.int .u64 (rs.getD i 0)) := by
            obtain ⟨b, o2, e, hc⟩ := HI.out.1.r0.cellAt (by rw [uw_length]; omega)
            injection e with e
            injection e with e1 e2
            subst e1 e2
            have := hc i (by rw [uw_length]; exact hi)
            rw [uw_get hi] at this
            exact this
          obtain ⟨x, hx⟩ : ∃ x, rs.getD i 0 = x := ⟨_, rfl⟩
          rw [hx] at cx
          have HX := Lib.hid hx
          have qi : (i : Int) < rs.length := by omega
          have qr : (rs.length : Int) ≤ 20 := by have := HLB.out; omega
          have qn : (n : Int) ≤ 320 := by have := HI.out.2.le HSN.out HMP.out; have := HLB.out; omega
          clear hx
          by_cases hxp : x = pw
          · have e1 : (x == pw) = true := by simpa using hxp
            obtain ⟨gv, rfl, _, _⟩ := HI.out.1.wr.cellAt (by rw [uw_length, HI.out.2.r1]; have := HIL.out; omega)
            obtain ⟨kw, kf⟩ : wr.cell? ⟨gv, i, none⟩ = some (.int .u64 (wrt.getD i 0)) ∧ wr.frozen? ⟨gv, i, none⟩ = false := by
              obtain ⟨b, e, _, hc⟩ := HI.out.1.wr.cellAt (by rw [uw_length, HI.out.2.r1]; have := HIL.out; omega)
              injection e with e
              injection e with e
              subst e
              have h1 := hc i (by rw [uw_length, HI.out.2.r1]; exact HIL.out)
              rw [uw_get (by rw [HI.out.2.r1]; exact HIL.out)] at h1
              exact h1
            obtain ⟨y, hy⟩ : ∃ y, wrt.getD i 0 = y := ⟨_, rfl⟩
            rw [hy] at kw
            clear hy
            go_upto_region 33 with (fail)
            have HI3 := Lib.hid (HI.out.1.setr (j := i) (x := qw2) HI.out.2.r1 (by rw [HI.out.2.r1]; exact HIL.out))
            obtain ⟨W3, hW3⟩ : ∃ W3, wr.setCell ⟨gv, i, none⟩ (.int .u64 qw2) = W3 := ⟨_, rfl⟩
            rw [hW3] at HI3 ⊢
            obtain ⟨ws', ys', hth, hbk⟩ := HI.out.2.root_yes HSM.out HSN.out HMP.out HIL.out (by rw [HX.out, hxp]; exact HPW.out.symm)
            have HTH := Lib.hid hth
            have HBK3 := Lib.hid hbk
            clear hth hbk hW3 kw kf cx
            go_wp2_with (first | (go_at_call 44; (with_reducible refine (thread_yes p va _ ws ys ws' ys' _ i true _ HI3.out.ta HTH.out).mono ?_); rintro e w5 ⟨rfl, ht5, hf5⟩; have HI5 := Lib.hid (HI3.out.thr ht5 hf5); clear ht5 hf5))
            go_roundg (gk - 1)
            case measure => have := HGJ.out; have := HIL.out; omega
            case rel => exact ⟨n + 1, i + 1, ws', ys', wrt.set i qw2, by first | rfl | go_num, by first | rfl | go_num, by have := HGJ.out; have := HIL.out; omega, Lib.hid ⟨HI5.out, HBK3.out⟩⟩
          · have e1 : (x == pw) = false := by simpa using hxp
            go_wp2
            go_roundg (gk - 1)
            case measure => have := HGJ.out; have := HIL.out; omega
            case rel => exact ⟨n, i + 1, ws, ys, wrt, rfl, by first | rfl | go_num, by have := HGJ.out; have := HIL.out; omega, Lib.hid ⟨HI.out.1, HI.out.2.root_no (by
              rw [HX.out]
              show x ≠ ofW 5 (pt : Int)
              rw [HPW.out]
              exact hxp)⟩⟩
        · have hie : i = rs.length := by have := HGJ.out; omega
          have hq : qw2 = ptrW (dst : Int) := HQW.out.symm
          have HBF : Hid (Bk l rs L pt (ptrW (dst : Int)) l.length rs.length n ws ys want wrt) := Lib.hid (by rw [← hq, ← hie]; exact HI.out.2)
          have HFN := Lib.hid (HBF.out.fin HSM.out HSN.out HMP.out)
          have HI1 := Lib.hid HI.out.1
          have HWL : Hid (want.length ≤ 1073741824) := Lib.hid (by rw [HBF.out.w1]; exact HLZ.out.1)
          have HRL : Hid (wrt.length ≤ 1073741824) := Lib.hid (by rw [HBF.out.r1]; exact HLZ.out.2)
          have b2 : decide (i < rs.length) = false := decide_eq_false hi
          have nn2 : ((n : Int) == n) = true := by simp
          clear hi hie hq HI
          go_wp2_with (first
            | (go_at_call 45; (with_reducible refine (loose_c p va _ ws ys _ pt dst _ HI1.out.ta).mono ?_); rintro e w6 ⟨hre, ht6, hf6⟩; rw [HFN.out] at hre ht6; subst hre; have HI6 := Lib.hid (HI1.out.thr ht6 hf6); clear ht6 hf6)
            | (go_at_call 37; (with_reducible refine (awake13_c _).mono ?_); rintro e w7 ⟨rfl, hf7⟩; have HI7 := Lib.hid (HI6.out.frm hf7); clear hf7)
            | (go_at_call 30; (with_reducible refine (words_c p _ _ _ _ HI7.out.ta.ar).mono ?_); rintro e w8 ⟨v8, rfl, hn⟩; have HN8 := Lib.hid hn.1; have HI8 := Lib.hid (HI7.out.frm hn.2.1); clear hn)
            | (go_at_call 29; (with_reducible refine (samew_c _ _ wrt wrt _ HI9.out.ta.own.rd HI9.out.wr.rd HRL.out).mono ?_); rintro e w10 ⟨rfl, hd⟩; have HF10 := Lib.hid (HI9.out.fr.trans (hd.fr (fun _ => False))); clear hd)
            | (go_at_call 29; (with_reducible refine (samew_c _ _ want want _ HN8.out.rd HI8.out.want.rd HWL.out).mono ?_); rintro e w9 ⟨rfl, hd⟩; have HI9 := Lib.hid (HI8.out.frm (hd.fr (fun _ => False))); clear hd))
          go_ret
          exact ⟨by simp, HF10.out⟩
theorem back_c (Al Ar : Option Addr) (cl cr : Nat) (l rs : List Int) (wh dst : Nat) (w : World) (h4 : wh < 256) (h5 : dst < 65536)
    (hl : Rd w (.slice Al l.length cl) (uw l)) (hr : Rd w (.slice Ar rs.length cr) (uw rs)) (hok : okWs l) (hor : okWs rs) :
    Calls Try.prog 38 #[.slice Al l.length cl, .slice Ar rs.length cr, .int .u8 wh, .int .u16 dst] w fun e w' => e = .returned (.bool true) ∧ Fr w w' (fun _ => False) := by
  by_cases h : 300 < l.length ∨ 20 < rs.length ∨ l.length = 0
  · exact back_far Al Ar l.length cl rs.length cr wh dst w h
  · cases hs : soundB l rs with
    | false => exact back_no Al Ar cl cr l rs wh dst w (by omega) (by omega) (by omega) hl hr hok hor hs
    | true =>
      obtain ⟨L, S⟩ := snd_of hs
      exact back_yes Al Ar cl cr l rs L wh dst w (by omega) (by omega) (by omega) h4 h5 hl hr hok hor hs S
set_option maxRecDepth 100000 in
set_option maxHeartbeats 4000000 in
theorem threadBack_c (Al Ar : Option Addr) (cl cr : Nat) (l rs : List Int) (a b : Nat) (w : World) (ha : a < 65536) (hb : b < 65536)
    (hl : Rd w (.slice Al l.length cl) (uw l)) (hr : Rd w (.slice Ar rs.length cr) (uw rs)) (hok : okWs l) (hor : okWs rs) :
    Calls Try.prog 7 #[.slice Al l.length cl, .slice Ar rs.length cr, .agg #[.int .u16 a, .int .u16 b]] w fun e w' => e = .returned (.bool true) ∧ Fr w w' (fun _ => False) := by
  have HL := Lib.hid hl
  have HR := Lib.hid hr
  have HOK := Lib.hid hok
  have HOR := Lib.hid hor
  have qa : (a : Int) < 65536 := by omega
  have qb : (b : Int) < 65536 := by omega
  have HA : Hid (a % 256 < 256) := Lib.hid (Nat.mod_lt _ (by decide))
  have HB := Lib.hid hb
  clear hl hr hok hor ha hb
  go_enter Try.func7, Try.ntmps7
  go_upto_region 3 with (first
    | (go_at_call 37; (with_reducible refine (awake13_c _).mono ?_); rintro e w1 ⟨rfl, hf1⟩))
  have hdb := hf1.blk (blk_new w #[.int .u16 a, .int .u16 b] 58) (fun h => h)
  have k0 : w1.cell? ⟨w.heap.size, 0, none⟩ = some (.int .u16 a) := by simp [World.cell?, hdb]
  have k1 : w1.cell? ⟨w.heap.size, 1, none⟩ = some (.int .u16 b) := by simp [World.cell?, hdb]
  obtain ⟨D, hD⟩ : ∃ D, w.heap.size = D := ⟨_, rfl⟩
  have HF1 := Lib.hid (((Fr.refl w _).alloc (.cells #[.int .u16 a, .int .u16 b] 58)).trans hf1)
  rw [hD] at k0 k1 ⊢
  have HL1 := Lib.hid (HL.out.keep HF1.out (fun _ _ h => h))
  have HR1 := Lib.hid (HR.out.keep HF1.out (fun _ _ h => h))
  obtain ⟨a8, ha8⟩ : ∃ a8, a % 256 = a8 := ⟨_, rfl⟩
  have hwc : IntKind.u8.wrap (a : Int) = a8 := by rw [IntKind.wrap_u8, ← ha8]; omega
  rw [ha8] at HA
  clear hdb hf1 hD ha8
  go_wp2_with (first
    | (go_at_call 38; (with_reducible refine (back_c Al Ar cl cr l rs a8 b _ HA.out HB.out HL1.out HR1.out HOK.out HOR.out).mono ?_); rintro e w2 ⟨rfl, hf2⟩; have HF2 := Lib.hid hf2; clear hf2))
  go_ret
  exact ⟨rfl, HF1.out.trans HF2.out⟩
end Go.Proofs.Ytjiaaefpepdoeaa
