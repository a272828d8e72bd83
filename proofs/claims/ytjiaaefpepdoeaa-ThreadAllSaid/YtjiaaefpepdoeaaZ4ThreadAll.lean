/-
  TEXTS JOINED FOR A CLAIM (ThreadAll): Bk0 All0 All. What each proves, and under which conditions, stands at its head. Conditions: none beyond those.
-/
import Derived.Test.YtjiaaefpepdoeaaZ3ThreadAll
import Derived.Test.YtjiaaefpepdoeaaZ0ThreadAll
import Derived.Deep.DeepCutAuto
import Derived.Test.YtjiaaefpepdoeaaZ1ThreadAll
import Derived.Test.YtjiaaefpepdoeaaZ2ThreadAll
/-
  FOR ThreadBack AND ThreadAll: the rows that the law holds beside the arena, and what a thread, a store leave of them. Conditions: those named in each.
-/
namespace Go.Proofs.Ytjiaaefpepdoeaa
open Go.RowKit Md
set_option linter.unusedVariables false
theorem Rd.keep2 {w w1 : World} {v : Value} {xs : List Value} {S : Nat → Prop} (h : Rd w v xs) (hf : Fr w w1 S) (hn : 0 < xs.length → ∀ i, InBlk v i → ¬ S i) : Rd w1 v xs := by
  by_cases h0 : 0 < xs.length
  · exact h.keep hf (hn h0)
  · rcases h with h | ⟨b, off, cap, rfl, hx, _⟩
    · exact .inl h
    · omega
/-- a row that is read: the cell of an index -/
theorem Rd.cellAt {w : World} {A : Option Addr} {n cap : Nat} {xs : List Value} (h : Rd w (.slice A n cap) xs) (h0 : 0 < xs.length) : ∃ b off, A = some ⟨b, off, none⟩ ∧ ∀ i, i < xs.length → w.cell? ⟨b, off + i, none⟩ = xs[i]? := by
  rcases h with ⟨rfl, _⟩ | ⟨b, off, cap', e, _, _, _, _, hc⟩
  · simp at h0
  · injection e with e1 e2 e3; exact ⟨b, off, e1, hc⟩
theorem Own.cellAt {w : World} {e : TypeId} {A : Option Addr} {n cap : Nat} {xs : List Value} (h : Own w e (.slice A n cap) xs) (h0 : 0 < xs.length) : ∃ b, A = some ⟨b, 0, none⟩ ∧ b < w.heap.size ∧ ∀ i, i < xs.length → w.cell? ⟨b, i, none⟩ = xs[i]? ∧ w.frozen? ⟨b, i, none⟩ = false := by
  rcases h.form with ⟨e, rfl⟩ | ⟨b, cap', e, hl, hm, hg, hc, hf⟩
  · simp at h0
  · injection e with e1 e2 e3; exact ⟨b, e1, hg, fun i hi => ⟨hc i hi, hf i⟩⟩
theorem Apt.new {W : World} {e : TypeId} {v u : Value} {xs : List Value} (h : Own W e v xs) (hu : ∀ k, InBlk u k → W.heap.size ≤ k) : Apt v u := fun k hk h2 => by
  have := h.lt k hk; have := hu k h2; omega
/-- The law's rows: the words and roots that came in (lA, rA), the model's arena (q, vm), the program's (p, va) and its roots (xv), two copies (wv, wrv), the objects (ov). -/
structure BI (w W : World) (p q : Nat) (va vm xv wv wrv ov lA rA : Value) (l rs L : List Int) (sz sm : Int) (ws ys want wr : List Int) : Prop where
  ta : TA 101 W p va ws sz xv ys
  m : Ar 41 W q vm l sm
  o : Own W 3 ov (iw L)
  want : Own W 29 wv (uw want)
  wr : Own W 29 wrv (uw wr)
  l0 : Rd W lA (uw l)
  r0 : Rd W rA (uw rs)
  fr : Fr w W fun _ => False
  nva : ∀ k, InBlk va k → w.heap.size ≤ k
  nxv : ∀ k, InBlk xv k → w.heap.size ≤ k
  nwv : ∀ k, InBlk wv k → w.heap.size ≤ k
  nwr : ∀ k, InBlk wrv k → w.heap.size ≤ k
  ll : 0 < l.length → ∀ k, InBlk lA k → k < w.heap.size
  lr : 0 < rs.length → ∀ k, InBlk rA k → k < w.heap.size
  a1 : Apt va wv
  a2 : Apt va wrv
  a3 : Apt va vm
  a4 : Apt xv wv
  a5 : Apt xv wrv
  a6 : Apt xv vm
  a7 : Apt wv wrv
  a8 : Apt wv vm
  a9 : Apt wrv vm
section
variable {w W W1 : World} {p q : Nat} {va vm xv wv wrv ov lA rA : Value} {l rs L : List Int} {sz sm : Int} {ws ys want wr ws' ys' : List Int}
theorem BI.frm (h : BI w W p q va vm xv wv wrv ov lA rA l rs L sz sm ws ys want wr) (hf : Fr W W1 fun _ => False) : BI w W1 p q va vm xv wv wrv ov lA rA l rs L sz sm ws ys want wr :=
  ⟨h.ta.fr hf, h.m.fr hf, h.o.keep hf (fun _ _ h => h), h.want.keep hf (fun _ _ h => h), h.wr.keep hf (fun _ _ h => h), h.l0.keep hf (fun _ _ h => h), h.r0.keep hf (fun _ _ h => h), h.fr.trans hf, h.nva, h.nxv, h.nwv, h.nwr, h.ll, h.lr, h.a1, h.a2, h.a3, h.a4, h.a5, h.a6, h.a7, h.a8, h.a9⟩
/-- a field is threaded, or loosened -/
theorem BI.thr (h : BI w W p q va vm xv wv wrv ov lA rA l rs L sz sm ws ys want wr) (ht : TA 101 W1 p va ws' sz xv ys') (hf : Fr W W1 (UO va xv)) : BI w W1 p q va vm xv wv wrv ov lA rA l rs L sz sm ws' ys' want wr := by
  refine ⟨ht, h.m.keep hf (fun e => ?_) (fun i hi e => ?_), h.o.keep hf (fun i hi e => ?_), h.want.keep hf (fun i hi e => ?_), h.wr.keep hf (fun i hi e => ?_), h.l0.keep2 hf (fun h0 i hi e => ?_), h.r0.keep2 hf (fun h0 i hi e => ?_), h.fr.then_ hf (fun i e hlt => ?_), h.nva, h.nxv, h.nwv, h.nwr, h.ll, h.lr, h.a1, h.a2, h.a3, h.a4, h.a5, h.a6, h.a7, h.a8, h.a9⟩
  · rcases e with e | e
    · exact h.ta.ar.own.not_ptr h.m (by decide) q e rfl
    · exact h.ta.own.not_ptr h.m (by decide) q e rfl
  · rcases e with e | e
    · exact h.a3 i e hi
    · exact h.a6 i e hi
  · rcases e with e | e
    · exact h.o.apart h.ta.ar.own (by decide) i hi e
    · exact h.o.apart h.ta.own (by decide) i hi e
  · rcases e with e | e
    · exact h.a1 i e hi
    · exact h.a4 i e hi
  · rcases e with e | e
    · exact h.a2 i e hi
    · exact h.a5 i e hi
  · have := h.ll (by rw [uw_length] at h0; exact h0) i hi
    rcases e with e | e
    · have := h.nva i e; omega
    · have := h.nxv i e; omega
  · have := h.lr (by rw [uw_length] at h0; exact h0) i hi
    rcases e with e | e
    · have := h.nva i e; omega
    · have := h.nxv i e; omega
  · rcases e with e | e
    · have := h.nva i e; omega
    · have := h.nxv i e; omega
theorem BI.setw {gw cw j nw : Nat} {x : Int} (h : BI w W p q va vm xv (.slice (some ⟨gw, 0, none⟩) nw cw) wrv ov lA rA l rs L sz sm ws ys want wr) (hnw : want.length = nw) (hj : j < want.length) :
    BI w (W.setCell ⟨gw, j, none⟩ (.int .u64 x)) p q va vm xv (.slice (some ⟨gw, 0, none⟩) nw cw) wrv ov lA rA l rs L sz sm ws ys (want.set j x) wr := by
  subst hnw
  have hin : InBlk (.slice (some ⟨gw, 0, none⟩) want.length cw) gw := by simp [InBlk, Value.ownBlock]
  have hs := Own.setAt (cap := cw) (g := gw) (k := j) (u := .int .u64 x) (xs := uw want) (e := 29) (W := W) (by rw [uw_length]; exact h.want) (by rw [uw_length]; exact hj)
  have hf := hs.2
  have hs1 := hs.1
  rw [uw_length] at hs1
  have e1 : (uw want).set j (.int .u64 x) = uw (want.set j x) := by unfold uw; rw [List.map_set]
  rw [e1] at hs1
  have hgw := h.nwv gw hin
  exact ⟨⟨h.ta.ar.keep hf (fun e => h.want.not_ptr h.ta.ar (by decide) gw hin e.symm) (fun i hi e => h.a1 i hi (by rw [e]; exact hin)), h.ta.own.keep hf (fun i hi e => h.a4 i hi (by rw [e]; exact hin)), h.ta.ap, h.ta.okr, h.ta.lenr⟩,
    h.m.keep hf (fun e => h.want.not_ptr h.m (by decide) gw hin e.symm) (fun i hi e => h.a8 i (by rw [e]; exact hin) hi), h.o.keep hf (fun i hi e => h.o.apart h.want (by decide) i hi (by rw [e]; exact hin)), hs1, h.wr.keep hf (fun i hi e => h.a7 i (by rw [e]; exact hin) hi),
    h.l0.keep2 hf (fun h0 i hi e => by have := h.ll (by rw [uw_length] at h0; exact h0) i hi; omega), h.r0.keep2 hf (fun h0 i hi e => by have := h.lr (by rw [uw_length] at h0; exact h0) i hi; omega), h.fr.setCell (S := fun _ => False) (a := ⟨gw, j, none⟩) (fun (hlt : gw < w.heap.size) => by omega) _, h.nva, h.nxv, h.nwv, h.nwr, h.ll, h.lr, h.a1, h.a2, h.a3, h.a4, h.a5, h.a6, h.a7, h.a8, h.a9⟩
theorem BI.setr {gw cw j nw : Nat} {x : Int} (h : BI w W p q va vm xv wv (.slice (some ⟨gw, 0, none⟩) nw cw) ov lA rA l rs L sz sm ws ys want wr) (hnw : wr.length = nw) (hj : j < wr.length) :
    BI w (W.setCell ⟨gw, j, none⟩ (.int .u64 x)) p q va vm xv wv (.slice (some ⟨gw, 0, none⟩) nw cw) ov lA rA l rs L sz sm ws ys want (wr.set j x) := by
  subst hnw
  have hin : InBlk (.slice (some ⟨gw, 0, none⟩) wr.length cw) gw := by simp [InBlk, Value.ownBlock]
  have hs := Own.setAt (cap := cw) (g := gw) (k := j) (u := .int .u64 x) (xs := uw wr) (e := 29) (W := W) (by rw [uw_length]; exact h.wr) (by rw [uw_length]; exact hj)
  have hf := hs.2
  have hs1 := hs.1
  rw [uw_length] at hs1
  have e1 : (uw wr).set j (.int .u64 x) = uw (wr.set j x) := by unfold uw; rw [List.map_set]
  rw [e1] at hs1
  have hgw := h.nwr gw hin
  exact ⟨⟨h.ta.ar.keep hf (fun e => h.wr.not_ptr h.ta.ar (by decide) gw hin e.symm) (fun i hi e => h.a2 i hi (by rw [e]; exact hin)), h.ta.own.keep hf (fun i hi e => h.a5 i hi (by rw [e]; exact hin)), h.ta.ap, h.ta.okr, h.ta.lenr⟩,
    h.m.keep hf (fun e => h.wr.not_ptr h.m (by decide) gw hin e.symm) (fun i hi e => h.a9 i (by rw [e]; exact hin) hi), h.o.keep hf (fun i hi e => h.o.apart h.wr (by decide) i hi (by rw [e]; exact hin)), h.want.keep hf (fun i hi e => h.a7 i hi (by rw [e]; exact hin)), hs1,
    h.l0.keep2 hf (fun h0 i hi e => by have := h.ll (by rw [uw_length] at h0; exact h0) i hi; omega), h.r0.keep2 hf (fun h0 i hi e => by have := h.lr (by rw [uw_length] at h0; exact h0) i hi; omega), h.fr.setCell (S := fun _ => False) (a := ⟨gw, j, none⟩) (fun (hlt : gw < w.heap.size) => by omega) _, h.nva, h.nxv, h.nwv, h.nwr, h.ll, h.lr, h.a1, h.a2, h.a3, h.a4, h.a5, h.a6, h.a7, h.a8, h.a9⟩
end
end Go.Proofs.Ytjiaaefpepdoeaa

/-
  FOR ThreadAll: the rows that the law holds beside the arena. Conditions: those named in each.
-/
namespace Go.Proofs.Ytjiaaefpepdoeaa
open Go.RowKit Md
set_option linter.unusedVariables false
/-- The law's rows: the words and roots that came in (lA, rA), the model's arena (q, vm), the program's (p, va) and its roots (xv), the objects (ov), all fields (uv). -/
structure AI (w W : World) (p q : Nat) (va vm xv ov uv lA rA : Value) (l rs L : List Int) (F : List Fld) (sz sm : Int) (ws ys : List Int) : Prop where
  ta : TA 101 W p va ws sz xv ys
  m : Ar 41 W q vm l sm
  o : Own W 3 ov (iw L)
  al : Own2 w.heap.size W 68 uv F
  l0 : Rd W lA (uw l)
  r0 : Rd W rA (uw rs)
  fr : Fr w W fun _ => False
  nva : ∀ k, InBlk va k → w.heap.size ≤ k
  nxv : ∀ k, InBlk xv k → w.heap.size ≤ k
  ll : 0 < l.length → ∀ k, InBlk lA k → k < w.heap.size
  lr : 0 < rs.length → ∀ k, InBlk rA k → k < w.heap.size
  a3 : Apt va vm
  a6 : Apt xv vm
section
variable {w W W1 : World} {p q : Nat} {va vm xv ov uv lA rA : Value} {l rs L : List Int} {F : List Fld} {sz sm : Int} {ws ys ws' ys' : List Int}
theorem AI.frm (h : AI w W p q va vm xv ov uv lA rA l rs L F sz sm ws ys) (hf : Fr W W1 fun _ => False) : AI w W1 p q va vm xv ov uv lA rA l rs L F sz sm ws ys :=
  ⟨h.ta.fr hf, h.m.fr hf, h.o.keep hf (fun _ _ h => h), h.al.keep hf (fun _ _ h => h), h.l0.keep hf (fun _ _ h => h), h.r0.keep hf (fun _ _ h => h), h.fr.trans hf, h.nva, h.nxv, h.ll, h.lr, h.a3, h.a6⟩
theorem AI.thr (h : AI w W p q va vm xv ov uv lA rA l rs L F sz sm ws ys) (ht : TA 101 W1 p va ws' sz xv ys') (hf : Fr W W1 (UO va xv)) : AI w W1 p q va vm xv ov uv lA rA l rs L F sz sm ws' ys' := by
  refine ⟨ht, h.m.keep hf (fun e => ?_) (fun i hi e => ?_), h.o.keep hf (fun i hi e => ?_), h.al.keep hf (fun i hi e => ?_), h.l0.keep2 hf (fun h0 i hi e => ?_), h.r0.keep2 hf (fun h0 i hi e => ?_), h.fr.then_ hf (fun i e hlt => ?_), h.nva, h.nxv, h.ll, h.lr, h.a3, h.a6⟩
  · rcases e with e | e
    · exact h.ta.ar.own.not_ptr h.m (by decide) q e rfl
    · exact h.ta.own.not_ptr h.m (by decide) q e rfl
  · rcases e with e | e
    · exact h.a3 i e hi
    · exact h.a6 i e hi
  · rcases e with e | e
    · exact h.o.apart h.ta.ar.own (by decide) i hi e
    · exact h.o.apart h.ta.own (by decide) i hi e
  · rcases e with e | e
    · exact h.al.apart h.ta.ar.own (by decide) i hi e
    · exact h.al.apart h.ta.own (by decide) i hi e
  · have := h.ll (by rw [uw_length] at h0; exact h0) i hi
    rcases e with e | e
    · have := h.nva i e; omega
    · have := h.nxv i e; omega
  · have := h.lr (by rw [uw_length] at h0; exact h0) i hi
    rcases e with e | e
    · have := h.nva i e; omega
    · have := h.nxv i e; omega
  · rcases e with e | e
    · have := h.nva i e; omega
    · have := h.nxv i e; omega
theorem AI.app (b : Bool) (i : Int) (h : AI w W p q va vm xv ov uv lA rA l rs L F sz sm ws ys) (hF : F.length ≤ 16777216) :
    ∃ v' w1, (Builtin.append_ #[63, 63] 63 #[uv, .slice (some ⟨W.heap.size, 0, none⟩) 1 1]).run Try.prog (W.alloc (.cells #[.bool b, .int .i64 i] 68)) = .ok v' w1 ∧ AI w w1 p q va vm xv ov v' lA rA l rs L (F ++ [⟨b, i⟩]) sz sm ws ys ∧ Fr W w1 (fun i => InBlk uv i) := by
  obtain ⟨v', w1, hr, ho, hf⟩ := run_append_fld 63 68 Try.underlying63 fldInfo ⟨b, i⟩ h.al h.fr.size hF
  have n1 : ∀ k, InBlk va k → ¬ InBlk uv k := fun k hk e => h.al.apart h.ta.ar.own (by decide) k e hk
  have n2 : ∀ k, InBlk xv k → ¬ InBlk uv k := fun k hk e => h.al.apart h.ta.own (by decide) k e hk
  have n3 : ∀ k, InBlk vm k → ¬ InBlk uv k := fun k hk e => h.al.apart h.m.own (by decide) k e hk
  have n4 : ∀ k, InBlk ov k → ¬ InBlk uv k := fun k hk e => h.al.apart h.o (by decide) k e hk
  refine ⟨v', w1, hr, ⟨⟨h.ta.ar.keep hf (fun e => h.al.not_ptr h.ta.ar (by decide) p e rfl) n1, h.ta.own.keep hf n2, h.ta.ap, h.ta.okr, h.ta.lenr⟩, h.m.keep hf (fun e => h.al.not_ptr h.m (by decide) q e rfl) n3, h.o.keep hf n4, ho, h.l0.keep2 hf (fun h0 i hi e => ?_), h.r0.keep2 hf (fun h0 i hi e => ?_), h.fr.then_ hf (fun k hk hlt => by have := (h.al.lt k hk).1; omega), h.nva, h.nxv, h.ll, h.lr, h.a3, h.a6⟩, hf⟩
  · have := h.ll (by rw [uw_length] at h0; exact h0) i hi
    have := (h.al.lt i e).1
    omega
  · have := h.lr (by rw [uw_length] at h0; exact h0) i hi
    have := (h.al.lt i e).1
    omega
end
end Go.Proofs.Ytjiaaefpepdoeaa

/-
  WALK: ThreadAll. Conditions: none but that the arguments read as words.
-/
namespace Go.Proofs.Ytjiaaefpepdoeaa
open Go.RowKit Md
set_option linter.unusedVariables false
set_option maxRecDepth 100000 in
set_option maxHeartbeats 4000000 in
theorem all_far (Al Ar : Option Addr) (nl cl nr cr : Nat) (tu : Int) (w : World) (h : 300 < nl ∨ 20 < nr) :
    Calls Try.prog 8 #[.slice Al nl cl, .slice Ar nr cr, .int .u16 tu] w fun e w' => e = .returned (.bool true) ∧ Fr w w' (fun _ => False) := by
  by_cases h1 : 300 < nl
  · have d1 : decide ((300 : Int) < nl) = true := decide_eq_true (by omega)
    clear h h1
    go_enter Try.func8, Try.ntmps8
    go_wp2_with (first | (go_at_call 37; (with_reducible refine (awake13_c _).mono ?_); rintro e w1 ⟨rfl, hf1⟩))
    go_ret
    exact ⟨rfl, hf1⟩
  · have d1 : decide ((300 : Int) < nl) = false := decide_eq_false (by omega)
    have d2 : decide ((20 : Int) < nr) = true := decide_eq_true (by omega)
    clear h h1
    go_enter Try.func8, Try.ntmps8
    go_wp2_with (first | (go_at_call 37; (with_reducible refine (awake13_c _).mono ?_); rintro e w1 ⟨rfl, hf1⟩))
    go_ret
    exact ⟨rfl, hf1⟩
set_option maxRecDepth 100000 in
set_option maxHeartbeats 4000000 in
theorem all_no (Al Ar : Option Addr) (cl cr : Nat) (l rs : List Int) (tu : Int) (w : World) (h1 : l.length ≤ 300) (h2 : rs.length ≤ 20)
    (hl : Rd w (.slice Al l.length cl) (uw l)) (hr : Rd w (.slice Ar rs.length cr) (uw rs)) (hok : okWs l) (hor : okWs rs) (hs : soundB l rs = false) :
    Calls Try.prog 8 #[.slice Al l.length cl, .slice Ar rs.length cr, .int .u16 tu] w fun e w' => e = .returned (.bool true) ∧ Fr w w' (fun _ => False) := by
  have d1 : decide ((300 : Int) < l.length) = false := decide_eq_false (by omega)
  have d2 : decide ((20 : Int) < rs.length) = false := decide_eq_false (by omega)
  have HL := Lib.hid hl
  have HR := Lib.hid hr
  have HOK := Lib.hid hok
  have HOR := Lib.hid hor
  have HS := Lib.hid hs
  have Z0 : Hid ((0 : Int) ≤ 0) := Lib.hid (Int.le_refl 0)
  have HM : Hid ((l.length : Int) + 0 ≤ 1048576) := Lib.hid (by omega)
  have HLR : Hid (rs.length ≤ 1048576) := Lib.hid (by omega)
  clear hl hr hok hor hs h1 h2
  go_enter Try.func8, Try.ntmps8
  go_wp2_with (first
    | (go_at_call 37; (with_reducible refine (awake13_c _).mono ?_); rintro e w1 ⟨rfl, hf1⟩; have HF1 := Lib.hid hf1; have HL1 := Lib.hid (HL.out.keep hf1 (fun _ _ h => h)); have HR1 := Lib.hid (HR.out.keep hf1 (fun _ _ h => h)); clear hf1)
    | (go_at_call 35; (with_reducible refine (mem_c _ l 0 _ HL1.out HOK.out Z0.out HM.out).mono ?_); rintro e w2 ⟨q, v2, rfl, hn⟩; have HM2 := Lib.hid hn.1; have HF2 := Lib.hid (HF1.out.trans hn.2.1); have HR2 := Lib.hid (HR1.out.keep hn.2.1 (fun _ _ h => h)); clear hn)
    | (go_at_call 39; (with_reducible refine (sound8_c q v2 _ l rs _ _ HM2.out HR2.out HOR.out HLR.out).mono ?_); rintro e w3 ⟨rfl, hf⟩; rw [HS.out]; have HF3 := Lib.hid (HF2.out.trans hf); clear hf))
  go_ret
  exact ⟨rfl, HF3.out⟩
set_option maxRecDepth 100000 in
set_option maxHeartbeats 4000000 in
theorem all_yes (Al Ar : Option Addr) (cl cr : Nat) (l rs L : List Int) (tu : Nat) (w : World) (h1 : l.length ≤ 300) (h2 : rs.length ≤ 20) (h5 : tu < 65536)
    (hl : Rd w (.slice Al l.length cl) (uw l)) (hr : Rd w (.slice Ar rs.length cr) (uw rs)) (hok : okWs l) (hor : okWs rs) (hs : soundB l rs = true) (S : Snd l rs L) :
    Calls Try.prog 8 #[.slice Al l.length cl, .slice Ar rs.length cr, .int .u16 tu] w fun e w' => e = .returned (.bool true) ∧ Fr w w' (fun _ => False) := by
  have d1 : decide ((300 : Int) < l.length) = false := decide_eq_false (by omega)
  have d2 : decide ((20 : Int) < rs.length) = false := decide_eq_false (by omega)
  have HL := Lib.hid hl
  have HR := Lib.hid hr
  have HOK := Lib.hid hok
  have HOR := Lib.hid hor
  have HS := Lib.hid hs
  have HSN := Lib.hid S
  have HO : Hid ((objs l).isSome = true) := Lib.hid (by rw [S.objs]; rfl)
  have HOL : Hid ((objs l).getD [] = L) := Lib.hid (by rw [S.objs]; rfl)
  have hLn := S.rows.len
  have Z0 : Hid ((0 : Int) ≤ 0) := Lib.hid (Int.le_refl 0)
  have HM : Hid ((l.length : Int) + 0 ≤ 1048576) := Lib.hid (by omega)
  have HLR : Hid (rs.length ≤ 1048576) := Lib.hid (by omega)
  have HLB : Hid (l.length ≤ 300 ∧ rs.length ≤ 20) := Lib.hid ⟨h1, h2⟩
  have HLZ : Hid (l.length ≤ 1073741824 ∧ rs.length ≤ 1073741824) := Lib.hid (by omega)
  have HSM : Hid (St.small ⟨l, rs⟩) := Lib.hid (by unfold St.small; simp only; omega)
  have HLT : Hid (0 < l.length → ∀ k, InBlk (.slice Al l.length cl) k → k < w.heap.size) := Lib.hid (fun h0 => hl.lt (by rw [uw_length]; exact h0))
  have HRT : Hid (0 < rs.length → ∀ k, InBlk (.slice Ar rs.length cr) k → k < w.heap.size) := Lib.hid (fun h0 => hr.lt (by rw [uw_length]; exact h0))
  have qL1 : (L.length : Int) ≤ 300 := by omega
  have qto : (tu : Int) < 65536 := by omega
  clear hl hr hok hor hs h1 h2 h5 S hLn
  go_enter Try.func8, Try.ntmps8
  go_upto_region 15 with (first
    | (go_at_call 37; (with_reducible refine (awake13_c _).mono ?_); rintro e w1 ⟨rfl, hf1⟩; have HF1 := Lib.hid hf1; have HL1 := Lib.hid (HL.out.keep hf1 (fun _ _ h => h)); have HR1 := Lib.hid (HR.out.keep hf1 (fun _ _ h => h)); clear hf1)
    | (go_at_call 35; (with_reducible refine (mem_c _ l 0 _ HL1.out HOK.out Z0.out HM.out).mono ?_); rintro e w2 ⟨q, vm, rfl, hn⟩; have HM2 := Lib.hid hn.1; have HF2 := Lib.hid (HF1.out.trans hn.2.1); have HR2 := Lib.hid (HR1.out.keep hn.2.1 (fun _ _ h => h)); have HL2 := Lib.hid (HL1.out.keep hn.2.1 (fun _ _ h => h)); clear hn)
    | (go_at_call 39; (with_reducible refine (sound8_c q vm _ l rs _ _ HM2.out HR2.out HOR.out HLR.out).mono ?_); rintro e w3 ⟨rfl, hf⟩; rw [HS.out]; have HF3 := Lib.hid (HF2.out.trans hf); have HM3 := Lib.hid (HM2.out.fr hf); have HR3 := Lib.hid (HR2.out.keep hf (fun _ _ h => h)); have HL3 := Lib.hid (HL2.out.keep hf (fun _ _ h => h)); clear hf)
    | (go_at_call 31; (with_reducible refine (fill_c _ l 0 _ HL3.out HOK.out Z0.out HM.out).mono ?_); rintro e w4 ⟨p, va, rfl, hn⟩; have HA4 := Lib.hid hn.1; have HN4 := Lib.hid hn.2.2.2; have HF4 := Lib.hid (HF3.out.trans hn.2.1); have HM4 := Lib.hid (HM3.out.fr hn.2.1); have HR4 := Lib.hid (HR3.out.keep hn.2.1 (fun _ _ h => h)); have HL4 := Lib.hid (HL3.out.keep hn.2.1 (fun _ _ h => h)); clear hn)
    | (go_at_call 40; (with_reducible refine (copy_c _ rs _ HR4.out HLZ.out.2).mono ?_); rintro e w5 ⟨xv, rfl, hn⟩; have HC5 := Lib.hid hn; have HF5 := Lib.hid (HF4.out.trans hn.2.1); have HA5 := Lib.hid (HA4.out.fr hn.2.1); have HM5 := Lib.hid (HM4.out.fr hn.2.1); have HR5 := Lib.hid (HR4.out.keep hn.2.1 (fun _ _ h => h)); have HL5 := Lib.hid (HL4.out.keep hn.2.1 (fun _ _ h => h)); clear hn)
    | (go_at_call 36; (with_reducible refine (mobjects_c q vm l _ _ HM5.out).mono ?_); rintro e w6 ⟨ov, rfl, hn⟩; rw [HO.out]; rw [HOL.out] at hn; have HO6 := Lib.hid hn.1; have HF6 := Lib.hid (HF5.out.trans hn.2.1); have HA6 := Lib.hid (HA5.out.fr hn.2.1); have HM6 := Lib.hid (HM5.out.fr hn.2.1); have HR6 := Lib.hid (HR5.out.keep hn.2.1 (fun _ _ h => h)); have HL6 := Lib.hid (HL5.out.keep hn.2.1 (fun _ _ h => h)); have HX6 := Lib.hid (HC5.out.1.keep hn.2.1 (fun _ _ h => h)); clear hn))
  obtain ⟨Ao, co, rfl⟩ := HO6.out.rd.len
  obtain ⟨Ax, cx, rfl⟩ := HX6.out.rd.len
  rw [iw_length, uw_length] at *
  try simp only [iw_length, uw_length]
  have HAI : Hid (AI w w6 p q va vm (.slice Ax rs.length cx) (.slice Ao L.length co) (.slice none 0 0) (.slice Al l.length cl) (.slice Ar rs.length cr) l rs L [] (l.length + 0) (l.length + 0) l rs) := Lib.hid
    ⟨⟨HA6.out, HX6.out, Apt.new HA4.out.own HC5.out.2.2, HOR.out, HLR.out⟩, HM6.out, HO6.out, Own2.nil _ _ _, HL6.out, HR6.out, HF6.out, (fun k hk => Nat.le_trans HF3.out.size (HN4.out k hk)), (fun k hk => Nat.le_trans HF4.out.size (HC5.out.2.2 k hk)), HLT.out, HRT.out, (Apt.new HM3.out.own HN4.out).symm, (Apt.new HM4.out.own HC5.out.2.2).symm⟩
  clear HA4 HA5 HA6 HM2 HM3 HM4 HM5 HM6 HL1 HL2 HL3 HL4 HL5 HL6 HR1 HR2 HR3 HR4 HR5 HR6 HO6 HF1 HF2 HF3 HF4 HF5 HF6 HX6 HC5 HN4
  go_loopg [12, 13] L.length (fun g a12 a13 wr => ∃ (uv : Value) (i : Nat) (P R : List Int) (B : Nat), uv = a12 ∧ a13 = .int .i64 i ∧ g + i = L.length ∧ Hid (AI w wr p q va vm (.slice Ax rs.length cx) (.slice Ao L.length co) uv (.slice Al l.length cl) (.slice Ar rs.length cr) l rs L ((wFlds l P).map Loc.fld) (l.length + 0) (l.length + 0) l rs ∧ L = P ++ R ∧ P.length = i ∧ Md.Rows l B R))
  case atStart => exact ⟨_, 0, [], L, 0, rfl, rfl, rfl, Lib.hid ⟨HAI.out, rfl, rfl, HSN.out.rows⟩⟩
  case round =>
    clear HAI
    obtain ⟨uv, i, P, R, B, rfl, rfl, hgi, HI⟩ := hrel
    obtain ⟨G, rfl⟩ : ∃ G, G = gk := ⟨_, rfl⟩
    have HGI := Lib.hid hgi
    clear hgi
    by_cases hi : i < L.length
    · obtain ⟨R2, hd, hR, hob, hrw⟩ : ∃ R2 hd, R = (B : Int) :: R2 ∧ objAt l B = some hd ∧ Md.Rows l (B + 1 + hd.size) R2 := by
        have h1 := HI.out.2.2.2
        have h2 := HI.out.2.1
        have h3 := HI.out.2.2.1
        cases R with
        | nil => rw [h2] at hi; simp at hi; omega
        | cons a R2 => cases h1 with
          | cons ho hr => exact ⟨R2, _, rfl, ho, hr⟩
      subst hR
      have hBL : (B : Int) ∈ L := by rw [HI.out.2.1]; simp
      have hgB : L.getD i 0 = B := by
        have h2 := HI.out.2.1
        have h3 := HI.out.2.2.1
        rw [h2, ← h3]
        simp [List.getD]
      obtain ⟨hb0, hb1, hrd, hz0, hz1, hz2⟩ := obj_facts hob
      have hfit := HSN.out.fit _ hBL
      have ho0 := obj0_of hob
      rw [ho0] at hfit
      obtain ⟨kd, z, t, nn⟩ := hd
      obtain ⟨f, hfd⟩ : ∃ f, fieldsH ⟨kd, z, t, nn⟩ = f := ⟨_, rfl⟩
      have hf0 : 0 ≤ f := by rw [← hfd]; exact fieldsH_nonneg hz0
      rw [hfd] at hfit
      obtain ⟨fn, rfl⟩ := Int.eq_ofNat_of_zero_le hf0
      simp only at hz0 hz1 hz2 hfit hrw
      have HFD := Lib.hid hfd
      have HOB := Lib.hid hob
      have HRW := Lib.hid hrw
      have HGB := Lib.hid hgB
      have HIL := Lib.hid hi
      have HZ : Hid (B < l.length ∧ (fn : Int) ≤ z ∧ B + 1 + z ≤ l.length ∧ 0 ≤ z) := Lib.hid (by omega)
      have HFO : Hid (fldsOf l B = fldsN B fn) := Lib.hid (by unfold fldsOf; rw [ho0, hfd]; rfl)
      have HFL : Hid (((wFlds l P).map Loc.fld).length ≤ B) := Lib.hid (by
        have h1 := wFlds_len HSN.out.rows P ((B : Int) :: R2) B (by rw [HI.out.2.1]) (fun a ha => HSN.out.fit a (by rw [HI.out.2.1]; exact List.mem_append_left _ ha)) HI.out.2.2.2
        rw [List.length_map]; omega)
      obtain ⟨go, rfl, _, hco⟩ := HI.out.1.o.cellAt (by rw [iw_length]; omega)
      have ck := (hco i (by rw [iw_length]; exact hi)).1
      rw [iw_get hi, hgB] at ck
      have qi : (i : Int) < L.length := by omega
      have qB : (B : Int) < l.length := by omega
      have qf : (fn : Int) ≤ 300 := by have := HLB.out; omega
      have ql : (l.length : Int) ≤ 300 := by have := HLB.out; omega
      clear hi hob hrd hz0 hz1 hz2 hfit ho0 hfd hf0 hBL hgB hb0 hb1 hrw hco
      go_upto_region 18 with (first | (go_at_call 41; (with_reducible refine (mobj_some q _ l _ B _ _ HI.out.1.m HOB.out).mono ?_); rintro e wo ⟨rfl, hfo⟩))
      obtain ⟨W2, hW2⟩ : ∃ W2, wo.alloc (.cells #[.int .i64 kd, .int .i64 z, .int .i64 t, .bool nn] 50) = W2 := ⟨_, rfl⟩
      obtain ⟨D, hD⟩ : ∃ D, wo.heap.size = D := ⟨_, rfl⟩
      have hf2 : Fr wr W2 (fun _ => False) := by rw [← hW2]; exact hfo.alloc _
      have hdb : W2.heap[D]? = some (.cells #[.int .i64 kd, .int .i64 z, .int .i64 t, .bool nn] 50 (0, 0)) := by rw [← hW2, ← hD]; exact blk_new _ _ _
      simp only [hW2, hD]
      have HI2 := Lib.hid (HI.out.1.frm hf2)
      have HDB := Lib.hid hdb
      have HPR := Lib.hid HI.out.2
      clear hW2 hD hfo hf2 hdb ck HI
      go_wp2
      go_loopg [12, 16] fn (fun g a12 a16 wr => ∃ (uv : Value) (k : Nat), uv = a12 ∧ a16 = .int .i64 k ∧ g + k = fn + 1 ∧ 1 ≤ k ∧ Hid (AI w wr p q va vm (.slice Ax rs.length cx) (.slice (some ⟨go, 0, none⟩) L.length co) uv (.slice Al l.length cl) (.slice Ar rs.length cr) l rs L ((wFlds l P ++ fldsN B (k - 1)).map Loc.fld) (l.length + 0) (l.length + 0) l rs ∧ wr.heap[D]? = some (.cells #[.int .i64 kd, .int .i64 z, .int .i64 t, .bool nn] 50 (0, 0))))
      case atStart => exact ⟨_, 1, rfl, rfl, by omega, Nat.le_refl _, Lib.hid ⟨by simpa [fldsN] using HI2.out, HDB.out⟩⟩
      case round =>
        clear HI2 HDB
        obtain ⟨uv, k, rfl, rfl, hgk, hk1, HI⟩ := hrel
        have hdb := HI.out.2
        have HGK := Lib.hid hgk
        have HK1 := Lib.hid hk1
        have d0 : wr.cell? ⟨D, 0, none⟩ = some (.int .i64 kd) := by simp [World.cell?, hdb]
        have d1 : wr.cell? ⟨D, 1, none⟩ = some (.int .i64 z) := by simp [World.cell?, hdb]
        have d2 : wr.cell? ⟨D, 2, none⟩ = some (.int .i64 t) := by simp [World.cell?, hdb]
        have d3 : wr.cell? ⟨D, 3, none⟩ = some (.bool nn) := by simp [World.cell?, hdb]
        by_cases hk : k ≤ fn
        · have b1 : decide ((k : Int) ≤ fn) = true := decide_eq_true (by omega)
          have HKF := Lib.hid hk
          have hz := HZ.out
          obtain ⟨j, hj⟩ : ∃ j : Nat, B + k = j := ⟨_, rfl⟩
          have qj : (j : Int) < l.length := by omega
          have hjs : (B : Int) + k = j := by omega
          have HJ2 := Lib.hid hj
          have HJS := Lib.hid hjs
          clear hz hj hdb hgk hk1 hjs
          go_upto_region 21 with (first | (go_at_call 42; (with_reducible refine (Wd.rfields_c kd z t nn fn _ HFD.out).mono ?_); rintro e wa ⟨rfl, hb⟩))
          have hfa := Fr.of_below hb (fun _ => False)
          have HIa := Lib.hid (HI.out.1.frm hfa)
          have HDa := Lib.hid (hfa.blk HI.out.2 (fun h => h))
          have ck : wa.cell? ⟨go, i, none⟩ = some (.int .i64 B) := by
            obtain ⟨b, e, _, hc⟩ := HIa.out.o.cellAt (by rw [iw_length]; have := HIL.out; omega)
            injection e with e
            injection e with e
            subst e
            have := (hc i (by rw [iw_length]; exact HIL.out)).1
            rw [iw_get HIL.out, HGB.out] at this
            exact this
          obtain ⟨v', wb, hrun, hIb, hfb⟩ := HIa.out.app false j (by
            have h1 := HFL.out
            have h2 := HZ.out
            have h3 := HLB.out
            have h4 := HKF.out
            rw [List.length_map] at h1 ⊢
            rw [List.length_append]
            simp only [fldsN, List.length_map, List.length_range]
            omega)
          have HIb := Lib.hid hIb
          have HDb := Lib.hid (hfb.blk HDa.out (HIa.out.al.not_box HDa.out (by decide)))
          have HRUN := Lib.hid hrun
          have hjs := HJS.out
          clear hb hfa HI d0 d1 d2 d3 b1 hrun hIb hfb
          go_wp2_with (at_builtin; refine Lib.wpList_append_run _ rfl _ _ _ _ rfl _ _ rfl rfl _ wb HRUN.out ?_)
          go_roundg (gk - 1)
          case measure => have := HGK.out; have := HKF.out; omega
          case rel =>
            refine ⟨_, k + 1, rfl, by first | rfl | go_num, by have := HGK.out; have := HKF.out; omega, by omega, Lib.hid ⟨?_, HDb.out⟩⟩
            have e1 : (wFlds l P ++ fldsN B (k + 1 - 1)).map Loc.fld = (wFlds l P ++ fldsN B (k - 1)).map Loc.fld ++ [⟨false, (j : Int)⟩] := by
              have h1 := HK1.out
              have h2 := HJ2.out
              have e2 : k + 1 - 1 = (k - 1) + 1 := by omega
              rw [e2, fldsN_succ, ← List.append_assoc, List.map_append]
              congr 1
              simp only [List.map_cons, List.map_nil, Loc.fld]
              congr 2
              omega
            rw [e1]
            exact HIb.out
        · have HKE : Hid (k = fn + 1) := Lib.hid (by omega)
          have b2 : decide (k ≤ fn) = false := decide_eq_false hk
          clear hdb hgk hk1 hk
          go_wp2_with (first | (go_at_call 42; (with_reducible refine (Wd.rfields_c kd z t nn fn _ HFD.out).mono ?_); rintro e wa ⟨rfl, hb⟩; have HIa := Lib.hid (HI.out.1.frm (Fr.of_below hb (fun _ => False))); clear hb))
          go_roundg (G - 1)
          case measure => have := HGI.out; have := HIL.out; omega
          case rel =>
            refine ⟨_, i + 1, P ++ [(B : Int)], R2, (B + 1 + z).toNat, rfl, by first | rfl | go_num, by have := HGI.out; have := HIL.out; omega, Lib.hid ⟨?_, ?_, ?_, ?_⟩⟩
            · rw [wFlds_snoc, HFO.out]
              have := HIa.out
              rw [HKE.out] at this
              exact this
            · rw [HPR.out.1]; simp
            · rw [List.length_append, HPR.out.2.1]; rfl
            · have hz := HZ.out
              rw [Int.toNat_of_nonneg (by omega)]
              exact HRW.out
    · have hie : i = L.length := by have := HGI.out; omega
      have HI1 : Hid (AI w wr p q va vm (.slice Ax rs.length cx) (.slice Ao L.length co) uv (.slice Al l.length cl) (.slice Ar rs.length cr) l rs L ((wFlds l L ++ (List.range 0).map Loc.r).map Loc.fld) (l.length + 0) (l.length + 0) l rs) := Lib.hid (by
        have h2 := HI.out.2.1
        have h3 := HI.out.2.2.1
        have h4 : R = [] := by
          rw [h2, List.length_append] at hie
          exact List.eq_nil_of_length_eq_zero (by omega)
        subst h4
        rw [List.append_nil] at h2
        have h5 := HI.out.1
        rw [← h2] at h5
        simpa using h5)
      have b3 : decide (i < L.length) = false := decide_eq_false hi
      clear hi hie HI
      obtain ⟨W0, hW0⟩ : ∃ W0, W0 = wr := ⟨_, rfl⟩
      subst hW0
      go_wp2
      go_loopg [12, 17] rs.length (fun g a12 a17 wr => ∃ (uv : Value) (i : Nat), uv = a12 ∧ a17 = .int .i64 i ∧ g + i = rs.length ∧ Hid (AI w wr p q va vm (.slice Ax rs.length cx) (.slice Ao L.length co) uv (.slice Al l.length cl) (.slice Ar rs.length cr) l rs L ((wFlds l L ++ (List.range i).map Loc.r).map Loc.fld) (l.length + 0) (l.length + 0) l rs))
      case atStart => exact ⟨_, 0, rfl, rfl, rfl, HI1⟩
      case round =>
        clear HI1
        obtain ⟨uv, i, rfl, rfl, hgi, HI⟩ := hrel
        have HGJ := Lib.hid hgi
        clear hgi
        have HWL : Hid ((wFlds l L).length ≤ 300) := Lib.hid (by
          have h1 := wFlds_len HSN.out.rows L [] l.length (by simp) HSN.out.fit .nil
          have := HLB.out
          omega)
        by_cases hi : i < rs.length
        · have HIL := Lib.hid hi
          have qi : (i : Int) < rs.length := by omega
          have qr : (rs.length : Int) ≤ 20 := by have := HLB.out; omega
          obtain ⟨v', wb, hrun, hIb, hfb⟩ := HI.out.app true i (by
            have h1 := HWL.out
            have h3 := HLB.out
            rw [List.length_map, List.length_append, List.length_map, List.length_range]
            omega)
          have HIb := Lib.hid hIb
          have HRUN := Lib.hid hrun
          clear hi hrun hIb hfb
          go_wp2_with (at_builtin; refine Lib.wpList_append_run _ rfl _ _ _ _ rfl _ _ rfl rfl _ wb HRUN.out ?_)
          go_roundg (gk - 1)
          case measure => have := HGJ.out; have := HIL.out; omega
          case rel =>
            refine ⟨_, i + 1, rfl, by first | rfl | go_num, by have := HGJ.out; have := HIL.out; omega, Lib.hid ?_⟩
            have e1 : (wFlds l L ++ (List.range (i + 1)).map Loc.r).map Loc.fld = (wFlds l L ++ (List.range i).map Loc.r).map Loc.fld ++ [⟨true, (i : Int)⟩] := by
              simp only [List.range_succ, List.map_append, List.append_assoc, List.map_cons, List.map_nil]
              rfl
            rw [e1]
            exact HIb.out
        · have hie : i = rs.length := by have := HGJ.out; omega
          obtain ⟨A, hA⟩ : ∃ A, allFlds l rs L = A := ⟨_, rfl⟩
          have HAA := Lib.hid hA
          have HI1 : Hid (AI w wr p q va vm (.slice Ax rs.length cx) (.slice Ao L.length co) uv (.slice Al l.length cl) (.slice Ar rs.length cr) l rs L (A.map Loc.fld) (l.length + 0) (l.length + 0) l rs) := Lib.hid (by
            rw [← hA]
            have := HI.out
            rw [hie] at this
            exact this)
          have HNA : Hid (A.length ≤ 320) := Lib.hid (by
            have h1 := HWL.out
            have h3 := HLB.out
            rw [← hA]
            unfold allFlds
            rw [List.length_append, List.length_map, List.length_range]
            omega)
          have HND : Hid A.Nodup := Lib.hid (by rw [← hA]; exact allFlds_nodup HSN.out)
          have HAM : Hid (∀ m ∈ A, m ∈ allFlds l rs L) := Lib.hid (fun m hm => by rw [hA]; exact hm)
          have qA : (A.length : Int) ≤ 320 := by have := HNA.out; omega
          have b2 : decide (i < rs.length) = false := decide_eq_false hi
          obtain ⟨Au, cu, rfl⟩ := HI.out.al.len
          have e2 : ((wFlds l L ++ (List.range i).map Loc.r).map Loc.fld).length = A.length := by rw [hie, ← hA]; simp [allFlds]
          rw [e2] at HI1 ⊢
          clear hi hie HI hA e2
          obtain ⟨W0, hW0⟩ : ∃ W0, W0 = wr := ⟨_, rfl⟩
          subst hW0
          go_wp2
          go_loopg [18, 19] A.length (fun g a18 a19 wr => ∃ (many i : Nat) (ws ys : List Int), a18 = .int .i64 many ∧ a19 = .int .i64 i ∧ g + i = A.length ∧ Hid (AI w wr p q va vm (.slice Ax rs.length cx) (.slice Ao L.length co) (.slice Au A.length cu) (.slice Al l.length cl) (.slice Ar rs.length cr) l rs L (A.map Loc.fld) (l.length + 0) (l.length + 0) ws ys ∧ Md.Al l rs L (turnedTo A tu i) [] many ws ys ∧ many ≤ i))
          case atStart => exact ⟨0, 0, _, _, rfl, rfl, rfl, Lib.hid ⟨HI1.out, Md.Al.start HSN.out, Nat.le_refl _⟩⟩
          case round =>
            clear HI1
            obtain ⟨many, i, ws, ys, rfl, rfl, hgi, HI⟩ := hrel
            have HGJ := Lib.hid hgi
            clear hgi
            by_cases hi : i < A.length
            · have HIL := Lib.hid hi
              obtain ⟨jn, hjn⟩ : ∃ jn, (i + tu) % A.length = jn := ⟨_, rfl⟩
              have hjl : jn < A.length := by rw [← hjn]; exact Nat.mod_lt _ (by omega)
              have hrem : ((i : Int) + (tu : Int)) % (A.length : Int) = jn := by rw [← hjn]; push_cast; rfl
              obtain ⟨m, hm⟩ : ∃ m, turned A tu i = m := ⟨_, rfl⟩
              have HM3 := Lib.hid hm
              have HMA : Hid (m ∈ allFlds l rs L) := Lib.hid (HAM.out m (by rw [← hm]; exact turned_mem (by omega)))
              have HMN : Hid (m ∉ turnedTo A tu i) := Lib.hid (by rw [← hm]; exact turned_new HND.out hi)
              obtain ⟨⟨b, x⟩, hbx⟩ : ∃ f, m.fld = f := ⟨_, rfl⟩
              have HBX := Lib.hid hbx
              have hrd := HI.out.2.1.read HSN.out HMA.out HMN.out
              obtain ⟨o, ho⟩ : ∃ o, oget l rs m = o := ⟨_, rfl⟩
              rw [ho, hbx] at hrd
              have HRD := Lib.hid hrd
              have HOO := Lib.hid ho
              obtain ⟨gu, rfl, _, hcu⟩ := HI.out.1.al.cellAt (by rw [List.length_map]; omega)
              have hc2 := hcu jn (by rw [List.length_map]; exact hjl)
              have hfj : (A.map Loc.fld).getD jn ⟨false, 0⟩ = ⟨b, x⟩ := by
                rw [← hbx, ← hm]
                unfold turned
                rw [hjn]
                simp [List.getD, hjl]
              rw [hfj] at hc2
              obtain ⟨c0, c1⟩ := hc2
              have HX : Hid (okW o) := Lib.hid (fGet_ok HI.out.1.ta.ar.ok HI.out.1.ta.okr hrd)
              obtain ⟨t, ht⟩ : ∃ t, tagW o = t := ⟨_, rfl⟩
              have HT := Lib.hid ht
              have qi : (i : Int) < A.length := by omega
              have qj : (jn : Int) < A.length := by omega
              have qm : (many : Int) ≤ 320 := by have := HI.out.2.2; have := HNA.out; omega
              clear hi hjn hm hbx hrd ho hcu hfj ht hjl
              go_upto_region 31 with (fail)
              obtain ⟨W2, hW2⟩ : ∃ W2, wr.alloc (.cells #[.bool b, .int .i64 x] 68) = W2 := ⟨_, rfl⟩
              obtain ⟨D, hD⟩ : ∃ D, wr.heap.size = D := ⟨_, rfl⟩
              have hf2 : Fr wr W2 (fun _ => False) := by rw [← hW2]; exact (Fr.refl _ _).alloc _
              have hdb : W2.heap[D]? = some (.cells #[.bool b, .int .i64 x] 68 (0, 0)) := by rw [← hW2, ← hD]; exact blk_new _ _ _
              have HI6 := Lib.hid (HI.out.1.frm hf2)
              have k0 : W2.cell? ⟨D, 0, none⟩ = some (.bool b) := by simp [World.cell?, hdb]
              have k1 : W2.cell? ⟨D, 1, none⟩ = some (.int .i64 x) := by simp [World.cell?, hdb]
              simp only [hW2, hD]
              clear hW2 hD hf2 hdb c0 c1 hrem
              cases b with
              | false =>
                have HGR : Hid (getR ws x = o) := Lib.hid (by
                  have := HRD.out
                  unfold getR
                  show (fGet ws ys ⟨false, x⟩).getD 0 = o
                  rw [this]; rfl)
                by_cases h5 : t = 5
                · subst h5
                  obtain ⟨ws', ys', hth, hal⟩ := HI.out.2.1.yes HSN.out HSM.out HOK.out HOR.out HMA.out HMN.out (by rw [HOO.out]; exact HT.out)
                  rw [HBX.out] at hth
                  have HTH := Lib.hid hth
                  have HAL := Lib.hid hal
                  have HBD := Lib.hid HI.out.2.2
                  clear hth hal HI
                  go_wp2_with (first
                    | (go_at_call 23; (with_reducible refine (get_u p va ws _ x _ HI6.out.ta.ar).mono ?_); rintro e w3 ⟨rfl, rfl⟩; rw [HGR.out])
                    | (go_at_call 43; (with_reducible refine (Wd.rtag_c o 5 _ HX.out HT.out).mono ?_); rintro e wt ⟨rfl, nt, rfl⟩; have HI7 := Lib.hid (HI6.out.frm ((Fr.refl _ (fun _ => False)).drewN nt)))
                    | (go_at_call 44; (with_reducible refine (thread_yes p va _ ws ys ws' ys' _ x false _ HI7.out.ta HTH.out).mono ?_); rintro e w7 ⟨rfl, ht7, hf7⟩; have HI8 := Lib.hid (HI7.out.thr ht7 hf7); clear ht7 hf7))
                  go_roundg (gk - 1)
                  case measure => have := HGJ.out; have := HIL.out; omega
                  case rel => exact ⟨many + 1, i + 1, ws', ys', by first | rfl | go_num, by first | rfl | go_num, by have := HGJ.out; have := HIL.out; omega, Lib.hid ⟨HI8.out, by have := HAL.out; rw [← HM3.out] at this; exact this, by have := HBD.out; omega⟩⟩
                · have b5 : (t == 5) = false := by simpa using h5
                  obtain ⟨hth, hal⟩ := HI.out.2.1.no HSN.out HMA.out HMN.out (by rw [HOO.out, HT.out]; exact h5)
                  rw [HBX.out] at hth
                  have HTH := Lib.hid hth
                  have HAL := Lib.hid hal
                  have HBD := Lib.hid HI.out.2.2
                  clear hth hal HI h5
                  go_wp2_with (first
                    | (go_at_call 23; (with_reducible refine (get_u p va ws _ x _ HI6.out.ta.ar).mono ?_); rintro e w3 ⟨rfl, rfl⟩; rw [HGR.out])
                    | (go_at_call 43; (with_reducible refine (Wd.rtag_c o t _ HX.out HT.out).mono ?_); rintro e wt ⟨rfl, nt, rfl⟩; have HI7 := Lib.hid (HI6.out.frm ((Fr.refl _ (fun _ => False)).drewN nt)))
                    | (go_at_call 44; (with_reducible refine (thread_no p va _ ws ys _ x false _ HI7.out.ta HTH.out).mono ?_); rintro e w7 ⟨rfl, hf7⟩; have HI8 := Lib.hid (HI7.out.frm hf7); clear hf7))
                  go_roundg (gk - 1)
                  case measure => have := HGJ.out; have := HIL.out; omega
                  case rel => exact ⟨many, i + 1, ws, ys, rfl, by first | rfl | go_num, by have := HGJ.out; have := HIL.out; omega, Lib.hid ⟨HI8.out, by have := HAL.out; rw [← HM3.out] at this; exact this, by have := HBD.out; omega⟩⟩
              | true =>
                have HGR : Hid (True) := Lib.hid trivial
                obtain ⟨xk, rfl, hxk, hxo⟩ : ∃ xk : Nat, x = xk ∧ xk < ys.length ∧ ys.getD xk 0 = o := by
                  obtain ⟨k, e, hk, ho⟩ := rdAt_some (show rdAt ys x = some o from HRD.out)
                  exact ⟨k, e, hk, ho⟩
                have hyl : ys.length = rs.length := HI.out.2.1.l2
                obtain ⟨gx, rfl, _, hcx⟩ := HI6.out.ta.own.cellAt (by rw [uw_length]; omega)
                have cxo := (hcx xk (by rw [uw_length]; exact hxk)).1
                rw [uw_get hxk, hxo] at cxo
                have qx : (xk : Int) < rs.length := by omega
                clear hxk hxo hyl hcx
                by_cases h5 : t = 5
                · subst h5
                  obtain ⟨ws', ys', hth, hal⟩ := HI.out.2.1.yes HSN.out HSM.out HOK.out HOR.out HMA.out HMN.out (by rw [HOO.out]; exact HT.out)
                  rw [HBX.out] at hth
                  have HTH := Lib.hid hth
                  have HAL := Lib.hid hal
                  have HBD := Lib.hid HI.out.2.2
                  clear hth hal HI
                  go_wp2_with (first
                    | (go_at_call 23; (with_reducible refine (get_u p va ws _ (xk : Int) _ HI6.out.ta.ar).mono ?_); rintro e w3 ⟨rfl, rfl⟩)
                    | (go_at_call 43; (with_reducible refine (Wd.rtag_c o 5 _ HX.out HT.out).mono ?_); rintro e wt ⟨rfl, nt, rfl⟩; have HI7 := Lib.hid (HI6.out.frm ((Fr.refl _ (fun _ => False)).drewN nt)))
                    | (go_at_call 44; (with_reducible refine (thread_yes p va _ ws ys ws' ys' _ (xk : Int) true _ HI7.out.ta HTH.out).mono ?_); rintro e w7 ⟨rfl, ht7, hf7⟩; have HI8 := Lib.hid (HI7.out.thr ht7 hf7); clear ht7 hf7))
                  go_roundg (gk - 1)
                  case measure => have := HGJ.out; have := HIL.out; omega
                  case rel => exact ⟨many + 1, i + 1, ws', ys', by first | rfl | go_num, by first | rfl | go_num, by have := HGJ.out; have := HIL.out; omega, Lib.hid ⟨HI8.out, by have := HAL.out; rw [← HM3.out] at this; exact this, by have := HBD.out; omega⟩⟩
                · have b5 : (t == 5) = false := by simpa using h5
                  obtain ⟨hth, hal⟩ := HI.out.2.1.no HSN.out HMA.out HMN.out (by rw [HOO.out, HT.out]; exact h5)
                  rw [HBX.out] at hth
                  have HTH := Lib.hid hth
                  have HAL := Lib.hid hal
                  have HBD := Lib.hid HI.out.2.2
                  clear hth hal HI h5
                  go_wp2_with (first
                    | (go_at_call 23; (with_reducible refine (get_u p va ws _ (xk : Int) _ HI6.out.ta.ar).mono ?_); rintro e w3 ⟨rfl, rfl⟩)
                    | (go_at_call 43; (with_reducible refine (Wd.rtag_c o t _ HX.out HT.out).mono ?_); rintro e wt ⟨rfl, nt, rfl⟩; have HI7 := Lib.hid (HI6.out.frm ((Fr.refl _ (fun _ => False)).drewN nt)))
                    | (go_at_call 44; (with_reducible refine (thread_no p va _ ws ys _ (xk : Int) true _ HI7.out.ta HTH.out).mono ?_); rintro e w7 ⟨rfl, hf7⟩; have HI8 := Lib.hid (HI7.out.frm hf7); clear hf7))
                  go_roundg (gk - 1)
                  case measure => have := HGJ.out; have := HIL.out; omega
                  case rel => exact ⟨many, i + 1, ws, ys, rfl, by first | rfl | go_num, by have := HGJ.out; have := HIL.out; omega, Lib.hid ⟨HI8.out, by have := HAL.out; rw [← HM3.out] at this; exact this, by have := HBD.out; omega⟩⟩
            · have hie : i = A.length := by have := HGJ.out; omega
              obtain ⟨V, hV⟩ : ∃ V, turnedTo A tu i = V := ⟨_, rfl⟩
              have HI1 := Lib.hid HI.out.1
              have HAL1 : Hid (Md.Al l rs L V (L.drop L.length) many ws ys ∧ many ≤ 320) := Lib.hid ⟨by rw [List.drop_length, ← hV]; exact HI.out.2.1, by have := HI.out.2.2; have := HNA.out; omega⟩
              have b4 : decide (i < A.length) = false := decide_eq_false hi
              clear hi hie HI hV
              obtain ⟨W0, hW0⟩ : ∃ W0, W0 = wr := ⟨_, rfl⟩
              subst hW0
              go_wp2
              go_loopg [18, 24] L.length (fun g a18 a24 wr => ∃ (many j : Nat) (d : Int) (ws ys : List Int), a18 = .int .i64 many ∧ a24 = .int .i64 d ∧ g = j ∧ Hid (d + 1 = j ∧ j ≤ L.length) ∧ Hid (AI w wr p q va vm (.slice Ax rs.length cx) (.slice Ao L.length co) (.slice Au A.length cu) (.slice Al l.length cl) (.slice Ar rs.length cr) l rs L (A.map Loc.fld) (l.length + 0) (l.length + 0) ws ys ∧ Md.Al l rs L V (L.drop j) many ws ys ∧ many ≤ 320))
              case atStart => exact ⟨many, L.length, _, _, _, rfl, rfl, rfl, Lib.hid ⟨by omega, Nat.le_refl _⟩, Lib.hid ⟨HI1.out, HAL1.out⟩⟩
              case round =>
                clear HI1 HAL1
                obtain ⟨many, j, d, ws, ys, rfl, rfl, hg, HD, HI⟩ := hrel
                have HGK := Lib.hid hg
                clear hg
                have qm : (many : Int) ≤ 320 := by have := HI.out.2.2; omega
                by_cases hd : d < 0
                · have b5 : decide (0 ≤ d) = false := decide_eq_false (by omega)
                  have hj0 : j = 0 := by have := HD.out; omega
                  obtain ⟨hm0, hw0, hy0⟩ := HI.out.2.1.fin HSN.out (fun a ha => by rw [hj0]; exact ha)
                  subst hm0 hw0 hy0
                  have HI5 := Lib.hid HI.out.1
                  clear hd hj0 HI
                  go_wp2_with (first
                    | (go_at_call 30; (with_reducible refine (words_c p _ _ _ _ HI5.out.ta.ar).mono ?_); rintro e w8 ⟨v8, rfl, hn⟩; have HN8 := Lib.hid hn.1; have HI8 := Lib.hid (HI5.out.frm hn.2.1); clear hn)
                    | (go_at_call 29; (with_reducible refine (samew_c _ _ ys ys _ HI9.out.ta.own.rd HI9.out.r0 HLZ.out.2).mono ?_); rintro e w10 ⟨rfl, hd⟩; have HF10 := Lib.hid (HI9.out.fr.trans (hd.fr (fun _ => False))); clear hd)
                    | (go_at_call 29; (with_reducible refine (samew_c _ _ ws ws _ HN8.out.rd HI8.out.l0 HLZ.out.1).mono ?_); rintro e w9 ⟨rfl, hd⟩; have HI9 := Lib.hid (HI8.out.frm (hd.fr (fun _ => False))); clear hd))
                  go_ret
                  exact ⟨by simp, HF10.out⟩
                · obtain ⟨dn, rfl⟩ := Int.eq_ofNat_of_zero_le (show 0 ≤ d by omega)
                  have hdl : dn < L.length := by have := HD.out; omega
                  have hjd : j = dn + 1 := by have := HD.out; omega
                  have HDL := Lib.hid hdl
                  have HJD := Lib.hid hjd
                  obtain ⟨a, ha⟩ : ∃ a, L.getD dn 0 = a := ⟨_, rfl⟩
                  have haL : a ∈ L := by rw [← ha, List.getD_eq_getElem?_getD, List.getElem?_eq_getElem hdl]; exact List.getElem_mem hdl
                  have hdr : L.drop dn = a :: L.drop (dn + 1) := by
                    rw [List.drop_eq_getElem_cons hdl, ← ha]
                    simp [List.getD, hdl]
                  obtain ⟨nl, ws', ys', hnl, hlo, hal⟩ := HI.out.2.1.loose HSN.out HSM.out HOK.out HOR.out haL
                  rw [hjd, ← hdr] at hal
                  have HLO := Lib.hid hlo
                  have HAL := Lib.hid hal
                  have HNL := Lib.hid hnl
                  obtain ⟨go, rfl, _, hco⟩ := HI.out.1.o.cellAt (by rw [iw_length]; omega)
                  have ck := (hco dn (by rw [iw_length]; exact hdl)).1
                  rw [iw_get hdl, ha] at ck
                  have HA := Lib.hid ha
                  have qd : (dn : Int) < L.length := by omega
                  have qn : (nl : Int) ≤ many := by omega
                  have b5 : decide ((0 : Int) ≤ dn) = true := decide_eq_true (by omega)
                  have HId := Lib.hid (HI.out.1.frm ((Fr.refl wr (fun _ => False)).drew))
                  have HM320 := Lib.hid HI.out.2.2
                  clear hd hdl hjd ha haL hdr hnl hlo hal hco
                  go_upto_region 42 with (fail)
                  go_region_held3 (fun w' => w'.cell? ⟨go, dn, none⟩ = some (.int .i64 a)) (first | exact ck2 | exact ck)
                    (first
                      | (go_at_call 45; (with_reducible refine (loose_c p va _ ws ys _ a a _ HId.out.ta).mono ?_); rintro e w6 ⟨hre, ht6, hf6⟩; rw [HLO.out] at hre ht6; subst hre; have HI6 := Lib.hid (HId.out.thr ht6 hf6); have ck2 : w6.cell? ⟨go, dn, none⟩ = some (.int .i64 a) := (by
                          obtain ⟨b, e, _, hc⟩ := HI6.out.o.cellAt (by rw [iw_length]; have := HDL.out; omega)
                          injection e with e
                          injection e with e
                          subst e
                          have := (hc dn (by rw [iw_length]; exact HDL.out)).1
                          rw [iw_get HDL.out, HA.out] at this
                          exact this); clear ht6 hf6))
                  clear ck ck2 HI HId
                  go_wp2
                  go_roundg (gk - 1)
                  case measure => have := HGK.out; have := HJD.out; omega
                  case rel =>
                    have hmn : ((many - nl : Nat) : Int) = (many : Int) - nl := by have := HNL.out; omega
                    exact ⟨many - nl, dn, (dn : Int) - 1, ws', ys', by rw [hmn], rfl, by have := HGK.out; have := HJD.out; omega, Lib.hid ⟨by omega, by have := HDL.out; omega⟩, Lib.hid ⟨HI6.out, HAL.out, by have := HM320.out; omega⟩⟩
theorem all_c (Al Ar : Option Addr) (cl cr : Nat) (l rs : List Int) (tu : Nat) (w : World) (h5 : tu < 65536)
    (hl : Rd w (.slice Al l.length cl) (uw l)) (hr : Rd w (.slice Ar rs.length cr) (uw rs)) (hok : okWs l) (hor : okWs rs) :
    Calls Try.prog 8 #[.slice Al l.length cl, .slice Ar rs.length cr, .int .u16 tu] w fun e w' => e = .returned (.bool true) ∧ Fr w w' (fun _ => False) := by
  by_cases h : 300 < l.length ∨ 20 < rs.length
  · exact all_far Al Ar l.length cl rs.length cr tu w h
  · cases hs : soundB l rs with
    | false => exact all_no Al Ar cl cr l rs tu w (by omega) (by omega) hl hr hok hor hs
    | true =>
      obtain ⟨L, S⟩ := snd_of hs
      exact all_yes Al Ar cl cr l rs L tu w (by omega) (by omega) h5 hl hr hok hor hs S
end Go.Proofs.Ytjiaaefpepdoeaa
