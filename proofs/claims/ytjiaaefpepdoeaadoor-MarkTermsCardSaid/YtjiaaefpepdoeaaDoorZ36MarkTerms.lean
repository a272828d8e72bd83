/-
  TEXTS JOINED FOR A CLAIM (MarkTerms): Ptb Pt1 Ptt Put Ppu Nst Mt0. Conditions: none beyond those that each theorem states.
-/
import Derived.Test.YtjiaaefpepdoeaaDoorZ34MarkTerms
import Derived.Test.YtjiaaefpepdoeaaDoorZ35MarkTerms
import Derived.Deep.LoopGhost
import Derived.Test.YtjiaaefpepdoeaaDoorZ33MarkTerms
import Derived.Test.YtjiaaefpepdoeaaDoorZ31MarkTerms
import Derived.Test.YtjiaaefpepdoeaaDoorZ30MarkTerms
namespace Go.Proofs.YtjiaaefpepdoeaaDoor
open Go.RowKit Md Go.Proofs.YtjiaaefpepdoeaaDoorW.PrintWords
open Go.Proofs.YtjiaaefpepdoeaaDoor.PSlideMeans (S26 z26 k26)
set_option linter.unusedVariables false
theorem rd_three {W : World} {g : Nat} {x y z : Int} (hb : W.heap[g]? = some (.cells #[.int .u64 x, .int .u64 y, .int .u64 z] 39 (0, 0))) : Rd W (.slice (some ⟨g, 0, none⟩) 3 3) (uw [x, y, z]) := .inr ⟨g, 0, 3, rfl, by simp [uw], by simp [uw], by decide, (Array.getElem?_eq_some_iff.1 hb).1, fun i hi => by
 have : i = 0 ∨ i = 1 ∨ i = 2 := by simp [uw] at hi; omega
 rcases this with rfl | rfl | rfl
 ·simp [World.cell?, hb]; rfl
 ·simp [World.cell?, hb]; rfl
 ·simp [World.cell?, hb]; rfl⟩
theorem ints_app2 {W : World} {u : Value} {acc : List Int} {x : Int} {g : Nat} (h : Own W 3 u (iw acc)) (hb : W.heap[g]? = some (.cells #[.int .i64 x] 3 (0, 0))) (hlen : acc.length ≤ 1000000) :
  ∃ v' w1, (Builtin.append_ #[55, 55] 55 #[u, .slice (some ⟨g, 0, none⟩) 1 1]).run Tryd.prog W = .ok v' w1 ∧ Own w1 3 v' (iw (acc ++ [x])) ∧ Fr W w1 (fun i => InBlk u i) ∧ ∀ k, InBlk v' k → InBlk u k ∨ W.heap.size ≤ k := by
 obtain ⟨i0, hi, hz0, hz1, hzb⟩ := info_parts intInfo
 have hone : Rd W (.slice (some ⟨g, 0, none⟩) 1 1) (iw [x]) := .inr ⟨g, 0, 1, rfl, by simp [iw], by simp [iw], by decide, (Array.getElem?_eq_some_iff.1 hb).1, fun i hi => by
  have : i = 0 := by simp [iw] at hi; exact hi
  subst this
  simp [World.cell?, hb]; rfl⟩
 obtain ⟨v', w1, hr, ho, hg, hn⟩ := run_append_rd (P := Tryd.prog) W 55 55 3 i0 (.int .i64 0) Tryd.underlying55 hi hz0 hz1 (by omega) rfl _ _ (iw acc) (iw [x]) h hone (oneCell_all [x]) (by rw [iw_length, iw_length]; simp; omega)
 rw [← iw_append] at ho
 exact ⟨v', w1, hr, ho, (Fr.refl W (fun i => InBlk u i)).grown hg (fun k hk _ => hk), hn⟩
set_option maxRecDepth 100000 in
set_option maxHeartbeats 8000000 in
theorem put_bin (d : Nat) (bb : Bool) (f2 : List Int) (nm : ByteArray) (nn : Int) (f5 : List S26) (f6 : List Int) (A2 A5 A6 : Option Addr) (c2 c5 c6 : Nat) (w0 w : World) (b q t s : Nat) (F : Nat → Prop) (ws : List Int) (size : Int) (n : Nat) (hI : PutI (d + 1) ⟨7, bb, f2, nm, nn, f5, f6⟩ [.int .i64 7, .bool bb, .slice A2 f2.length c2, .string nm, .int .i64 nn, .slice A5 f5.length c5, .slice A6 f6.length c6] w0 w F ws size n) (hS : Bst w b q t s F ws size false n) :
  Calls Tryd.prog 34 #[.pointer (some ⟨b, 0, none⟩), .agg #[.int .i64 7, .bool bb, .slice A2 f2.length c2, .string nm, .int .i64 nn, .slice A5 f5.length c5, .slice A6 f6.length c6]] w fun e w' => PutA (d + 1) ⟨7, bb, f2, nm, nn, f5, f6⟩ w w' b q t s F ws size false n e := by
 have hb0 : (w.alloc (.cells #[.int .i64 7, .bool bb, .slice A2 f2.length c2, .string nm, .int .i64 nn, .slice A5 f5.length c5, .slice A6 f6.length c6] 26)).heap[w.heap.size]? = some (.cells #[.int .i64 7, .bool bb, .slice A2 f2.length c2, .string nm, .int .i64 nn, .slice A5 f5.length c5, .slice A6 f6.length c6] 26 (0, 0)) := blk_new _ _ _
 obtain ⟨D, hD⟩ : ∃ D, w.heap.size = D := ⟨_, rfl⟩
 obtain ⟨w1, hw1⟩ : ∃ w1, w.alloc (.cells #[.int .i64 7, .bool bb, .slice A2 f2.length c2, .string nm, .int .i64 nn, .slice A5 f5.length c5, .slice A6 f6.length c6] 26) = w1 := ⟨_, rfl⟩
 have hf1 : Fr w w1 (fun _ => False) := by rw [← hw1]; exact (Fr.refl w _).alloc _
 have HW1 : Hid (w1.heap.size = w.heap.size + 1) := Lib.hid (by rw [← hw1]; simp)
 rw [hw1, hD] at hb0
 obtain ⟨vm, nv, bv, pv, zv, cv, gv, L, B, P, Z, C, G, hB, hFc⟩ := hS
 have HB1 := Lib.hid (hB.fr hf1)
 have HFc := Lib.hid hFc
 have HI := Lib.hid hI
 have HF1 := Lib.hid hf1
 have HD1 := Lib.hid hb0
 have HDs : Hid (D = w.heap.size) := Lib.hid hD.symm
 obtain ⟨b0, b1, b2, b3, b4, bf3, bf4⟩ := (hB.fr hf1).cells
 have k0 : w1.cell? ⟨D, 0, none⟩ = some (.int .i64 7) := by simp [World.cell?, hb0]
 have k1 : w1.cell? ⟨D, 1, none⟩ = some (.bool bb) := by simp [World.cell?, hb0]
 have k2 : w1.cell? ⟨D, 2, none⟩ = some (.slice A2 f2.length c2) := by simp [World.cell?, hb0]
 have k3 : w1.cell? ⟨D, 3, none⟩ = some (.string nm) := by simp [World.cell?, hb0]
 have k4 : w1.cell? ⟨D, 4, none⟩ = some (.int .i64 nn) := by simp [World.cell?, hb0]
 have k5 : w1.cell? ⟨D, 5, none⟩ = some (.slice A5 f5.length c5) := by simp [World.cell?, hb0]
 have k6 : w1.cell? ⟨D, 6, none⟩ = some (.slice A6 f6.length c6) := by simp [World.cell?, hb0]
 clear hb0 hf1 hB hFc hI
 go_enter Tryd.func34, Tryd.ntmps34
 go_upto_region 1 with (fail)
 (try simp only [hw1, hD])
 clear hw1 hD
 have HE : Hid (twM (d + 1) ⟨7, bb, f2, nm, nn, f5, f6⟩ = 4) := Lib.hid (by unfold twM; simp)
 obtain ⟨x2, y2, x5, y5, x6, y6, hcs, _, _, hr6, _⟩ := HI.out.tr
 simp only [List.cons.injEq, Value.slice.injEq, and_true, true_and] at hcs
 obtain ⟨⟨rfl, rfl⟩, ⟨rfl, rfl⟩, rfl, rfl⟩ := hcs
 have q6 : (f6.length : Int) ≤ 4096 := by have := HI.out.may.2.1 rfl; simp only at this; omega
 have HR0 : Hid (Rd w0 (.slice A6 f6.length c6) (nw .u8 f6)) := Lib.hid hr6
 clear hr6
 by_cases h0 : 0 < f6.length
 ·have HP := Lib.hid h0
  have d1 : decide (0 < f6.length) = true := decide_eq_true h0
  have d2 : decide ((0 : Int) < f6.length) = true := decide_eq_true (by omega)
  have HBd1 := Lib.hid (HB1.out.fr ((Fr.refl w1 (fun _ => False)).drew))
  have HFd1 := Lib.hid (HF1.out.trans ((Fr.refl w1 (fun _ => False)).drew))
  have HG : Hid (Calls Tryd.prog 15 #[.pointer (some ⟨s, 0, none⟩), .slice A6 f6.length c6] w1.drew fun e w' => GraA n w1.drew w' s bv pv zv cv 1048576 e) := Lib.hid (grant_c n s bv pv zv cv 1048576 B P Z C f6 A6 c6 w1.drew HBd1.out.st HBd1.out.so (by have := HI.out.hand; rw [HE.out] at this; omega) (HR0.out.keep (HI.out.fr.trans HFd1.out) (fun _ _ h => h)) h0 (by omega) (fun k hk hS => by have h1 := HR0.out.lt (by rw [nw_length]; exact h0) k hk; have h2 := (HI.out.new k (HFc.out k (.inr (.inr (.inr (.inr (.inr (.inl hS)))))))).1; omega) (by omega))
  clear h0
  go_upto_region 28 with (fail)
  go_cut [12, 13] (fun a12 a13 wx => ∃ (r : Int) (ok : Bool) (bv' pv' zv' cv' : Value) (B' P' Z' C' : List Int), a12 = .int .i64 r ∧ a13 = .bool ok ∧ 0 ≤ r ∧ r ≤ 1048576 ∧ Hid (StG wx s bv' pv' zv' cv' 1048576 B' P' Z' C') ∧ Hid (StO (n + 1) B' P' Z' C') ∧ Hid (Fr w1.drew wx (StB s bv pv zv cv)) ∧ Hid (∀ k, StB s bv' pv' zv' cv' k → StB s bv pv zv cv k ∨ w1.drew.heap.size ≤ k))
  case first =>
   (first | (go_region_with (first
    | (go_at_call 15; (with_reducible refine HG.out.mono ?_); rintro e w3 ⟨r, ok, bv', pv', zv', cv', B', P', Z', C', rfl, hr0, hr1, hst, hso, hf, hc⟩; have HST := Lib.hid hst; have HSO := Lib.hid hso; have HF := Lib.hid hf; have HC := Lib.hid hc; clear hst hso hf hc))) | fail)
   all_goals
    go_wp2_with (fail)
    go_meet
    exact ⟨r, ok, bv', pv', zv', cv', B', P', Z', C', rfl, rfl, hr0, hr1, HST, HSO, HF, HC⟩
  case rest =>
   obtain ⟨r, ok, bv', pv', zv', cv', B', P', Z', C', rfl, rfl, hr0, hr1, HST, HSO, HF, HC⟩ := hcut
   have HB3 := Lib.hid (HBd1.out.st' HST.out HSO.out (Nat.le_succ n) HF.out HC.out)
   have HFW : Hid (Fr w wc F) := Lib.hid ((HFd1.out.mono (fun _ h _ => h.elim)).then_ HF.out (fun k hk _ => HFc.out k (.inr (.inr (.inr (.inr (.inr (.inl hk))))))))
   have HCV : Hid (∀ k, BB b q t s vm nv bv' pv' zv' cv' gv k → F k ∨ w.heap.size ≤ k) := Lib.hid (fun k hk => by
    have hs := HF1.out.size
    have hs2 : w1.drew.heap.size = w1.heap.size := rfl
    rcases hk with e | e | e | e | e | e | e
    ·exact .inl (HFc.out k (.inl e))
    ·exact .inl (HFc.out k (.inr (.inl e)))
    ·exact .inl (HFc.out k (.inr (.inr (.inl e))))
    ·exact .inl (HFc.out k (.inr (.inr (.inr (.inl e)))))
    ·exact .inl (HFc.out k (.inr (.inr (.inr (.inr (.inl e))))))
    ·exact (HC.out k e).imp (fun e => HFc.out k (.inr (.inr (.inr (.inr (.inr (.inl e))))))) (fun e => by omega)
    ·exact .inl (HFc.out k (.inr (.inr (.inr (.inr (.inr (.inr e))))))))
   have HDc : Hid (wc.heap[D]? = some (.cells #[.int .i64 7, .bool bb, .slice A2 f2.length c2, .string nm, .int .i64 nn, .slice A5 f5.length c5, .slice A6 f6.length c6] 26 (0, 0))) := Lib.hid (HF.out.blk (w := w1.drew) HD1.out (fun hk => by
    rcases HBd1.out.st.tyk hk with ht | ht | ht
    ·exact Ty.ne (w := w1.drew) ⟨_, HD1.out⟩ ht (by decide) rfl
    ·exact Ty.ne (w := w1.drew) ⟨_, HD1.out⟩ ht (by decide) rfl
    ·exact Ty.ne (w := w1.drew) ⟨_, HD1.out⟩ ht (by decide) rfl))
   have HFB : Hid (F b) := Lib.hid (HFc.out b (.inl rfl))
   have HGL := Lib.hid HBd1.out.gl
   clear HG HBd1 HFd1 HB1 HF1 HD1 HST HSO HF HC d1 d2 b0 b1 b2 b3 b4 bf3 bf4 k0 k1 k2 k3 k4 k5 k6
   obtain ⟨b0, b1, b2, b3, b4, bf3, bf4⟩ := HB3.out.cells
   cases ok with
   | false =>
    have HS4 := Lib.hid (HB3.out.setbad true)
    obtain ⟨w4, hw4⟩ : ∃ W, wc.setCell ⟨b, 3, none⟩ (.bool true) = W := ⟨_, rfl⟩
    rw [hw4] at HS4
    go_wp2
    (try simp only [hw4])
    go_ret
    exact PutA.wrong HS4.out.1 HCV.out (HFW.out.then_ HS4.out.2 (fun k hk _ => by rw [hk]; exact HFB.out)) (by unfold okW; omega) (by rw [HE.out]; push_cast; omega)
   | true =>
    have fb : Fr wc (wc.alloc (.cells #[.int .i64 r] 3)) (fun _ => False) := (Fr.refl wc _).alloc _
    obtain ⟨gv', W1, hrun, ho1, hf1, hn1⟩ := ints_app2 (HB3.out.giv.keep fb (fun _ _ h => h)) (blk_new wc _ _) (by have := HB3.out.gl; have := HI.out.hand; rw [HE.out] at this; omega)
    obtain ⟨Ag, n3, cg, eg⟩ : ∃ Ag n3 cg, gv' = .slice Ag n3 cg := by
     obtain ⟨Ag, cg, e⟩ := ho1.rd.len
     exact ⟨Ag, _, cg, e⟩
    subst eg
    have f1 : Fr wc W1 (fun k => InBlk gv k) := (fb.mono (fun _ h _ => h.elim)).then_ hf1 (fun k hk _ => hk)
    have hb1 := f1.blk HB3.out.blk (fun hk => Ty.ne HB3.out.tb (HB3.out.giv.tyk hk) (by decide) rfl)
    have HSG := Lib.hid (HB3.out.setgiv hb1 ho1 f1 (fun k hk => (hn1 k hk).imp id (fun e => Nat.le_trans fb.size e)) (by have := HGL.out; omega))
    have HN3 : Hid (∀ k, InBlk (.slice Ag n3 cg) k → InBlk gv k ∨ wc.heap.size ≤ k) := Lib.hid (fun k hk => (hn1 k hk).imp id (fun e => Nat.le_trans fb.size e))
    have w1b : W1.frozen? ⟨b, 4, none⟩ = false := by unfold BSc at hb1; simp [World.frozen?, hb1]
    have w1c : W1.cell? ⟨b, 4, none⟩ = some gv := by unfold BSc at hb1; simp [World.cell?, hb1]
    have HRUN := Lib.hid hrun
    clear fb ho1 hf1 hn1 f1 hb1 hrun
    have hrun := HRUN.out
    go_upto_region 33 with (at_builtin; refine Lib.wpList_append_run _ rfl _ _ _ _ rfl _ _ rfl rfl _ W1 hrun ?_)
    obtain ⟨W4, hW4⟩ : ∃ W, W1.setCell ⟨b, 4, none⟩ (.slice Ag n3 cg) = W := ⟨_, rfl⟩
    rw [hW4] at HSG
    (try simp only [hW4])
    clear hW4 hrun w1b w1c b0 b1 b2 b3 b4 bf3 bf4
    have HB4 := Lib.hid HSG.out.1
    have HF4 : Hid (Fr w W4 F) := Lib.hid (HFW.out.then_ HSG.out.2 (fun k hk _ => HFc.out k (hk.elim (fun e => .inl e) (fun e => .inr (.inr (.inr (.inr (.inr (.inr e)))))))))
    have HC4 : Hid (∀ k, BB b q t s vm nv bv' pv' zv' cv' (.slice Ag n3 cg) k → F k ∨ w.heap.size ≤ k) := Lib.hid (fun k hk => by
     have hs := HFW.out.size
     rcases hk with e | e | e | e | e | e | e
     ·exact HCV.out k (.inl e)
     ·exact HCV.out k (.inr (.inl e))
     ·exact HCV.out k (.inr (.inr (.inl e)))
     ·exact HCV.out k (.inr (.inr (.inr (.inl e))))
     ·exact HCV.out k (.inr (.inr (.inr (.inr (.inl e)))))
     ·exact HCV.out k (.inr (.inr (.inr (.inr (.inr (.inl e))))))
     ·exact (HN3.out k e).elim (fun e => HCV.out k (.inr (.inr (.inr (.inr (.inr (.inr e))))))) (fun e => .inr (by omega)))
    have HD4 := Lib.hid (HSG.out.2.blk HDc.out (fun hk => hk.elim (fun e => Ty.ne ⟨_, HDc.out⟩ HB3.out.tb (by decide) e) (fun e => Ty.ne ⟨_, HDc.out⟩ (HB3.out.giv.tyk e) (by decide) rfl)))
    obtain ⟨b0, b1, b2, b3, b4, bf3, bf4⟩ := HB4.out.cells
    have k6 : W4.cell? ⟨D, 6, none⟩ = some (.slice A6 f6.length c6) := by simp [World.cell?, HD4.out]
    have HL6 : Hid ((f6.length : Int) ≤ 4096) := Lib.hid q6
    obtain ⟨M, hM⟩ : ∃ M, makeH ⟨3, 3, 1, false⟩ = M := ⟨_, rfl⟩
    have HM := Lib.hid hM
    have HOB : Hid (∀ g, W4.heap.size ≤ g → ∀ W, Ar 46 W q vm ws size → W.heap[g]? = some (.cells #[.int .u64 r, .int .u64 0, .int .u64 (f6.length : Int)] 39 (0, 0)) → Calls Tryd.prog 65 #[.pointer (some ⟨q, 0, none⟩), .agg #[.int .i64 3, .int .i64 3, .int .i64 1, .bool false], .slice (some ⟨g, 0, none⟩) 3 3] W fun e w' => MobA W w' q vm ws size M [r, 0, (f6.length : Int)] e) := Lib.hid (fun g hg W ha hb => mobj_c q vm ws [r, 0, (f6.length : Int)] size 3 3 1 M false (some ⟨g, 0, none⟩) 3 W ha (rd_three hb) (fun x hx => by
     simp only [List.mem_cons, List.not_mem_nil, or_false] at hx
     rcases hx with rfl | rfl | rfl
     ·unfold okW; omega
     ·unfold okW; omega
     ·unfold okW; omega) HM.out (by have h1 := HI.out.room; rw [HE.out] at h1; simp; omega) (fun k hk hv => by have h1 := only_blk hk; have h2 := HB4.out.lt k (.inr (.inr (.inl hv))); omega))
    have hwr : IntKind.u64.wrap r = r := by rw [IntKind.wrap_u64]; omega
    have hwl : IntKind.u64.wrap (f6.length : Int) = f6.length := by rw [IntKind.wrap_u64]; omega
    have hb9 : ((W4.alloc (.cells #[.int .u64 r, .int .u64 0, .int .u64 (f6.length : Int)] 39)).drew).heap[W4.heap.size]? = some (.cells #[.int .u64 r, .int .u64 0, .int .u64 (f6.length : Int)] 39 (0, 0)) := blk_new W4 _ _
    have f9 : Fr W4 ((W4.alloc (.cells #[.int .u64 r, .int .u64 0, .int .u64 (f6.length : Int)] 39)).drew) (fun _ => False) := ((Fr.refl _ _).alloc _).drew
    have HB9 := Lib.hid (HB4.out.fr f9)
    have HF9 : Hid (Fr w ((W4.alloc (.cells #[.int .u64 r, .int .u64 0, .int .u64 (f6.length : Int)] 39)).drew) F) := Lib.hid (HF4.out.then_ f9 (fun _ h _ => h.elim))
    have HC9 := Lib.hid (HOB.out W4.heap.size (Nat.le_refl _) _ HB9.out.mem hb9)
    have HD9 := Lib.hid (f9.blk HD4.out (fun h => h))
    have t0 := f9.cell b0 (fun h => h)
    have t6 := f9.cell k6 (fun h => h)
    clear hM hb9 f9 HOB
    (first | (go_region_held3 (fun w' => w'.cell? ⟨b, 0, none⟩ = some (.pointer (some ⟨q, 0, none⟩)) ∧ w'.cell? ⟨D, 6, none⟩ = some (.slice A6 f6.length c6))
     (first | exact ⟨s0, s6⟩ | exact ⟨t0, t6⟩ | exact ⟨b0, k6⟩)
     (first | (go_at_call 65; (with_reducible refine HC9.out.mono ?_); rintro e w8 ⟨rfl, vm', har, hf, hn⟩; have s0 := (HB9.out.mem' har hf).cells.1; have HD8 := Lib.hid (hf.blk HD9.out (fun hk => hk.elim (fun e => Ty.ne ⟨_, HD9.out⟩ HB9.out.tq (by decide) e) (fun e => Ty.ne ⟨_, HD9.out⟩ (HB9.out.mem.own.tyk e) (by decide) rfl))); have s6 : w8.cell? ⟨D, 6, none⟩ = some (.slice A6 f6.length c6) := (by simp [World.cell?, HD8.out]); have HAR := Lib.hid har; have HF8 := Lib.hid hf; have HN8 := Lib.hid hn; clear har hf hn))) | fail)
    all_goals
     go_wp2_with (fail)
     go_ret
     have hsz := HF9.out.size
     have hBS := HB9.out.mem' HAR.out HF8.out
     rw [← HM.out] at hBS
     have h46 : F q ∧ ∀ k, InBlk vm k → F k ∨ w.heap.size ≤ k := ⟨HFc.out q (.inr (.inl rfl)), fun k hk => HC4.out k (.inr (.inr (.inl hk)))⟩
     exact PutA.leaf (h := ⟨3, 3, 1, false⟩) (l := [r, 0, (f6.length : Int)]) hBS (fun k hk => by
      rcases hk with e | e | e | e
      ·exact HC4.out k (.inl e)
      ·exact HC4.out k (.inr (.inl e))
      ·exact (HN8.out k e).elim (fun e => HC4.out k (.inr (.inr (.inl e)))) (fun e => .inr (Nat.le_trans hsz e))
      ·exact HC4.out k (.inr (.inr (.inr e)))) (HF9.out.then_ HF8.out (fun k hk hl => hk.elim (fun e => by rw [e]; exact h46.1) (fun e => (h46.2 k e).elim id (fun e => absurd hl (by omega))))) (by rw [HE.out]; omega) (by rw [HE.out]; rfl) (by decide) rfl rfl (by have := HI.out.room; have := HI.out.big; have := twM_nn (d + 1) ⟨7, bb, f2, nm, nn, f5, f6⟩; omega)
 ·have d1 : decide (0 < f6.length) = false := decide_eq_false h0
  have d2 : decide ((0 : Int) < f6.length) = false := decide_eq_false (by omega)
  have q0 : (0 : Int) ≤ 0 := Int.le_refl 0
  have HCV : Hid (∀ k, BB b q t s vm nv bv pv zv cv gv k → F k ∨ w.heap.size ≤ k) := Lib.hid (fun k hk => .inl (HFc.out k hk))
  have HFW : Hid (Fr w w1 F) := Lib.hid (HF1.out.mono (fun _ h _ => h.elim))
  clear h0
  go_upto_region 33 with (fail)
  clear b0 b1 b2 b3 b4 bf3 bf4 k0 k1 k2 k3 k4 k5 k6
  obtain ⟨b0, b1, b2, b3, b4, bf3, bf4⟩ := HB1.out.cells
  have k6 : w1.cell? ⟨D, 6, none⟩ = some (.slice A6 f6.length c6) := by simp [World.cell?, HD1.out]
  have HL6 : Hid ((f6.length : Int) ≤ 4096) := Lib.hid q6
  obtain ⟨M, hM⟩ : ∃ M, makeH ⟨3, 3, 1, false⟩ = M := ⟨_, rfl⟩
  have HM := Lib.hid hM
  have HOB : Hid (∀ g, w1.heap.size ≤ g → ∀ W, Ar 46 W q vm ws size → W.heap[g]? = some (.cells #[.int .u64 0, .int .u64 0, .int .u64 (f6.length : Int)] 39 (0, 0)) → Calls Tryd.prog 65 #[.pointer (some ⟨q, 0, none⟩), .agg #[.int .i64 3, .int .i64 3, .int .i64 1, .bool false], .slice (some ⟨g, 0, none⟩) 3 3] W fun e w' => MobA W w' q vm ws size M [0, 0, (f6.length : Int)] e) := Lib.hid (fun g hg W ha hb => mobj_c q vm ws [0, 0, (f6.length : Int)] size 3 3 1 M false (some ⟨g, 0, none⟩) 3 W ha (rd_three hb) (fun x hx => by
   simp only [List.mem_cons, List.not_mem_nil, or_false] at hx
   rcases hx with rfl | rfl | rfl
   ·unfold okW; omega
   ·unfold okW; omega
   ·unfold okW; omega) HM.out (by have h1 := HI.out.room; rw [HE.out] at h1; simp; omega) (fun k hk hv => by have h1 := only_blk hk; have h2 := HB1.out.lt k (.inr (.inr (.inl hv))); omega))
  have hwr : IntKind.u64.wrap 0 = 0 := by rw [IntKind.wrap_u64]; omega
  have hwl : IntKind.u64.wrap (f6.length : Int) = f6.length := by rw [IntKind.wrap_u64]; omega
  have hb9 : ((w1.alloc (.cells #[.int .u64 0, .int .u64 0, .int .u64 (f6.length : Int)] 39)).drew).heap[w1.heap.size]? = some (.cells #[.int .u64 0, .int .u64 0, .int .u64 (f6.length : Int)] 39 (0, 0)) := blk_new w1 _ _
  have f9 : Fr w1 ((w1.alloc (.cells #[.int .u64 0, .int .u64 0, .int .u64 (f6.length : Int)] 39)).drew) (fun _ => False) := ((Fr.refl _ _).alloc _).drew
  have HB9 := Lib.hid (HB1.out.fr f9)
  have HF9 : Hid (Fr w ((w1.alloc (.cells #[.int .u64 0, .int .u64 0, .int .u64 (f6.length : Int)] 39)).drew) F) := Lib.hid (HFW.out.then_ f9 (fun _ h _ => h.elim))
  have HC9 := Lib.hid (HOB.out w1.heap.size (Nat.le_refl _) _ HB9.out.mem hb9)
  have HD9 := Lib.hid (f9.blk HD1.out (fun h => h))
  have t0 := f9.cell b0 (fun h => h)
  have t6 := f9.cell k6 (fun h => h)
  clear hM hb9 f9 HOB
  (first | (go_region_held3 (fun w' => w'.cell? ⟨b, 0, none⟩ = some (.pointer (some ⟨q, 0, none⟩)) ∧ w'.cell? ⟨D, 6, none⟩ = some (.slice A6 f6.length c6))
   (first | exact ⟨s0, s6⟩ | exact ⟨t0, t6⟩ | exact ⟨b0, k6⟩)
   (first | (go_at_call 65; (with_reducible refine HC9.out.mono ?_); rintro e w8 ⟨rfl, vm', har, hf, hn⟩; have s0 := (HB9.out.mem' har hf).cells.1; have HD8 := Lib.hid (hf.blk HD9.out (fun hk => hk.elim (fun e => Ty.ne ⟨_, HD9.out⟩ HB9.out.tq (by decide) e) (fun e => Ty.ne ⟨_, HD9.out⟩ (HB9.out.mem.own.tyk e) (by decide) rfl))); have s6 : w8.cell? ⟨D, 6, none⟩ = some (.slice A6 f6.length c6) := (by simp [World.cell?, HD8.out]); have HAR := Lib.hid har; have HF8 := Lib.hid hf; have HN8 := Lib.hid hn; clear har hf hn))) | fail)
  all_goals
   go_wp2_with (fail)
   go_ret
   have hsz := HF9.out.size
   have hBS := HB9.out.mem' HAR.out HF8.out
   rw [← HM.out] at hBS
   have h46 : F q ∧ ∀ k, InBlk vm k → F k ∨ w.heap.size ≤ k := ⟨HFc.out q (.inr (.inl rfl)), fun k hk => HCV.out k (.inr (.inr (.inl hk)))⟩
   exact PutA.leaf (h := ⟨3, 3, 1, false⟩) (l := [0, 0, (f6.length : Int)]) hBS (fun k hk => by
    rcases hk with e | e | e | e
    ·exact HCV.out k (.inl e)
    ·exact HCV.out k (.inr (.inl e))
    ·exact (HN8.out k e).elim (fun e => HCV.out k (.inr (.inr (.inl e)))) (fun e => .inr (Nat.le_trans hsz e))
    ·exact HCV.out k (.inr (.inr (.inr e)))) (HF9.out.then_ HF8.out (fun k hk hl => hk.elim (fun e => by rw [e]; exact h46.1) (fun e => (h46.2 k e).elim id (fun e => absurd hl (by omega))))) (by rw [HE.out]; omega) (by rw [HE.out]; rfl) (by decide) rfl rfl (by have := HI.out.room; have := HI.out.big; have := twM_nn (d + 1) ⟨7, bb, f2, nm, nn, f5, f6⟩; omega)
end Go.Proofs.YtjiaaefpepdoeaaDoor
namespace Go.Proofs.YtjiaaefpepdoeaaDoor
open Go.RowKit Md Go.Proofs.YtjiaaefpepdoeaaDoorW.PrintWords
open Go.Proofs.YtjiaaefpepdoeaaDoor.PSlideMeans (S26 z26 k26)
set_option linter.unusedVariables false
def PutC (d : Nat) : Prop := ∀ (x : S26) (A2 A5 A6 : Option Addr) (c2 c5 c6 : Nat) (w0 w : World) (b q t s : Nat) (F : Nat → Prop) (ws : List Int) (size : Int) (bad : Bool) (n : Nat), PutI d x [.int .i64 x.f0, .bool x.f1, .slice A2 x.f2.length c2, .string x.f3, .int .i64 x.f4, .slice A5 x.f5.length c5, .slice A6 x.f6.length c6] w0 w F ws size n → Bst w b q t s F ws size bad n →
 Calls Tryd.prog 34 #[.pointer (some ⟨b, 0, none⟩), .agg #[.int .i64 x.f0, .bool x.f1, .slice A2 x.f2.length c2, .string x.f3, .int .i64 x.f4, .slice A5 x.f5.length c5, .slice A6 x.f6.length c6]] w fun e w' => PutA d x w w' b q t s F ws size bad n e
structure TupI (d : Nat) (f5 : List S26) (w1 wr : World) (b q t s : Nat) (F : Nat → Prop) (ws : List Int) (size : Int) (n i : Nat) (Al : Option Addr) (cl : Nat) (us ext : List Int) (bad : Bool) (ni : Nat) (Fi : Nat → Prop) : Prop where
 st : Bst wr b q t s Fi (ws ++ ext) size bad ni
 fi : ∀ k, Fi k → (F k ∨ w1.heap.size ≤ k) ∧ k < wr.heap.size
 ow : Own wr 39 (.slice Al i cl) (uw us)
 nl : ∀ k, InBlk (.slice Al i cl) k → ¬ Fi k ∧ w1.heap.size ≤ k
 ok : okWs us
 fr : Fr w1 wr F
 ln : us.length = i
 hn : (ni : Int) ≤ n + tws d f5 i
 he : (ext.length : Int) ≤ tws d f5 i
 bl : bad = false → (ext.length : Int) = tws d f5 i ∧ Bl (ws ++ ext) us ws.length (ws ++ ext).length
theorem Bst.fr {w w' : World} {b q t s : Nat} {ws : List Int} {size : Int} {bad : Bool} {n : Nat} {F : Nat → Prop} (h : Bst w b q t s F ws size bad n) (hf : Fr w w' (fun _ => False)) : Bst w' b q t s F ws size bad n := by
 obtain ⟨vm, nv, bv, pv, zv, cv, gv, L, B, P, Z, C, G, h1, h2⟩ := h
 exact ⟨vm, nv, bv, pv, zv, cv, gv, L, B, P, Z, C, G, h1.fr hf, h2⟩
theorem Bst.keep {w w' : World} {b q t s : Nat} {ws : List Int} {size : Int} {bad : Bool} {n : Nat} {F S : Nat → Prop} (h : Bst w b q t s F ws size bad n) (hf : Fr w w' S) (hn : ∀ k, F k → ¬ S k) : Bst w' b q t s F ws size bad n := by
 obtain ⟨vm, nv, bv, pv, zv, cv, gv, L, B, P, Z, C, G, h1, h2⟩ := h
 exact ⟨vm, nv, bv, pv, zv, cv, gv, L, B, P, Z, C, G, h1.keep hf (fun k hk => hn k (h2 k hk)), h2⟩
theorem TupI.step {d : Nat} {f5 : List S26} {w1 wr w7 : World} {b q t s : Nat} {F : Nat → Prop} {ws : List Int} {size : Int} {n i : Nat} {Al : Option Addr} {cl : Nat} {us ext ext' : List Int} {bad bad' : Bool} {ni n' : Nat} {Fi : Nat → Prop} {u : Int}
  (h : TupI d f5 w1 wr b q t s F ws size n i Al cl us ext bad ni Fi) (hi : i < f5.length) (hl : f5.length ≤ 255) (hF : ∀ k, F k → k < w1.heap.size) (hu : okW u) (hst : Bst w7 b q t s (Grw wr w7 Fi) ((ws ++ ext) ++ ext') size bad' n') (hf : Fr wr w7 Fi) (hn : (n' : Int) ≤ ni + twM d (f5.getD i z26)) (he : (ext'.length : Int) ≤ twM d (f5.getD i z26))
  (hb : bad' = false → bad = false ∧ (ext'.length : Int) = twM d (f5.getD i z26) ∧ Bl ((ws ++ ext) ++ ext') [u] (ws ++ ext).length ((ws ++ ext) ++ ext').length) :
  ∃ W1 A1 c1, (Builtin.append_ #[44, 44] 44 #[.slice Al i cl, .slice (some ⟨w7.heap.size, 0, none⟩) 1 1]).run Tryd.prog (w7.alloc (.cells #[.int .u64 u] 39)) = .ok (.slice A1 (i + 1) c1) W1 ∧
   TupI d f5 w1 W1 b q t s F ws size n (i + 1) A1 c1 (us ++ [u]) (ext ++ ext') bad' n' (Grw wr w7 Fi) := by
 have fb : Fr w7 (w7.alloc (.cells #[.int .u64 u] 39)) (fun _ => False) := (Fr.refl w7 _).alloc _
 have hlt : ∀ k, InBlk (.slice Al i cl) k → k < wr.heap.size := fun k hk => h.ow.lt k hk
 have ho7 := h.ow.keep hf (fun k hk => (h.nl k hk).1)
 obtain ⟨v', W1, hrun, ho1, hf1, hn1⟩ := words_app2 (ho7.keep fb (fun _ _ h => h)) (rd_one (M := u) (blk_new w7 _ _)) (by have := h.ln; simp; omega)
 obtain ⟨A1, c1, e3⟩ := ho1.rd.len
 rw [uw_length, List.length_append, h.ln] at e3
 simp only [List.length_cons, List.length_nil, Nat.zero_add] at e3
 subst e3
 have sz1 := hf.size
 have sz2 := fb.size
 have sz3 := hf1.size
 have f71 : Fr w7 W1 (fun k => InBlk (.slice Al i cl) k) := (fb.mono (fun _ h _ => h.elim)).then_ hf1 (fun k hk _ => hk)
 have nG : ∀ k, Grw wr w7 Fi k → ¬ InBlk (.slice Al i cl) k := fun k hk hb => by
  rcases hk with hk | hk
  ·exact (h.nl k hb).1 hk
  ·have := hlt k hb; omega
 refine ⟨W1, A1, c1, hrun, ?_, fun k hk => ?_, ho1, fun k hk => ?_, fun x hx => ?_, ?_, by rw [List.length_append, h.ln]; rfl, ?_, ?_, fun hbd => ?_⟩
 ·rw [← List.append_assoc]; exact hst.keep f71 nG
 ·rcases hk with hk | hk
  ·have := h.fi k hk; exact ⟨this.1, by omega⟩
  ·have := h.fr.size; exact ⟨.inr (by omega), by omega⟩
 ·rcases hn1 k hk with hk1 | hk1
  ·refine ⟨fun hg => nG k hg hk1, (h.nl k hk1).2⟩
  ·have := h.fr.size
   refine ⟨fun hg => ?_, by omega⟩
   have hsz : (w7.alloc (.cells #[.int .u64 u] 39)).heap.size = w7.heap.size + 1 := by simp
   rcases hg with hg | hg
   ·have := (h.fi k hg).2; omega
   ·omega
 ·rcases List.mem_append.1 hx with hx | hx
  ·exact h.ok x hx
  ·simp at hx; rw [hx]; exact hu
 ·refine (h.fr.then_ hf (fun k hk hl => ?_)).then_ f71 (fun k hk hl => ?_)
  ·exact (h.fi k hk).1.elim id (fun e => absurd hl (by omega))
  ·exact absurd hl (by have := (h.nl k hk).2; omega)
 ·rw [tws_succ hi]; have := h.hn; omega
 ·rw [tws_succ hi, List.length_append]; have := h.he; push_cast; omega
 ·obtain ⟨h1, h2, h3⟩ := hb hbd
  obtain ⟨h4, h5⟩ := h.bl h1
  refine ⟨by rw [tws_succ hi, List.length_append]; push_cast; omega, ?_⟩
  rw [← List.append_assoc]
  exact (h5.app ext').app_us h3
theorem trT_child {d : Nat} {x : S26} (hd : Dp (d + 1) x) (hk : x.f0 = 4 ∨ x.f0 = 6) (hb : trT x ≤ 65536) {y : S26} (hy : y ∈ x.f5) : trT y ≤ 65536 := by
 have hs := trT_sum hd hk hb
 have pos : ∀ l : List S26, (∀ x ∈ l, Dp d x) → ∀ x ∈ l, trT x ≤ sumT l := by
  intro l
  induction l with
  | nil => intro _ x hx; simp at hx
  | cons y l ih =>
   intro hl x hx
   have hy := (trT_any (hl y (by simp))).1
   have hn : 0 ≤ sumT l := sum_nn (fun z hz => by
    obtain ⟨u, hu, rfl⟩ := List.mem_map.1 hz
    have := (trT_any (hl u (by simp [hu]))).1
    omega)
   rw [show sumT (y :: l) = trT y + sumT l by simp [sumT]]
   rcases List.mem_cons.1 hx with rfl | hx
   ·omega
   ·have := ih (fun z hz => hl z (by simp [hz])) x hx; omega
 have := pos x.f5 hd y hy
 omega
end Go.Proofs.YtjiaaefpepdoeaaDoor
namespace Go.Proofs.YtjiaaefpepdoeaaDoor
open Go.RowKit Md Go.Proofs.YtjiaaefpepdoeaaDoorW.PrintWords
open Go.Proofs.YtjiaaefpepdoeaaDoor.PSlideMeans (S26 z26 k26)
set_option linter.unusedVariables false
set_option maxRecDepth 100000 in
set_option maxHeartbeats 8000000 in
theorem put_tup (d : Nat) (bb : Bool) (f2 : List Int) (nm : ByteArray) (nn : Int) (f5 : List S26) (f6 : List Int) (A2 A5 A6 : Option Addr) (c2 c5 c6 : Nat) (w0 w : World) (b q t s : Nat) (F : Nat → Prop) (ws : List Int) (size : Int) (n : Nat) (ih : PutC d) (hI : PutI (d + 1) ⟨4, bb, f2, nm, nn, f5, f6⟩ [.int .i64 4, .bool bb, .slice A2 f2.length c2, .string nm, .int .i64 nn, .slice A5 f5.length c5, .slice A6 f6.length c6] w0 w F ws size n) (hS : Bst w b q t s F ws size false n) :
  Calls Tryd.prog 34 #[.pointer (some ⟨b, 0, none⟩), .agg #[.int .i64 4, .bool bb, .slice A2 f2.length c2, .string nm, .int .i64 nn, .slice A5 f5.length c5, .slice A6 f6.length c6]] w fun e w' => PutA (d + 1) ⟨4, bb, f2, nm, nn, f5, f6⟩ w w' b q t s F ws size false n e := by
 have HIH := Lib.hid ih
 have HS0 := Lib.hid hS
 clear ih
 have hb0 : (w.alloc (.cells #[.int .i64 4, .bool bb, .slice A2 f2.length c2, .string nm, .int .i64 nn, .slice A5 f5.length c5, .slice A6 f6.length c6] 26)).heap[w.heap.size]? = some (.cells #[.int .i64 4, .bool bb, .slice A2 f2.length c2, .string nm, .int .i64 nn, .slice A5 f5.length c5, .slice A6 f6.length c6] 26 (0, 0)) := blk_new _ _ _
 obtain ⟨D, hD⟩ : ∃ D, w.heap.size = D := ⟨_, rfl⟩
 obtain ⟨w1, hw1⟩ : ∃ w1, w.alloc (.cells #[.int .i64 4, .bool bb, .slice A2 f2.length c2, .string nm, .int .i64 nn, .slice A5 f5.length c5, .slice A6 f6.length c6] 26) = w1 := ⟨_, rfl⟩
 have hf1 : Fr w w1 (fun _ => False) := by rw [← hw1]; exact (Fr.refl w _).alloc _
 have HW1 : Hid (w1.heap.size = w.heap.size + 1) := Lib.hid (by rw [← hw1]; simp)
 rw [hw1, hD] at hb0
 obtain ⟨vm, nv, bv, pv, zv, cv, gv, L, B, P, Z, C, G, hB, hFc⟩ := hS
 have HB1 := Lib.hid (hB.fr hf1)
 have HFc := Lib.hid hFc
 have HI := Lib.hid hI
 have HF1 := Lib.hid hf1
 have HD1 := Lib.hid hb0
 have HDs : Hid (D = w.heap.size) := Lib.hid hD.symm
 obtain ⟨b0, b1, b2, b3, b4, bf3, bf4⟩ := (hB.fr hf1).cells
 have k0 : w1.cell? ⟨D, 0, none⟩ = some (.int .i64 4) := by simp [World.cell?, hb0]
 have k1 : w1.cell? ⟨D, 1, none⟩ = some (.bool bb) := by simp [World.cell?, hb0]
 have k2 : w1.cell? ⟨D, 2, none⟩ = some (.slice A2 f2.length c2) := by simp [World.cell?, hb0]
 have k3 : w1.cell? ⟨D, 3, none⟩ = some (.string nm) := by simp [World.cell?, hb0]
 have k4 : w1.cell? ⟨D, 4, none⟩ = some (.int .i64 nn) := by simp [World.cell?, hb0]
 have k5 : w1.cell? ⟨D, 5, none⟩ = some (.slice A5 f5.length c5) := by simp [World.cell?, hb0]
 have k6 : w1.cell? ⟨D, 6, none⟩ = some (.slice A6 f6.length c6) := by simp [World.cell?, hb0]
 clear hb0 hf1 hB hFc hI
 go_enter Tryd.func34, Tryd.ntmps34
 go_upto_region 1 with (fail)
 (try simp only [hw1, hD])
 clear hw1 hD
 have HE : Hid (twM (d + 1) ⟨4, bb, f2, nm, nn, f5, f6⟩ = 1 + (f5.length : Int) + tws d f5 f5.length) := Lib.hid (by unfold twM; rw [if_neg (by simp), if_neg (by simp), if_pos (by simp), tws_all])
 have h46 := HI.out.may.2.2 (by simp)
 have HLE : Hid (f5.length ≤ 255) := Lib.hid h46.1
 skip
 have HMX : Hid (∀ y ∈ f5, MayP d y) := Lib.hid h46.2.2
 obtain ⟨x2, y2, x5, y5, x6, y6, hcs, _, _, _, _, _, _, _, hch⟩ := HI.out.tr
 simp only [List.cons.injEq, Value.slice.injEq, and_true, true_and] at hcs
 obtain ⟨⟨rfl, rfl⟩, ⟨rfl, rfl⟩, rfl, rfl⟩ := hcs
 have HCH := Lib.hid hch
 have q5 : (f5.length : Int) ≤ 255 := by have := HLE.out; omega
 have HFN : Hid (∀ k, F k → k < w.heap.size) := Lib.hid (fun k hk => (HI.out.new k hk).2)
 have HSZ1 : Hid (w1.heap.size = w.heap.size + 1 ∧ D < w1.heap.size) := Lib.hid ⟨HW1.out, by have := HW1.out; have := HDs.out; omega⟩
 have HT0 : Hid (TupI d f5 w1 w1 b q t s F ws size n 0 none 0 [] [] false n F) := Lib.hid (by
  have h1 := HF1.out.size
  refine ⟨by rw [List.append_nil]; exact HS0.out.fr HF1.out, fun k hk => ⟨.inl hk, by have := HFN.out k hk; omega⟩, Own.nil _ _, fun k hk => by simp [InBlk, Value.ownBlock] at hk, fun x hx => by simp at hx, Fr.refl _ _, rfl, by rw [tws_zero]; omega, by rw [tws_zero]; simp, fun _ => ⟨by rw [tws_zero]; rfl, by rw [List.append_nil]; exact .nil _⟩⟩)
 clear h46 hch HS0 HB1 HFc
 go_wp2
 go_loopg [14, 15] f5.length (fun g a14 a15 wr => ∃ (i : Nat) (Al : Option Addr) (cl : Nat) (us ext : List Int) (bad' : Bool) (ni : Nat) (Fi : Nat → Prop), a14 = .slice Al i cl ∧ a15 = .int .i64 i ∧ g + i = f5.length ∧ Hid (TupI d f5 w1 wr b q t s F ws size n i Al cl us ext bad' ni Fi))
 case atStart => exact ⟨0, none, 0, [], [], false, n, F, rfl, rfl, by omega, HT0⟩
 case round =>
  clear k0 k1 k2 k3 k4 k5 k6 HT0 b0 b1 b2 b3 b4 bf3 bf4
  obtain ⟨i, Al, cl, us, ext, bad', ni, Fi, rfl, rfl, hgi, HTI⟩ := hrel
  have HGI := Lib.hid hgi
  clear hgi
  have HDr : Hid (wr.heap[D]? = some (.cells #[.int .i64 4, .bool bb, .slice A2 f2.length c2, .string nm, .int .i64 nn, .slice A5 f5.length c5, .slice A6 f6.length c6] 26 (0, 0))) := Lib.hid (HTI.out.fr.blk HD1.out (fun hk => by have := HFN.out D hk; have := HDs.out; omega))
  have k0 : wr.cell? ⟨D, 0, none⟩ = some (.int .i64 4) := by simp [World.cell?, HDr.out]
  have k1 : wr.cell? ⟨D, 1, none⟩ = some (.bool bb) := by simp [World.cell?, HDr.out]
  have k2 : wr.cell? ⟨D, 2, none⟩ = some (.slice A2 f2.length c2) := by simp [World.cell?, HDr.out]
  have k3 : wr.cell? ⟨D, 3, none⟩ = some (.string nm) := by simp [World.cell?, HDr.out]
  have k4 : wr.cell? ⟨D, 4, none⟩ = some (.int .i64 nn) := by simp [World.cell?, HDr.out]
  have k5 : wr.cell? ⟨D, 5, none⟩ = some (.slice A5 f5.length c5) := by simp [World.cell?, HDr.out]
  have k6 : wr.cell? ⟨D, 6, none⟩ = some (.slice A6 f6.length c6) := by simp [World.cell?, HDr.out]
  by_cases hi : i < f5.length
  ·have HIL := Lib.hid hi
   have d1 : decide (i < f5.length) = true := decide_eq_true hi
   have q1 : (i : Int) < f5.length := by omega
   obtain ⟨ga, off, rfl, hel⟩ := HCH.out (by first | omega | (simp only; omega))
   obtain ⟨es, hes, hec, htr⟩ := hel i hi
   have f0r : Fr w0 wr (fun _ => False) := (HI.out.fr.trans HF1.out).then_ HTI.out.fr (fun k hk hl => by have := (HI.out.new k hk).1; omega)
   have hmem : f5.getD i z26 ∈ f5 := by rw [List.getD_eq_getElem?_getD, List.getElem?_eq_getElem hi]; exact List.getElem_mem hi
   have hmy := HMX.out _ hmem
   have htc := trT_child (x := ⟨4, bb, f2, nm, nn, f5, f6⟩) HI.out.tr.dp (by simp) HI.out.tree hmem
   have hst := tws_succ (d := d) hi
   have hle := tws_le d f5 (i + 1)
   have hall := tws_all d f5
   have HSTEP : Hid (∀ (w7 : World) (ext' : List Int) (b7 : Bool) (n' : Nat) (u : Int), okW u → Bst w7 b q t s (Grw wr w7 Fi) ((ws ++ ext) ++ ext') size b7 n' → Fr wr w7 Fi → (n' : Int) ≤ ni + twM d (f5.getD i z26) → (ext'.length : Int) ≤ twM d (f5.getD i z26) → (b7 = false → bad' = false ∧ (ext'.length : Int) = twM d (f5.getD i z26) ∧ Bl ((ws ++ ext) ++ ext') [u] (ws ++ ext).length ((ws ++ ext) ++ ext').length) →
    ∃ W1 A1 c1, (Builtin.append_ #[44, 44] 44 #[.slice Al i cl, .slice (some ⟨w7.heap.size, 0, none⟩) 1 1]).run Tryd.prog (w7.alloc (.cells #[.int .u64 u] 39)) = .ok (.slice A1 (i + 1) c1) W1 ∧ Hid (TupI d f5 w1 W1 b q t s F ws size n (i + 1) A1 c1 (us ++ [u]) (ext ++ ext') b7 n' (Grw wr w7 Fi))) := Lib.hid (fun w7 ext' b7 n' u hu h1 h2 h3 h4 h5 => by
     obtain ⟨W1, A1, c1, hr, ht⟩ := HTI.out.step HIL.out HLE.out (fun k hk => by have := HFN.out k hk; have := HSZ1.out; omega) hu h1 h2 h3 h4 h5
     exact ⟨W1, A1, c1, hr, Lib.hid ht⟩)
   obtain ⟨tm, htm⟩ : ∃ tm, f5.getD i z26 = tm := ⟨_, rfl⟩
   rw [htm] at htr hmy htc hst HSTEP
   obtain ⟨U2, u2, U5, u5, U6, u6, p0, p1, p2, p3, p4, p5, p6, htr2⟩ := TR.elem hes hec htr
   replace p0 := f0r.cell p0 (fun h => h)
   replace p1 := f0r.cell p1 (fun h => h)
   replace p2 := f0r.cell p2 (fun h => h)
   replace p3 := f0r.cell p3 (fun h => h)
   replace p4 := f0r.cell p4 (fun h => h)
   replace p5 := f0r.cell p5 (fun h => h)
   replace p6 := f0r.cell p6 (fun h => h)
   have HCX : Hid (Calls Tryd.prog 34 #[.pointer (some ⟨b, 0, none⟩), .agg #[.int .i64 tm.f0, .bool tm.f1, .slice U2 tm.f2.length u2, .string tm.f3, .int .i64 tm.f4, .slice U5 tm.f5.length u5, .slice U6 tm.f6.length u6]] wr fun e w' => PutA d tm wr w' b q t s Fi (ws ++ ext) size bad' ni e) := Lib.hid (by
    have hr := HI.out.room
    have hh := HI.out.hand
    have hbg := HI.out.big
    have hte := HTI.out.he
    have htn := HTI.out.hn
    rw [HE.out] at hr hh
    refine HIH.out tm U2 U5 U6 u2 u5 u6 w0 wr b q t s Fi (ws ++ ext) size bad' ni ⟨htr2, hmy, htc, HI.out.tabs, f0r, fun k hk => ?_, ?_, HI.out.big, ?_⟩ HTI.out.st
    ·have h1 := HTI.out.fi k hk
     refine ⟨h1.1.elim (fun e => (HI.out.new k e).1) (fun e => ?_), h1.2⟩
     have h2 := HI.out.fr.size
     have h3 := HF1.out.size
     omega
    ·rw [List.length_append]; push_cast; omega
    ·omega)
   clear hi hel hes hec htr f0r hmem hmy htc hst hle hall htr2 htm
   go_wp2_with (first
    | (go_at_call 34; (with_reducible refine HCX.out.mono ?_); rintro e w7 ⟨u, ext', n', b7, rfl, hu, hst, hf, hn, he, hb⟩; obtain ⟨W1, A1, c1, hrun, HT1⟩ := HSTEP.out w7 ext' b7 n' u hu hst hf hn he hb; have HRUN := Lib.hid hrun; clear hu hst hf hn he hb hrun)
    | (at_builtin; refine Lib.wpList_append_run _ rfl _ _ _ _ rfl _ _ rfl rfl _ W1 HRUN.out ?_))
   go_roundg (gk - 1)
   case measure => have := HGI.out; have := HIL.out; omega
   case rel => exact ⟨i + 1, A1, c1, us ++ [u], ext ++ ext', b7, n', _, rfl, by first | rfl | go_num, by have := HGI.out; have := HIL.out; omega, HT1⟩
  ·have hie : i = f5.length := by have := HGI.out; omega
   have d1 : decide (i < f5.length) = false := decide_eq_false hi
   subst hie
   clear hi HGI
   obtain ⟨vm, nv, bv, pv, zv, cv, gv, L, B, P, Z, C, G, hB, hFc⟩ := HTI.out.st
   have HBr := Lib.hid hB
   have HFi := Lib.hid hFc
   obtain ⟨b0, b1, b2, b3, b4, bf3, bf4⟩ := hB.cells
   have HFE : Hid (Fr w wr F) := Lib.hid ((HF1.out.mono (fun _ h _ => h.elim)).then_ HTI.out.fr (fun k hk _ => hk))
   have HGR : Hid (∀ k, Fi k → F k ∨ w.heap.size ≤ k) := Lib.hid (fun k hk => (HTI.out.fi k hk).1.imp id (fun e => by have := HF1.out.size; omega))
   clear hB hFc
   cases bad' with
   | true =>
    go_wp2
    go_ret
    exact ⟨0, ext, ni, true, rfl, by unfold okW; omega, Bst.mk' HBr.out (fun k hk => HGR.out k (HFi.out k hk)), HFE.out, by rw [HE.out]; have := HTI.out.hn; omega, by rw [HE.out]; have := HTI.out.he; omega, fun h => Bool.noConfusion h⟩
   | false =>
    obtain ⟨tr, htr⟩ : ∃ tr, trT ⟨4, bb, f2, nm, nn, f5, f6⟩ = tr := ⟨_, rfl⟩
    have HTR : Hid (TR (d + 1) wr.drew ⟨4, bb, f2, nm, nn, f5, f6⟩ [.int .i64 4, .bool bb, .slice A2 f2.length c2, .string nm, .int .i64 nn, .slice A5 f5.length c5, .slice A6 f6.length c6]) := Lib.hid (HI.out.tr.fr (((HI.out.fr.trans HF1.out).then_ HTI.out.fr (fun k hk hl => by have := (HI.out.new k hk).1; omega)).trans ((Fr.refl wr (fun _ => False)).drew)))
    have HTRB : Hid (1 ≤ tr ∧ tr ≤ 65536) := Lib.hid (by rw [← htr]; exact ⟨(trT_any HI.out.tr.dp).1, HI.out.tree⟩)
    have HTE := Lib.hid htr
    obtain ⟨M, hM⟩ : ∃ M, makeH ⟨1, (f5.length : Int), tr, false⟩ = M := ⟨_, rfl⟩
    have HM := Lib.hid hM
    have HMH : Hid (mayH ⟨1, (f5.length : Int), tr, false⟩ = true) := Lib.hid (by rw [mayH_iff]; have := HLE.out; have := HTRB.out; simp only; omega)
    have HUL := Lib.hid HTI.out.ln
    have HROOM : Hid (((ws ++ ext).length : Int) + 1 + us.length ≤ size) := Lib.hid (by have h1 := HI.out.room; rw [HE.out] at h1; have h2 := HTI.out.he; have h3 := HUL.out; rw [List.length_append]; push_cast; omega)
    have HOD : Hid (Rd wr.drew (.slice Al f5.length cl) (uw us)) := Lib.hid (HTI.out.ow.rd.keep ((Fr.refl wr (fun _ => False)).drew) (fun _ _ h => h))
    have HOB : Hid (∀ W, Ar 46 W q vm (ws ++ ext) size → Rd W (.slice Al f5.length cl) (uw us) → Calls Tryd.prog 65 #[.pointer (some ⟨q, 0, none⟩), .agg #[.int .i64 1, .int .i64 (f5.length : Int), .int .i64 tr, .bool false], .slice Al f5.length cl] W fun e w' => MobA W w' q vm (ws ++ ext) size M us e) := Lib.hid (fun W ha hr => by
     have h := mobj_c q vm (ws ++ ext) us size 1 (us.length : Int) tr M false Al cl W ha (by rw [HUL.out]; exact hr) HTI.out.ok (by rw [HUL.out]; exact HM.out) HROOM.out (fun k hk hv => by rw [HUL.out] at hk; exact (HTI.out.nl k hk).1 (HFi.out k (.inr (.inr (.inl hv)))))
     rw [HUL.out] at h
     exact h)
    have HBd := Lib.hid (HBr.out.fr ((Fr.refl wr (fun _ => False)).drew))
    clear htr hM
    go_upto_region 46 with (fail)
    have HBL := Lib.hid (HTI.out.bl rfl)
    (first | (go_region_held3 (fun w' => w'.cell? ⟨b, 0, none⟩ = some (.pointer (some ⟨q, 0, none⟩)) ∧ w'.cell? ⟨D, 0, none⟩ = some (.int .i64 4) ∧ w'.cell? ⟨D, 1, none⟩ = some (.bool bb) ∧ w'.cell? ⟨D, 2, none⟩ = some (.slice A2 f2.length c2) ∧ w'.cell? ⟨D, 3, none⟩ = some (.string nm) ∧ w'.cell? ⟨D, 4, none⟩ = some (.int .i64 nn) ∧ w'.cell? ⟨D, 5, none⟩ = some (.slice A5 f5.length c5) ∧ w'.cell? ⟨D, 6, none⟩ = some (.slice A6 f6.length c6))
     (first | exact ⟨s0, sk0, sk1, sk2, sk3, sk4, sk5, sk6⟩ | exact ⟨r0, rk0, rk1, rk2, rk3, rk4, rk5, rk6⟩ | exact ⟨b0, k0, k1, k2, k3, k4, k5, k6⟩)
     (first
      | (go_at_call 30; (with_reducible refine (tree_c _ HTR.out).mono ?_); rintro e w6 ⟨rfl, hf⟩; rw [HTE.out]; have HF6 := Lib.hid hf; have HD6 := Lib.hid (hf.blk (w := wr.drew) HDr.out (fun h => h)); have HB6 := Lib.hid (HBd.out.fr hf); have HO6 := Lib.hid (HOD.out.keep hf (fun _ _ h => h)); have r0 := hf.cell (w := wr.drew) (a := ⟨b, 0, none⟩) b0 (fun h => h); have rk0 := hf.cell (w := wr.drew) (a := ⟨D, 0, none⟩) k0 (fun h => h); have rk1 := hf.cell (w := wr.drew) (a := ⟨D, 1, none⟩) k1 (fun h => h); have rk2 := hf.cell (w := wr.drew) (a := ⟨D, 2, none⟩) k2 (fun h => h); have rk3 := hf.cell (w := wr.drew) (a := ⟨D, 3, none⟩) k3 (fun h => h); have rk4 := hf.cell (w := wr.drew) (a := ⟨D, 4, none⟩) k4 (fun h => h); have rk5 := hf.cell (w := wr.drew) (a := ⟨D, 5, none⟩) k5 (fun h => h); have rk6 := hf.cell (w := wr.drew) (a := ⟨D, 6, none⟩) k6 (fun h => h); clear hf)
      | (go_at_call 65; (with_reducible refine (HOB.out _ HB6.out.mem HO6.out).mono ?_); rintro e w8 ⟨rfl, vm', har, hf, hn⟩; have s0 := (HB6.out.mem' har hf).cells.1; have HD8 := Lib.hid (hf.blk HD6.out (fun hk => hk.elim (fun e => Ty.ne ⟨_, HD6.out⟩ HB6.out.tq (by decide) e) (fun e => Ty.ne ⟨_, HD6.out⟩ (HB6.out.mem.own.tyk e) (by decide) rfl))); have sk0 : w8.cell? ⟨D, 0, none⟩ = some (.int .i64 4) := (by simp [World.cell?, HD8.out]); have sk1 : w8.cell? ⟨D, 1, none⟩ = some (.bool bb) := (by simp [World.cell?, HD8.out]); have sk2 : w8.cell? ⟨D, 2, none⟩ = some (.slice A2 f2.length c2) := (by simp [World.cell?, HD8.out]); have sk3 : w8.cell? ⟨D, 3, none⟩ = some (.string nm) := (by simp [World.cell?, HD8.out]); have sk4 : w8.cell? ⟨D, 4, none⟩ = some (.int .i64 nn) := (by simp [World.cell?, HD8.out]); have sk5 : w8.cell? ⟨D, 5, none⟩ = some (.slice A5 f5.length c5) := (by simp [World.cell?, HD8.out]); have sk6 : w8.cell? ⟨D, 6, none⟩ = some (.slice A6 f6.length c6) := (by simp [World.cell?, HD8.out]); have HAR := Lib.hid har; have HF8 := Lib.hid hf; have HN8 := Lib.hid hn; clear har hf hn))) | fail)
    all_goals
     go_wp2_with (fail)
     go_ret
     have hsz := HFE.out.size
     have hsz2 := HF6.out.size
     have hBS := HB6.out.mem' HAR.out HF8.out
     rw [← HM.out] at hBS
     have hfl : fieldsH ⟨1, (f5.length : Int), tr, false⟩ = us.length := by rw [HUL.out]; rfl
     have hput := Bl.put (h := ⟨1, (f5.length : Int), tr, false⟩) (l := us) (ws := ws ++ ext) (a := ws.length) (by rw [hfl, Int.toNat_natCast, List.take_length]; exact HBL.out.2) HMH.out (by rw [HUL.out]) (by rw [hfl, HUL.out]; exact Int.le_refl _) (by have h1 := HROOM.out; have h2 := HI.out.big; omega)
     refine ⟨_, ext ++ makeH ⟨1, (f5.length : Int), tr, false⟩ :: us, ni, false, rfl, okW_ofW _ _, ?_, ?_, by rw [HE.out]; have := HTI.out.hn; omega, ?_, fun _ => ⟨rfl, ?_, ?_⟩⟩
     ·rw [← List.append_assoc]
      exact Bst.mk' hBS (fun k hk => (BB.mem HFi.out HN8.out k hk).elim (fun e => HGR.out k e) (fun e => .inr (by have : wr.drew.heap.size = wr.heap.size := rfl; omega)))
     ·refine ((HFE.out.drew).then_ HF6.out (fun k hk _ => hk.elim)).then_ HF8.out (fun k hk hl => (HGR.out k (HFi.out k (hk.elim (fun e => .inr (.inl e)) (fun e => .inr (.inr (.inl e)))))).elim id (fun e => absurd hl (by omega)))
     ·rw [HE.out, List.length_append, List.length_cons, HUL.out]; have := HTI.out.he; push_cast; omega
     ·rw [HE.out, List.length_append, List.length_cons, HUL.out]; have := HBL.out.1; push_cast; omega
     ·have e2 : ofW 5 ((ws ++ ext).length : Int) = ofW 5 ((ws.length : Int) + ext.length) := by rw [List.length_append]; push_cast; rfl
      rw [← List.append_assoc]
      first | exact hput | (rw [e2] at hput; exact hput)
set_option maxRecDepth 100000 in
set_option maxHeartbeats 8000000 in
theorem put_cons (d : Nat) (bb : Bool) (f2 : List Int) (nm : ByteArray) (nn : Int) (f5 : List S26) (f6 : List Int) (A2 A5 A6 : Option Addr) (c2 c5 c6 : Nat) (w0 w : World) (b q t s : Nat) (F : Nat → Prop) (ws : List Int) (size : Int) (n : Nat) (ih : PutC d) (hI : PutI (d + 1) ⟨6, bb, f2, nm, nn, f5, f6⟩ [.int .i64 6, .bool bb, .slice A2 f2.length c2, .string nm, .int .i64 nn, .slice A5 f5.length c5, .slice A6 f6.length c6] w0 w F ws size n) (hS : Bst w b q t s F ws size false n) :
  Calls Tryd.prog 34 #[.pointer (some ⟨b, 0, none⟩), .agg #[.int .i64 6, .bool bb, .slice A2 f2.length c2, .string nm, .int .i64 nn, .slice A5 f5.length c5, .slice A6 f6.length c6]] w fun e w' => PutA (d + 1) ⟨6, bb, f2, nm, nn, f5, f6⟩ w w' b q t s F ws size false n e := by
 have HIH := Lib.hid ih
 have HS0 := Lib.hid hS
 clear ih
 have hb0 : (w.alloc (.cells #[.int .i64 6, .bool bb, .slice A2 f2.length c2, .string nm, .int .i64 nn, .slice A5 f5.length c5, .slice A6 f6.length c6] 26)).heap[w.heap.size]? = some (.cells #[.int .i64 6, .bool bb, .slice A2 f2.length c2, .string nm, .int .i64 nn, .slice A5 f5.length c5, .slice A6 f6.length c6] 26 (0, 0)) := blk_new _ _ _
 obtain ⟨D, hD⟩ : ∃ D, w.heap.size = D := ⟨_, rfl⟩
 obtain ⟨w1, hw1⟩ : ∃ w1, w.alloc (.cells #[.int .i64 6, .bool bb, .slice A2 f2.length c2, .string nm, .int .i64 nn, .slice A5 f5.length c5, .slice A6 f6.length c6] 26) = w1 := ⟨_, rfl⟩
 have hf1 : Fr w w1 (fun _ => False) := by rw [← hw1]; exact (Fr.refl w _).alloc _
 have HW1 : Hid (w1.heap.size = w.heap.size + 1) := Lib.hid (by rw [← hw1]; simp)
 rw [hw1, hD] at hb0
 obtain ⟨vm, nv, bv, pv, zv, cv, gv, L, B, P, Z, C, G, hB, hFc⟩ := hS
 have HB1 := Lib.hid (hB.fr hf1)
 have HFc := Lib.hid hFc
 have HI := Lib.hid hI
 have HF1 := Lib.hid hf1
 have HD1 := Lib.hid hb0
 have HDs : Hid (D = w.heap.size) := Lib.hid hD.symm
 obtain ⟨b0, b1, b2, b3, b4, bf3, bf4⟩ := (hB.fr hf1).cells
 have k0 : w1.cell? ⟨D, 0, none⟩ = some (.int .i64 6) := by simp [World.cell?, hb0]
 have k1 : w1.cell? ⟨D, 1, none⟩ = some (.bool bb) := by simp [World.cell?, hb0]
 have k2 : w1.cell? ⟨D, 2, none⟩ = some (.slice A2 f2.length c2) := by simp [World.cell?, hb0]
 have k3 : w1.cell? ⟨D, 3, none⟩ = some (.string nm) := by simp [World.cell?, hb0]
 have k4 : w1.cell? ⟨D, 4, none⟩ = some (.int .i64 nn) := by simp [World.cell?, hb0]
 have k5 : w1.cell? ⟨D, 5, none⟩ = some (.slice A5 f5.length c5) := by simp [World.cell?, hb0]
 have k6 : w1.cell? ⟨D, 6, none⟩ = some (.slice A6 f6.length c6) := by simp [World.cell?, hb0]
 clear hb0 hf1 hB hFc hI
 go_enter Tryd.func34, Tryd.ntmps34
 go_upto_region 1 with (fail)
 (try simp only [hw1, hD])
 clear hw1 hD
 have HE : Hid (twM (d + 1) ⟨6, bb, f2, nm, nn, f5, f6⟩ = 1 + (f5.length : Int) + tws d f5 f5.length) := Lib.hid (by unfold twM; rw [if_neg (by simp), if_neg (by simp), if_pos (by simp), tws_all])
 have h46 := HI.out.may.2.2 (by simp)
 have HLE : Hid (f5.length ≤ 255) := Lib.hid h46.1
 have HL2 : Hid (f5.length = 2) := Lib.hid (h46.2.1 rfl)
 have HMX : Hid (∀ y ∈ f5, MayP d y) := Lib.hid h46.2.2
 obtain ⟨x2, y2, x5, y5, x6, y6, hcs, _, _, _, _, _, _, _, hch⟩ := HI.out.tr
 simp only [List.cons.injEq, Value.slice.injEq, and_true, true_and] at hcs
 obtain ⟨⟨rfl, rfl⟩, ⟨rfl, rfl⟩, rfl, rfl⟩ := hcs
 have HCH := Lib.hid hch
 have q5 : (f5.length : Int) ≤ 255 := by have := HLE.out; omega
 have HFN : Hid (∀ k, F k → k < w.heap.size) := Lib.hid (fun k hk => (HI.out.new k hk).2)
 have HSZ1 : Hid (w1.heap.size = w.heap.size + 1 ∧ D < w1.heap.size) := Lib.hid ⟨HW1.out, by have := HW1.out; have := HDs.out; omega⟩
 have HT0 : Hid (TupI d f5 w1 w1 b q t s F ws size n 0 none 0 [] [] false n F) := Lib.hid (by
  have h1 := HF1.out.size
  refine ⟨by rw [List.append_nil]; exact HS0.out.fr HF1.out, fun k hk => ⟨.inl hk, by have := HFN.out k hk; omega⟩, Own.nil _ _, fun k hk => by simp [InBlk, Value.ownBlock] at hk, fun x hx => by simp at hx, Fr.refl _ _, rfl, by rw [tws_zero]; omega, by rw [tws_zero]; simp, fun _ => ⟨by rw [tws_zero]; rfl, by rw [List.append_nil]; exact .nil _⟩⟩)
 clear h46 hch HS0 HB1 HFc
 go_wp2
 go_loopg [14, 15] f5.length (fun g a14 a15 wr => ∃ (i : Nat) (Al : Option Addr) (cl : Nat) (us ext : List Int) (bad' : Bool) (ni : Nat) (Fi : Nat → Prop), a14 = .slice Al i cl ∧ a15 = .int .i64 i ∧ g + i = f5.length ∧ Hid (TupI d f5 w1 wr b q t s F ws size n i Al cl us ext bad' ni Fi))
 case atStart => exact ⟨0, none, 0, [], [], false, n, F, rfl, rfl, by omega, HT0⟩
 case round =>
  clear k0 k1 k2 k3 k4 k5 k6 HT0 b0 b1 b2 b3 b4 bf3 bf4
  obtain ⟨i, Al, cl, us, ext, bad', ni, Fi, rfl, rfl, hgi, HTI⟩ := hrel
  have HGI := Lib.hid hgi
  clear hgi
  have HDr : Hid (wr.heap[D]? = some (.cells #[.int .i64 6, .bool bb, .slice A2 f2.length c2, .string nm, .int .i64 nn, .slice A5 f5.length c5, .slice A6 f6.length c6] 26 (0, 0))) := Lib.hid (HTI.out.fr.blk HD1.out (fun hk => by have := HFN.out D hk; have := HDs.out; omega))
  have k0 : wr.cell? ⟨D, 0, none⟩ = some (.int .i64 6) := by simp [World.cell?, HDr.out]
  have k1 : wr.cell? ⟨D, 1, none⟩ = some (.bool bb) := by simp [World.cell?, HDr.out]
  have k2 : wr.cell? ⟨D, 2, none⟩ = some (.slice A2 f2.length c2) := by simp [World.cell?, HDr.out]
  have k3 : wr.cell? ⟨D, 3, none⟩ = some (.string nm) := by simp [World.cell?, HDr.out]
  have k4 : wr.cell? ⟨D, 4, none⟩ = some (.int .i64 nn) := by simp [World.cell?, HDr.out]
  have k5 : wr.cell? ⟨D, 5, none⟩ = some (.slice A5 f5.length c5) := by simp [World.cell?, HDr.out]
  have k6 : wr.cell? ⟨D, 6, none⟩ = some (.slice A6 f6.length c6) := by simp [World.cell?, HDr.out]
  by_cases hi : i < f5.length
  ·have HIL := Lib.hid hi
   have d1 : decide (i < f5.length) = true := decide_eq_true hi
   have q1 : (i : Int) < f5.length := by omega
   obtain ⟨ga, off, rfl, hel⟩ := HCH.out (by first | omega | (simp only; omega))
   obtain ⟨es, hes, hec, htr⟩ := hel i hi
   have f0r : Fr w0 wr (fun _ => False) := (HI.out.fr.trans HF1.out).then_ HTI.out.fr (fun k hk hl => by have := (HI.out.new k hk).1; omega)
   have hmem : f5.getD i z26 ∈ f5 := by rw [List.getD_eq_getElem?_getD, List.getElem?_eq_getElem hi]; exact List.getElem_mem hi
   have hmy := HMX.out _ hmem
   have htc := trT_child (x := ⟨6, bb, f2, nm, nn, f5, f6⟩) HI.out.tr.dp (by simp) HI.out.tree hmem
   have hst := tws_succ (d := d) hi
   have hle := tws_le d f5 (i + 1)
   have hall := tws_all d f5
   have HSTEP : Hid (∀ (w7 : World) (ext' : List Int) (b7 : Bool) (n' : Nat) (u : Int), okW u → Bst w7 b q t s (Grw wr w7 Fi) ((ws ++ ext) ++ ext') size b7 n' → Fr wr w7 Fi → (n' : Int) ≤ ni + twM d (f5.getD i z26) → (ext'.length : Int) ≤ twM d (f5.getD i z26) → (b7 = false → bad' = false ∧ (ext'.length : Int) = twM d (f5.getD i z26) ∧ Bl ((ws ++ ext) ++ ext') [u] (ws ++ ext).length ((ws ++ ext) ++ ext').length) →
    ∃ W1 A1 c1, (Builtin.append_ #[44, 44] 44 #[.slice Al i cl, .slice (some ⟨w7.heap.size, 0, none⟩) 1 1]).run Tryd.prog (w7.alloc (.cells #[.int .u64 u] 39)) = .ok (.slice A1 (i + 1) c1) W1 ∧ Hid (TupI d f5 w1 W1 b q t s F ws size n (i + 1) A1 c1 (us ++ [u]) (ext ++ ext') b7 n' (Grw wr w7 Fi))) := Lib.hid (fun w7 ext' b7 n' u hu h1 h2 h3 h4 h5 => by
     obtain ⟨W1, A1, c1, hr, ht⟩ := HTI.out.step HIL.out HLE.out (fun k hk => by have := HFN.out k hk; have := HSZ1.out; omega) hu h1 h2 h3 h4 h5
     exact ⟨W1, A1, c1, hr, Lib.hid ht⟩)
   obtain ⟨tm, htm⟩ : ∃ tm, f5.getD i z26 = tm := ⟨_, rfl⟩
   rw [htm] at htr hmy htc hst HSTEP
   obtain ⟨U2, u2, U5, u5, U6, u6, p0, p1, p2, p3, p4, p5, p6, htr2⟩ := TR.elem hes hec htr
   replace p0 := f0r.cell p0 (fun h => h)
   replace p1 := f0r.cell p1 (fun h => h)
   replace p2 := f0r.cell p2 (fun h => h)
   replace p3 := f0r.cell p3 (fun h => h)
   replace p4 := f0r.cell p4 (fun h => h)
   replace p5 := f0r.cell p5 (fun h => h)
   replace p6 := f0r.cell p6 (fun h => h)
   have HCX : Hid (Calls Tryd.prog 34 #[.pointer (some ⟨b, 0, none⟩), .agg #[.int .i64 tm.f0, .bool tm.f1, .slice U2 tm.f2.length u2, .string tm.f3, .int .i64 tm.f4, .slice U5 tm.f5.length u5, .slice U6 tm.f6.length u6]] wr fun e w' => PutA d tm wr w' b q t s Fi (ws ++ ext) size bad' ni e) := Lib.hid (by
    have hr := HI.out.room
    have hh := HI.out.hand
    have hbg := HI.out.big
    have hte := HTI.out.he
    have htn := HTI.out.hn
    rw [HE.out] at hr hh
    refine HIH.out tm U2 U5 U6 u2 u5 u6 w0 wr b q t s Fi (ws ++ ext) size bad' ni ⟨htr2, hmy, htc, HI.out.tabs, f0r, fun k hk => ?_, ?_, HI.out.big, ?_⟩ HTI.out.st
    ·have h1 := HTI.out.fi k hk
     refine ⟨h1.1.elim (fun e => (HI.out.new k e).1) (fun e => ?_), h1.2⟩
     have h2 := HI.out.fr.size
     have h3 := HF1.out.size
     omega
    ·rw [List.length_append]; push_cast; omega
    ·omega)
   clear hi hel hes hec htr f0r hmem hmy htc hst hle hall htr2 htm
   go_wp2_with (first
    | (go_at_call 34; (with_reducible refine HCX.out.mono ?_); rintro e w7 ⟨u, ext', n', b7, rfl, hu, hst, hf, hn, he, hb⟩; obtain ⟨W1, A1, c1, hrun, HT1⟩ := HSTEP.out w7 ext' b7 n' u hu hst hf hn he hb; have HRUN := Lib.hid hrun; clear hu hst hf hn he hb hrun)
    | (at_builtin; refine Lib.wpList_append_run _ rfl _ _ _ _ rfl _ _ rfl rfl _ W1 HRUN.out ?_))
   go_roundg (gk - 1)
   case measure => have := HGI.out; have := HIL.out; omega
   case rel => exact ⟨i + 1, A1, c1, us ++ [u], ext ++ ext', b7, n', _, rfl, by first | rfl | go_num, by have := HGI.out; have := HIL.out; omega, HT1⟩
  ·have hie : i = f5.length := by have := HGI.out; omega
   have d1 : decide (i < f5.length) = false := decide_eq_false hi
   subst hie
   clear hi HGI
   obtain ⟨vm, nv, bv, pv, zv, cv, gv, L, B, P, Z, C, G, hB, hFc⟩ := HTI.out.st
   have HBr := Lib.hid hB
   have HFi := Lib.hid hFc
   obtain ⟨b0, b1, b2, b3, b4, bf3, bf4⟩ := hB.cells
   have HFE : Hid (Fr w wr F) := Lib.hid ((HF1.out.mono (fun _ h _ => h.elim)).then_ HTI.out.fr (fun k hk _ => hk))
   have HGR : Hid (∀ k, Fi k → F k ∨ w.heap.size ≤ k) := Lib.hid (fun k hk => (HTI.out.fi k hk).1.imp id (fun e => by have := HF1.out.size; omega))
   clear hB hFc
   cases bad' with
   | true =>
    go_wp2
    go_ret
    exact ⟨0, ext, ni, true, rfl, by unfold okW; omega, Bst.mk' HBr.out (fun k hk => HGR.out k (HFi.out k hk)), HFE.out, by rw [HE.out]; have := HTI.out.hn; omega, by rw [HE.out]; have := HTI.out.he; omega, fun h => Bool.noConfusion h⟩
   | false =>
    obtain ⟨tr, htr⟩ : ∃ tr, trT ⟨6, bb, f2, nm, nn, f5, f6⟩ = tr := ⟨_, rfl⟩
    have HTR : Hid (TR (d + 1) wr.drew ⟨6, bb, f2, nm, nn, f5, f6⟩ [.int .i64 6, .bool bb, .slice A2 f2.length c2, .string nm, .int .i64 nn, .slice A5 f5.length c5, .slice A6 f6.length c6]) := Lib.hid (HI.out.tr.fr (((HI.out.fr.trans HF1.out).then_ HTI.out.fr (fun k hk hl => by have := (HI.out.new k hk).1; omega)).trans ((Fr.refl wr (fun _ => False)).drew)))
    have HTRB : Hid (1 ≤ tr ∧ tr ≤ 65536) := Lib.hid (by rw [← htr]; exact ⟨(trT_any HI.out.tr.dp).1, HI.out.tree⟩)
    have HTE := Lib.hid htr
    obtain ⟨M, hM⟩ : ∃ M, makeH ⟨0, (f5.length : Int), tr, false⟩ = M := ⟨_, rfl⟩
    have HM := Lib.hid hM
    have HMH : Hid (mayH ⟨0, (f5.length : Int), tr, false⟩ = true) := Lib.hid (by rw [mayH_iff]; have := HLE.out; have := HTRB.out; simp only; omega)
    have HUL := Lib.hid HTI.out.ln
    have HROOM : Hid (((ws ++ ext).length : Int) + 1 + us.length ≤ size) := Lib.hid (by have h1 := HI.out.room; rw [HE.out] at h1; have h2 := HTI.out.he; have h3 := HUL.out; rw [List.length_append]; push_cast; omega)
    have HOD : Hid (Rd wr.drew (.slice Al f5.length cl) (uw us)) := Lib.hid (HTI.out.ow.rd.keep ((Fr.refl wr (fun _ => False)).drew) (fun _ _ h => h))
    have HOB : Hid (∀ W, Ar 46 W q vm (ws ++ ext) size → Rd W (.slice Al f5.length cl) (uw us) → Calls Tryd.prog 65 #[.pointer (some ⟨q, 0, none⟩), .agg #[.int .i64 0, .int .i64 (f5.length : Int), .int .i64 tr, .bool false], .slice Al f5.length cl] W fun e w' => MobA W w' q vm (ws ++ ext) size M us e) := Lib.hid (fun W ha hr => by
     have h := mobj_c q vm (ws ++ ext) us size 0 (us.length : Int) tr M false Al cl W ha (by rw [HUL.out]; exact hr) HTI.out.ok (by rw [HUL.out]; exact HM.out) HROOM.out (fun k hk hv => by rw [HUL.out] at hk; exact (HTI.out.nl k hk).1 (HFi.out k (.inr (.inr (.inl hv)))))
     rw [HUL.out] at h
     exact h)
    have HBd := Lib.hid (HBr.out.fr ((Fr.refl wr (fun _ => False)).drew))
    clear htr hM
    go_upto_region 46 with (fail)
    have HBL := Lib.hid (HTI.out.bl rfl)
    (first | (go_region_held3 (fun w' => w'.cell? ⟨b, 0, none⟩ = some (.pointer (some ⟨q, 0, none⟩)) ∧ w'.cell? ⟨D, 0, none⟩ = some (.int .i64 6) ∧ w'.cell? ⟨D, 1, none⟩ = some (.bool bb) ∧ w'.cell? ⟨D, 2, none⟩ = some (.slice A2 f2.length c2) ∧ w'.cell? ⟨D, 3, none⟩ = some (.string nm) ∧ w'.cell? ⟨D, 4, none⟩ = some (.int .i64 nn) ∧ w'.cell? ⟨D, 5, none⟩ = some (.slice A5 f5.length c5) ∧ w'.cell? ⟨D, 6, none⟩ = some (.slice A6 f6.length c6))
     (first | exact ⟨s0, sk0, sk1, sk2, sk3, sk4, sk5, sk6⟩ | exact ⟨r0, rk0, rk1, rk2, rk3, rk4, rk5, rk6⟩ | exact ⟨b0, k0, k1, k2, k3, k4, k5, k6⟩)
     (first
      | (go_at_call 30; (with_reducible refine (tree_c _ HTR.out).mono ?_); rintro e w6 ⟨rfl, hf⟩; rw [HTE.out]; have HF6 := Lib.hid hf; have HD6 := Lib.hid (hf.blk (w := wr.drew) HDr.out (fun h => h)); have HB6 := Lib.hid (HBd.out.fr hf); have HO6 := Lib.hid (HOD.out.keep hf (fun _ _ h => h)); have r0 := hf.cell (w := wr.drew) (a := ⟨b, 0, none⟩) b0 (fun h => h); have rk0 := hf.cell (w := wr.drew) (a := ⟨D, 0, none⟩) k0 (fun h => h); have rk1 := hf.cell (w := wr.drew) (a := ⟨D, 1, none⟩) k1 (fun h => h); have rk2 := hf.cell (w := wr.drew) (a := ⟨D, 2, none⟩) k2 (fun h => h); have rk3 := hf.cell (w := wr.drew) (a := ⟨D, 3, none⟩) k3 (fun h => h); have rk4 := hf.cell (w := wr.drew) (a := ⟨D, 4, none⟩) k4 (fun h => h); have rk5 := hf.cell (w := wr.drew) (a := ⟨D, 5, none⟩) k5 (fun h => h); have rk6 := hf.cell (w := wr.drew) (a := ⟨D, 6, none⟩) k6 (fun h => h); clear hf)
      | (go_at_call 65; (with_reducible refine (HOB.out _ HB6.out.mem HO6.out).mono ?_); rintro e w8 ⟨rfl, vm', har, hf, hn⟩; have s0 := (HB6.out.mem' har hf).cells.1; have HD8 := Lib.hid (hf.blk HD6.out (fun hk => hk.elim (fun e => Ty.ne ⟨_, HD6.out⟩ HB6.out.tq (by decide) e) (fun e => Ty.ne ⟨_, HD6.out⟩ (HB6.out.mem.own.tyk e) (by decide) rfl))); have sk0 : w8.cell? ⟨D, 0, none⟩ = some (.int .i64 6) := (by simp [World.cell?, HD8.out]); have sk1 : w8.cell? ⟨D, 1, none⟩ = some (.bool bb) := (by simp [World.cell?, HD8.out]); have sk2 : w8.cell? ⟨D, 2, none⟩ = some (.slice A2 f2.length c2) := (by simp [World.cell?, HD8.out]); have sk3 : w8.cell? ⟨D, 3, none⟩ = some (.string nm) := (by simp [World.cell?, HD8.out]); have sk4 : w8.cell? ⟨D, 4, none⟩ = some (.int .i64 nn) := (by simp [World.cell?, HD8.out]); have sk5 : w8.cell? ⟨D, 5, none⟩ = some (.slice A5 f5.length c5) := (by simp [World.cell?, HD8.out]); have sk6 : w8.cell? ⟨D, 6, none⟩ = some (.slice A6 f6.length c6) := (by simp [World.cell?, HD8.out]); have HAR := Lib.hid har; have HF8 := Lib.hid hf; have HN8 := Lib.hid hn; clear har hf hn))) | fail)
    all_goals
     go_wp2_with (fail)
     go_ret
     have hsz := HFE.out.size
     have hsz2 := HF6.out.size
     have hBS := HB6.out.mem' HAR.out HF8.out
     rw [← HM.out] at hBS
     have hfl : fieldsH ⟨0, (f5.length : Int), tr, false⟩ = us.length := by rw [HUL.out]; rw [HL2.out]; rfl
     have hput := Bl.put (h := ⟨0, (f5.length : Int), tr, false⟩) (l := us) (ws := ws ++ ext) (a := ws.length) (by rw [hfl, Int.toNat_natCast, List.take_length]; exact HBL.out.2) HMH.out (by rw [HUL.out]) (by rw [hfl, HUL.out]; exact Int.le_refl _) (by have h1 := HROOM.out; have h2 := HI.out.big; omega)
     refine ⟨_, ext ++ makeH ⟨0, (f5.length : Int), tr, false⟩ :: us, ni, false, rfl, okW_ofW _ _, ?_, ?_, by rw [HE.out]; have := HTI.out.hn; omega, ?_, fun _ => ⟨rfl, ?_, ?_⟩⟩
     ·rw [← List.append_assoc]
      exact Bst.mk' hBS (fun k hk => (BB.mem HFi.out HN8.out k hk).elim (fun e => HGR.out k e) (fun e => .inr (by have : wr.drew.heap.size = wr.heap.size := rfl; omega)))
     ·refine ((HFE.out.drew).then_ HF6.out (fun k hk _ => hk.elim)).then_ HF8.out (fun k hk hl => (HGR.out k (HFi.out k (hk.elim (fun e => .inr (.inl e)) (fun e => .inr (.inr (.inl e)))))).elim id (fun e => absurd hl (by omega)))
     ·rw [HE.out, List.length_append, List.length_cons, HUL.out]; have := HTI.out.he; push_cast; omega
     ·rw [HE.out, List.length_append, List.length_cons, HUL.out]; have := HBL.out.1; push_cast; omega
     ·have e2 : ofW 5 ((ws ++ ext).length : Int) = ofW 5 ((ws.length : Int) + ext.length) := by rw [List.length_append]; push_cast; rfl
      rw [← List.append_assoc]
      first | exact hput | (rw [e2] at hput; exact hput)
end Go.Proofs.YtjiaaefpepdoeaaDoor
namespace Go.Proofs.YtjiaaefpepdoeaaDoor
open Go.RowKit Md Go.Proofs.YtjiaaefpepdoeaaDoorW.PrintWords
open Go.Proofs.YtjiaaefpepdoeaaDoor.PSlideMeans (S26 z26 k26)
set_option linter.unusedVariables false
theorem put_c : ∀ d, PutC d
 | 0 => fun x A2 A5 A6 c2 c5 c6 w0 w b q t s F ws size bad n hI hS => hI.tr.elim
 | d + 1 => fun x A2 A5 A6 c2 c5 c6 w0 w b q t s F ws size bad n hI hS => by
  obtain ⟨k, bb, f2, nm, nn, f5, f6⟩ := x
  cases bad with
  | true => exact put_wrong d bb f2 nm nn f5 f6 A2 A5 A6 c2 c5 c6 w0 w b q t s F ws size n k hI hS
  | false =>
   by_cases h0 : k = 0
   ·subst h0; exact put_int d bb f2 nm nn f5 f6 A2 A5 A6 c2 c5 c6 w0 w b q t s F ws size n hI hS
   by_cases h1 : k = 1
   ·subst h1; exact put_atom d bb f2 nm nn f5 f6 A2 A5 A6 c2 c5 c6 w0 w b q t s F ws size n hI hS
   by_cases h2 : k = 2
   ·subst h2; exact put_ref d bb f2 nm nn f5 f6 A2 A5 A6 c2 c5 c6 w0 w b q t s F ws size n hI hS
   by_cases h3 : k = 3
   ·subst h3; exact put_pid d bb f2 nm nn f5 f6 A2 A5 A6 c2 c5 c6 w0 w b q t s F ws size n hI hS
   by_cases h4 : k = 4
   ·subst h4; exact put_tup d bb f2 nm nn f5 f6 A2 A5 A6 c2 c5 c6 w0 w b q t s F ws size n (put_c d) hI hS
   by_cases h6 : k = 6
   ·subst h6; exact put_cons d bb f2 nm nn f5 f6 A2 A5 A6 c2 c5 c6 w0 w b q t s F ws size n (put_c d) hI hS
   by_cases h7 : k = 7
   ·subst h7; exact put_bin d bb f2 nm nn f5 f6 A2 A5 A6 c2 c5 c6 w0 w b q t s F ws size n hI hS
   exact put_nil d bb f2 nm nn f5 f6 A2 A5 A6 c2 c5 c6 w0 w b q t s F ws size n k h0 h1 h2 h3 h4 h6 h7 hI hS
end Go.Proofs.YtjiaaefpepdoeaaDoor
namespace Go.Proofs.YtjiaaefpepdoeaaDoor
open Go.RowKit Md Go.Proofs.YtjiaaefpepdoeaaDoorW.PrintWords
open Go.Proofs.YtjiaaefpepdoeaaDoor.PSlideMeans (S26 z26 k26)
set_option linter.unusedVariables false
structure MSt (w : World) (q t s : Nat) (vm nv bv pv zv cv : Value) (ws : List Int) (size : Int) (L : List ByteArray) (B P Z C : List Int) (n : Nat) : Prop where
 mem : Ar 46 w q vm ws size
 nam : Nb w t nv L
 st : StG w s bv pv zv cv 1048576 B P Z C
 so : StO n B P Z C
def MBk (q t s : Nat) (vm nv bv pv zv cv : Value) (k : Nat) : Prop := k = q ∨ InBlk vm k ∨ k = t ∨ InBlk nv k ∨ StB s bv pv zv cv k
theorem MSt.fr {w w' : World} {q t s : Nat} {vm nv bv pv zv cv : Value} {ws : List Int} {size : Int} {L : List ByteArray} {B P Z C : List Int} {n : Nat} (h : MSt w q t s vm nv bv pv zv cv ws size L B P Z C n) (hf : Fr w w' (fun _ => False)) : MSt w' q t s vm nv bv pv zv cv ws size L B P Z C n := ⟨h.mem.fr hf, h.nam.fr hf, h.st.fr hf, h.so⟩
theorem MSt.lt {w : World} {q t s : Nat} {vm nv bv pv zv cv : Value} {ws : List Int} {size : Int} {L : List ByteArray} {B P Z C : List Int} {n : Nat} (h : MSt w q t s vm nv bv pv zv cv ws size L B P Z C n) : ∀ k, MBk q t s vm nv bv pv zv cv k → k < w.heap.size := fun k hk => by
 rcases hk with rfl | hk | rfl | hk | hk
 ·exact h.mem.lt
 ·exact h.mem.own.lt k hk
 ·exact h.nam.lt
 ·exact h.nam.own.lt k hk
 ·exact h.st.lt k hk
theorem BS.ms {w : World} {b q t s : Nat} {vm nv bv pv zv cv gv : Value} {ws : List Int} {size : Int} {bad : Bool} {L : List ByteArray} {B P Z C G : List Int} {n : Nat} (h : BS w b q t s vm nv bv pv zv cv gv ws size bad L B P Z C G n) : MSt w q t s vm nv bv pv zv cv ws size L B P Z C n := ⟨h.mem, h.nam, h.st, h.so⟩
def Mst (w : World) (q t s : Nat) (F : Nat → Prop) (ws : List Int) (size : Int) (n : Nat) : Prop :=
 ∃ vm nv bv pv zv cv L B P Z C, MSt w q t s vm nv bv pv zv cv ws size L B P Z C n ∧ ∀ k, MBk q t s vm nv bv pv zv cv k → F k
theorem Mst.mk' {w w' : World} {q t s : Nat} {vm nv bv pv zv cv : Value} {ws : List Int} {size : Int} {L : List ByteArray} {B P Z C : List Int} {n : Nat} {F : Nat → Prop} (h : MSt w' q t s vm nv bv pv zv cv ws size L B P Z C n) (hc : ∀ k, MBk q t s vm nv bv pv zv cv k → F k ∨ w.heap.size ≤ k) : Mst w' q t s (Grw w w' F) ws size n :=
 ⟨vm, nv, bv, pv, zv, cv, L, B, P, Z, C, h, fun k hk => (hc k hk).imp id (fun e => ⟨e, h.lt k hk⟩)⟩
def PutT (d : Nat) (x : S26) (w w' : World) (q t s : Nat) (F : Nat → Prop) (ws : List Int) (size : Int) (n : Nat) (e : Ending) : Prop :=
 ∃ u er ws' n', e = .returned (.tuple #[.int .u64 u, .int .i64 er]) ∧ okW u ∧ Mst w' q t s (Grw w w' F) ws' size n' ∧ Fr w w' F ∧ (n' : Int) ≤ n + twM d x ∧ (er = 0 → ∃ ext, ws' = ws ++ ext ∧ (ext.length : Int) = twM d x ∧ Bl ws' [u] ws.length ws'.length)
theorem Ar.cut1 {T : TypeId} {w : World} {p : Nat} {v v' : Value} {ws : List Int} {size : Int} (h : Ar T w p v ws size) (n : Nat) (hn : n ≤ ws.length)
  (hv : (v = .slice none 0 0 ∧ v' = .slice none 0 0) ∨ ∃ g cap, v = .slice (some ⟨g, 0, none⟩) ws.length cap ∧ v' = .slice (some ⟨g, 0, none⟩) n cap) :
  Ar T (w.setCell ⟨p, 0, none⟩ v') p v' (ws.take n) size ∧ Fr w (w.setCell ⟨p, 0, none⟩ v') (fun i => i = p) ∧ ∀ k, InBlk v' k → InBlk v k := by
 have hf : Fr w (w.setCell ⟨p, 0, none⟩ v') (fun i => i = p) := Fr.setCell (S := fun i => i = p) (a := ⟨p, 0, none⟩) (Fr.refl w _) (fun _ => rfl) _
 have hle := h.le
 have hin : ∀ k, InBlk v' k → InBlk v k := by
  intro k hk
  rcases hv with ⟨rfl, rfl⟩ | ⟨g, cap, rfl, rfl⟩
  ·exact hk
  ·simpa [InBlk, Value.ownBlock] using hk
 refine ⟨⟨blk_put (cs := #[v, .int .i64 size]) h.blk 0 _ rfl, ?_, by rw [take_len ws n hn]; omega, h.mx, fun x hx => h.ok x (List.mem_of_mem_take hx), h.ty⟩, hf, hin⟩
 have ho := h.own
 refine Own.keep (w := w) ?_ hf (fun i hi => h.ne i (hin i hi))
 rcases hv with ⟨rfl, rfl⟩ | ⟨g, cap, rfl, rfl⟩
 ·rcases ho.2 with ⟨_, hz⟩ | ⟨g, cap, cur, hv, _⟩
  ·have : ws = [] := List.eq_nil_of_length_eq_zero (by simpa [uw] using hz)
   subst this
   simpa [uw] using Own.nil w 39
  ·cases hv
 ·rcases ho.2 with ⟨hv, _⟩ | ⟨g', cap', cur, hv, hb, hg, hl, hm, hs, ht⟩
  ·cases hv
  ·injection hv with e1 e2 e3
   injection e1 with e1
   injection e1 with e1
   subst e1
   subst e3
   have hlen : (uw (ws.take n)).length = n := by rw [uw_length, take_len ws n hn]
   refine ⟨by omega, .inr ⟨g, cap, cur, by rw [hlen], Nat.zero_le _, hg, by rw [hlen]; rw [uw_length] at hl; omega, hm, by simpa using hs, ?_⟩⟩
   rw [hlen, Nat.mul_one]
   rw [Nat.mul_one, uw_length] at ht
   have e4 : cur.toList.take n = (cur.toList.take ws.length).take n := by rw [List.take_take, Nat.min_eq_left hn]
   rw [e4, ht]
   simp [uw]
set_option maxRecDepth 100000 in
set_option maxHeartbeats 16000000 in
theorem pput_s (d : Nat) (k : Int) (bb : Bool) (f2 : List Int) (nm : ByteArray) (nn : Int) (f5 : List S26) (f6 : List Int) (A2 A5 A6 : Option Addr) (c2 c5 c6 : Nat) (w0 w : World) (q t s : Nat) (F : Nat → Prop) (ws : List Int) (size : Int) (n : Nat)
  (htr : TR d w0 ⟨k, bb, f2, nm, nn, f5, f6⟩ [.int .i64 k, .bool bb, .slice A2 f2.length c2, .string nm, .int .i64 nn, .slice A5 f5.length c5, .slice A6 f6.length c6]) (hT : Tabs w0) (hfr : Fr w0 w (fun _ => False)) (hnew : ∀ k, F k → w0.heap.size ≤ k ∧ k < w.heap.size) (hbig : size ≤ 2000) (hand : (n : Int) + twM d ⟨k, bb, f2, nm, nn, f5, f6⟩ ≤ 2000) (hS : Mst w q t s F ws size n) (hla : twM d ⟨k, bb, f2, nm, nn, f5, f6⟩ ≤ 1099511627776) :
  Calls Tryd.prog 10 #[.pointer (some ⟨q, 0, none⟩), .pointer (some ⟨t, 0, none⟩), .agg #[.int .i64 k, .bool bb, .slice A2 f2.length c2, .string nm, .int .i64 nn, .slice A5 f5.length c5, .slice A6 f6.length c6], .pointer (some ⟨s, 0, none⟩)] w fun e w' => PutT d ⟨k, bb, f2, nm, nn, f5, f6⟩ w w' q t s F ws size n e := by
 obtain ⟨vm, nv, bv, pv, zv, cv, L, B, P, Z, C, hM, hFc⟩ := hS
 have hb0 : (w.alloc (.cells #[.int .i64 k, .bool bb, .slice A2 f2.length c2, .string nm, .int .i64 nn, .slice A5 f5.length c5, .slice A6 f6.length c6] 26)).heap[w.heap.size]? = some (.cells #[.int .i64 k, .bool bb, .slice A2 f2.length c2, .string nm, .int .i64 nn, .slice A5 f5.length c5, .slice A6 f6.length c6] 26 (0, 0)) := blk_new _ _ _
 obtain ⟨D, hD⟩ : ∃ D, w.heap.size = D := ⟨_, rfl⟩
 obtain ⟨w1, hw1⟩ : ∃ w1, w.alloc (.cells #[.int .i64 k, .bool bb, .slice A2 f2.length c2, .string nm, .int .i64 nn, .slice A5 f5.length c5, .slice A6 f6.length c6] 26) = w1 := ⟨_, rfl⟩
 have hf1 : Fr w w1 (fun _ => False) := by rw [← hw1]; exact (Fr.refl w _).alloc _
 rw [hw1, hD] at hb0
 have HM0 := Lib.hid hM
 have HM1 := Lib.hid (hM.fr hf1)
 have HFc := Lib.hid hFc
 have HF1 := Lib.hid hf1
 have HD1 := Lib.hid hb0
 have HDs : Hid (D = w.heap.size) := Lib.hid hD.symm
 have HTR := Lib.hid htr
 have HT := Lib.hid hT
 have HFR := Lib.hid hfr
 have HNEW := Lib.hid hnew
 have HAND := Lib.hid hand
 have HLA := Lib.hid hla
 obtain ⟨Av, cvv, rfl⟩ := hM.mem.val
 have HTR1 := Lib.hid (htr.fr (hfr.trans hf1))
 have HT1 := Lib.hid (hT.below (hfr.trans hf1).below)
 obtain ⟨tw, htw⟩ : ∃ tw, twM d ⟨k, bb, f2, nm, nn, f5, f6⟩ = tw := ⟨_, rfl⟩
 have HTW := Lib.hid htw
 have HTN : Hid (0 ≤ tw) := Lib.hid (by rw [← htw]; exact twM_nn _ _)
 have hq0 := (hM.fr hf1).mem.c0
 have hq1 := (hM.fr hf1).mem.c1
 have qw : (ws.length : Int) ≤ size := hM.mem.le
 have qs : size ≤ 2000 := hbig
 have k0 : w1.cell? ⟨D, 0, none⟩ = some (.int .i64 k) := by simp [World.cell?, hb0]
 have k1 : w1.cell? ⟨D, 1, none⟩ = some (.bool bb) := by simp [World.cell?, hb0]
 have k2 : w1.cell? ⟨D, 2, none⟩ = some (.slice A2 f2.length c2) := by simp [World.cell?, hb0]
 have k3 : w1.cell? ⟨D, 3, none⟩ = some (.string nm) := by simp [World.cell?, hb0]
 have k4 : w1.cell? ⟨D, 4, none⟩ = some (.int .i64 nn) := by simp [World.cell?, hb0]
 have k5 : w1.cell? ⟨D, 5, none⟩ = some (.slice A5 f5.length c5) := by simp [World.cell?, hb0]
 have k6 : w1.cell? ⟨D, 6, none⟩ = some (.slice A6 f6.length c6) := by simp [World.cell?, hb0]
 clear hb0 hf1 hM hFc htr hT hfr hnew hand hla htw hbig
 go_enter Tryd.func10, Tryd.ntmps10
 go_upto_if 16 with (first
  | ((try simp only [hw1, hD]); go_at_call 6; (with_reducible refine (mayt_c d ⟨k, bb, f2, nm, nn, f5, f6⟩ A2 A5 A6 c2 c5 c6 _ HT1.out HTR1.out).mono ?_); rintro e w2 ⟨⟨r, rfl, hr⟩, hf⟩; have HR := Lib.hid hr; have HF2 := Lib.hid (HF1.out.trans hf); have HM2 := Lib.hid (HM1.out.fr hf); have HD2 := Lib.hid (hf.blk HD1.out (fun h => h)); have HTR2 := Lib.hid (HTR1.out.fr hf); clear hr hf))
 (try simp only [hw1, hD])
 clear hw1 hD hq0 hq1 k0 k1 k2 k3 k4 k5 k6
 cases r with
 | false =>
  go_wp2
  go_ret2
  exact ⟨0, 1, ws, n, rfl, by unfold okW; omega, Mst.mk' HM2.out (fun k hk => .inl (HFc.out k hk)), HF2.out.mono (fun _ h _ => h.elim), by rw [HTW.out]; have := HTN.out; omega, fun h => by omega⟩
 | true =>
  have HMAY : Hid (MayP d ⟨k, bb, f2, nm, nn, f5, f6⟩ ∧ trT ⟨k, bb, f2, nm, nn, f5, f6⟩ ≤ 65536) := Lib.hid (HR.out (by trivial))
  have hq0 := HM2.out.mem.c0
  have hq1 := HM2.out.mem.c1
  have k0 : w2.cell? ⟨D, 0, none⟩ = some (.int .i64 k) := by simp [World.cell?, HD2.out]
  have k1 : w2.cell? ⟨D, 1, none⟩ = some (.bool bb) := by simp [World.cell?, HD2.out]
  have k2 : w2.cell? ⟨D, 2, none⟩ = some (.slice A2 f2.length c2) := by simp [World.cell?, HD2.out]
  have k3 : w2.cell? ⟨D, 3, none⟩ = some (.string nm) := by simp [World.cell?, HD2.out]
  have k4 : w2.cell? ⟨D, 4, none⟩ = some (.int .i64 nn) := by simp [World.cell?, HD2.out]
  have k5 : w2.cell? ⟨D, 5, none⟩ = some (.slice A5 f5.length c5) := by simp [World.cell?, HD2.out]
  have k6 : w2.cell? ⟨D, 6, none⟩ = some (.slice A6 f6.length c6) := by simp [World.cell?, HD2.out]
  have HWD : Hid (∀ W, TR d W ⟨k, bb, f2, nm, nn, f5, f6⟩ [.int .i64 k, .bool bb, .slice A2 f2.length c2, .string nm, .int .i64 nn, .slice A5 f5.length c5, .slice A6 f6.length c6] → Calls Tryd.prog 7 #[.agg #[.int .i64 k, .bool bb, .slice A2 f2.length c2, .string nm, .int .i64 nn, .slice A5 f5.length c5, .slice A6 f6.length c6]] W fun e w' => e = .returned (.int .i64 tw) ∧ Fr W w' (fun _ => False)) := Lib.hid (fun W h => by rw [← HTW.out]; exact wdsT_c d ⟨k, bb, f2, nm, nn, f5, f6⟩ A2 A5 A6 c2 c5 c6 W h HMAY.out.1 HLA.out)
  obtain ⟨ov, hov⟩ : ∃ ov, decide (size - ws.length < tw) = ov := ⟨_, rfl⟩
  have HOV := Lib.hid hov
  have HTRd := Lib.hid (HTR2.out.fr ((Fr.refl w2 (fun _ => False)).drew))
  go_upto_region 3 with (fail)
  go_cut [29] (fun a29 wx => a29 = .bool ov ∧ Hid (Fr w2 wx (fun _ => False)))
  case first =>
   have hww : IntKind.i64.wrap (size - (ws.length : Int)) = size - ws.length := IntWalk.i64_in _ (by omega)
   (first | (go_region_held3 (fun w' => w'.cell? ⟨q, 0, none⟩ = some (.slice Av ws.length cvv) ∧ w'.cell? ⟨q, 1, none⟩ = some (.int .i64 size) ∧ w'.cell? ⟨D, 0, none⟩ = some (.int .i64 k) ∧ w'.cell? ⟨D, 1, none⟩ = some (.bool bb) ∧ w'.cell? ⟨D, 2, none⟩ = some (.slice A2 f2.length c2) ∧ w'.cell? ⟨D, 3, none⟩ = some (.string nm) ∧ w'.cell? ⟨D, 4, none⟩ = some (.int .i64 nn) ∧ w'.cell? ⟨D, 5, none⟩ = some (.slice A5 f5.length c5) ∧ w'.cell? ⟨D, 6, none⟩ = some (.slice A6 f6.length c6))
    (first | exact ⟨r0, r1, rk0, rk1, rk2, rk3, rk4, rk5, rk6⟩ | exact ⟨hq0, hq1, k0, k1, k2, k3, k4, k5, k6⟩)
    (first | (go_at_call 7; (with_reducible refine (HWD.out _ HTRd.out).mono ?_); rintro e w6 ⟨rfl, hf⟩; have HF6 := Lib.hid hf; have r0 := hf.cell (w := w2.drew) (a := ⟨q, 0, none⟩) hq0 (fun h => h); have r1 := hf.cell (w := w2.drew) (a := ⟨q, 1, none⟩) hq1 (fun h => h); have rk0 := hf.cell (w := w2.drew) (a := ⟨D, 0, none⟩) k0 (fun h => h); have rk1 := hf.cell (w := w2.drew) (a := ⟨D, 1, none⟩) k1 (fun h => h); have rk2 := hf.cell (w := w2.drew) (a := ⟨D, 2, none⟩) k2 (fun h => h); have rk3 := hf.cell (w := w2.drew) (a := ⟨D, 3, none⟩) k3 (fun h => h); have rk4 := hf.cell (w := w2.drew) (a := ⟨D, 4, none⟩) k4 (fun h => h); have rk5 := hf.cell (w := w2.drew) (a := ⟨D, 5, none⟩) k5 (fun h => h); have rk6 := hf.cell (w := w2.drew) (a := ⟨D, 6, none⟩) k6 (fun h => h); clear hf))) | fail)
   all_goals
    go_wp2_with (fail)
    go_meet
    exact ⟨by rw [← HOV.out], Lib.hid (((Fr.refl w2 (fun _ => False)).drew).trans HF6.out)⟩
  case rest =>
   obtain ⟨rfl, HC⟩ := hcut
   have HM3 := Lib.hid (HM2.out.fr HC.out)
   have HF3 := Lib.hid (HF2.out.trans HC.out)
   have HD3 := Lib.hid (HC.out.blk HD2.out (fun h => h))
   clear hov hq0 hq1 k0 k1 k2 k3 k4 k5 k6 HM1 HM2 HTR1 HTR2 HTRd HWD HD1 HD2
   cases ov with
   | true =>
    go_wp2
    go_ret2
    exact ⟨0, 6, ws, n, rfl, by unfold okW; omega, Mst.mk' HM3.out (fun k hk => .inl (HFc.out k hk)), HF3.out.mono (fun _ h _ => h.elim), by rw [HTW.out]; have := HTN.out; omega, fun h => by omega⟩
   | false =>
    have HROOM : Hid ((ws.length : Int) + tw ≤ size) := Lib.hid (by have := of_decide_eq_false HOV.out; omega)
    have hq0 := HM3.out.mem.c0
    have hq1 := HM3.out.mem.c1
    have k0 : wc.cell? ⟨D, 0, none⟩ = some (.int .i64 k) := by simp [World.cell?, HD3.out]
    have k1 : wc.cell? ⟨D, 1, none⟩ = some (.bool bb) := by simp [World.cell?, HD3.out]
    have k2 : wc.cell? ⟨D, 2, none⟩ = some (.slice A2 f2.length c2) := by simp [World.cell?, HD3.out]
    have k3 : wc.cell? ⟨D, 3, none⟩ = some (.string nm) := by simp [World.cell?, HD3.out]
    have k4 : wc.cell? ⟨D, 4, none⟩ = some (.int .i64 nn) := by simp [World.cell?, HD3.out]
    have k5 : wc.cell? ⟨D, 5, none⟩ = some (.slice A5 f5.length c5) := by simp [World.cell?, HD3.out]
    have k6 : wc.cell? ⟨D, 6, none⟩ = some (.slice A6 f6.length c6) := by simp [World.cell?, HD3.out]
    go_upto_region 6 with (fail)
    have hb4 : (wc.alloc (.cells #[.pointer (some ⟨q, 0, none⟩), .pointer (some ⟨t, 0, none⟩), .pointer (some ⟨s, 0, none⟩), .bool false, .slice none 0 0] 82)).heap[wc.heap.size]? = some (.cells (BSc q t s false (.slice none 0 0)) 82 (0, 0)) := blk_new wc _ _
    obtain ⟨b, hbn⟩ : ∃ b, wc.heap.size = b := ⟨_, rfl⟩
    obtain ⟨w4, hw4⟩ : ∃ W, wc.alloc (.cells #[.pointer (some ⟨q, 0, none⟩), .pointer (some ⟨t, 0, none⟩), .pointer (some ⟨s, 0, none⟩), .bool false, .slice none 0 0] 82) = W := ⟨_, rfl⟩
    have f4 : Fr wc w4 (fun _ => False) := by rw [← hw4]; exact (Fr.refl wc _).alloc _
    have HSZ4 : Hid (w4.heap.size = b + 1) := Lib.hid (by rw [← hw4, ← hbn]; simp)
    rw [hw4, hbn] at hb4
    have HM4 := Lib.hid (HM3.out.fr f4)
    have HF4 := Lib.hid (HF3.out.trans f4)
    have HD4 := Lib.hid (f4.blk HD3.out (fun h => h))
    have HBS : Hid (BS w4 b q t s (.slice Av ws.length cvv) nv bv pv zv cv (.slice none 0 0) ws size false L B P Z C [] n) := Lib.hid ⟨hb4, HM4.out.mem, HM4.out.nam, HM4.out.st, HM4.out.so, Own.nil _ _, Nat.zero_le _, fun k hk => by simp [InBlk, Value.ownBlock] at hk⟩
    have HBb : Hid (w.heap.size ≤ b) := Lib.hid (by rw [← hbn]; exact HF3.out.size)
    have HPC : Hid (Calls Tryd.prog 34 #[.pointer (some ⟨b, 0, none⟩), .agg #[.int .i64 k, .bool bb, .slice A2 f2.length c2, .string nm, .int .i64 nn, .slice A5 f5.length c5, .slice A6 f6.length c6]] w4 fun e w' => PutA d ⟨k, bb, f2, nm, nn, f5, f6⟩ w4 w' b q t s (fun k => F k ∨ k = b) ws size false n e) := Lib.hid (put_c d ⟨k, bb, f2, nm, nn, f5, f6⟩ A2 A5 A6 c2 c5 c6 w0 w4 b q t s (fun k => F k ∨ k = b) ws size false n ⟨HTR.out, HMAY.out.1, HMAY.out.2, HT.out, HFR.out.trans HF4.out, fun k hk => by
      have h1 := HF4.out.size
      have h2 := HFR.out.size
      have h3 := HBb.out
      have h4 := HSZ4.out
      rcases hk with hk | hk
      ·have := HNEW.out k hk; omega
      ·subst hk; omega, by rw [HTW.out]; exact HROOM.out, qs, HAND.out⟩ ⟨_, _, _, _, _, _, _, _, _, _, _, _, _, HBS.out, fun k hk => by
      rcases hk with e | e | e | e | e | e | e
      ·exact .inr e
      ·exact .inl (HFc.out k (.inl e))
      ·exact .inl (HFc.out k (.inr (.inl e)))
      ·exact .inl (HFc.out k (.inr (.inr (.inl e))))
      ·exact .inl (HFc.out k (.inr (.inr (.inr (.inl e)))))
      ·exact .inl (HFc.out k (.inr (.inr (.inr (.inr e)))))
      ·simp [InBlk, Value.ownBlock] at e⟩)
    clear hb4 f4 hq0 hq1 k0 k1 k2 k3 k4 k5 k6 HM3 HD3
    have hq0 := HM4.out.mem.c0
    have k0 : w4.cell? ⟨D, 0, none⟩ = some (.int .i64 k) := by simp [World.cell?, HD4.out]
    have k1 : w4.cell? ⟨D, 1, none⟩ = some (.bool bb) := by simp [World.cell?, HD4.out]
    have k2 : w4.cell? ⟨D, 2, none⟩ = some (.slice A2 f2.length c2) := by simp [World.cell?, HD4.out]
    have k3 : w4.cell? ⟨D, 3, none⟩ = some (.string nm) := by simp [World.cell?, HD4.out]
    have k4 : w4.cell? ⟨D, 4, none⟩ = some (.int .i64 nn) := by simp [World.cell?, HD4.out]
    have k5 : w4.cell? ⟨D, 5, none⟩ = some (.slice A5 f5.length c5) := by simp [World.cell?, HD4.out]
    have k6 : w4.cell? ⟨D, 6, none⟩ = some (.slice A6 f6.length c6) := by simp [World.cell?, HD4.out]
    (try simp only [hw4, hbn])
    clear hw4 hbn
    go_upto_region 8 with (first
     | (go_at_call 34; (with_reducible refine HPC.out.mono ?_); rintro e w5 ⟨u, ext, n', bad', rfl, hu, hst, hf, hn, he, hb⟩; have HU := Lib.hid hu; have HST := Lib.hid hst; have HF5 := Lib.hid hf; have HN5 := Lib.hid hn; have HBL := Lib.hid hb; clear hu hst hf hn he hb))
    obtain ⟨vm5, nv5, bv5, pv5, zv5, cv5, gv5, L5, B5, P5, Z5, C5, G5, hB5, hF5⟩ := HST.out
    have HB5 := Lib.hid hB5
    have HC5 : Hid (∀ k, MBk q t s vm5 nv5 bv5 pv5 zv5 cv5 k → F k ∨ w.heap.size ≤ k) := Lib.hid (fun k hk => by
     have hs := HF4.out.size
     have h0 : Grw w4 w5 (fun k => F k ∨ k = b) k := hF5 k (by
      rcases hk with e | e | e | e | e
      ·exact .inr (.inl e)
      ·exact .inr (.inr (.inl e))
      ·exact .inr (.inr (.inr (.inl e)))
      ·exact .inr (.inr (.inr (.inr (.inl e))))
      ·exact .inr (.inr (.inr (.inr (.inr (.inl e))))))
     rcases h0 with (h0 | h0) | h0
     ·exact .inl h0
     ·right; rw [h0]; exact HBb.out
     ·right; omega)
    have HFW : Hid (Fr w w5 F) := Lib.hid ((HF4.out.mono (fun _ h _ => h.elim)).then_ HF5.out (fun k hk hl => hk.elim id (fun e => by have := HBb.out; omega)))
    obtain ⟨b0, b1, b2, b3, b4, bf3, bf4⟩ := hB5.cells
    clear hB5 hF5 hq0 k0 k1 k2 k3 k4 k5 k6
    cases bad' with
    | false =>
     go_wp2
     go_ret2
     exact ⟨u, 0, ws ++ ext, n', rfl, HU.out, Mst.mk' HB5.out.ms HC5.out, HFW.out, HN5.out, fun _ => ⟨ext, rfl, (HBL.out (by trivial)).2.1, (HBL.out (by trivial)).2.2⟩⟩
    | true =>
     have HFQ : Hid (F q ∧ F s ∧ ∀ k, InBlk (.slice Av ws.length cvv) k → F k) := Lib.hid ⟨HFc.out q (.inl rfl), HFc.out s (.inr (.inr (.inr (.inr (.inl rfl))))), fun k hk => HFc.out k (.inr (.inl hk))⟩
     clear HPC HBS HM4 HD4 HST HF5
     have hq0 := HB5.out.mem.c0
     have hqf := HB5.out.mem.fz 0
     go_upto_region 9 with (fail)
     go_cut [53] (fun a53 wx => ∃ vm6, Hid (BS wx b q t s vm6 nv5 bv5 pv5 zv5 cv5 gv5 ws size true L5 B5 P5 Z5 C5 G5 n') ∧ Hid (Fr w5 wx (fun k => k = q)) ∧ Hid (∀ k, InBlk vm6 k → InBlk vm5 k))
     case first =>
      have etk : (ws ++ ext).take ws.length = ws := List.take_left
      rcases HB5.out.mem.form with ⟨hv, hz⟩ | ⟨g, cap, hv, hl, hm, _⟩
      ·obtain ⟨hz1, hz2⟩ := List.append_eq_nil_iff.1 hz
       have HQ := Lib.hid (HB5.out.mem.cut1 ws.length (by simp) (.inl ⟨hv, rfl⟩))
       rw [etk] at HQ
       have HB6 := Lib.hid (HB5.out.mem' HQ.out.1 (HQ.out.2.1.mono (fun k hk _ => .inl hk)))
       have hl0 : ws.length = 0 := by rw [hz1]; rfl
       rw [hv] at hq0
       clear hz hz1 hz2 etk
       go_wp2
       go_meet
       exact ⟨_, HB6, Lib.hid HQ.out.2.1, Lib.hid HQ.out.2.2⟩
      ·have HQ := Lib.hid (HB5.out.mem.cut1 ws.length (by simp) (.inr ⟨g, cap, hv, rfl⟩))
       rw [etk] at HQ
       have HB6 := Lib.hid (HB5.out.mem' HQ.out.1 (HQ.out.2.1.mono (fun k hk _ => .inl hk)))
       rw [hv] at hq0
       have hncap : ws.length ≤ cap := by rw [List.length_append] at hl; omega
       have hncap' : (ws.length : Int) ≤ (cap : Int) := by omega
       have hcap : cap ≤ 9223372036854775807 := hm
       clear hl hm etk
       go_wp2
       go_meet
       exact ⟨_, HB6, Lib.hid HQ.out.2.1, Lib.hid HQ.out.2.2⟩
     case rest =>
      obtain ⟨vm6, HB6, HF6, HV6⟩ := hcut
      have hgf := HB6.out.giv.rd.len
      obtain ⟨Ag, cg, rfl⟩ := hgf
      rw [iw_length] at HB6
      have hgl := HB6.out.gl
      have qgl : (G5.length : Int) ≤ 2000 := by have h1 := HN5.out; rw [HTW.out] at h1; have h2 := HAND.out; rw [HTW.out] at h2; omega
      have HCC : Hid (∀ k, StB s bv5 pv5 zv5 cv5 k → F k ∨ w.heap.size ≤ k) := Lib.hid (fun k hk => HC5.out k (.inr (.inr (.inr (.inr hk)))))
      have HFV : Hid (Fr w wc F) := Lib.hid (HFW.out.then_ HF6.out (fun k hk _ => by rw [hk]; exact HFQ.out.1))
      clear b0 b1 b2 b3 b4 bf3 bf4 hq0 hqf hgl
      obtain ⟨b0, b1, b2, b3, b4, bf3, bf4⟩ := HB6.out.cells
      go_wp2
      go_loopg [13] G5.length (fun g a13 wr => ∃ (i : Int) (C6 : List Int), a13 = .int .i64 i ∧ (g : Int) = i + 1 ∧ g ≤ G5.length ∧ Hid (BS wr b q t s vm6 nv5 bv5 pv5 zv5 cv5 (.slice Ag G5.length cg) ws size true L5 B5 P5 Z5 C6 G5 n') ∧ Hid (Fr wc wr (fun k => InBlk cv5 k)))
      case atStart => exact ⟨_, C5, rfl, by omega, Nat.le_refl _, HB6, Lib.hid (Fr.refl _ _)⟩
      case round =>
       clear b0 b1 b2 b3 b4 bf3 bf4
       obtain ⟨i, C6, rfl, hgi, hgl, HB7, HF7⟩ := hrel
       have HGI := Lib.hid (And.intro hgi hgl)
       obtain ⟨b0, b1, b2, b3, b4, bf3, bf4⟩ := HB7.out.cells
       by_cases h0 : 0 ≤ i
       ·have d1 : decide (0 ≤ i) = true := decide_eq_true h0
        obtain ⟨j, rfl⟩ := Int.eq_ofNat_of_zero_le h0
        have hj : j < G5.length := by omega
        have qj : (j : Int) < G5.length := by omega
        obtain ⟨gg, hgg, _, hc⟩ := HB7.out.giv.cellAt (by rw [iw_length]; omega)
        subst hgg
        have gc := (hc j (by rw [iw_length]; exact hj)).1
        rw [iw_get hj] at gc
        obtain ⟨x, hx⟩ : ∃ x, G5.getD j 0 = x := ⟨_, rfl⟩
        rw [hx] at gc
        have HJ := Lib.hid hj
        have HNL : Hid (n' ≤ 1000000) := Lib.hid (by have h1 := HN5.out; rw [HTW.out] at h1; have h2 := HAND.out; rw [HTW.out] at h2; omega)
        clear hgi hgl hc hx hj h0
        go_wp2_with (first
         | (go_at_call 35; (with_reducible refine (sdrop_c n' s bv5 pv5 zv5 cv5 1048576 B5 P5 Z5 C6 x _ HB7.out.st HB7.out.so HNL.out).mono ?_); rintro e w8 ⟨r, C7, rfl, hst, hso, hf⟩; have HB8 := Lib.hid (HB7.out.st' hst hso (Nat.le_refl _) (hf.mono (fun k hk _ => .inr (.inr (.inr (.inr hk))))) (fun k hk => .inl hk)); have HF8 := Lib.hid (HF7.out.trans hf); clear hst hso hf))
        go_roundg (gk - 1)
        case measure => have := HGI.out; omega
        case rel => exact ⟨(j : Int) - 1, C7, by first | rfl | go_num, by have := HGI.out; omega, by have := HGI.out; omega, HB8, HF8⟩
       ·have d1 : decide (0 ≤ i) = false := decide_eq_false h0
        have hi0 : i < 0 := by omega
        clear hgi hgl h0
        go_wp2
        go_ret2
        have hsz := HFW.out.size
        exact ⟨0, 6, ws, n', rfl, by unfold okW; omega, Mst.mk' HB7.out.ms (fun k hk => by
         rcases hk with e | e | e | e | e
         ·exact HC5.out k (.inl e)
         ·exact HC5.out k (.inr (.inl (HV6.out k e)))
         ·exact HC5.out k (.inr (.inr (.inl e)))
         ·exact HC5.out k (.inr (.inr (.inr (.inl e))))
         ·exact HC5.out k (.inr (.inr (.inr (.inr e))))), HFV.out.then_ HF7.out (fun k hk hl => (HCC.out k (.inr (.inr (.inr (.inr hk))))).elim id (fun e => absurd hl (by omega))), HN5.out, fun h => by omega⟩
theorem pput_c (d : Nat) (x : S26) (A2 A5 A6 : Option Addr) (c2 c5 c6 : Nat) (w0 w : World) (q t s : Nat) (F : Nat → Prop) (ws : List Int) (size : Int) (n : Nat)
  (htr : TR d w0 x [.int .i64 x.f0, .bool x.f1, .slice A2 x.f2.length c2, .string x.f3, .int .i64 x.f4, .slice A5 x.f5.length c5, .slice A6 x.f6.length c6]) (hT : Tabs w0) (hfr : Fr w0 w (fun _ => False)) (hnew : ∀ k, F k → w0.heap.size ≤ k ∧ k < w.heap.size) (hbig : size ≤ 2000) (hand : (n : Int) + twM d x ≤ 2000) (hS : Mst w q t s F ws size n) :
  Calls Tryd.prog 10 #[.pointer (some ⟨q, 0, none⟩), .pointer (some ⟨t, 0, none⟩), .agg #[.int .i64 x.f0, .bool x.f1, .slice A2 x.f2.length c2, .string x.f3, .int .i64 x.f4, .slice A5 x.f5.length c5, .slice A6 x.f6.length c6], .pointer (some ⟨s, 0, none⟩)] w fun e w' => PutT d x w w' q t s F ws size n e := by
 obtain ⟨k, bb, f2, nm, nn, f5, f6⟩ := x
 exact pput_s d k bb f2 nm nn f5 f6 A2 A5 A6 c2 c5 c6 w0 w q t s F ws size n htr hT hfr hnew hbig hand hS (by omega)
end Go.Proofs.YtjiaaefpepdoeaaDoor
namespace Go.Proofs.YtjiaaefpepdoeaaDoor
open Go.RowKit Md
set_option linter.unusedVariables false
def nl : Value := .slice none 0 0
theorem not_nil (k : Nat) : ¬ InBlk (.slice none 0 0) k := fun h => by simp [InBlk, Value.ownBlock] at h
end Go.Proofs.YtjiaaefpepdoeaaDoor
namespace Go.Proofs.YtjiaaefpepdoeaaDoor
open Go.RowKit Md Go.Proofs.YtjiaaefpepdoeaaDoorW.PrintWords
open Go.Proofs.YtjiaaefpepdoeaaDoor.PSlideMeans (S26 z26 k26)
set_option linter.unusedVariables false
theorem built_words {ws : List Int} {u v m : Int} (hu : Bl ws [u] 0 m) (hv : Bl ws [v] m ws.length) :
  soundB ws [u, v] = true ∧ (∀ rr, Lv ws (List.replicate ws.length false) [u] rr → wordsM ws ((rr.map seenList).getD []) = m) ∧ (∀ rr, Lv ws (List.replicate ws.length false) [v] rr → wordsM ws ((rr.map seenList).getD []) = ws.length - m) ∧ (∀ rr, Lv ws (List.replicate ws.length false) [u, v, u] rr → wordsM ws ((rr.map seenList).getD []) = ws.length) := by
 obtain ⟨h0, h1, h2, h3⟩ := Bl.two hu hv
 obtain ⟨Lx, S⟩ := snd_of h0
 have key : ∀ ra : List Int, (∀ x ∈ ra, x = u ∨ x = v) → ∀ (z : Int), (∀ s, Md.Reach ws ra s → wordsM ws (seenList s) = z) → ∀ rr, Lv ws (List.replicate ws.length false) ra rr → wordsM ws ((rr.map seenList).getD []) = z := by
  intro ra hra z hz rr hl
  cases rr with
  | none => exact absurd rfl (Lv.sound S hl (fun x hx => S.root x (by rcases hra x hx with rfl | rfl <;> simp)))
  | some s => exact hz s hl
 exact ⟨h0, key [u] (by simp) m h1, key [v] (by simp) _ h2, key [u, v, u] (by simp) _ h3⟩
theorem mwords_at {p : Nat} {v : Value} {ws rs : List Int} {size z : Int} {w : World} {g : Nat} (h : Ar 112 w p v ws size) (hr : Rd w (.slice (some ⟨g, 0, none⟩) rs.length rs.length) (uw rs)) (hok : okWs rs) (hl : ws.length ≤ 4000) (hlr : rs.length ≤ 4000) (hz : ∀ rr, Lv ws (List.replicate ws.length false) rs rr → wordsM ws ((rr.map seenList).getD []) = z) :
  Calls Tryd.prog 12 #[.pointer (some ⟨p, 0, none⟩), .slice (some ⟨g, 0, none⟩) rs.length rs.length] w fun e w' => e = .returned (.int .i64 z) ∧ Fr w w' (fun _ => False) :=
 (mwords_c p v _ ws rs size w h hr hok hl hlr).mono fun e w' ⟨rr, h1, h2, h3⟩ => ⟨by rw [h2, hz rr h1], h3⟩
theorem newstoreB (w : World) : Calls Tryd.prog 9 #[.int .i64 1048576] w fun e w' => ∃ s, e = .returned (.pointer (some ⟨s, 0, none⟩)) ∧ StG w' s (.slice none 0 0) (.slice none 0 0) (.slice none 0 0) (.slice none 0 0) 1048576 [] [] [] [] ∧ Fr w w' (fun _ => False) ∧ w.heap.size ≤ s := by
 go_enter Tryd.func9, Tryd.ntmps9
 go_wp2
 go_ret
 exact ⟨_, rfl, ⟨blk_new _ _ _, Own.nil _ _, Own.nil _ _, Own.nil _ _, Own.nil _ _, fun k hk => absurd hk (not_nil k), fun k hk => absurd hk (not_nil k), fun k hk => absurd hk (not_nil k), rfl, rfl⟩, (Fr.refl w _).alloc _, Nat.le_refl _⟩
theorem Mst.fr {w w' : World} {q t s : Nat} {F : Nat → Prop} {ws : List Int} {size : Int} {n : Nat} (h : Mst w q t s F ws size n) (hf : Fr w w' (fun _ => False)) : Mst w' q t s F ws size n := by
 obtain ⟨vm, nv, bv, pv, zv, cv, L, B, P, Z, C, h1, h2⟩ := h
 exact ⟨vm, nv, bv, pv, zv, cv, L, B, P, Z, C, h1.fr hf, h2⟩
end Go.Proofs.YtjiaaefpepdoeaaDoor
