/-
  TEXTS JOINED FOR A CLAIM (MarkTerms): Chn No Tnu Ofi Sma Ge Gb Trp Bin Biy Bic Get Obr Obg Lss Cnm Cmp Tr Shelf Nmv May. Conditions: none beyond those that each theorem states.
-/
import Derived.Test.YtjiaaefpepdoeaaDoorZ31MarkTerms
import Derived.Test.YtjiaaefpepdoeaaDoorZ30MarkTerms
import Derived.Deep.LoopGhost
import Derived.Test.YtjiaaefpepdoeaaDoorZ29MarkTerms
import Derived.Deep.RegionHeld3
import Derived.Deep.RegionLaw
import Derived.Lib.AppendZeros
import Derived.BigRegion
import Derived.WalkSpells
import Derived.BigQuiet
import Derived.Deep.QuietTactic
import Derived.Shelf.Unicode.ValidAny
import Derived.Test.YtjiaaefpepdoeaaDoorProg
import Derived.Lib.ValidU
import Derived.Lib.RuneCount
import Derived.Laws.RangeString
import Derived.Laws.RangeAny
import Derived.OwnWalk
namespace Go.Proofs.YtjiaaefpepdoeaaDoor
open Go.RowKit Md
set_option linter.unusedVariables false
structure CI (T E : TypeId) (w W : World) (p : Nat) (v r : Value) (ws rs : List Int) (size x0 : Int) (g : Nat) (u : Value) (acc : List Fld) (x : Int) : Prop where
 ta : TA T W p v ws size r rs
 fr : Fr w W fun _ => False
 ow : Own2 w.heap.size W E u acc
 eq : chainM ws rs (ws.length + rs.length) x0 = (chainM ws rs g x).map (acc ++ ·)
 gn : g + acc.length = ws.length + rs.length
 okx : okW x
theorem chain_step {ws rs : List Int} {g : Nat} {x y : Int} (h : tagW x = 7) (hf : fGet ws rs (Md.linked x) = some y) : chainM ws rs (g + 1) x = (chainM ws rs g y).map (Md.linked x :: ·) := by simp [chainM, h, hf]
theorem TA.not_box {T : TypeId} {W : World} {p : Nat} {v r : Value} {ws rs : List Int} {size : Int} {D : Nat} {c : Array Value} {T2 : TypeId} (h : TA T W p v ws size r rs) (hb : W.heap[D]? = some (.cells c T2 (0, 0))) (ne : T2 ≠ 39) : ¬ UO v r D := fun e =>
 e.elim (h.ar.own.not_box hb ne) (h.own.not_box hb ne)
section
variable {T E : TypeId} {w W W1 : World} {p : Nat} {v r : Value} {ws rs : List Int} {size x0 : Int} {g : Nat} {u : Value} {acc : List Fld} {x : Int}
theorem CI.frm (h : CI T E w W p v r ws rs size x0 g u acc x) (hf : Fr W W1 fun _ => False) : CI T E w W1 p v r ws rs size x0 g u acc x :=
 ⟨h.ta.fr hf, h.fr.trans hf, h.ow.keep hf (fun _ _ h => h), h.eq, h.gn, h.okx⟩
theorem CI.app {t : TypeId} {b : Bool} {i y : Int} (h : CI T E w W p v r ws rs size x0 (g + 1) u acc x) (ht : Tryd.prog.underlying t = some (.slice E)) (hinf : (Tryd.prog.info? E).map (fun i => (i.zero, i.size, i.bytes)) = some (some (.agg #[.bool false, .int .i64 0]), 2, 16))
  (hT : E ≠ T) (hE : E ≠ 39) (h7 : tagW x = 7) (hl : Md.linked x = ⟨b, i⟩) (hy : fGet ws rs ⟨b, i⟩ = some y) :
  ∃ v' w1, (Builtin.append_ #[t, t] t #[u, .slice (some ⟨W.heap.size, 0, none⟩) 1 1]).run Tryd.prog (W.alloc (.cells #[.bool b, .int .i64 i] E)) = .ok v' w1 ∧ CI T E w w1 p v r ws rs size x0 g v' (acc ++ [⟨b, i⟩]) y := by
 have hle := h.ta.ar.le
 have hmx := h.ta.ar.mx
 have hlr := h.ta.lenr
 obtain ⟨v', w1, hr, ho, hf⟩ := run_append_fld t E ht hinf ⟨b, i⟩ h.ow h.fr.size (by have := h.gn; omega)
 have hn1 : ∀ k, InBlk u k → ¬ InBlk v k := fun k hk e => h.ow.apart h.ta.ar.own hE k hk e
 have hn2 : ∀ k, InBlk u k → ¬ InBlk r k := fun k hk e => h.ow.apart h.ta.own hE k hk e
 refine ⟨v', w1, hr, ⟨h.ta.ar.keep hf (fun e => h.ow.not_ptr h.ta.ar (fun e => hT e.symm) p e rfl) (fun k hk e => hn1 k e hk), h.ta.own.keep hf (fun k hk e => hn2 k e hk), h.ta.ap, h.ta.okr, h.ta.lenr⟩, h.fr.then_ hf (fun k hk hlt => by have := (h.ow.lt k hk).1; omega), ho, ?_, by simp; have := h.gn; omega, fGet_ok h.ta.ar.ok h.ta.okr hy⟩
 rw [h.eq, chain_step h7 (by rw [hl]; exact hy), hl, Option.map_map]
 exact congrArg (fun F => Option.map F (chainM ws rs g y)) (funext fun z => by simp)
end
end Go.Proofs.YtjiaaefpepdoeaaDoor
namespace Go.Proofs.YtjiaaefpepdoeaaDoor
open Go.RowKit Md
set_option linter.unusedVariables false
theorem normN_le (l : List Int) : ∀ n, normN l n ≤ n
 | 0 => Nat.le_refl 0
 | n + 1 => by unfold normN; split; exact Nat.le_succ_of_le (normN_le l n); exact Nat.le_refl _
theorem normD_len (l : List Int) : (normD l).length = normN l l.length := by
 unfold normD; rw [List.length_take]; have := normN_le l l.length; omega
def NewN (K : IntKind) (e : TypeId) (w w' : World) (v : Value) (l : List Int) : Prop := Own w' e v (nw K l) ∧ Fr w w' (fun _ => False) ∧ ∀ k, InBlk v k → w.heap.size ≤ k
set_option maxRecDepth 100000 in
set_option maxHeartbeats 4000000 in
theorem norm_c (b : Bool) (A : Option Addr) (c : Nat) (l : List Int) (w : World) (h : Rd w (.slice A l.length c) (nw .u32 l)) (hl : l.length ≤ 1048576) :
    Calls Tryd.prog 33 #[.agg #[.bool b, .slice A l.length c]] w fun e w' => ∃ v, e = .returned (.agg #[.bool (normB b l), v]) ∧ NewN .u32 123 w w' v (normD l) := by
  have hb0 : (w.alloc (.cells #[.bool b, .slice A l.length c] 76)).heap[w.heap.size]? = some (.cells #[.bool b, .slice A l.length c] 76 (0, 0)) := blk_new _ _ _
  obtain ⟨D, hD⟩ : ∃ D, w.heap.size = D := ⟨_, rfl⟩
  obtain ⟨w1, hw1⟩ : ∃ w1, w.alloc (.cells #[.bool b, .slice A l.length c] 76) = w1 := ⟨_, rfl⟩
  have hf1 : Fr w w1 (fun _ => False) := by rw [← hw1]; exact (Fr.refl w _).alloc _
  have hs1 : w1.heap.size = D + 1 := by rw [← hw1, ← hD]; simp
  have hb1 : (w1.alloc (.cells #[.bool false, .slice none 0 0] 76)).heap[w1.heap.size]? = some (.cells #[.bool false, .slice none 0 0] 76 (0, 0)) := blk_new _ _ _
  obtain ⟨B, hB⟩ : ∃ B, w1.heap.size = B := ⟨_, rfl⟩
  obtain ⟨w2, hw2⟩ : ∃ w2, w1.alloc (.cells #[.bool false, .slice none 0 0] 76) = w2 := ⟨_, rfl⟩
  have hf2 : Fr w w2 (fun _ => False) := by rw [← hw2]; exact hf1.alloc _
  have hb02 : w2.heap[D]? = some (.cells #[.bool b, .slice A l.length c] 76 (0, 0)) := by
    rw [← hw2, ← hD]; exact ((Fr.refl w1 (fun _ => False)).alloc _).blk (by rw [← hw1]; exact hb0) (fun h => h)
  rw [hw2, hB] at hb1
  have k0 : w2.cell? ⟨D, 0, none⟩ = some (.bool b) := by simp [World.cell?, hb02]
  have k1 : w2.cell? ⟨D, 1, none⟩ = some (.slice A l.length c) := by simp [World.cell?, hb02]
  have g0 : w2.cell? ⟨B, 0, none⟩ = some (.bool false) := by simp [World.cell?, hb1]
  have g1 : w2.cell? ⟨B, 1, none⟩ = some (.slice none 0 0) := by simp [World.cell?, hb1]
  have z0 : w2.frozen? ⟨B, 0, none⟩ = false := by simp [World.frozen?, hb1]
  have z1 : w2.frozen? ⟨B, 1, none⟩ = false := by simp [World.frozen?, hb1]
  have HR2 := Lib.hid (h.keep hf2 (fun _ _ h => h))
  have HF2 := Lib.hid hf2
  have HB1 := Lib.hid hb1
  have HDB : Hid (D = w.heap.size ∧ B = D + 1) := Lib.hid ⟨hD.symm, by rw [← hB, hs1]⟩
  have HLL := Lib.hid hl
  obtain ⟨N, hN⟩ : ∃ N, normN l l.length = N := ⟨_, rfl⟩
  have HN := Lib.hid hN
  have hNl : N ≤ l.length := by rw [← hN]; exact normN_le _ _
  have HNL := Lib.hid hNl
  clear hf1 hs1 hf2 hb02 hb1 hN hNl hl h hb0
  go_enter Tryd.func33, Tryd.ntmps33
  go_upto_region 1 with (fail)
  (try simp only [hw1, hw2, hB, hD])
  clear hw1 hw2 hB hD
  go_upto_block 0 with (fail)
  go_cut [3] (fun c wx => c = .int .i64 (N : Int) ∧ wx = w2)
  case first =>
    go_wp2_with (fail)
    go_loopg [3] l.length (fun g nv wr => ∃ m : Nat, g = m ∧ nv = .int .i64 m ∧ wr = w2 ∧ Hid (m ≤ l.length ∧ normN l m = N))
    case atStart => exact ⟨l.length, rfl, rfl, rfl, Lib.hid ⟨Nat.le_refl _, HN.out⟩⟩
    case round =>
      obtain ⟨m, rfl, rfl, rfl, HI⟩ := hrel
      cases gk with
      | zero =>
        have e : N = 0 := by rw [← HI.out.2]; rfl
        go_wp2_with (fail)
        go_meet
        first | exact ⟨by rw [e]; rfl, rfl⟩ | (subst e; exact ⟨rfl, rfl⟩)
      | succ m =>
        obtain ⟨ab, off, rfl, hc⟩ := rn_cell HR2.out (by have := HI.out.1; omega)
        have hm := HI.out.1
        have ck := hc m (by omega)
        have q1 : ((m + 1 : Nat) : Int) - 1 = m := by omega
        have q2 : (m : Int) < l.length := by omega
        have q3 : m < l.length := by omega
        have d1 : decide ((0 : Int) < ((m + 1 : Nat) : Int)) = true := decide_eq_true (by omega)
        have d2 : decide ((0 : Int) < (m : Int) + 1) = true := decide_eq_true (by omega)
        have hz := HI.out.2
        unfold normN at hz
        have HZ := Lib.hid hz
        have hlb := HLL.out
        have hw1 : wrap64 (m : Int) = m := by unfold wrap64; omega
        clear hc hm hz hlb
        obtain ⟨x, hx⟩ : ∃ x, l.getD m 0 = x := ⟨_, rfl⟩
        rw [hx] at ck
        have HX := Lib.hid hx
        clear hx
        by_cases h0 : x = 0
        · subst h0
          go_wp2_with (fail)
          go_roundg m
          case measure => omega
          case rel => exact ⟨m, rfl, by first | (simp; done) | (simp; exact hw1), rfl, Lib.hid ⟨by omega, by have := HZ.out; rw [HX.out] at this; simpa using this⟩⟩
        · have h1 : (x == 0) = false := by simpa using h0
          go_wp2_with (fail)
          go_meet
          exact ⟨by have := HZ.out; rw [HX.out, if_neg h0] at this; rw [← this]; first | done | rfl, rfl⟩
  case rest =>
    obtain ⟨rfl, hw⟩ := hcut
    subst hw
    obtain ⟨u, hsl, hru⟩ := rn_to undU32 sizeU32 HR2.out N HNL.out
    obtain ⟨v', w4, hr, ho, hf, hn⟩ := rn_copy (t := 22) (e := 123) (n := 4) Tryd.underlying22 infoU32 (by decide) (hru.keep ((Fr.refl wc (fun _ => False)).drew) (fun _ _ h => h)) (by have := HLL.out; rw [List.length_take]; omega)
    obtain ⟨Av, cv, rfl⟩ := ho.rd.len
    have eN : (l.take N).length = N := by rw [List.length_take]; have := HNL.out; omega
    rw [nw_length, eN] at hr ho hn
    clear eN
    have hb4 := hf.blk (show (wc.drew).heap[B]? = _ from HB1.out) (fun h => h)
    have g04 : w4.cell? ⟨B, 0, none⟩ = some (.bool false) := by simp [World.cell?, hb4]
    have g14 : w4.cell? ⟨B, 1, none⟩ = some (.slice none 0 0) := by simp [World.cell?, hb4]
    have z04 : w4.frozen? ⟨B, 0, none⟩ = false := by simp [World.frozen?, hb4]
    have z14 : w4.frozen? ⟨B, 1, none⟩ = false := by simp [World.frozen?, hb4]
    have k04 : w4.cell? ⟨D, 0, none⟩ = some (.bool b) := hf.cell (w := wc.drew) k0 (fun h => h)
    have k14 : w4.cell? ⟨D, 1, none⟩ = some (.slice A l.length c) := hf.cell (w := wc.drew) k1 (fun h => h)
    have HB4 := Lib.hid hb4
    have HO := Lib.hid ho
    have HF4 := Lib.hid ((HF2.out.drew).trans hf)
    have HNW := Lib.hid hn
    clear hb4 ho hf hn hru HR2
    have HFIN : Hid (∀ x : Bool, Fr w ((w4.setCell ⟨B, 0, none⟩ (.bool x)).setCell ⟨B, 1, none⟩ (.slice Av N cv)) (fun _ => False) ∧ ((w4.setCell ⟨B, 0, none⟩ (.bool x)).setCell ⟨B, 1, none⟩ (.slice Av N cv)).heap[B]? = some (.cells #[.bool x, .slice Av N cv] 76 (0, 0)) ∧ NewN .u32 123 w ((w4.setCell ⟨B, 0, none⟩ (.bool x)).setCell ⟨B, 1, none⟩ (.slice Av N cv)) (.slice Av N cv) (normD l)) := Lib.hid (by
      intro x
      have hlt : ¬ B < w.heap.size := by have := HDB.out; omega
      have f1 : Fr w ((w4.setCell ⟨B, 0, none⟩ (.bool x)).setCell ⟨B, 1, none⟩ (.slice Av N cv)) (fun _ => False) := (HF4.out.setCell (fun h => hlt h) _).setCell (fun h => hlt h) _
      have f2 : Fr w4 ((w4.setCell ⟨B, 0, none⟩ (.bool x)).setCell ⟨B, 1, none⟩ (.slice Av N cv)) (fun i => i = B) := ((Fr.refl w4 (fun i => i = B)).setCell (a := ⟨B, 0, none⟩) (fun _ => rfl) _).setCell (a := ⟨B, 1, none⟩) (fun _ => rfl) _
      refine ⟨f1, ?_, ?_, f1, ?_⟩
      · refine Go.Proofs.YtjiaaefpepdoeaaDoorW.PrintWords.blk_put (cs := #[.bool x, .slice none 0 0]) ?_ 1 _ rfl
        refine Go.Proofs.YtjiaaefpepdoeaaDoorW.PrintWords.blk_put (cs := #[.bool false, .slice none 0 0]) ?_ 0 _ rfl
        exact HB4.out
      · have e : normD l = l.take N := by unfold normD; rw [HN.out]
        rw [e]
        refine HO.out.keep f2 (fun i hi e => ?_)
        obtain ⟨cur, hc⟩ := HO.out.elem i hi
        rw [e, HB4.out] at hc
        simp at hc
      · intro k hk
        have h1 := HNW.out k hk
        have h2 : w.heap.size ≤ wc.drew.heap.size := HF2.out.drew.size
        exact Nat.le_trans h2 h1)
    have HNB : Hid (normB true l = decide (0 < N)) := Lib.hid (by unfold normB; rw [normD_len, HN.out]; simp)
    have HNB0 : Hid (normB false l = false) := Lib.hid (by unfold normB; simp)
    clear HO HNW HF4 HB4 HB1
    cases b with
    | false =>
      go_upto_region 4 with (fail)
      first | (go_region_law (first | (refine step_append_run _ (by rfl) _ _ _ _ (by rfl) _ _ (by rfl) (by rfl) _ _ hr ?_))) | fail
      all_goals
       go_wp2
       refine bodyPost_ret (results_cell_row rfl _ _ B 76 #[.bool false, .slice Av N cv] (0, 0) _ rfl (HFIN.out false).2.1 Tryd.underlying76 rfl (by kernel_rfl)) rfl ?_
       exact ⟨_, by rw [HNB0.out], (HFIN.out false).2.2⟩
    | true =>
      go_upto_region 4 with (fail)
      first | (go_region_law (first | (refine step_append_run _ (by rfl) _ _ _ _ (by rfl) _ _ (by rfl) (by rfl) _ _ hr ?_))) | fail
      all_goals
       go_wp2
       refine bodyPost_ret (results_cell_row rfl _ _ B 76 #[.bool (decide (0 < N)), .slice Av N cv] (0, 0) _ rfl (HFIN.out (decide (0 < N))).2.1 Tryd.underlying76 rfl (by kernel_rfl)) rfl ?_
       exact ⟨_, by rw [HNB.out], (HFIN.out (decide (0 < N))).2.2⟩
end Go.Proofs.YtjiaaefpepdoeaaDoor
namespace Go.Proofs.YtjiaaefpepdoeaaDoor
open Go.RowKit Md
set_option linter.unusedVariables false
end Go.Proofs.YtjiaaefpepdoeaaDoor
namespace Go.Proofs.YtjiaaefpepdoeaaDoor
open Go.RowKit Md
set_option linter.unusedVariables false
end Go.Proofs.YtjiaaefpepdoeaaDoor
namespace Go.Proofs.YtjiaaefpepdoeaaDoor
open Go.RowKit Md
set_option linter.unusedVariables false
def okD (l : List Int) : Prop := ∀ x ∈ l, 0 ≤ x ∧ x < 4294967296
theorem okD_get {l : List Int} (h : okD l) (k : Nat) : 0 ≤ l.getD k 0 ∧ l.getD k 0 < 4294967296 := by
 rw [List.getD_eq_getElem?_getD]
 cases hk : l[k]? with
 | none => simp
 | some x => exact h x (List.mem_of_getElem? hk)
theorem okD_norm {l : List Int} (h : okD l) : okD (normD l) := fun x hx => h x (List.mem_of_mem_take hx)
theorem small_start {L : List Int} (h : L.length ≤ 2) : (L.length = 2 ∧ (0 : Int) = 0) ∨ (L.length = 1 ∧ (0 : Int) = L.getD 1 0) ∨ (L.length = 0 ∧ (0 : Int) = smallV L) := by
 match L, h with
 | [], _ => exact .inr (.inr ⟨rfl, rfl⟩)
 | [a], _ => exact .inr (.inl ⟨rfl, rfl⟩)
 | [a, b], _ => exact .inl ⟨rfl, rfl⟩
 | a :: b :: c :: r, h => simp at h
theorem u64_join {u x : Int} (hu : 0 ≤ u ∧ u < 4294967296) (hx : 0 ≤ x ∧ x < 4294967296) : bits .or .u64 (u * 4294967296) x = u * 4294967296 + x :=
 bits_join .u64 64 (by decide) wraps_u64 32 (u * 4294967296) x (by omega) (by omega) (by omega) hx.1 (by omega) (by omega)
set_option maxRecDepth 100000 in
set_option maxHeartbeats 4000000 in
theorem small_c (b : Bool) (A : Option Addr) (c : Nat) (l : List Int) (w : World) (h : Rd w (.slice A l.length c) (nw .u32 l)) (hl : l.length ≤ 1048576) (hd : okD l) :
  Calls Tryd.prog 32 #[.agg #[.bool b, .slice A l.length c]] w fun e w' => ∃ v, e = .returned (.tuple #[.int .i64 v, .bool (smallB b l)]) ∧ Fr w w' (fun _ => False) := by
 have hb0 : (w.alloc (.cells #[.bool b, .slice A l.length c] 76)).heap[w.heap.size]? = some (.cells #[.bool b, .slice A l.length c] 76 (0, 0)) := blk_new _ _ _
 obtain ⟨D, hD⟩ : ∃ D, w.heap.size = D := ⟨_, rfl⟩
 obtain ⟨w1, hw1⟩ : ∃ w1, w.alloc (.cells #[.bool b, .slice A l.length c] 76) = w1 := ⟨_, rfl⟩
 have hf1 : Fr w w1 (fun _ => False) := by rw [← hw1]; exact (Fr.refl w _).alloc _
 rw [hw1, hD] at hb0
 have HB1 := Lib.hid hb0
 have HF1 := Lib.hid hf1
 have HDW := Lib.hid hD
 have k0 : w1.cell? ⟨D, 0, none⟩ = some (.bool b) := by simp [World.cell?, hb0]
 have k1 : w1.cell? ⟨D, 1, none⟩ = some (.slice A l.length c) := by simp [World.cell?, hb0]
 have HR1 := Lib.hid (h.keep hf1 (fun _ _ h => h))
 have HLL := Lib.hid hl
 have HOD := Lib.hid (okD_norm hd)
 clear hb0 hf1 h hl hd
 go_enter Tryd.func32, Tryd.ntmps32
 go_upto_region 1 with (fail)
 (try simp only [hw1, hD])
 clear hw1 hD
 go_upto_region 2 with (first | (go_at_call 33; (with_reducible refine (norm_c b A c l _ HR1.out HLL.out).mono ?_); rintro e w3 ⟨v, rfl, ho, hf, hn⟩; obtain ⟨Av, cv, rfl⟩ := ho.rd.len; rw [nw_length] at ho hn ⊢; have hb3 := hf.blk HB1.out (fun h => h); have HO := Lib.hid ho; have HF3 := Lib.hid (HF1.out.trans hf); have HB3 := Lib.hid hb3; clear ho hf hn k0 k1; have k0 : w3.cell? ⟨D, 0, none⟩ = some (.bool b) := (by simp [World.cell?, hb3]); have k1 : w3.cell? ⟨D, 1, none⟩ = some (.slice A l.length c) := (by simp [World.cell?, hb3]); have kf0 : w3.frozen? ⟨D, 0, none⟩ = false := (by simp [World.frozen?, hb3]); have kf1 : w3.frozen? ⟨D, 1, none⟩ = false := (by simp [World.frozen?, hb3]); clear hb3))
 obtain ⟨nb, hnb⟩ : ∃ nb, normB b l = nb := ⟨_, rfl⟩
 obtain ⟨L, hL⟩ : ∃ L, normD l = L := ⟨_, rfl⟩
 have HS : Hid (smallB b l = (decide (L.length ≤ 2) && !(decide (576460752303423488 < smallV L) || (smallV L == 576460752303423488 && !nb)))) := Lib.hid (by unfold smallB; rw [hnb, hL])
 (try simp only [hnb, hL])
 rw [hL] at HO HOD
 clear hnb hL
 have HX4 : Hid (Fr w ((w3.setCell ⟨D, 0, none⟩ (.bool nb)).setCell ⟨D, 1, none⟩ (.slice Av L.length cv)) (fun _ => False) ∧ Own ((w3.setCell ⟨D, 0, none⟩ (.bool nb)).setCell ⟨D, 1, none⟩ (.slice Av L.length cv)) 123 (.slice Av L.length cv) (nw .u32 L) ∧ ((w3.setCell ⟨D, 0, none⟩ (.bool nb)).setCell ⟨D, 1, none⟩ (.slice Av L.length cv)).heap[D]? = some (.cells #[.bool nb, .slice Av L.length cv] 76 (0, 0))) := Lib.hid (by
  have hlt : ¬ D < w.heap.size := by have := HDW.out; omega
  have f2 : Fr w3 ((w3.setCell ⟨D, 0, none⟩ (.bool nb)).setCell ⟨D, 1, none⟩ (.slice Av L.length cv)) (fun i => i = D) := ((Fr.refl w3 (fun i => i = D)).setCell (a := ⟨D, 0, none⟩) (fun _ => rfl) _).setCell (a := ⟨D, 1, none⟩) (fun _ => rfl) _
  refine ⟨(HF3.out.setCell (fun h => hlt h) _).setCell (fun h => hlt h) _, HO.out.keep f2 (fun i hi e => ?_), ?_⟩
  ·obtain ⟨cur, hc⟩ := HO.out.elem i hi
   rw [e, HB3.out] at hc
   simp at hc
  ·refine Go.Proofs.YtjiaaefpepdoeaaDoorW.PrintWords.blk_put (cs := #[.bool nb, .slice A l.length c]) ?_ 1 _ rfl
   refine Go.Proofs.YtjiaaefpepdoeaaDoorW.PrintWords.blk_put (cs := #[.bool b, .slice A l.length c]) ?_ 0 _ rfl
   exact HB3.out)
 obtain ⟨W4, hW4⟩ : ∃ W4, (w3.setCell ⟨D, 0, none⟩ (.bool nb)).setCell ⟨D, 1, none⟩ (.slice Av L.length cv) = W4 := ⟨_, rfl⟩
 rw [hW4] at HX4
 (try simp only [hW4])
 clear hW4 k0 k1 kf0 kf1 HO HF3 HB3 HR1 HF1 HB1
 have HLD := Lib.hid HX4.out.2.2
 have k0 : W4.cell? ⟨D, 0, none⟩ = some (.bool nb) := by simp [World.cell?, HLD.out]
 have k1 : W4.cell? ⟨D, 1, none⟩ = some (.slice Av L.length cv) := by simp [World.cell?, HLD.out]
 by_cases h2 : 2 < L.length
 ·have d1 : decide ((2 : Int) < L.length) = true := decide_eq_true (by omega)
  have d2 : decide (2 < L.length) = true := decide_eq_true h2
  go_wp2
  go_ret2
  exact ⟨0, by rw [HS.out, decide_eq_false (by omega : ¬ L.length ≤ 2)]; rfl, HX4.out.1⟩
 ·have d1 : decide ((2 : Int) < L.length) = false := decide_eq_false (by omega)
  have d2 : decide (2 < L.length) = false := decide_eq_false h2
  have HL2 : Hid (L.length ≤ 2) := Lib.hid (by omega)
  have hwl : wrap64 ((L.length : Int) - 1) = (L.length : Int) - 1 := by unfold wrap64; omega
  go_upto_block 0 with (fail)
  go_cut [4] (fun c wx => c = .int .u64 (smallV L) ∧ wx = W4)
  case first =>
   go_wp2_with (fail)
   go_loopg [4, 5] L.length (fun g a4 a5 wr => ∃ (u i : Int), a4 = .int .u64 u ∧ a5 = .int .i64 i ∧ i = (g : Int) - 1 ∧ wr = W4 ∧ Hid (g ≤ L.length ∧ ((g = 2 ∧ u = 0) ∨ (g = 1 ∧ u = L.getD 1 0) ∨ (g = 0 ∧ u = smallV L))))
   case atStart => exact ⟨0, (L.length : Int) - 1, rfl, by first | rfl | (simp; done), rfl, rfl, Lib.hid ⟨Nat.le_refl _, small_start HL2.out⟩⟩
   case round =>
    obtain ⟨u, i, rfl, rfl, hi, rfl, HI⟩ := hrel
    cases gk with
    | zero =>
     have e : u = smallV L := by
      rcases HI.out.2 with ⟨h, _⟩ | ⟨h, _⟩ | ⟨_, h⟩
      ·cases h
      ·cases h
      ·exact h
     have d3 : decide ((0 : Int) ≤ i) = false := decide_eq_false (by omega)
     clear hi
     go_wp2_with (fail)
     go_meet
     subst e
     exact ⟨rfl, rfl⟩
    | succ k =>
     have e : i = k := by omega
     subst e
     have hkl : k < L.length := by have := HI.out.1; omega
     have d3 : decide ((0 : Int) ≤ (k : Int)) = true := decide_eq_true (by omega)
     have q1 : (k : Int) < L.length := by omega
     obtain ⟨g, rfl, _, hc⟩ := HX4.out.2.1.cellAt (by rw [nw_length]; omega)
     have ck := (hc k (by rw [nw_length]; exact hkl)).1
     rw [nw_get hkl] at ck
     have hx := okD_get HOD.out k
     obtain ⟨x, hxx⟩ : ∃ x, L.getD k 0 = x := ⟨_, rfl⟩
     rw [hxx] at ck hx
     have HXX := Lib.hid hxx
     have hub : 0 ≤ u ∧ u < 4294967296 := by
      rcases HI.out.2 with ⟨_, h⟩ | ⟨_, h⟩ | ⟨h, _⟩
      ·rw [h]; decide
      ·rw [h]; exact okD_get HOD.out 1
      ·cases h
     have HUB := Lib.hid hub
     have HXB := Lib.hid hx
     clear hc hi hub hx hxx
     go_upto_region 8 with (fail)
     go_wp2_with (fail)
     go_roundg k
     case measure => omega
     case rel =>
      have hu := HUB.out
      have hx := HXB.out
      have hor : bits .or .u64 (IntKind.u64.wrap (u * 4294967296)) (IntKind.u64.wrap x) = u * 4294967296 + x := by
       rw [wraps_u64 _ (by omega) (by omega), wraps_u64 _ (by omega) (by omega), u64_join hu hx]
      refine ⟨u * 4294967296 + x, (k : Int) - 1, by first | (simp; done) | (simp; exact hor), by first | rfl | (simp; done), rfl, rfl, Lib.hid ⟨by omega, ?_⟩⟩
      rcases HI.out.2 with ⟨h, h0⟩ | ⟨h, h0⟩ | ⟨h, _⟩
      ·have : k = 1 := by omega
       subst this
       exact .inr (.inl ⟨rfl, by rw [h0, ← HXX.out]; omega⟩)
      ·have : k = 0 := by omega
       subst this
       refine .inr (.inr ⟨rfl, ?_⟩)
       unfold smallV
       rw [h0, ← HXX.out]
       omega
      ·cases h
  case rest =>
   obtain ⟨rfl, hw⟩ := hcut
   subst hw
   obtain ⟨V, hV⟩ : ∃ V, smallV L = V := ⟨_, rfl⟩
   (try rw [hV])
   have HS2 : Hid (smallB b l = !(decide (576460752303423488 < V) || (V == 576460752303423488 && !nb))) := Lib.hid (by rw [HS.out, decide_eq_true HL2.out, hV]; simp)
   clear HS hV
   by_cases c1 : 576460752303423488 < V
   ·have e1 : decide (576460752303423488 < V) = true := decide_eq_true c1
    clear c1
    go_wp2
    go_ret2
    exact ⟨0, by rw [HS2.out, e1]; rfl, HX4.out.1⟩
   ·have e1 : decide (576460752303423488 < V) = false := decide_eq_false c1
    clear c1
    by_cases c2 : V = 576460752303423488
    ·have e2 : (V == 576460752303423488) = true := by simpa using c2
     cases nb with
     | false =>
      go_wp2
      go_ret2
      exact ⟨0, by rw [HS2.out, e1, e2]; rfl, HX4.out.1⟩
     | true =>
      go_wp2
      go_ret2
      exact ⟨_, by rw [HS2.out, e1, e2]; rfl, HX4.out.1⟩
    ·have e2 : (V == 576460752303423488) = false := by simpa using c2
     clear c2
     cases nb with
     | false =>
      go_wp2
      go_ret2
      exact ⟨_, by rw [HS2.out, e1, e2]; rfl, HX4.out.1⟩
     | true =>
      go_wp2
      go_ret2
      exact ⟨_, by rw [HS2.out, e1, e2]; rfl, HX4.out.1⟩
end Go.Proofs.YtjiaaefpepdoeaaDoor
namespace Go.Proofs.YtjiaaefpepdoeaaDoor
open Go.RowKit Md
set_option linter.unusedVariables false
structure StS (W : World) (s gb cb gp cp gs cs gc cc : Nat) : Prop where
 blk : W.heap[s]? = some (.cells #[.slice (some ⟨gb, 0, none⟩) 5 cb, .int .i64 9, .slice (some ⟨gp, 0, none⟩) 1 cp, .slice (some ⟨gs, 0, none⟩) 1 cs, .slice (some ⟨gc, 0, none⟩) 1 cc] 79 (0, 0))
 ob : Own W 5 (.slice (some ⟨gb, 0, none⟩) 5 cb) (nw .u8 [1, 2, 3, 4, 5])
 op : Own W 3 (.slice (some ⟨gp, 0, none⟩) 1 cp) (nw .i64 [0])
 os : Own W 3 (.slice (some ⟨gs, 0, none⟩) 1 cs) (nw .i64 [5])
 oc : Own W 3 (.slice (some ⟨gc, 0, none⟩) 1 cc) (nw .i64 [1])
section
variable {W W1 : World} {s gb cb gp cp gs cs gc cc : Nat} {S : Nat → Prop}
theorem StS.keep (h : StS W s gb cb gp cp gs cs gc cc) (hf : Fr W W1 S) (h0 : ¬ S s) (h1 : ¬ S gb) (h2 : ¬ S gp) (h3 : ¬ S gs) (h4 : ¬ S gc) : StS W1 s gb cb gp cp gs cs gc cc := by
 have key : ∀ {g n c : Nat}, ¬ S g → ∀ i, InBlk (.slice (some ⟨g, 0, none⟩) n c) i → ¬ S i := fun hg i hi => by
  simp [InBlk, Value.ownBlock] at hi; rw [← hi]; exact hg
 exact ⟨hf.blk h.blk h0, h.ob.keep hf (key h1), h.op.keep hf (key h2), h.os.keep hf (key h3), h.oc.keep hf (key h4)⟩
theorem StS.fr (h : StS W s gb cb gp cp gs cs gc cc) (hf : Fr W W1 fun _ => False) : StS W1 s gb cb gp cp gs cs gc cc := h.keep hf (fun h => h) (fun h => h) (fun h => h) (fun h => h) (fun h => h)
end
def lookM (h a n : Int) : Option (List Int) := if h = 1 ∧ a ≤ 5 ∧ n ≤ 5 - a then some (([1, 2, 3, 4, 5].drop a.toNat).take n.toNat) else none
theorem NewN.nil (K : IntKind) (e : TypeId) (w : World) : NewN K e w w (.slice none 0 0) [] := ⟨Own.nil w e, Fr.refl _ _, fun k hk => by simp [InBlk, Value.ownBlock] at hk⟩
end Go.Proofs.YtjiaaefpepdoeaaDoor
namespace Go.Proofs.YtjiaaefpepdoeaaDoor
open Go.RowKit Md Go.Proofs.YtjiaaefpepdoeaaDoorW.PrintWords
open Go.Proofs.YtjiaaefpepdoeaaDoor.PSlideMeans (S26 z26 k26 k26_mkM)
set_option linter.unusedVariables false
structure Gx where
 (g q t s : Nat)
 vm : Value
 (gn cn gb cb gp cp gs cs gc cc : Nat)
def sA : ByteArray := ⟨#[97]⟩
def sB : ByteArray := ⟨#[98]⟩
structure GG (W : World) (X : Gx) (ws : List Int) (size n : Int) (bad : Bool) : Prop where
 mem : Ar 46 W X.q X.vm ws size
 nblk : W.heap[X.t]? = some (.cells #[.slice (some ⟨X.gn, 0, none⟩) 2 X.cn] 35 (0, 0))
 nown : Own W 9 (.slice (some ⟨X.gn, 0, none⟩) 2 X.cn) [.string sA, .string sB]
 sto : StS W X.s X.gb X.cb X.gp X.cp X.gs X.cs X.gc X.cc
 gblk : W.heap[X.g]? = some (.cells #[.pointer (some ⟨X.q, 0, none⟩), .pointer (some ⟨X.t, 0, none⟩), .pointer (some ⟨X.s, 0, none⟩), .int .i64 n, .bool bad] 115 (0, 0))
section
variable {W W1 : World} {X : Gx} {ws : List Int} {size n n' : Int} {bad b' : Bool}
theorem ne_of_types {W : World} {i j : Nat} {c c' : Array Value} {T T' : TypeId} (hi : W.heap[i]? = some (.cells c T (0, 0))) (hj : W.heap[j]? = some (.cells c' T' (0, 0))) (ne : T ≠ T') : i ≠ j := fun e => by
 subst e; rw [hi] at hj; simp at hj; exact ne hj.2
theorem own_ne {W : World} {g n c j : Nat} {e T : TypeId} {xs : List Value} {cl : Array Value} (h : Own W e (.slice (some ⟨g, 0, none⟩) n c) xs) (hj : W.heap[j]? = some (.cells cl T (0, 0))) (ne : e ≠ T) : g ≠ j := by
 obtain ⟨cur, hc⟩ := h.elem g (by simp [InBlk, Value.ownBlock])
 exact ne_of_types hc hj ne
theorem GG.keep (h : GG W X ws size n bad) (hf : Fr W W1 (fun i => i = X.g)) (hg : W1.heap[X.g]? = some (.cells #[.pointer (some ⟨X.q, 0, none⟩), .pointer (some ⟨X.t, 0, none⟩), .pointer (some ⟨X.s, 0, none⟩), .int .i64 n', .bool b'] 115 (0, 0))) : GG W1 X ws size n' b' := by
 refine ⟨h.mem.keep hf (ne_of_types h.mem.blk h.gblk (by decide)) (fun i hi e => ?_), hf.blk h.nblk (ne_of_types h.nblk h.gblk (by decide)), h.nown.keep hf (fun i hi e => ?_), h.sto.keep hf (ne_of_types h.sto.blk h.gblk (by decide)) (own_ne h.sto.ob h.gblk (by decide)) (own_ne h.sto.op h.gblk (by decide)) (own_ne h.sto.os h.gblk (by decide)) (own_ne h.sto.oc h.gblk (by decide)), hg⟩
 ·obtain ⟨cur, hc⟩ := h.mem.own.elem i hi
  exact ne_of_types hc h.gblk (by decide) e
 ·obtain ⟨cur, hc⟩ := h.nown.elem i hi
  exact ne_of_types hc h.gblk (by decide) e
theorem GG.fr (h : GG W X ws size n bad) (hf : Fr W W1 fun _ => False) : GG W1 X ws size n bad :=
 ⟨h.mem.fr hf, hf.blk h.nblk (fun h => h), h.nown.keep hf (fun _ _ h => h), h.sto.fr hf, hf.blk h.gblk (fun h => h)⟩
theorem GG.setbad (h : GG W X ws size n bad) (b' : Bool) : GG (W.setCell ⟨X.g, 4, none⟩ (.bool b')) X ws size n b' ∧ Fr W (W.setCell ⟨X.g, 4, none⟩ (.bool b')) (fun i => i = X.g) := by
 have hf : Fr W (W.setCell ⟨X.g, 4, none⟩ (.bool b')) (fun i => i = X.g) := (Fr.refl W (fun i => i = X.g)).setCell (a := ⟨X.g, 4, none⟩) (fun _ => rfl) _
 exact ⟨h.keep hf (blk_put h.gblk 4 _ rfl), hf⟩
theorem GG.cells (h : GG W X ws size n bad) : W.cell? ⟨X.g, 0, none⟩ = some (.pointer (some ⟨X.q, 0, none⟩)) ∧ W.cell? ⟨X.g, 1, none⟩ = some (.pointer (some ⟨X.t, 0, none⟩)) ∧ W.cell? ⟨X.g, 2, none⟩ = some (.pointer (some ⟨X.s, 0, none⟩)) ∧ W.cell? ⟨X.g, 3, none⟩ = some (.int .i64 n) ∧ W.cell? ⟨X.g, 4, none⟩ = some (.bool bad) ∧ W.frozen? ⟨X.g, 3, none⟩ = false ∧ W.frozen? ⟨X.g, 4, none⟩ = false := by
 simp [World.cell?, World.frozen?, h.gblk]
end
end Go.Proofs.YtjiaaefpepdoeaaDoor
namespace Go.Proofs.YtjiaaefpepdoeaaDoor
open Go.RowKit Md Go.Proofs.YtjiaaefpepdoeaaDoorW.PrintWords
open Go.Proofs.YtjiaaefpepdoeaaDoor.PSlideMeans (S26 z26 k26 tenementref1_Tree.f tenementref1_Tree.l0 tenementref1_Tree.j0 tenementref1_Tree.mono_l rd_T26)
set_option linter.unusedVariables false
def TrE (t : S26) (r : Int) : Prop := ∃ k, tenementref1_Tree.f k t.f0 t.f1 t.f2 t.f3 t.f4 t.f5 t.f6 = some r
theorem tree_le {t : S26} {r : Int} {k : Nat} (h : tenementref1_Tree.f k t.f0 t.f1 t.f2 t.f3 t.f4 t.f5 t.f6 = some r) : ∀ m, k ≤ m → tenementref1_Tree.f m t.f0 t.f1 t.f2 t.f3 t.f4 t.f5 t.f6 = some r := fun m hm => by
 obtain ⟨j, rfl⟩ := Nat.exists_eq_add_of_le hm
 clear hm
 induction j with
 | zero => exact h
 | succ j ih => exact (tenementref1_Tree.mono_l (k + j)).1 _ _ _ _ _ _ _ r ih
theorem l0_le {n i a0 : Int} {a1 : Bool} {l2 : List Int} {a3 : ByteArray} {a4 : Int} {l5 : List S26} {l6 : List Int} {r : Int} {k : Nat} (h : tenementref1_Tree.l0 k n i a0 a1 l2 a3 a4 l5 l6 = some r) : ∀ m, k ≤ m → tenementref1_Tree.l0 m n i a0 a1 l2 a3 a4 l5 l6 = some r := fun m hm => by
 obtain ⟨j, rfl⟩ := Nat.exists_eq_add_of_le hm
 clear hm
 induction j with
 | zero => exact h
 | succ j ih => exact (tenementref1_Tree.mono_l (k + j)).2.2 _ _ _ _ _ _ _ _ _ r ih
theorem TrE.det {t : S26} {r s : Int} (h1 : TrE t r) (h2 : TrE t s) : r = s := by
 obtain ⟨k, h1⟩ := h1
 obtain ⟨m, h2⟩ := h2
 have a := tree_le h1 (max k m) (Nat.le_max_left _ _)
 have b := tree_le h2 (max k m) (Nat.le_max_right _ _)
 rw [a] at b
 injection b
open Classical in
noncomputable def trT (t : S26) : Int := if h : ∃ r, TrE t r then h.choose else 0
theorem trT_of {t : S26} {r : Int} (h : TrE t r) : trT t = r := by
 unfold trT
 rw [dif_pos ⟨r, h⟩]
 exact TrE.det (Classical.choose_spec (⟨r, h⟩ : ∃ r, TrE t r)) h
def OkT : Nat → S26 → Prop
 | 0, _ => False
 | d + 1, t => (0 ≤ t.f0 ∧ t.f0 ≤ 7 ∧ t.f2.length ≤ 64 ∧ okD t.f2 ∧ (t.f3 = eStr ∨ t.f3 = sA ∨ t.f3 = sB) ∧ t.f5.length ≤ 255 ∧ t.f6.length ≤ 4096) ∧ ∀ x ∈ t.f5, OkT d x
theorem OkT.mono : ∀ {d e : Nat} {t : S26}, OkT d t → d ≤ e → OkT e t
 | 0, e, t, h, _ => h.elim
 | d + 1, 0, t, h, hd => absurd hd (by omega)
 | d + 1, e + 1, t, h, hd => ⟨h.1, fun x hx => OkT.mono (h.2 x hx) (by omega)⟩
def nmAB : List ByteArray := [sA, sB]
end Go.Proofs.YtjiaaefpepdoeaaDoor
namespace Go.Proofs.YtjiaaefpepdoeaaDoor
open Go.RowKit Md Go.Proofs.YtjiaaefpepdoeaaDoorW.PrintWords
open Go.Proofs.YtjiaaefpepdoeaaDoor.PSlideMeans (S26 z26 k26 k26_mkM)
set_option linter.unusedVariables false
end Go.Proofs.YtjiaaefpepdoeaaDoor
namespace Go.Proofs.YtjiaaefpepdoeaaDoor
open Go.RowKit Md Go.Proofs.YtjiaaefpepdoeaaDoorW.PrintWords
open Go.Proofs.YtjiaaefpepdoeaaDoor.PSlideMeans (S26 z26 k26 k26_mkM)
set_option linter.unusedVariables false
end Go.Proofs.YtjiaaefpepdoeaaDoor
namespace Go.Proofs.YtjiaaefpepdoeaaDoor
open Go.RowKit Md
set_option linter.unusedVariables false
end Go.Proofs.YtjiaaefpepdoeaaDoor
namespace Go.Proofs.YtjiaaefpepdoeaaDoor
open Go.RowKit Md Go.Proofs.YtjiaaefpepdoeaaDoorW.PrintWords
open Go.Proofs.YtjiaaefpepdoeaaDoor.PSlideMeans (S26 z26 k26 k26_mkM)
set_option linter.unusedVariables false
end Go.Proofs.YtjiaaefpepdoeaaDoor
namespace Go.Proofs.YtjiaaefpepdoeaaDoor
open Go.RowKit Md Go.Proofs.YtjiaaefpepdoeaaDoorW.PrintWords
open Go.Proofs.YtjiaaefpepdoeaaDoor.PSlideMeans (S26 z26 k26 k26_mkM)
set_option linter.unusedVariables false
structure RW (w W : World) (X : Gx) (ws : List Int) (size : Int) (D B E : Nat) (hk hs ht : Int) (K : Int) (v5 : Value) (f n0 : Nat) (fs : List Int) (j n : Nat) (tree : Int) (b : Bool) (xs : List S26) : Prop where
 gg : GG W X ws size (n : Int) b
 d : W.heap[D]? = some (.cells #[.int .i64 hk, .int .i64 hs, .int .i64 ht, .bool false] 68 (0, 0))
 bz : W.heap[B]? = some (.cells #[.int .i64 0, .bool false, .slice none 0 0, .string ⟨#[]⟩, .int .i64 0, .slice none 0 0, .slice none 0 0] 26 (0, 0))
 e : W.heap[E]? = some (.cells #[.int .i64 K, .bool false, .slice none 0 0, .string ⟨#[]⟩, .int .i64 0, v5, .slice none 0 0] 26 (0, 0))
 fr : Fr w W (fun i => i = X.g)
 r : k26.R 26 W (E + 1) (fun k => E < k) v5 xs
 len : xs.length = j
 jl : j ≤ fs.length
 ok : ∀ x ∈ xs, OkT (f + 2) x
 tl : 1 ≤ tree ∧ tree ≤ 1 + j * 65537
 nb : b = false → n ≤ 65536 ∧ n0 ≤ n ∧ tree = 1 + (xs.map trT).sum ∧ getsM (getM ws nmAB lookM trT f) n0 fs = ((getsM (getM ws nmAB lookM trT f) n (fs.drop j)).1, (getsM (getM ws nmAB lookM trT f) n (fs.drop j)).2.map (xs ++ ·))
 yb : b = true → getsM (getM ws nmAB lookM trT f) n0 fs = (n, none)
end Go.Proofs.YtjiaaefpepdoeaaDoor
namespace Go.Proofs.YtjiaaefpepdoeaaDoor
open Go.RowKit Md Go.Proofs.YtjiaaefpepdoeaaDoorW.PrintWords
open Go.Proofs.YtjiaaefpepdoeaaDoor.PSlideMeans (S26 z26 k26 k26_mkM tenementref1_SameNum.f tenementref1_SameNum.l0 tenementref1_SameNum.j0)
set_option linter.unusedVariables false
theorem same_ev {b1 b2 : Bool} {l1 l2 : List Int} (hl : l1.length = l2.length) (hm : l1.length ≤ 1048576) : ∀ (j i : Nat), i + j = l1.length → ∃ k, tenementref1_SameNum.l0 k i b1 l1 b2 l2 = some (decide (l1.drop i = l2.drop i)) := by
 intro j
 induction j with
 | zero =>
  intro i hi
  have e1 : l1.drop i = [] := List.drop_eq_nil_of_le (by omega)
  have e2 : l2.drop i = [] := List.drop_eq_nil_of_le (by omega)
  exact ⟨1, by simp only [tenementref1_SameNum.l0]; rw [if_neg (by omega), e1, e2]; simp⟩
 | succ j ih =>
  intro i hi
  have d1 : l1.drop i = l1.getD i 0 :: l1.drop (i + 1) := by rw [List.drop_eq_getElem_cons (by omega)]; simp [List.getD_eq_getElem?_getD, show i < l1.length by omega]
  have d2 : l2.drop i = l2.getD i 0 :: l2.drop (i + 1) := by rw [List.drop_eq_getElem_cons (by omega)]; simp [List.getD_eq_getElem?_getD, show i < l2.length by omega]
  have r1 : rd l1 (i : Int) = l1.getD i 0 := rfl
  have r2 : rd l2 (i : Int) = l2.getD i 0 := rfl
  by_cases he : l1.getD i 0 = l2.getD i 0
  ·obtain ⟨k, hk⟩ := ih (i + 1) (by omega)
   have w2 : wrap64 ((i : Int) + 1) = ((i + 1 : Nat) : Int) := by unfold wrap64; omega
   refine ⟨k + 1, ?_⟩
   simp only [tenementref1_SameNum.l0]
   rw [if_pos (by omega), if_pos (by omega), if_pos (by omega), r1, r2, if_pos he, w2, hk, d1, d2, he]
   simp
  ·refine ⟨1, ?_⟩
   simp only [tenementref1_SameNum.l0]
   rw [if_pos (by omega), if_pos (by omega), if_pos (by omega), r1, r2, if_neg he, d1, d2]
   simp [-List.getD_eq_getElem?_getD, he]
theorem samenum_c (b1 b2 : Bool) (l1 l2 : List Int) (hm : l1.length ≤ 1048576) (A1 A2 : Option Addr) (c1 c2 : Nat) (w : World) (h1 : Rd w (.slice A1 l1.length c1) (nw .u32 l1)) (h2 : Rd w (.slice A2 l2.length c2) (nw .u32 l2)) :
  Calls Tryd.prog 62 #[.agg #[.bool b1, .slice A1 l1.length c1], .agg #[.bool b2, .slice A2 l2.length c2]] w fun e w' => e = .returned (.bool (decide (b1 = b2) && decide (l1 = l2))) ∧ Fr w w' (fun _ => False) := by
 have key : ∃ k, tenementref1_SameNum.f k b1 l1 b2 l2 = some (decide (b1 = b2) && decide (l1 = l2)) := by
  by_cases hb : b1 = b2
  ·by_cases hl : l1.length = l2.length
   ·obtain ⟨k, hk⟩ := same_ev (b1 := b1) (b2 := b2) hl hm l1.length 0 (by omega)
    refine ⟨k + 1, ?_⟩
    unfold tenementref1_SameNum.f
    rw [if_neg (by simp [hb])]
    simp only [tenementref1_SameNum.j0]
    rw [if_neg (by simp [hl])]
    simp only [List.drop_zero] at hk
    rw [show ((0 : Nat) : Int) = 0 from rfl] at hk
    rw [hk]
    simp [hb]
   ·refine ⟨1, ?_⟩
    unfold tenementref1_SameNum.f
    rw [if_neg (by simp [hb])]
    simp only [tenementref1_SameNum.j0]
    have hn : ((l1.length : Int) != (l2.length : Int)) = true := by simp; omega
    have hne : l1 ≠ l2 := fun e => hl (by rw [e])
    rw [if_pos hn]
    simp [hne]
  ·refine ⟨1, ?_⟩
   unfold tenementref1_SameNum.f
   rw [if_pos (by simp [hb])]
   simp [tenementref1_SameNum.j0, hb]
 obtain ⟨k, hk⟩ := key
 have cof : ∀ {l : List Int} {A : Option Addr} {c : Nat}, Rd w (.slice A l.length c) (nw .u32 l) → (Kd.int .u32).C w A l.length l ∧ l.length ≤ c := fun {l A c} h => by
  rcases h with ⟨h0, A', c', e, hA⟩ | ⟨b, off, cap, e, h0, hl, hmm, hb, hc⟩
  ·have hl0 : l = [] := by unfold nw at h0; exact List.map_eq_nil_iff.1 h0
   subst hl0
   exact ⟨⟨rfl, by simp, fun h => absurd h (by simp)⟩, by simp⟩
  ·injection e with e1 e2 e3
   subst e1; subst e3
   rw [nw_length] at hl h0 hc
   refine ⟨Kd.C_of_reads (enc := Value.int .u32) (d := (0 : Int)) (h1 := fun _ => rfl) ⟨rfl, by unfold maxLen at hmm; omega, fun _ => ⟨_, rfl, fun j hj => ?_⟩⟩, hl⟩
   have h3 := hc j hj
   rw [nw_get hj] at h3
   rw [Addr.add_lit]
   exact h3
 exact (PSlideMeans.tenementref1_SameNum.calls k b1 A1 c1 l1 b2 A2 c2 l2 _ w (cof h1).1 (cof h1).2 (cof h2).1 (cof h2).2 hk).mono fun e w' h => ⟨h.1, Fr.of_below h.2 _⟩
structure RB (w W : World) (X : Gx) (ws : List Int) (size n : Int) (D B M : Nat) (sz : Nat) (th : Int) (nn : Bool) (dv : Value) (fs : List Int) (j : Nat) : Prop where
 gg : GG W X ws size n false
 d : W.heap[D]? = some (.cells #[.int .i64 2, .int .i64 sz, .int .i64 th, .bool nn] 68 (0, 0))
 bz : W.heap[B]? = some (.cells #[.int .i64 0, .bool false, .slice none 0 0, .string ⟨#[]⟩, .int .i64 0, .slice none 0 0, .slice none 0 0] 26 (0, 0))
 m : W.heap[M]? = some (.cells #[.bool nn, dv] 76 (0, 0))
 fr : Fr w W (fun i => i = X.g)
 own : Own W 123 dv (nw .u32 (fs.take j))
 inv : ∀ k, InBlk dv k → M < k
 small : ∀ x ∈ fs.take j, ¬ 4294967295 < x
end Go.Proofs.YtjiaaefpepdoeaaDoor
namespace Go.Proofs.YtjiaaefpepdoeaaDoor
open Go.RowKit Md Go.Proofs.YtjiaaefpepdoeaaDoorW.PrintWords
open Go.Proofs.YtjiaaefpepdoeaaDoor.PSlideMeans (S26 z26 k26 tenementref1_mags.f tenementref1_mags.l0 tenementref1_bytewise.f tenementref1_bytewise.l0 tenementref1_bytewise.j1 tenementref1_order.f)
set_option linter.unusedVariables false
theorem c_of_rd {l : List Int} {K : IntKind} {A : Option Addr} {c : Nat} {w : World} (h : Rd w (.slice A l.length c) (nw K l)) : (Kd.int K).C w A l.length l ∧ l.length ≤ c := by
 rcases h with ⟨h0, A', c', e, hA⟩ | ⟨b, off, cap, e, h0, hl, hmm, hb, hc⟩
 ·have hl0 : l = [] := by unfold nw at h0; exact List.map_eq_nil_iff.1 h0
  subst hl0
  exact ⟨⟨rfl, by simp, fun h => absurd h (by simp)⟩, by simp⟩
 ·injection e with e1 e2 e3
  subst e1; subst e3
  rw [nw_length] at hl h0 hc
  refine ⟨Kd.C_of_reads (enc := Value.int K) (d := (0 : Int)) (h1 := fun _ => rfl) ⟨rfl, by unfold maxLen at hmm; omega, fun _ => ⟨_, rfl, fun j hj => ?_⟩⟩, hl⟩
  have h3 := hc j hj
  rw [nw_get hj] at h3
  rw [Addr.add_lit]
  exact h3
end Go.Proofs.YtjiaaefpepdoeaaDoor
namespace Go.Proofs.YtjiaaefpepdoeaaDoor
open Go.RowKit Md Go.Proofs.YtjiaaefpepdoeaaDoorW.PrintWords
set_option linter.unusedVariables false
inductive CS where
 | raw
 | pend (v : Value)
 | done (v : Value)
def CNi (W : World) (D : Nat) (b nb : Bool) (u : Value) (L : List Int) : CS → Prop
 | .raw => W.heap[D]? = some (.cells #[.bool b, u] 76 (0, 0))
 | .pend v => W.heap[D]? = some (.cells #[.bool b, u] 76 (0, 0)) ∧ Own W 123 v (nw .u32 L)
 | .done v => W.heap[D]? = some (.cells #[.bool nb, v] 76 (0, 0)) ∧ Own W 123 v (nw .u32 L)
structure CN (w W : World) (D1 D2 : Nat) (b nb : Bool) (u1 u2 : Value) (L : List Int) (s1 s2 : CS) : Prop where
 fr : Fr w W (fun _ => False)
 i1 : CNi W D1 b nb u1 L s1
 i2 : CNi W D2 b nb u2 L s2
 l1 : w.heap.size ≤ D1
 l2 : w.heap.size ≤ D2
 ne : D1 ≠ D2
section
variable {w W W1 : World} {D1 D2 : Nat} {b nb : Bool} {u1 u2 v : Value} {L : List Int} {s1 s2 : CS}
theorem CNi.fr {D : Nat} {u : Value} {s : CS} (h : CNi W D b nb u L s) (hf : Fr W W1 fun _ => False) : CNi W1 D b nb u L s := by
 cases s with
 | raw => exact hf.blk h (fun h => h)
 | pend v => exact ⟨hf.blk h.1 (fun h => h), h.2.keep hf (fun _ _ h => h)⟩
 | done v => exact ⟨hf.blk h.1 (fun h => h), h.2.keep hf (fun _ _ h => h)⟩
theorem CN.drew (h : CN w W D1 D2 b nb u1 u2 L s1 s2) : CN w W.drew D1 D2 b nb u1 u2 L s1 s2 := ⟨h.fr.drew, h.i1.fr ((Fr.refl W _).drew), h.i2.fr ((Fr.refl W _).drew), h.l1, h.l2, h.ne⟩
theorem CNi.cells {D : Nat} {u : Value} {s : CS} (h : CNi W D b nb u L s) (hs : ∀ v, s ≠ .done v) : W.cell? ⟨D, 0, none⟩ = some (.bool b) ∧ W.cell? ⟨D, 1, none⟩ = some u ∧ W.frozen? ⟨D, 0, none⟩ = false ∧ W.frozen? ⟨D, 1, none⟩ = false := by
 cases s with
 | raw => have h : W.heap[D]? = _ := h; simp [World.cell?, World.frozen?, h]
 | pend v => simp [World.cell?, World.frozen?, h.1]
 | done v => exact absurd rfl (hs v)
end
end Go.Proofs.YtjiaaefpepdoeaaDoor
namespace Go.Proofs.YtjiaaefpepdoeaaDoor
open Go.RowKit Md Go.Proofs.YtjiaaefpepdoeaaDoorW.PrintWords
open Go.Proofs.YtjiaaefpepdoeaaDoor.PSlideMeans (S26 z26 k26 k26_openM)
set_option linter.unusedVariables false
structure RT (w : World) (t : S26) (v2 v5 v6 : Value) : Prop where
 r2 : (Kd.int .u32).R 123 w 0 (fun _ => True) v2 t.f2
 r5 : k26.R 26 w 0 (fun _ => True) v5 t.f5
 r6 : (Kd.int .u8).R 5 w 0 (fun _ => True) v6 t.f6
theorem RT.fr {w w1 : World} {t : S26} {v2 v5 v6 : Value} (h : RT w t v2 v5 v6) (hf : Fr w w1 fun _ => False) : RT w1 t v2 v5 v6 :=
 ⟨Kd.R_step h.r2 (fun k _ hlt => hf.block k hlt (fun h => h)), Kd.R_step h.r5 (fun k _ hlt => hf.block k hlt (fun h => h)), Kd.R_step h.r6 (fun k _ hlt => hf.block k hlt (fun h => h))⟩
end Go.Proofs.YtjiaaefpepdoeaaDoor
namespace Go.Proofs.YtjiaaefpepdoeaaDoor
open Go.RowKit Md Go.Proofs.YtjiaaefpepdoeaaDoorW.PrintWords
open Go.Proofs.YtjiaaefpepdoeaaDoor.PSlideMeans (S26 z26 k26 k26_openM k26_mk k26_open tenementref1_Tree.f tenementref1_Tree.l0 tenementref1_Tree.j0 tenementref1_Tree.mono_l rd_T26)
set_option linter.unusedVariables false
def okB (l : List Int) : Prop := ∀ x ∈ l, 0 ≤ x ∧ x < 256
def TR : Nat → World → S26 → List Value → Prop
 | 0, _, _, _ => False
 | d + 1, w, t, cs => ∃ A2 c2 A5 c5 A6 c6, cs = [.int .i64 t.f0, .bool t.f1, .slice A2 t.f2.length c2, .string t.f3, .int .i64 t.f4, .slice A5 t.f5.length c5, .slice A6 t.f6.length c6] ∧
  Rd w (.slice A2 t.f2.length c2) (nw .u32 t.f2) ∧ okD t.f2 ∧ Rd w (.slice A6 t.f6.length c6) (nw .u8 t.f6) ∧ okB t.f6 ∧ t.f3.size ≤ maxLen ∧ t.f5.length ≤ c5 ∧ c5 ≤ maxLen ∧
  (0 < t.f5.length → ∃ b off, A5 = some ⟨b, off, none⟩ ∧ ∀ i, i < t.f5.length → ∃ es, es.length = 7 ∧ (∀ j u, es[j]? = some u → w.cell? ⟨b, off + (i * 7 + j), none⟩ = some u) ∧ TR d w (t.f5.getD i z26) es)
theorem TR.mono : ∀ {d e : Nat} {w : World} {t : S26} {cs : List Value}, TR d w t cs → d ≤ e → TR e w t cs
 | 0, _, _, _, _, h, _ => h.elim
 | d + 1, 0, _, _, _, _, hd => absurd hd (by omega)
 | d + 1, e + 1, w, t, cs, ⟨A2, c2, A5, c5, A6, c6, hcs, h2, o2, h6, o6, h3, h5, hm, hr⟩, hd =>
  ⟨A2, c2, A5, c5, A6, c6, hcs, h2, o2, h6, o6, h3, h5, hm, fun h0 => by
   obtain ⟨b, off, e1, hi⟩ := hr h0
   exact ⟨b, off, e1, fun i hl => by
    obtain ⟨es, hes, hc, ht⟩ := hi i hl
    exact ⟨es, hes, hc, TR.mono ht (by omega)⟩⟩⟩
theorem TR.fr : ∀ {d : Nat} {w w1 : World} {t : S26} {cs : List Value}, TR d w t cs → Fr w w1 (fun _ => False) → TR d w1 t cs
 | 0, _, _, _, _, h, _ => h.elim
 | d + 1, w, w1, t, cs, ⟨A2, c2, A5, c5, A6, c6, hcs, h2, o2, h6, o6, h3, h5, hm, hr⟩, hf =>
  ⟨A2, c2, A5, c5, A6, c6, hcs, h2.keep hf (fun _ _ h => h), o2, h6.keep hf (fun _ _ h => h), o6, h3, h5, hm, fun h0 => by
   obtain ⟨b, off, e1, hi⟩ := hr h0
   exact ⟨b, off, e1, fun i hl => by
    obtain ⟨es, hes, hc, ht⟩ := hi i hl
    exact ⟨es, hes, fun j u hu => hf.cell (hc j u hu) (fun h => h), TR.fr ht hf⟩⟩⟩
theorem TR.k : ∀ {d : Nat} {w : World} {t : S26} {cs : List Value}, TR d w t cs → k26.K w t cs
 | 0, _, _, _, h => h.elim
 | d + 1, w, t, cs, ⟨A2, c2, A5, c5, A6, c6, hcs, h2, o2, h6, o6, h3, h5, hm, hr⟩ => by
  obtain ⟨g2, l2⟩ := c_of_rd h2
  obtain ⟨g6, l6⟩ := c_of_rd h6
  rw [hcs]
  refine k26_mk w t l2 g2 h5 ⟨rfl, by unfold maxLen at hm; omega, fun h0 => ?_⟩ l6 g6
  obtain ⟨b, off, e1, hi⟩ := hr h0
  refine ⟨_, e1, fun j p hp => ?_⟩
  have hj : j < t.f5.length := (List.getElem?_eq_some_iff.1 hp).1
  obtain ⟨es, hes, hc, ht⟩ := hi j hj
  have e : t.f5.getD j z26 = p := by rw [List.getD_eq_getElem?_getD, hp]; rfl
  rw [e] at ht
  refine ⟨es, hes, TR.k ht, fun i u hu => ?_⟩
  have := hc i u hu
  show w.cell? ((⟨b, off, none⟩ : Addr).add (j * 7 + i)) = some u
  rw [Addr.add_lit]
  exact this
theorem TR.elem {d : Nat} {w : World} {b off : Nat} {t : S26} {es : List Value} {i : Nat} (hl : es.length = 7) (hc : ∀ j u, es[j]? = some u → w.cell? ⟨b, off + (i * 7 + j), none⟩ = some u) (ht : TR d w t es) :
  ∃ A2 c2 A5 c5 A6 c6, w.cell? ⟨b, off + i * 7, none⟩ = some (.int .i64 t.f0) ∧ w.cell? ⟨b, off + i * 7 + 1, none⟩ = some (.bool t.f1) ∧ w.cell? ⟨b, off + i * 7 + 2, none⟩ = some (.slice A2 t.f2.length c2) ∧ w.cell? ⟨b, off + i * 7 + 3, none⟩ = some (.string t.f3) ∧ w.cell? ⟨b, off + i * 7 + 4, none⟩ = some (.int .i64 t.f4) ∧ w.cell? ⟨b, off + i * 7 + 5, none⟩ = some (.slice A5 t.f5.length c5) ∧ w.cell? ⟨b, off + i * 7 + 6, none⟩ = some (.slice A6 t.f6.length c6) ∧
   TR d w t [.int .i64 t.f0, .bool t.f1, .slice A2 t.f2.length c2, .string t.f3, .int .i64 t.f4, .slice A5 t.f5.length c5, .slice A6 t.f6.length c6] := by
 cases d with
 | zero => exact ht.elim
 | succ d =>
  have h0 := ht
  obtain ⟨A2, c2, A5, c5, A6, c6, rfl, _⟩ := ht
  refine ⟨A2, c2, A5, c5, A6, c6, hc 0 _ rfl, ?_, ?_, ?_, ?_, ?_, ?_, h0⟩
  ·rw [Nat.add_assoc]; exact hc 1 _ rfl
  ·rw [Nat.add_assoc]; exact hc 2 _ rfl
  ·rw [Nat.add_assoc]; exact hc 3 _ rfl
  ·rw [Nat.add_assoc]; exact hc 4 _ rfl
  ·rw [Nat.add_assoc]; exact hc 5 _ rfl
  ·rw [Nat.add_assoc]; exact hc 6 _ rfl
def Dp : Nat → S26 → Prop
 | 0, _ => False
 | d + 1, t => ∀ x ∈ t.f5, Dp d x
theorem TR.dp : ∀ {d : Nat} {w : World} {t : S26} {cs : List Value}, TR d w t cs → Dp d t
 | 0, _, _, _, h => h.elim
 | d + 1, w, t, cs, ⟨A2, c2, A5, c5, A6, c6, hcs, h2, o2, h6, o6, h3, h5, hm, hr⟩ => fun x hx => by
  obtain ⟨j, hj, e⟩ := List.getElem_of_mem hx
  obtain ⟨b, off, e1, hi⟩ := hr (by omega)
  obtain ⟨es, hes, hc, ht⟩ := hi j hj
  have e2 : t.f5.getD j z26 = x := by rw [List.getD_eq_getElem?_getD, List.getElem?_eq_getElem hj, ← e]; rfl
  rw [e2] at ht
  exact TR.dp ht
theorem l0_any {a0 : Int} {a1 : Bool} {l2 : List Int} {a3 : ByteArray} {a4 : Int} {l5 : List S26} {l6 : List Int} (h : ∀ x ∈ l5, ∃ r, TrE x r ∧ 1 ≤ r ∧ r ≤ 65537) :
  ∀ (j i : Nat) (n : Int), i + j = l5.length → 1 ≤ n → n ≤ 131073 → (i : Int) ≤ n → ∃ k r, tenementref1_Tree.l0 k n i a0 a1 l2 a3 a4 l5 l6 = some r ∧ 1 ≤ r ∧ r ≤ 65537 := by
 have hmn : ∀ n : Int, 1 ≤ n → 1 ≤ mn n 65537 ∧ mn n 65537 ≤ 65537 := fun n hn => by unfold mn; split <;> omega
 intro j
 induction j with
 | zero =>
  intro i n hi h1 h2 _
  exact ⟨1, mn n 65537, by simp only [tenementref1_Tree.l0]; rw [if_neg (by omega)], hmn n h1⟩
 | succ j ih =>
  intro i n hi h1 h2 h3
  by_cases hn : n ≤ 65536
  ·have hx : l5.getD i z26 ∈ l5 := by rw [List.getD_eq_getElem?_getD, List.getElem?_eq_getElem (by omega)]; exact List.getElem_mem (by omega)
   obtain ⟨r, ⟨k1, hk1⟩, hr1, hr2⟩ := h _ hx
   obtain ⟨k2, r2, hk2, hr3, hr4⟩ := ih (i + 1) (n + r) (by omega) (by omega) (by omega) (by omega)
   refine ⟨max k1 k2 + 1, r2, ?_, hr3, hr4⟩
   have e1 := tree_le hk1 (max k1 k2) (Nat.le_max_left _ _)
   have e2 := l0_le hk2 (max k1 k2) (Nat.le_max_right _ _)
   have w1 : wrap64 (n + r) = n + r := by unfold wrap64; omega
   have w2 : wrap64 ((i : Int) + 1) = ((i + 1 : Nat) : Int) := by unfold wrap64; omega
   simp only [tenementref1_Tree.l0]
   rw [if_pos (by omega), if_pos hn, if_pos (by omega)]
   simp only [rd_T26, Int.toNat_natCast]
   rw [e1]
   simp only [Option.bind_some]
   rw [w1, w2]
   exact e2
  ·exact ⟨1, mn n 65537, by simp only [tenementref1_Tree.l0]; rw [if_pos (by omega), if_neg hn], hmn n h1⟩
theorem tree_any : ∀ {d : Nat} {t : S26}, Dp d t → ∃ r, TrE t r ∧ 1 ≤ r ∧ r ≤ 65537
 | 0, t, h => h.elim
 | d + 1, t, h => by
  by_cases hk : t.f0 = 4 ∨ t.f0 = 6
  ·obtain ⟨k, r, hr, h1, h2⟩ := l0_any (a0 := t.f0) (a1 := t.f1) (l2 := t.f2) (a3 := t.f3) (a4 := t.f4) (l5 := t.f5) (l6 := t.f6) (fun x hx => tree_any (h x hx)) t.f5.length 0 1 (by omega) (by omega) (by omega) (by omega)
   refine ⟨r, ⟨k + 2, ?_⟩, h1, h2⟩
   simp only [tenementref1_Tree.f, tenementref1_Tree.j0]
   by_cases h4 : t.f0 = 4
   ·rw [if_pos h4, if_pos trivial]; exact hr
   ·rw [if_neg h4, if_pos (by rcases hk with h | h; exact absurd h h4; simp [h])]; exact hr
  ·have h4 : t.f0 ≠ 4 := fun h => hk (.inl h)
   have h6 : t.f0 ≠ 6 := fun h => hk (.inr h)
   refine ⟨1, ⟨2, ?_⟩, by omega, by omega⟩
   simp only [tenementref1_Tree.f, tenementref1_Tree.j0]
   rw [if_neg h4, if_neg (by simpa using h6)]
   rfl
theorem trT_any {d : Nat} {t : S26} (h : Dp d t) : 1 ≤ trT t ∧ trT t ≤ 65537 := by
 obtain ⟨r, hr, h1, h2⟩ := tree_any h
 rw [trT_of hr]
 exact ⟨h1, h2⟩
theorem tree_c {d : Nat} {t : S26} {cs : List Value} (w : World) (h : TR d w t cs) :
  Calls Tryd.prog 30 #[.agg cs.toArray] w fun e w' => e = .returned (.int .i64 (trT t)) ∧ Fr w w' (fun _ => False) := by
 obtain ⟨r, hr, h1, h3⟩ := tree_any h.dp
 rw [trT_of hr]
 obtain ⟨k, hk⟩ := hr
 obtain ⟨A2, c2, A5, c5, A6, c6, rfl, l2, g2, l5, g5, l6, g6⟩ := k26_open h.k
 exact (PSlideMeans.tenementref1_Tree.calls k _ _ _ _ _ _ _ _ _ _ _ _ _ r w g2 l2 g5 l5 g6 l6 hk).mono fun e w' h => ⟨h.1, Fr.of_below h.2 _⟩
noncomputable def sumT (l : List S26) : Int := (l.map trT).sum
theorem l0_sum {a0 : Int} {a1 : Bool} {l2 : List Int} {a3 : ByteArray} {a4 : Int} {l5 : List S26} {l6 : List Int} (h : ∀ x ∈ l5, ∃ r, TrE x r ∧ 1 ≤ r ∧ r ≤ 65537) :
  ∀ (j i : Nat) (n : Int) (k : Nat) (r : Int), i + j = l5.length → 1 ≤ n → n ≤ 131073 → (i : Int) ≤ n → tenementref1_Tree.l0 k n i a0 a1 l2 a3 a4 l5 l6 = some r → r ≤ 65536 → r = n + sumT (l5.drop i) := by
 intro j
 induction j with
 | zero =>
  intro i n k r hi h1 h2 _ hr hb
  have e : l5.drop i = [] := List.drop_eq_nil_iff.2 (by omega)
  rw [e]
  cases k with
  | zero => simp [tenementref1_Tree.l0] at hr
  | succ k =>
   simp only [tenementref1_Tree.l0] at hr
   rw [if_neg (by omega)] at hr
   injection hr with hr
   unfold mn at hr
   simp only [sumT, List.map_nil, List.sum_nil]
   split at hr <;> omega
 | succ j ih =>
  intro i n k r hi h1 h2 h3 hr hb
  cases k with
  | zero => simp [tenementref1_Tree.l0] at hr
  | succ k =>
   have hx : l5.getD i z26 ∈ l5 := by rw [List.getD_eq_getElem?_getD, List.getElem?_eq_getElem (by omega)]; exact List.getElem_mem (by omega)
   simp only [tenementref1_Tree.l0] at hr
   by_cases hn : n ≤ 65536
   ·rw [if_pos (by omega), if_pos hn, if_pos (by omega)] at hr
    simp only [rd_T26, Int.toNat_natCast] at hr
    obtain ⟨s, hs, hr⟩ := Option.bind_eq_some_iff.1 hr
    have hts : TrE (l5.getD i z26) s := ⟨k, hs⟩
    obtain ⟨s2, hs2, b1, b2⟩ := h _ hx
    have es := TrE.det hts hs2
    subst es
    have w1 : wrap64 (n + s) = n + s := by unfold wrap64; omega
    have w2 : wrap64 ((i : Int) + 1) = ((i + 1 : Nat) : Int) := by unfold wrap64; omega
    rw [w1, w2] at hr
    have e := ih (i + 1) (n + s) k r (by omega) (by omega) (by omega) (by omega) hr hb
    have e2 : l5.drop i = l5.getD i z26 :: l5.drop (i + 1) := by
     rw [List.getD_eq_getElem?_getD, List.getElem?_eq_getElem (by omega)]
     exact List.drop_eq_getElem_cons (by omega)
    rw [e, e2]
    simp only [sumT, List.map_cons, List.sum_cons, trT_of hts]
    omega
   ·rw [if_pos (by omega), if_neg hn] at hr
    injection hr with hr
    unfold mn at hr
    split at hr <;> omega
theorem trT_sum {d : Nat} {t : S26} (h : Dp (d + 1) t) (hk : t.f0 = 4 ∨ t.f0 = 6) (hb : trT t ≤ 65536) : trT t = 1 + sumT t.f5 := by
 obtain ⟨r, hr, h1, h2⟩ := tree_any h
 rw [trT_of hr] at hb ⊢
 obtain ⟨k, hk2⟩ := hr
 have hp : ∀ x ∈ t.f5, ∃ r, TrE x r ∧ 1 ≤ r ∧ r ≤ 65537 := fun x hx => tree_any (h x hx)
 cases k with
 | zero => simp [tenementref1_Tree.f] at hk2
 | succ k =>
  simp only [tenementref1_Tree.f] at hk2
  cases k with
  | zero => simp [tenementref1_Tree.j0, tenementref1_Tree.l0] at hk2
  | succ k =>
   simp only [tenementref1_Tree.j0] at hk2
   have e : tenementref1_Tree.l0 (k + 1) 1 0 t.f0 t.f1 t.f2 t.f3 t.f4 t.f5 t.f6 = some r ∨ tenementref1_Tree.l0 k 1 0 t.f0 t.f1 t.f2 t.f3 t.f4 t.f5 t.f6 = some r := by
    by_cases h4 : t.f0 = 4
    ·rw [if_pos h4, if_pos trivial] at hk2; first | exact .inl hk2 | exact .inr hk2
    ·rw [if_neg h4, if_pos (by rcases hk with h | h; exact absurd h h4; simp [h])] at hk2; first | exact .inl hk2 | exact .inr hk2
   have := e.elim (fun e => l0_sum hp t.f5.length 0 1 _ r (by omega) (by omega) (by omega) (by omega) e hb) (fun e => l0_sum hp t.f5.length 0 1 _ r (by omega) (by omega) (by omega) (by omega) e hb)
   simpa using this
end Go.Proofs.YtjiaaefpepdoeaaDoor
namespace Go.Proofs
open Go.Shelf
def Tryd.lays196_ren : Go.Shelf.Ren := ⟨fun | 196 => 86 | 259 => 94 | n => n, fun | 9 => 9 | 4 => 4 | 3 => 3 | 5 => 5 | 12 => 12 | 119 => 150 | 0 => 0 | 46 => 118 | 139 => 153 | 138 => 152 | 53 => 38 | n => n, fun | 3 => 0 | 4 => 1 | n => n⟩
theorem Tryd.lays196 : Go.Proofs.Lays.n196 Tryd.prog Tryd.lays196_ren := {
 mixed := by kernel_rfl
 f196 := Tryd.func86.trans (congrArg some (by kernel_rfl))
 f259 := Tryd.func94.trans (congrArg some (by kernel_rfl))
 t0 := Tryd.underlying0
 a0 := Tryd.isAgg0
 z0 := Tryd.sizeOf0
 v0 := Tryd.zeroValue0
 t3 := Tryd.underlying3
 a3 := Tryd.isAgg3
 z3 := Tryd.sizeOf3
 v3 := Tryd.zeroValue3
 t4 := Tryd.underlying4
 a4 := Tryd.isAgg4
 z4 := Tryd.sizeOf4
 v4 := Tryd.zeroValue4
 t5 := Tryd.underlying5
 a5 := Tryd.isAgg5
 z5 := Tryd.sizeOf5
 v5 := Tryd.zeroValue5
 t9 := Tryd.underlying9
 a9 := Tryd.isAgg9
 z9 := Tryd.sizeOf9
 v9 := Tryd.zeroValue9
 t12 := Tryd.underlying12
 a12 := Tryd.isAgg12
 z12 := Tryd.sizeOf12
 v12 := Tryd.zeroValue12
 t46 := Tryd.underlying118
 a46 := Tryd.isAgg118
 z46 := Tryd.sizeOf118
 v46 := Tryd.zeroValue118
 t53 := Tryd.underlying38
 a53 := Tryd.isAgg38
 z53 := Tryd.sizeOf38
 v53 := Tryd.zeroValue38
 t119 := Tryd.underlying150
 a119 := Tryd.isAgg150
 z119 := Tryd.sizeOf150
 t138 := Tryd.underlying152
 a138 := Tryd.isAgg152
 z138 := Tryd.sizeOf152
 v138 := Tryd.zeroValue152
 t139 := Tryd.underlying153
 a139 := Tryd.isAgg153
 z139 := Tryd.sizeOf153
 v139 := Tryd.zeroValue153
 g3 := by kernel_rfl
 g4 := by kernel_rfl }
open Go.RowKit Go.Lib in
theorem Tryd.utf8_ValidString (s : ByteArray) (w : World) (hs : s.size ≤ 9223372036854775807) (hT : Lib.Utf8Tabs (Tryd.lays196_ren.g 3) (Tryd.lays196_ren.g 4) w) :
 Calls Tryd.prog 86 #[.string s] w fun e w' => e = .returned (.bool (Lib.validD s.data.toList)) ∧ Below w.heap.size w w' := Any.utf8_ValidString Tryd.lays196 s w hs hT
end Go.Proofs
namespace Go.Proofs.YtjiaaefpepdoeaaDoor.Md
set_option linter.unusedVariables false
def fnd : List ByteArray → ByteArray → Option Nat
 | [], _ => none
 | a :: l, s => if a = s then some 0 else (fnd l s).map (· + 1)
theorem fnd_of_not : ∀ {l : List ByteArray} {s : ByteArray}, s ∉ l → fnd l s = none
 | [], s, _ => rfl
 | a :: l, s, h => by
  unfold fnd
  simp only [List.mem_cons, not_or] at h
  rw [if_neg (fun e => h.1 e.symm), fnd_of_not h.2]
  rfl
def vld (s : ByteArray) : Bool := Lib.validD s.data.toList
def cnt (s : ByteArray) : Nat := Lib.runeCount s
structure PutR where
 n : Int
 e : Int
 l : List ByteArray
def putM (l : List ByteArray) (s : ByteArray) : PutR :=
 if vld s = false then ⟨0, 4, l⟩
 else if 255 < cnt s then ⟨0, 3, l⟩
 else match fnd l s with
  | some i => ⟨i, 0, l⟩
  | none => if l.length < 1048576 then ⟨l.length, 0, l ++ [s]⟩ else ⟨0, 6, l⟩
end Go.Proofs.YtjiaaefpepdoeaaDoor.Md
namespace Go.Proofs.YtjiaaefpepdoeaaDoor
open Go.RowKit Md
set_option linter.unusedVariables false
def Tabs (w : World) : Prop := Lib.Utf8Tabs (Tryd.lays196_ren.g 3) (Tryd.lays196_ren.g 4) w
theorem Tabs.below {w w' : World} (h : Tabs w) (hb : Below w.heap.size w w') : Tabs w' := Utf8Tabs_below h hb
def cntZ (s : ByteArray) : Int := if vld s = true then (cnt s : Int) else -1
theorem mvs_c (s : ByteArray) (w : World) (hs : s.size ≤ 9223372036854775807) (hT : Tabs w) :
 Calls Tryd.prog 86 #[.string s] w fun e w' => e = .returned (.bool (vld s)) ∧ Below w.heap.size w w' := Tryd.utf8_ValidString s w hs hT
theorem mvalid_c (s : ByteArray) (b : Bool) (w : World) (hs : s.size ≤ 9223372036854775807) (hT : Tabs w) (hb : vld s = b) :
  Calls Tryd.prog 63 #[.string s] w fun e w' => e = .returned (.bool b) ∧ Fr w w' (fun _ => False) := by
 subst hb
 have HS := Lib.hid hs
 have HT := Lib.hid hT
 clear hs hT
 go_enter Tryd.func63, Tryd.ntmps63
 go_wp2_with (first | (go_at_call 86; (with_reducible refine (mvs_c s _ HS.out HT.out).mono ?_); rintro e w1 ⟨rfl, hb⟩))
 go_ret
 exact ⟨rfl, Fr.of_below hb _⟩
theorem fr_iter (w : World) (s : ByteArray) (pos : Nat) : Fr w (w.iter s pos) (fun _ => False) := (Fr.refl w _).alloc _
set_option maxHeartbeats 4000000 in
theorem mcount_c (s : ByteArray) (r : Int) (w : World) (hs : s.size ≤ 9223372036854775807) (hT : Tabs w) (hr : cntZ s = r) :
  Calls Tryd.prog 64 #[.string s] w fun e w' => e = .returned (.int .i64 r) ∧ Fr w w' (fun _ => False) := by
 have HS : Hid (s.size ≤ 9223372036854775807) := Lib.hid (by omega)
 have HT := Lib.hid hT
 cases hv : vld s with
 | false =>
  have e : r = -1 := by rw [← hr]; unfold cntZ; rw [if_neg (by rw [hv]; decide)]
  subst e
  have HV := Lib.hid hv
  clear hs hT hv hr
  go_enter Tryd.func64, Tryd.ntmps64
  go_wp2_with (first | (go_at_call 63; (with_reducible refine (mvalid_c s false _ HS.out HT.out HV.out).mono ?_); rintro e w1 ⟨rfl, hf⟩))
  go_ret
  exact ⟨rfl, hf⟩
 | true =>
  have e : r = (cnt s : Int) := by rw [← hr]; unfold cntZ; rw [if_pos hv]
  subst e
  have HV := Lib.hid hv
  clear hT hv hr
  go_enter Tryd.func64, Tryd.ntmps64
  go_upto_region 5 with (first | (go_at_call 63; (with_reducible refine (mvalid_c s true _ HS.out HT.out HV.out).mono ?_); rintro e w1 ⟨rfl, hf⟩))
  have HF := Lib.hid hf
  clear hf
  go_loopw [3] (fun n w' => ∃ (pos b acc : Nat), w' = w1.iter s pos ∧ n = .int .i64 acc ∧ acc + Lib.runeCountFrom s b pos = Lib.runeCount s ∧ s.size ≤ pos + b ∧ acc ≤ pos) (fun _ w' => s.size - w'.iterPos w1.heap.size)
  case atStart => exact ⟨0, s.size, 0, rfl, rfl, by simp [Lib.runeCount], by omega, Nat.le_refl _⟩
  case round =>
   obtain ⟨pos, b, acc, rfl, rfl, hc, hb, ha⟩ := hrel
   by_cases hp : pos < s.size
   ·have hnx : ∀ ty, (Instr.next (.pointer (some ⟨w1.heap.size, 0, none⟩)) true ty).run Tryd.prog (w1.iter s pos) = _ := fun ty => run_next_any w1 s pos ty hp
    have hwd := Lib.decode_width_pos s pos hp
    go_wp2
    go_roundw
    case rel =>
     cases b with
     | zero => omega
     | succ b =>
      refine ⟨pos + (Utf8.decode s pos).2, b, acc + 1, rfl, by go_num, ?_, by omega, by omega⟩
      rw [← hc]
      simp [Lib.runeCountFrom, hp]
      omega
    case measure =>
     simp
     omega
   ·have hnx : ∀ ty, (Instr.next (.pointer (some ⟨w1.heap.size, 0, none⟩)) true ty).run Tryd.prog (w1.iter s pos) = _ := fun ty => run_next_end w1 s pos ty hp
    go_wp2
    go_ret
    rw [Lib.runeCountFrom_end s b pos hp, Nat.add_zero] at hc
    subst hc
    exact ⟨rfl, HF.out.trans (fr_iter _ _ _)⟩
def stw (ns : List ByteArray) : List Value := ns.map Value.string
theorem stw_length (ns : List ByteArray) : (stw ns).length = ns.length := by simp [stw]
theorem stw_get {ns : List ByteArray} {k : Nat} {s : ByteArray} (h : ns[k]? = some s) : (stw ns)[k]? = some (.string s) := by simp [stw, h]
theorem strInfo : (Tryd.prog.info? 9).map (fun i => (i.zero, i.size, i.bytes)) = some (some (.string ByteArray.empty), 1, 16) := by kernel_rfl
theorem bytes_inj {s t : ByteArray} (h : s.data.toList = t.data.toList) : s = t := by
 cases s; cases t
 simp only [ByteArray.mk.injEq]
 exact Array.toList_inj.1 h
theorem names_push {W : World} {v : Value} {ns : List ByteArray} (s : ByteArray) (h : Own W 9 v (stw ns)) (hl : ns.length ≤ 1048576) :
  ∃ v' w1, (Builtin.append_ #[33, 33] 33 #[v, .slice (some ⟨W.heap.size, 0, none⟩) 1 1]).run Tryd.prog (W.alloc (.cells #[.string s] 9)) = .ok v' w1 ∧ Own w1 9 v' (stw (ns ++ [s])) ∧ Fr W w1 (fun i => InBlk v i) ∧ ∀ k, InBlk v' k → InBlk v k ∨ W.heap.size ≤ k := by
 obtain ⟨i0, hi, hz0, hz1, hzb⟩ := info_parts strInfo
 have hf0 : Fr W (W.alloc (.cells #[.string s] 9)) (fun _ => False) := (Fr.refl W _).alloc _
 have hb := blk_new W #[.string s] 9
 have hrd : Rd (W.alloc (.cells #[.string s] 9)) (.slice (some ⟨W.heap.size, 0, none⟩) 1 1) [.string s] := by
  refine .inr ⟨W.heap.size, 0, 1, rfl, by simp, by simp, by unfold maxLen; omega, by simp, fun i hi => ?_⟩
  have : i = 0 := by simp at hi; omega
  subst this
  have e1 : (W.alloc (.cells #[.string s] 9)).cell? ⟨W.heap.size, 0 + 0, none⟩ = (#[Value.string s] : Array Value)[0]? := cell_of_row _ _ 0 _ _ (0, 0) hb
  exact e1
 obtain ⟨v', w1, hr, ho, hg, hn⟩ := run_append_rd (P := Tryd.prog) (W.alloc (.cells #[.string s] 9)) 33 33 9 i0 (.string ByteArray.empty) Tryd.underlying33 hi hz0 hz1 (by omega) rfl v (.slice (some ⟨W.heap.size, 0, none⟩) 1 1) (stw ns) [.string s] (h.keep hf0 (fun _ _ h => h)) hrd (by simp [Value.oneCell']) (by rw [stw_length]; simp; omega)
 refine ⟨v', w1, hr, ?_, (hf0.mono (fun _ h _ => h.elim)).grown hg (fun k hk _ => hk), fun k hk => ?_⟩
 ·have e : stw (ns ++ [s]) = stw ns ++ [.string s] := by simp [stw]
  rw [e]; exact ho
 ·rcases hn k hk with h1 | h1
  ·exact .inl h1
  ·exact .inr (Nat.le_trans (Nat.le_succ _) (by simpa using h1))
structure Nb (w : World) (q : Nat) (v : Value) (ns : List ByteArray) : Prop where
 blk : w.heap[q]? = some (.cells #[v] 35 (0, 0))
 own : Own w 9 v (stw ns)
 len : ns.length ≤ 1048576
section
variable {w w1 : World} {q : Nat} {v : Value} {ns : List ByteArray} {S : Nat → Prop}
theorem Nb.keep (h : Nb w q v ns) (hf : Fr w w1 S) (hp : ¬ S q) (hv : ∀ i, InBlk v i → ¬ S i) : Nb w1 q v ns := ⟨hf.blk h.blk hp, h.own.keep hf hv, h.len⟩
theorem Nb.fr (h : Nb w q v ns) (hf : Fr w w1 (fun _ => False)) : Nb w1 q v ns := h.keep hf (fun h => h) (fun _ _ h => h)
theorem Nb.c0 (h : Nb w q v ns) : w.cell? ⟨q, 0, none⟩ = some v := by simp [World.cell?, h.blk]
theorem Nb.fz (h : Nb w q v ns) (i : Nat) : w.frozen? ⟨q, i, none⟩ = false := by simp [World.frozen?, h.blk]
theorem Nb.lt (h : Nb w q v ns) : q < w.heap.size := (Array.getElem?_eq_some_iff.1 h.blk).1
end
theorem str_inj {s t : ByteArray} (h : s.toList = t.toList) : s = t := by
 have e : ∀ b : ByteArray, b.toList = b.data.toList := fun b => ByteArray.toList_eq b
 rw [e, e] at h
 exact bytes_inj h
theorem fnd_first : ∀ {l : List ByteArray} {s : ByteArray} {k : Nat}, l[k]? = some s → (∀ j, j < k → l[j]? ≠ some s) → fnd l s = some k
 | [], s, k, h, _ => by simp at h
 | a :: l, s, 0, h, _ => by simp at h; subst h; simp [fnd]
 | a :: l, s, k + 1, h, hn => by
  unfold fnd
  have h0 := hn 0 (by omega)
  rw [if_neg (fun e => h0 (by simp [e])), fnd_first (by simpa using h) (fun j hj => by have := hn (j + 1) (by omega); simpa using this)]
  rfl
theorem fnd_nowhere {l : List ByteArray} {s : ByteArray} (h : ∀ j, j < l.length → l[j]? ≠ some s) : fnd l s = none := fnd_of_not (fun hm => by
 obtain ⟨j, hj, e⟩ := List.getElem_of_mem hm
 exact h j hj (by rw [List.getElem?_eq_getElem hj, e]))
set_option maxRecDepth 100000 in
set_option maxHeartbeats 4000000 in
theorem mfind_c (q : Nat) (v : Value) (ns : List ByteArray) (s : ByteArray) (r : Option Nat) (w : World) (h : Nb w q v ns) (hr : fnd ns s = r) :
  Calls Tryd.prog 87 #[.pointer (some ⟨q, 0, none⟩), .string s] w fun e w' => e = .returned (.tuple #[.int .i64 ((r.getD 0 : Nat) : Int), .bool r.isSome]) ∧ w = w' := by
 have c0 := h.c0
 have H := Lib.hid h
 have HR := Lib.hid hr
 have q1 : (ns.length : Int) ≤ 1048576 := by have := h.len; omega
 obtain ⟨A, cp, rfl⟩ : ∃ A cp, v = .slice A ns.length cp := by
  obtain ⟨A, cp, e⟩ := h.own.rd.len
  rw [stw_length] at e
  exact ⟨A, cp, e⟩
 clear h hr
 go_enter Tryd.func87, Tryd.ntmps87
 go_wp2
 go_loopg [6] ns.length (fun g a6 wr => wr = w ∧ ∃ k : Nat, a6 = .int .i64 k ∧ g + k = ns.length ∧ Hid (∀ j, j < k → ns[j]? ≠ some s))
 case atStart => exact ⟨rfl, 0, rfl, rfl, Lib.hid (fun j hj => by omega)⟩
 case round =>
  obtain ⟨rfl, k, rfl, hgk, HI⟩ := hrel
  have HG := Lib.hid hgk
  clear hgk
  by_cases hk : k < ns.length
  ·have HKL := Lib.hid hk
   have qk : (k : Int) < ns.length := by omega
   obtain ⟨t, ht⟩ : ∃ t, ns[k]? = some t := ⟨_, List.getElem?_eq_getElem hk⟩
   rcases H.out.own.form with ⟨_, h0⟩ | ⟨g, cap, e, hl, hm, hg, hc, hf⟩
   ·have : (stw ns).length = 0 := by rw [h0]; rfl
    rw [stw_length] at this; omega
   ·injection e with e1 e2 e3
    subst e1
    have ck := hc k (by rw [stw_length]; exact hk)
    rw [stw_get ht] at ck
    have HT := Lib.hid ht
    clear hl hm hc hf hk ht e2 e3
    by_cases e : t = s
    ·subst e
     have hrk : r = some k := by rw [← HR.out]; exact fnd_first HT.out HI.out
     have HRK := Lib.hid hrk
     clear hrk
     go_wp2
     go_ret2
     rw [HRK.out]
     exact ⟨rfl, rfl⟩
    ·have e1 : (t.toList == s.toList) = false := by simpa using fun h => e (str_inj h)
     have HE := Lib.hid e
     clear e
     go_wp2
     go_roundg (gk - 1)
     case measure => have := HG.out; have := HKL.out; omega
     case rel => exact ⟨rfl, k + 1, by first | rfl | go_num, by have := HG.out; have := HKL.out; omega, Lib.hid (fun j hj => by
      by_cases hjk : j < k
      ·exact HI.out j hjk
      ·have : j = k := by omega
       subst this
       rw [HT.out]
       intro h
       injection h with h
       exact HE.out h)⟩
  ·have hrn : r = none := by rw [← HR.out]; exact fnd_nowhere (fun j hj => HI.out j (by have := HG.out; omega))
   have HRN := Lib.hid hrn
   have b2 : decide (k < ns.length) = false := decide_eq_false hk
   clear hrn hk
   go_wp2
   go_ret2
   rw [HRN.out]
   exact ⟨rfl, rfl⟩
def MPutA (w w' : World) (q : Nat) (v : Value) (z : PutR) (e : Ending) : Prop :=
 e = .returned (.tuple #[.int .i64 z.n, .int .i64 z.e]) ∧ ∃ v', Nb w' q v' z.l ∧ Fr w w' (fun i => i = q ∨ InBlk v i) ∧ ∀ k, InBlk v' k → InBlk v k ∨ w.heap.size ≤ k
theorem mput_steps {W : World} {q : Nat} {v : Value} {ns : List ByteArray} (s : ByteArray) (h : Nb W q v ns) (hl : ns.length < 1048576) :
  ∃ v' w1, (Builtin.append_ #[33, 33] 33 #[v, .slice (some ⟨W.heap.size, 0, none⟩) 1 1]).run Tryd.prog (W.alloc (.cells #[.string s] 9)) = .ok v' w1 ∧
   w1.cell? ⟨q, 0, none⟩ = some v ∧ w1.frozen? ⟨q, 0, none⟩ = false ∧ Nb (w1.setCell ⟨q, 0, none⟩ v') q v' (ns ++ [s]) ∧ Fr W (w1.setCell ⟨q, 0, none⟩ v') (fun i => i = q ∨ InBlk v i) ∧ ∀ k, InBlk v' k → InBlk v k ∨ W.heap.size ≤ k := by
 obtain ⟨v', w1, hr, ho, hf1, hn⟩ := names_push s h.own h.len
 have hpv : ¬ InBlk v q := fun e => by
  obtain ⟨cur, hc⟩ := h.own.elem q e
  rw [h.blk] at hc; simp at hc
 have hb1 : w1.heap[q]? = some (.cells #[v] 35 (0, 0)) := hf1.blk h.blk hpv
 have hpv' : ∀ k, InBlk v' k → k ≠ q := fun k hk e => by
  obtain ⟨cur, hc⟩ := ho.elem k hk
  rw [e, hb1] at hc; simp at hc
 have hf2 : Fr w1 (w1.setCell ⟨q, 0, none⟩ v') (fun i => i = q) := Fr.setCell (S := fun i => i = q) (a := ⟨q, 0, none⟩) (Fr.refl w1 _) (fun _ => rfl) _
 have hb2 : (w1.setCell ⟨q, 0, none⟩ v').heap[q]? = some (.cells #[v'] 35 (0, 0)) := by
  simp [World.setCell, Array.getElem?_modify, hb1]
 exact ⟨v', w1, hr, by simp [World.cell?, hb1], by simp [World.frozen?, hb1], ⟨hb2, ho.keep hf2 hpv', by rw [List.length_append]; simp; omega⟩, (hf1.mono (fun i hi _ => .inr hi)).trans (hf2.mono (fun i hi _ => .inl hi)), hn⟩
set_option maxRecDepth 100000 in
set_option maxHeartbeats 4000000 in
theorem mput_c (q : Nat) (v : Value) (ns : List ByteArray) (s : ByteArray) (w : World) (h : Nb w q v ns) (hs : s.size ≤ 9223372036854775807) (hT : Tabs w) :
  Calls Tryd.prog 66 #[.pointer (some ⟨q, 0, none⟩), .string s] w fun e w' => MPutA w w' q v (putM ns s) e := by
 have H := Lib.hid h
 have HS : Hid (s.size ≤ 9223372036854775807) := Lib.hid (by omega)
 have HS2 : Hid (s.size ≤ 9223372036854775807) := Lib.hid (by omega)
 have HT := Lib.hid hT
 have same : ∀ (w1 : World) (z : PutR), Fr w w1 (fun _ => False) → z.l = ns → MPutA w w1 q v z (.returned (.tuple #[.int .i64 z.n, .int .i64 z.e])) := fun w1 z hf hq =>
  ⟨rfl, v, by rw [hq]; exact H.out.fr hf, hf.mono (fun _ h _ => h.elim), fun k hk => .inl hk⟩
 have HSM := Lib.hid same
 have HTB : Hid (∀ w1 : World, Fr w w1 (fun _ => False) → Tabs w1) := Lib.hid (fun w1 hf => HT.out.below hf.below)
 cases hv : vld s with
 | false =>
  have hq : putM ns s = ⟨0, 4, ns⟩ := by unfold putM; rw [if_pos hv]
  rw [hq]
  have HV := Lib.hid hv
  clear h hs hT same hv hq
  go_enter Tryd.func66, Tryd.ntmps66
  go_wp2_with (first
   | (go_at_call 63; (with_reducible refine (mvalid_c s false _ HS.out HT.out HV.out).mono ?_); rintro e w1 ⟨rfl, hf⟩; have HF := Lib.hid hf; clear hf))
  go_ret2
  exact HSM.out _ ⟨0, 4, ns⟩ HF.out rfl
 | true =>
  have hc : cntZ s = (cnt s : Int) := by unfold cntZ; rw [if_pos hv]
  have HC := Lib.hid hc
  have HV := Lib.hid hv
  obtain ⟨c, hcc⟩ : ∃ c : Nat, cnt s = c := ⟨_, rfl⟩
  rw [hcc] at HC
  by_cases h255 : 255 < c
  ·have hq : putM ns s = ⟨0, 3, ns⟩ := by unfold putM; rw [if_neg (by rw [hv]; decide), if_pos (by rw [hcc]; exact h255)]
   rw [hq]
   have d1 : decide ((255 : Int) < c) = true := decide_eq_true (by omega)
   clear h hs hT same hv hc hq hcc h255
   go_enter Tryd.func66, Tryd.ntmps66
   go_wp2_with (first
    | (go_at_call 63; (with_reducible refine (mvalid_c s true _ HS.out HT.out HV.out).mono ?_); rintro e w1 ⟨rfl, hf⟩; have HF := Lib.hid hf; clear hf)
    | (go_at_call 64; (with_reducible refine (mcount_c s (c : Int) _ HS2.out (HTB.out _ HF.out) HC.out).mono ?_); rintro e w2 ⟨rfl, hf⟩; have HF2 := Lib.hid (HF.out.trans hf); clear hf))
   go_ret2
   exact HSM.out _ ⟨0, 3, ns⟩ HF2.out rfl
  ·have d1 : decide ((255 : Int) < c) = false := decide_eq_false (by omega)
   cases hr : fnd ns s with
   | some i =>
    have hq : putM ns s = ⟨i, 0, ns⟩ := by unfold putM; rw [if_neg (by rw [hv]; decide), if_neg (by rw [hcc]; exact h255), hr]
    rw [hq]
    have HR := Lib.hid hr
    clear h hs hT same hv hc hq hr hcc h255
    go_enter Tryd.func66, Tryd.ntmps66
    go_wp2_with (first
     | (go_at_call 63; (with_reducible refine (mvalid_c s true _ HS.out HT.out HV.out).mono ?_); rintro e w1 ⟨rfl, hf⟩; have HF := Lib.hid hf; clear hf)
     | (go_at_call 64; (with_reducible refine (mcount_c s (c : Int) _ HS2.out (HTB.out _ HF.out) HC.out).mono ?_); rintro e w2 ⟨rfl, hf⟩; have HF2 := Lib.hid (HF.out.trans hf); clear hf)
     | (go_at_call 87; (with_reducible refine (mfind_c q v ns s (some i) _ (H.out.fr HF2.out) HR.out).mono ?_); rintro e w3 ⟨rfl, rfl⟩))
    go_ret2
    exact HSM.out _ ⟨i, 0, ns⟩ HF2.out rfl
   | none =>
    by_cases hl : ns.length < 1048576
    rotate_left
    ·have hq : putM ns s = ⟨0, 6, ns⟩ := by unfold putM; rw [if_neg (by rw [hv]; decide), if_neg (by rw [hcc]; exact h255), hr]; exact if_neg hl
     rw [hq]
     have HR := Lib.hid hr
     have d2 : decide ((1048576 : Int) ≤ ns.length) = true := decide_eq_true (by omega)
     have d2' : decide (1048576 ≤ ns.length) = true := decide_eq_true (by omega)
     have c0 := h.c0
     obtain ⟨A, cp, rfl⟩ : ∃ A cp, v = .slice A ns.length cp := by
      obtain ⟨A, cp, e⟩ := h.own.rd.len
      rw [stw_length] at e
      exact ⟨A, cp, e⟩
     clear h hs hT hl same hv hc hq hr hcc h255
     go_enter Tryd.func66, Tryd.ntmps66
     go_wp2_with (first
      | (go_at_call 63; (with_reducible refine (mvalid_c s true _ HS.out HT.out HV.out).mono ?_); rintro e w1 ⟨rfl, hf⟩; have HF := Lib.hid hf; clear hf)
      | (go_at_call 64; (with_reducible refine (mcount_c s (c : Int) _ HS2.out (HTB.out _ HF.out) HC.out).mono ?_); rintro e w2 ⟨rfl, hf⟩; have HF2 := Lib.hid (HF.out.trans hf); have c0 := (H.out.fr (HF.out.trans hf)).c0; clear hf)
      | (go_at_call 87; (with_reducible refine (mfind_c q _ ns s none _ (H.out.fr HF2.out) HR.out).mono ?_); rintro e w3 ⟨rfl, rfl⟩))
     go_ret2
     exact HSM.out _ ⟨0, 6, ns⟩ HF2.out rfl
    have hq : putM ns s = ⟨ns.length, 0, ns ++ [s]⟩ := by unfold putM; rw [if_neg (by rw [hv]; decide), if_neg (by rw [hcc]; exact h255), hr]; exact if_pos hl
    rw [hq]
    have HR := Lib.hid hr
    have HL := Lib.hid hl
    have d2 : decide ((1048576 : Int) ≤ ns.length) = false := decide_eq_false (by omega)
    have d2' : decide (1048576 ≤ ns.length) = false := decide_eq_false (by omega)
    have q1 : (ns.length : Int) ≤ 1048576 := by omega
    clear h hs hT hl same hv hc hq hr hcc h255
    go_enter Tryd.func66, Tryd.ntmps66
    go_upto_region 8 with (first
     | (go_at_call 63; (with_reducible refine (mvalid_c s true _ HS.out HT.out HV.out).mono ?_); rintro e w1 ⟨rfl, hf⟩; have HF := Lib.hid hf; clear hf)
     | (go_at_call 64; (with_reducible refine (mcount_c s (c : Int) _ HS2.out (HTB.out _ HF.out) HC.out).mono ?_); rintro e w2 ⟨rfl, hf⟩; have HF2 := Lib.hid (HF.out.trans hf); have H2 := Lib.hid (H.out.fr (HF.out.trans hf)); clear hf)
     | (go_at_call 87; (with_reducible refine (mfind_c q v ns s none _ H2.out HR.out).mono ?_); rintro e w3 ⟨rfl, rfl⟩))
    obtain ⟨v', w4, hr, k0, kf, hnb, hfr, hnw⟩ := mput_steps s H2.out HL.out
    have HNB := Lib.hid hnb
    have HFR := Lib.hid hfr
    have HNW := Lib.hid hnw
    have HRUN := Lib.hid hr
    have c0 := H2.out.c0
    obtain ⟨A, cp, rfl⟩ : ∃ A cp, v = .slice A ns.length cp := by
     obtain ⟨A, cp, e⟩ := H2.out.own.rd.len
     rw [stw_length] at e
     exact ⟨A, cp, e⟩
    obtain ⟨A', cp', rfl⟩ : ∃ A' cp', v' = .slice A' (ns.length + 1) cp' := by
     obtain ⟨A', cp', e⟩ := hnb.own.rd.len
     rw [stw_length, List.length_append] at e
     exact ⟨A', cp', e⟩
    clear hnb hfr hnw hr
    go_wp2_with (at_builtin; refine Lib.wpList_append_run _ rfl _ _ _ _ rfl _ _ rfl rfl _ w4 HRUN.out ?_)
    go_ret2
    refine ⟨by simp, _, HNB.out, (HF2.out.mono (fun _ h _ => h.elim)).trans HFR.out, fun k hk => (HNW.out k hk).imp id (fun h => Nat.le_trans HF2.out.size h)⟩
end Go.Proofs.YtjiaaefpepdoeaaDoor
namespace Go.Proofs.YtjiaaefpepdoeaaDoor
open Go.RowKit Md Go.Proofs.YtjiaaefpepdoeaaDoorW.PrintWords
open Go.Proofs.YtjiaaefpepdoeaaDoor.PSlideMeans (S26 z26 k26)
set_option linter.unusedVariables false
theorem wpList_cutAt {P : Program} {ops : Array Oper} {Q : Exit → Act → World → Prop} {l : List Oper} {a : Act} {w : World} (n : Nat) (R : Act → World → Prop)
  (h : ∀ L2, (∀ a w, R a w → wpList P ops Q L2 a w) → wpList P ops Q (l.take n ++ L2) a w) (h2 : ∀ a w, R a w → wpList P ops Q (l.drop n) a w) : wpList P ops Q l a w := by
 rw [← List.take_append_drop n l]; exact h _ h2
def MayP : Nat → S26 → Prop
 | 0, _ => False
 | d + 1, t => (t.f0 = 0 → t.f2.length ≤ 64 ∧ t.f2 = normD t.f2) ∧ (t.f0 = 7 → t.f6.length ≤ 4096) ∧ (t.f0 = 4 ∨ t.f0 = 6 → t.f5.length ≤ 255 ∧ (t.f0 = 6 → t.f5.length = 2) ∧ ∀ x ∈ t.f5, MayP d x)
def MayA (d : Nat) (t : S26) (e : Ending) : Prop := ∃ r, e = .returned (.bool r) ∧ (r = true → MayP d t)
def MayC (d : Nat) : Prop := ∀ (t : S26) (A2 A5 A6 : Option Addr) (c2 c5 c6 : Nat) (w : World), Tabs w → TR d w t [.int .i64 t.f0, .bool t.f1, .slice A2 t.f2.length c2, .string t.f3, .int .i64 t.f4, .slice A5 t.f5.length c5, .slice A6 t.f6.length c6] →
 Calls Tryd.prog 31 #[.agg #[.int .i64 t.f0, .bool t.f1, .slice A2 t.f2.length c2, .string t.f3, .int .i64 t.f4, .slice A5 t.f5.length c5, .slice A6 t.f6.length c6]] w fun e w' => MayA d t e ∧ Fr w w' (fun _ => False)
theorem MayP.mk0 {d : Nat} {t : S26} (h0 : t.f0 = 0) (h : t.f2.length ≤ 64 ∧ t.f2 = normD t.f2) : MayP (d + 1) t := ⟨fun _ => h, fun e => by omega, fun e => by omega⟩
theorem MayP.mk7 {d : Nat} {t : S26} (h0 : t.f0 = 7) (h : t.f6.length ≤ 4096) : MayP (d + 1) t := ⟨fun e => by omega, fun _ => h, fun e => by omega⟩
theorem MayP.mkx {d : Nat} {t : S26} (h0 : t.f0 ≠ 0) (h7 : t.f0 ≠ 7) (h4 : t.f0 ≠ 4) (h6 : t.f0 ≠ 6) : MayP (d + 1) t := ⟨fun e => absurd e h0, fun e => absurd e h7, fun e => e.elim (fun e => absurd e h4) (fun e => absurd e h6)⟩
theorem MayP.mk46 {d : Nat} {t : S26} (h0 : t.f0 = 4 ∨ t.f0 = 6) (h : t.f5.length ≤ 255) (h2 : t.f0 = 6 → t.f5.length = 2) (hx : ∀ j, j < t.f5.length → MayP d (t.f5.getD j z26)) : MayP (d + 1) t :=
 ⟨fun e => by omega, fun e => by omega, fun _ => ⟨h, h2, fun x hm => by
  obtain ⟨j, hj, e⟩ := List.getElem_of_mem hm
  have := hx j hj
  rwa [List.getD_eq_getElem?_getD, List.getElem?_eq_getElem hj, Option.getD_some, e] at this⟩⟩
theorem MayA.no {d : Nat} {t : S26} : MayA d t (.returned (.bool false)) := ⟨false, rfl, fun h => Bool.noConfusion h⟩
theorem MayA.mk {d : Nat} {t : S26} (r : Bool) (h : r = true → MayP d t) : MayA d t (.returned (.bool r)) := ⟨r, rfl, h⟩
set_option maxRecDepth 100000 in
set_option maxHeartbeats 8000000 in
theorem may_of (d : Nat) (ih : MayC d) : MayC (d + 1) := by
 intro t A2 A5 A6 c2 c5 c6 w hT ht
 obtain ⟨k, bb, f2, s, nn, f5, f6⟩ := t
 simp only at ht ⊢
 have hb0 : (w.alloc (.cells #[.int .i64 k, .bool bb, .slice A2 f2.length c2, .string s, .int .i64 nn, .slice A5 f5.length c5, .slice A6 f6.length c6] 26)).heap[w.heap.size]? = some (.cells #[.int .i64 k, .bool bb, .slice A2 f2.length c2, .string s, .int .i64 nn, .slice A5 f5.length c5, .slice A6 f6.length c6] 26 (0, 0)) := blk_new _ _ _
 obtain ⟨D, hD⟩ : ∃ D, w.heap.size = D := ⟨_, rfl⟩
 obtain ⟨w1, hw1⟩ : ∃ w1, w.alloc (.cells #[.int .i64 k, .bool bb, .slice A2 f2.length c2, .string s, .int .i64 nn, .slice A5 f5.length c5, .slice A6 f6.length c6] 26) = w1 := ⟨_, rfl⟩
 have hf1 : Fr w w1 (fun _ => False) := by rw [← hw1]; exact (Fr.refl w _).alloc _
 rw [hw1, hD] at hb0
 have HF1 := Lib.hid hf1
 have HB := Lib.hid hb0
 have HT := Lib.hid (hT.below hf1.below)
 have HTR := Lib.hid (ht.fr hf1)
 have HIH := Lib.hid ih
 have k0 : w1.cell? ⟨D, 0, none⟩ = some (.int .i64 k) := by simp [World.cell?, HB.out]
 have kf0 : w1.frozen? ⟨D, 0, none⟩ = false := by simp [World.frozen?, HB.out]
 have k1 : w1.cell? ⟨D, 1, none⟩ = some (.bool bb) := by simp [World.cell?, HB.out]
 have kf1 : w1.frozen? ⟨D, 1, none⟩ = false := by simp [World.frozen?, HB.out]
 have k2 : w1.cell? ⟨D, 2, none⟩ = some (.slice A2 f2.length c2) := by simp [World.cell?, HB.out]
 have kf2 : w1.frozen? ⟨D, 2, none⟩ = false := by simp [World.frozen?, HB.out]
 have k3 : w1.cell? ⟨D, 3, none⟩ = some (.string s) := by simp [World.cell?, HB.out]
 have kf3 : w1.frozen? ⟨D, 3, none⟩ = false := by simp [World.frozen?, HB.out]
 have k4 : w1.cell? ⟨D, 4, none⟩ = some (.int .i64 nn) := by simp [World.cell?, HB.out]
 have kf4 : w1.frozen? ⟨D, 4, none⟩ = false := by simp [World.frozen?, HB.out]
 have k5 : w1.cell? ⟨D, 5, none⟩ = some (.slice A5 f5.length c5) := by simp [World.cell?, HB.out]
 have kf5 : w1.frozen? ⟨D, 5, none⟩ = false := by simp [World.frozen?, HB.out]
 have k6 : w1.cell? ⟨D, 6, none⟩ = some (.slice A6 f6.length c6) := by simp [World.cell?, HB.out]
 have kf6 : w1.frozen? ⟨D, 6, none⟩ = false := by simp [World.frozen?, HB.out]
 clear hf1 hb0 ht hT ih
 go_enter Tryd.func31, Tryd.ntmps31
 go_upto_region 1 with (fail)
 (try simp only [hw1, hD])
 clear hw1 hD
 rename_i K hK
 apply wp_region_lit
 simp only [List.append]
 refine wpList_cutAt 14 (fun a w' => w1 = w' ∧ ∃ x4 x5 x6 x7 x8 x9 x10 x11 x12 x13 x14 x15 x16 b, a = ⟨#[.agg #[.int .i64 k, .bool bb, .slice A2 f2.length c2, .string s, .int .i64 nn, .slice A5 f5.length c5, .slice A6 f6.length c6], .pointer (some ⟨D, 0, none⟩), .bool false, undef, x4, x5, x6, x7, x8, x9, x10, x11, x12, x13, x14, x15, x16, .bool b, undef, undef, undef, undef, undef, undef, undef, undef, undef, undef, undef, undef, undef, undef, undef, undef, undef, undef, undef, undef, undef, undef, undef, undef, undef, undef, undef, undef, undef, undef, undef, undef, undef, undef, undef, undef, undef, undef, undef, undef, undef, undef, undef, undef, undef, undef, undef, undef, undef, undef, undef, undef, undef, undef, undef, undef, undef, undef, undef, undef, undef, undef, undef, undef, undef, undef, undef, undef, undef, undef, undef, undef, undef, undef, undef, undef, undef, undef, undef, undef, undef, undef, undef, undef, undef, undef, undef, undef, undef, undef, undef, undef, undef, undef, undef, undef, undef, undef, undef, undef, undef, undef, undef, undef, undef, undef, undef, undef, undef, undef, undef, undef, undef, undef, undef, undef, undef, undef, undef, undef, undef, undef, undef, undef, undef, undef, undef, undef, undef, undef, undef, undef, undef, undef, undef], []⟩) (fun L2 hL2 => ?_) (fun a w' hR => ?_)
 ·have HL2 := Lib.hid hL2
  clear hL2 hK
  simp only [List.take_succ_cons, List.take_zero, List.cons_append, List.nil_append]
  by_cases g : k = 0
  ·subst g
   (go_wp2; exact HL2.out _ _ ⟨rfl, _, _, _, _, _, _, _, _, _, _, _, _, _, _, rfl⟩)
  ·have g1 : (k == 0) = false := by simpa using g
   have g2 : (k != 0) = true := by simpa using g
   cases bb with
   | true => (go_wp2; exact HL2.out _ _ ⟨rfl, _, _, _, _, _, _, _, _, _, _, _, _, _, _, rfl⟩)
   | false => (go_wp2; exact HL2.out _ _ ⟨rfl, _, _, _, _, _, _, _, _, _, _, _, _, _, _, rfl⟩)
 obtain ⟨rfl, x4, x5, x6, x7, x8, x9, x10, x11, x12, x13, x14, x15, x16, b, rfl⟩ := hR
 simp only [List.drop_succ_cons, List.drop_zero]
 refine wpList_cutAt 10 (fun a w' => w1 = w' ∧ ∃ x4 x5 x6 x7 x8 x9 x10 x11 x12 x13 x14 x15 x16 x17 x18 x19 x20 x21 x22 x23 x24 x25 x26 b, a = ⟨#[.agg #[.int .i64 k, .bool bb, .slice A2 f2.length c2, .string s, .int .i64 nn, .slice A5 f5.length c5, .slice A6 f6.length c6], .pointer (some ⟨D, 0, none⟩), .bool false, undef, x4, x5, x6, x7, x8, x9, x10, x11, x12, x13, x14, x15, x16, x17, x18, x19, x20, x21, x22, x23, x24, x25, x26, .bool b, undef, undef, undef, undef, undef, undef, undef, undef, undef, undef, undef, undef, undef, undef, undef, undef, undef, undef, undef, undef, undef, undef, undef, undef, undef, undef, undef, undef, undef, undef, undef, undef, undef, undef, undef, undef, undef, undef, undef, undef, undef, undef, undef, undef, undef, undef, undef, undef, undef, undef, undef, undef, undef, undef, undef, undef, undef, undef, undef, undef, undef, undef, undef, undef, undef, undef, undef, undef, undef, undef, undef, undef, undef, undef, undef, undef, undef, undef, undef, undef, undef, undef, undef, undef, undef, undef, undef, undef, undef, undef, undef, undef, undef, undef, undef, undef, undef, undef, undef, undef, undef, undef, undef, undef, undef, undef, undef, undef, undef, undef, undef, undef, undef, undef, undef, undef, undef, undef, undef, undef, undef, undef, undef, undef, undef], []⟩) (fun L2 hL2 => ?_) (fun a w' hR => ?_)
 ·have HL2 := Lib.hid hL2
  clear hL2 hK
  simp only [List.take_succ_cons, List.take_zero, List.cons_append, List.nil_append]
  cases b with
  | true => (go_wp2; exact HL2.out _ _ ⟨rfl, _, _, _, _, _, _, _, _, _, _, _, _, _, _, _, _, _, _, _, _, _, _, _, _, rfl⟩)
  | false =>
   by_cases g : k = 1
   ·subst g
    (go_wp2; exact HL2.out _ _ ⟨rfl, _, _, _, _, _, _, _, _, _, _, _, _, _, _, _, _, _, _, _, _, _, _, _, _, rfl⟩)
   ·have g1 : (k == 1) = false := by simpa using g
    have g2 : (k != 1) = true := by simpa using g
    (go_wp2; exact HL2.out _ _ ⟨rfl, _, _, _, _, _, _, _, _, _, _, _, _, _, _, _, _, _, _, _, _, _, _, _, _, rfl⟩)
 obtain ⟨rfl, x4, x5, x6, x7, x8, x9, x10, x11, x12, x13, x14, x15, x16, x17, x18, x19, x20, x21, x22, x23, x24, x25, x26, b, rfl⟩ := hR
 simp only [List.drop_succ_cons, List.drop_zero]
 refine wpList_cutAt 15 (fun a w' => w1 = w' ∧ ∃ x4 x5 x6 x7 x8 x9 x10 x11 x12 x13 x14 x15 x16 x17 x18 x19 x20 x21 x22 x23 x24 x25 x26 x27 x28 x29 x30 x31 x32 x33 x34 x35 x36 x37 x38 x39 x40 x41 b, a = ⟨#[.agg #[.int .i64 k, .bool bb, .slice A2 f2.length c2, .string s, .int .i64 nn, .slice A5 f5.length c5, .slice A6 f6.length c6], .pointer (some ⟨D, 0, none⟩), .bool false, undef, x4, x5, x6, x7, x8, x9, x10, x11, x12, x13, x14, x15, x16, x17, x18, x19, x20, x21, x22, x23, x24, x25, x26, x27, x28, x29, x30, x31, x32, x33, x34, x35, x36, x37, x38, x39, x40, x41, .bool b, undef, undef, undef, undef, undef, undef, undef, undef, undef, undef, undef, undef, undef, undef, undef, undef, undef, undef, undef, undef, undef, undef, undef, undef, undef, undef, undef, undef, undef, undef, undef, undef, undef, undef, undef, undef, undef, undef, undef, undef, undef, undef, undef, undef, undef, undef, undef, undef, undef, undef, undef, undef, undef, undef, undef, undef, undef, undef, undef, undef, undef, undef, undef, undef, undef, undef, undef, undef, undef, undef, undef, undef, undef, undef, undef, undef, undef, undef, undef, undef, undef, undef, undef, undef, undef, undef, undef, undef, undef, undef, undef, undef, undef, undef, undef, undef, undef, undef, undef, undef, undef, undef, undef, undef, undef, undef, undef, undef, undef, undef], []⟩) (fun L2 hL2 => ?_) (fun a w' hR => ?_)
 ·have HL2 := Lib.hid hL2
  clear hL2 hK
  simp only [List.take_succ_cons, List.take_zero, List.cons_append, List.nil_append]
  cases b with
  | true => (go_wp2; exact HL2.out _ _ ⟨rfl, _, _, _, _, _, _, _, _, _, _, _, _, _, _, _, _, _, _, _, _, _, _, _, _, _, _, _, _, _, _, _, _, _, _, _, _, _, _, _, rfl⟩)
  | false =>
   by_cases g : k = 2
   ·subst g
    (go_wp2; exact HL2.out _ _ ⟨rfl, _, _, _, _, _, _, _, _, _, _, _, _, _, _, _, _, _, _, _, _, _, _, _, _, _, _, _, _, _, _, _, _, _, _, _, _, _, _, _, rfl⟩)
   ·have g1 : (k == 2) = false := by simpa using g
    have g2 : (k != 2) = true := by simpa using g
    by_cases g3 : k = 3
    ·subst g3
     (go_wp2; exact HL2.out _ _ ⟨rfl, _, _, _, _, _, _, _, _, _, _, _, _, _, _, _, _, _, _, _, _, _, _, _, _, _, _, _, _, _, _, _, _, _, _, _, _, _, _, _, rfl⟩)
    ·have g4 : (k == 3) = false := by simpa using g3
     have g5 : (k != 3) = true := by simpa using g3
     (go_wp2; exact HL2.out _ _ ⟨rfl, _, _, _, _, _, _, _, _, _, _, _, _, _, _, _, _, _, _, _, _, _, _, _, _, _, _, _, _, _, _, _, _, _, _, _, _, _, _, _, rfl⟩)
 obtain ⟨rfl, x4, x5, x6, x7, x8, x9, x10, x11, x12, x13, x14, x15, x16, x17, x18, x19, x20, x21, x22, x23, x24, x25, x26, x27, x28, x29, x30, x31, x32, x33, x34, x35, x36, x37, x38, x39, x40, x41, b, rfl⟩ := hR
 simp only [List.drop_succ_cons, List.drop_zero]
 refine wpList_cutAt 16 (fun a w' => w1 = w' ∧ ∃ x4 x5 x6 x7 x8 x9 x10 x11 x12 x13 x14 x15 x16 x17 x18 x19 x20 x21 x22 x23 x24 x25 x26 x27 x28 x29 x30 x31 x32 x33 x34 x35 x36 x37 x38 x39 x40 x41 x42 x43 x44 x45 x46 x47 x48 x49 x50 x51 x52 x53 x54 x55 x56 x57 b, a = ⟨#[.agg #[.int .i64 k, .bool bb, .slice A2 f2.length c2, .string s, .int .i64 nn, .slice A5 f5.length c5, .slice A6 f6.length c6], .pointer (some ⟨D, 0, none⟩), .bool false, undef, x4, x5, x6, x7, x8, x9, x10, x11, x12, x13, x14, x15, x16, x17, x18, x19, x20, x21, x22, x23, x24, x25, x26, x27, x28, x29, x30, x31, x32, x33, x34, x35, x36, x37, x38, x39, x40, x41, x42, x43, x44, x45, x46, x47, x48, x49, x50, x51, x52, x53, x54, x55, x56, x57, .bool b, undef, undef, undef, undef, undef, undef, undef, undef, undef, undef, undef, undef, undef, undef, undef, undef, undef, undef, undef, undef, undef, undef, undef, undef, undef, undef, undef, undef, undef, undef, undef, undef, undef, undef, undef, undef, undef, undef, undef, undef, undef, undef, undef, undef, undef, undef, undef, undef, undef, undef, undef, undef, undef, undef, undef, undef, undef, undef, undef, undef, undef, undef, undef, undef, undef, undef, undef, undef, undef, undef, undef, undef, undef, undef, undef, undef, undef, undef, undef, undef, undef, undef, undef, undef, undef, undef, undef, undef, undef, undef, undef, undef, undef, undef], []⟩) (fun L2 hL2 => ?_) (fun a w' hR => ?_)
 ·have HL2 := Lib.hid hL2
  clear hL2 hK
  simp only [List.take_succ_cons, List.take_zero, List.cons_append, List.nil_append]
  cases b with
  | true => (go_wp2; exact HL2.out _ _ ⟨rfl, _, _, _, _, _, _, _, _, _, _, _, _, _, _, _, _, _, _, _, _, _, _, _, _, _, _, _, _, _, _, _, _, _, _, _, _, _, _, _, _, _, _, _, _, _, _, _, _, _, _, _, _, _, _, _, rfl⟩)
  | false =>
   by_cases g : k = 4
   ·subst g
    (go_wp2; exact HL2.out _ _ ⟨rfl, _, _, _, _, _, _, _, _, _, _, _, _, _, _, _, _, _, _, _, _, _, _, _, _, _, _, _, _, _, _, _, _, _, _, _, _, _, _, _, _, _, _, _, _, _, _, _, _, _, _, _, _, _, _, _, rfl⟩)
   ·have g1 : (k == 4) = false := by simpa using g
    have g2 : (k != 4) = true := by simpa using g
    by_cases g3 : k = 6
    ·subst g3
     (go_wp2; exact HL2.out _ _ ⟨rfl, _, _, _, _, _, _, _, _, _, _, _, _, _, _, _, _, _, _, _, _, _, _, _, _, _, _, _, _, _, _, _, _, _, _, _, _, _, _, _, _, _, _, _, _, _, _, _, _, _, _, _, _, _, _, _, rfl⟩)
    ·have g4 : (k == 6) = false := by simpa using g3
     have g5 : (k != 6) = true := by simpa using g3
     (go_wp2; exact HL2.out _ _ ⟨rfl, _, _, _, _, _, _, _, _, _, _, _, _, _, _, _, _, _, _, _, _, _, _, _, _, _, _, _, _, _, _, _, _, _, _, _, _, _, _, _, _, _, _, _, _, _, _, _, _, _, _, _, _, _, _, _, rfl⟩)
 obtain ⟨rfl, x4, x5, x6, x7, x8, x9, x10, x11, x12, x13, x14, x15, x16, x17, x18, x19, x20, x21, x22, x23, x24, x25, x26, x27, x28, x29, x30, x31, x32, x33, x34, x35, x36, x37, x38, x39, x40, x41, x42, x43, x44, x45, x46, x47, x48, x49, x50, x51, x52, x53, x54, x55, x56, x57, b, rfl⟩ := hR
 simp only [List.drop_succ_cons, List.drop_zero]
 refine wpList_cutAt 10 (fun a w' => w1 = w' ∧ ∃ x4 x5 x6 x7 x8 x9 x10 x11 x12 x13 x14 x15 x16 x17 x18 x19 x20 x21 x22 x23 x24 x25 x26 x27 x28 x29 x30 x31 x32 x33 x34 x35 x36 x37 x38 x39 x40 x41 x42 x43 x44 x45 x46 x47 x48 x49 x50 x51 x52 x53 x54 x55 x56 x57 x58 x59 x60 x61 x62 x63 x64 x65 x66 x67 b, a = ⟨#[.agg #[.int .i64 k, .bool bb, .slice A2 f2.length c2, .string s, .int .i64 nn, .slice A5 f5.length c5, .slice A6 f6.length c6], .pointer (some ⟨D, 0, none⟩), .bool false, undef, x4, x5, x6, x7, x8, x9, x10, x11, x12, x13, x14, x15, x16, x17, x18, x19, x20, x21, x22, x23, x24, x25, x26, x27, x28, x29, x30, x31, x32, x33, x34, x35, x36, x37, x38, x39, x40, x41, x42, x43, x44, x45, x46, x47, x48, x49, x50, x51, x52, x53, x54, x55, x56, x57, x58, x59, x60, x61, x62, x63, x64, x65, x66, x67, .bool b, undef, undef, undef, undef, undef, undef, undef, undef, undef, undef, undef, undef, undef, undef, undef, undef, undef, undef, undef, undef, undef, undef, undef, undef, undef, undef, undef, undef, undef, undef, undef, undef, undef, undef, undef, undef, undef, undef, undef, undef, undef, undef, undef, undef, undef, undef, undef, undef, undef, undef, undef, undef, undef, undef, undef, undef, undef, undef, undef, undef, undef, undef, undef, undef, undef, undef, undef, undef, undef, undef, undef, undef, undef, undef, undef, undef, undef, undef, undef, undef, undef, undef, undef, undef], []⟩) (fun L2 hL2 => ?_) (fun a w' hR => ?_)
 ·have HL2 := Lib.hid hL2
  clear hL2 hK
  simp only [List.take_succ_cons, List.take_zero, List.cons_append, List.nil_append]
  cases b with
  | true => (go_wp2; exact HL2.out _ _ ⟨rfl, _, _, _, _, _, _, _, _, _, _, _, _, _, _, _, _, _, _, _, _, _, _, _, _, _, _, _, _, _, _, _, _, _, _, _, _, _, _, _, _, _, _, _, _, _, _, _, _, _, _, _, _, _, _, _, _, _, _, _, _, _, _, _, _, _, rfl⟩)
  | false =>
   by_cases g : k = 7
   ·subst g
    (go_wp2; exact HL2.out _ _ ⟨rfl, _, _, _, _, _, _, _, _, _, _, _, _, _, _, _, _, _, _, _, _, _, _, _, _, _, _, _, _, _, _, _, _, _, _, _, _, _, _, _, _, _, _, _, _, _, _, _, _, _, _, _, _, _, _, _, _, _, _, _, _, _, _, _, _, _, rfl⟩)
   ·have g1 : (k == 7) = false := by simpa using g
    have g2 : (k != 7) = true := by simpa using g
    (go_wp2; exact HL2.out _ _ ⟨rfl, _, _, _, _, _, _, _, _, _, _, _, _, _, _, _, _, _, _, _, _, _, _, _, _, _, _, _, _, _, _, _, _, _, _, _, _, _, _, _, _, _, _, _, _, _, _, _, _, _, _, _, _, _, _, _, _, _, _, _, _, _, _, _, _, _, rfl⟩)
 obtain ⟨rfl, x4, x5, x6, x7, x8, x9, x10, x11, x12, x13, x14, x15, x16, x17, x18, x19, x20, x21, x22, x23, x24, x25, x26, x27, x28, x29, x30, x31, x32, x33, x34, x35, x36, x37, x38, x39, x40, x41, x42, x43, x44, x45, x46, x47, x48, x49, x50, x51, x52, x53, x54, x55, x56, x57, x58, x59, x60, x61, x62, x63, x64, x65, x66, x67, b, rfl⟩ := hR
 simp only [List.drop_succ_cons, List.drop_zero]
 apply wpList_nil
 apply hK
 clear hK K
 cases b with
 | true =>
  go_wp2
  go_ret
  exact ⟨MayA.no, HF1.out⟩
 | false =>
  obtain ⟨A2', x2', A5', x5', A6', x6', hcs, hr2, hd2, hr6, hb6, hsz, hl5, hm5, hch⟩ := HTR.out
  simp only [List.cons.injEq, Value.slice.injEq, and_true, true_and] at hcs
  obtain ⟨⟨rfl, rfl⟩, ⟨rfl, rfl⟩, rfl, rfl⟩ := hcs
  have HO2 := Lib.hid (hr2.keep ((Fr.refl w1 (fun _ => False)).drew) (fun _ _ h => h))
  have HCH := Lib.hid hch
  have HSZ : Hid (s.size ≤ 9223372036854775807) := Lib.hid (by have h : s.size ≤ maxLen := hsz; unfold maxLen at h; omega)
  clear hr2 hd2 hr6 hb6 hsz hl5 hm5 hch
  by_cases e0 : k = 0
  ·subst e0
   by_cases hl : f2.length ≤ 64
   ·have d1 : decide ((f2.length : Int) ≤ 64) = true := decide_eq_true (by omega)
    have d2 : decide (f2.length ≤ 64) = true := decide_eq_true hl
    have HL := Lib.hid hl
    have HL2 : Hid (f2.length ≤ 1048576) := Lib.hid (by omega)
    obtain ⟨nb, hnb⟩ : ∃ nb, normB bb f2 = nb := ⟨_, rfl⟩
    obtain ⟨L, hL⟩ : ∃ L, normD f2 = L := ⟨_, rfl⟩
    obtain ⟨sm, hsm⟩ : ∃ sm, (decide (bb = nb) && decide (f2 = L)) = sm := ⟨_, rfl⟩
    have HNB := Lib.hid hnb
    have HNL := Lib.hid hL
    have HSM := Lib.hid hsm
    clear hl hnb hL hsm HCH HIH
    go_upto_region 5 with (fail)
    clear k0 k3 k4 k5 k6 kf0 kf1 kf2 kf3 kf4 kf5 kf6
    (first | (go_region_held3 (fun w' => w'.cell? ⟨D, 1, none⟩ = some (.bool bb) ∧ w'.cell? ⟨D, 2, none⟩ = some (.slice A2 f2.length c2)) (first | exact ⟨r1, r2⟩ | exact ⟨g1, g2⟩ | exact ⟨k1, k2⟩) (first | (go_at_call 33; (with_reducible refine (norm_c bb A2 c2 f2 _ HO2.out HL2.out).mono ?_); rintro e w6 ⟨v, rfl, hn⟩; (rw [HNB.out]; rw [HNL.out] at hn); obtain ⟨Av, cv, rfl⟩ := hn.1.rd.len; rw [nw_length] at hn ⊢; have HN6 := Lib.hid hn.2.1; have HR6 := Lib.hid (HO2.out.keep hn.2.1 (fun _ _ h => h)); have HQ6 := Lib.hid hn.1.rd; have g1 := hn.2.1.cell (w := w1.drew) (a := ⟨D, 1, none⟩) k1 (fun h => h); have g2 := hn.2.1.cell (w := w1.drew) (a := ⟨D, 2, none⟩) k2 (fun h => h); clear hn) | (go_at_call 62; (with_reducible refine (samenum_c bb nb f2 L HL2.out A2 Av c2 cv _ HR6.out HQ6.out).mono ?_); rintro e w7 ⟨rfl, hf7⟩; rw [HSM.out]; have r1 := hf7.cell (a := ⟨D, 1, none⟩) g1 (fun h => h); have r2 := hf7.cell (a := ⟨D, 2, none⟩) g2 (fun h => h); have HFE := Lib.hid (HF1.out.trans ((((Fr.refl w1 (fun _ => False)).drew).trans HN6.out).trans hf7)); clear hf7))) | fail)
    all_goals
     go_wp2_with (fail)
     go_ret
     exact ⟨MayA.mk sm (fun h => MayP.mk0 rfl ⟨HL.out, by have := HSM.out; rw [h] at this; simp only [Bool.and_eq_true, decide_eq_true_eq] at this; rw [HNL.out]; exact this.2⟩), HFE.out⟩
   ·have d1 : decide ((f2.length : Int) ≤ 64) = false := decide_eq_false (by omega)
    have d2 : decide (f2.length ≤ 64) = false := decide_eq_false hl
    clear hl
    go_upto_region 5 with (fail)
    go_quiet (fail)
    go_wp2
    go_ret
    exact ⟨MayA.no, HF1.out.drewN _⟩
  have n0 : (k == 0) = false := by simpa using e0
  have m0 : (k != 0) = true := by simpa using e0
  by_cases e1 : k = 1
  ·subst e1
   cases hv : vld s with
   | true =>
    have HV := Lib.hid hv
    obtain ⟨r, hr⟩ : ∃ r, cntZ s = r := ⟨_, rfl⟩
    have HR := Lib.hid hr
    clear hv hr
    go_wp2_with (first
     | (go_at_call 63; (with_reducible refine (mvalid_c s true _ HSZ.out HT.out HV.out).mono ?_); rintro e w6 ⟨rfl, hf⟩; have HF6 := Lib.hid (HF1.out.trans hf); have HT6 := Lib.hid (HT.out.below hf.below); have g3 := hf.cell k3 (fun h => h); clear hf)
     | (go_at_call 64; (with_reducible refine (mcount_c s r _ HSZ.out HT6.out HR.out).mono ?_); rintro e w7 ⟨rfl, hf⟩; have HFE := Lib.hid (HF6.out.trans hf); clear hf))
    go_ret
    exact ⟨MayA.mk _ (fun _ => MayP.mkx (by simp) (by simp) (by simp) (by simp)), HFE.out⟩
   | false =>
    have HV := Lib.hid hv
    clear hv
    go_wp2_with (first
     | (go_at_call 63; (with_reducible refine (mvalid_c s false _ HSZ.out HT.out HV.out).mono ?_); rintro e w6 ⟨rfl, hf⟩; have HFE := Lib.hid (HF1.out.trans hf); clear hf))
    go_ret
    exact ⟨MayA.no, HFE.out⟩
  have n1 : (k == 1) = false := by simpa using e1
  have m1 : (k != 1) = true := by simpa using e1
  by_cases e23 : k = 2 ∨ k = 3
  ·by_cases h0 : 0 ≤ nn
   ·have d1 : decide (0 ≤ nn) = true := decide_eq_true h0
    rcases e23 with rfl | rfl
    ·go_wp2
     go_ret
     exact ⟨MayA.mk _ (fun _ => MayP.mkx (by simp) (by simp) (by simp) (by simp)), HF1.out⟩
    ·go_wp2
     go_ret
     exact ⟨MayA.mk _ (fun _ => MayP.mkx (by simp) (by simp) (by simp) (by simp)), HF1.out⟩
   ·have d1 : decide (0 ≤ nn) = false := decide_eq_false h0
    rcases e23 with rfl | rfl
    ·go_wp2
     go_ret
     exact ⟨MayA.no, HF1.out⟩
    ·go_wp2
     go_ret
     exact ⟨MayA.no, HF1.out⟩
  have e2 : ¬ k = 2 := fun e => e23 (.inl e)
  have e3 : ¬ k = 3 := fun e => e23 (.inr e)
  have n2 : (k == 2) = false := by simpa using e2
  have n3 : (k == 3) = false := by simpa using e3
  by_cases e5 : k = 5
  ·subst e5
   go_wp2
   go_ret
   exact ⟨MayA.mk _ (fun _ => MayP.mkx (by simp) (by simp) (by simp) (by simp)), HF1.out⟩
  have n5 : (k == 5) = false := by simpa using e5
  by_cases e7 : k = 7
  ·subst e7
   obtain ⟨r, hr⟩ : ∃ r, decide (f6.length ≤ 4096) = r := ⟨_, rfl⟩
   have hr2 : decide ((f6.length : Int) ≤ 4096) = r := by rw [← hr]; exact decide_eq_decide.2 (by omega)
   have HR : Hid (r = true → f6.length ≤ 4096) := Lib.hid (fun h => by rw [h] at hr; exact of_decide_eq_true hr)
   go_wp2
   go_ret
   exact ⟨MayA.mk r (fun h => MayP.mk7 rfl (HR.out h)), HF1.out⟩
  have n7 : (k == 7) = false := by simpa using e7
  by_cases e46 : k = 4 ∨ k = 6
  ·by_cases hbad : (k = 6 ∧ ¬ f5.length = 2) ∨ 255 < f5.length
   ·rcases e46 with rfl | rfl
    ·have d1 : decide (255 < f5.length) = true := decide_eq_true (by omega)
     have d2 : decide ((255 : Int) < f5.length) = true := decide_eq_true (by omega)
     clear hbad
     go_wp2
     go_ret
     exact ⟨MayA.no, HF1.out⟩
    ·by_cases h2 : f5.length = 2
     ·exact absurd hbad (by omega)
     ·have d1 : ((f5.length : Int) == 2) = false := by simp; omega
      have d2 : ((f5.length : Int) != 2) = true := by simp; omega
      have d3 : (f5.length == 2) = false := by simpa using h2
      have d4 : (f5.length != 2) = true := by simpa using h2
      have d5 : ¬ (f5.length : Int) = 2 := by omega
      clear hbad
      go_wp2
      go_ret
      exact ⟨MayA.no, HF1.out⟩
   ·have HLE : Hid (f5.length ≤ 255 ∧ (k = 6 → f5.length = 2)) := Lib.hid ⟨by omega, fun h => by omega⟩
    have q5 : (f5.length : Int) ≤ 255 := by omega
    have d1 : decide (255 < f5.length) = false := decide_eq_false (by omega)
    have d2 : decide ((255 : Int) < f5.length) = false := decide_eq_false (by omega)
    clear HSZ HO2 n0 m0 n1 m1 n2 n3 n5 n7 e0 e1 e2 e3 e5 e7 e23
    rcases e46 with rfl | rfl
    ·skip
     clear hbad
     go_upto_region 19 with (fail)
     skip
     go_wp2
     go_loopg [3] f5.length (fun g a3 wr => ∃ i : Nat, a3 = .int .i64 i ∧ g + i = f5.length ∧ Hid (Fr w1 wr (fun _ => False) ∧ ∀ j, j < i → MayP d (f5.getD j z26)))
     case atStart => exact ⟨0, rfl, by omega, Lib.hid ⟨Fr.refl _ _, fun j hj => absurd hj (by omega)⟩⟩
     case round =>
      obtain ⟨i, rfl, hgi, HI⟩ := hrel
      have HGI := Lib.hid hgi
      clear hgi k0 kf0 k1 kf1 k2 kf2 k3 kf3 k4 kf4 k5 kf5 k6 kf6
      have HBr := Lib.hid (HI.out.1.blk HB.out (fun h => h))
      have k0 : wr.cell? ⟨D, 0, none⟩ = some (.int .i64 4) := by simp [World.cell?, HBr.out]
      have kf0 : wr.frozen? ⟨D, 0, none⟩ = false := by simp [World.frozen?, HBr.out]
      have k1 : wr.cell? ⟨D, 1, none⟩ = some (.bool bb) := by simp [World.cell?, HBr.out]
      have kf1 : wr.frozen? ⟨D, 1, none⟩ = false := by simp [World.frozen?, HBr.out]
      have k2 : wr.cell? ⟨D, 2, none⟩ = some (.slice A2 f2.length c2) := by simp [World.cell?, HBr.out]
      have kf2 : wr.frozen? ⟨D, 2, none⟩ = false := by simp [World.frozen?, HBr.out]
      have k3 : wr.cell? ⟨D, 3, none⟩ = some (.string s) := by simp [World.cell?, HBr.out]
      have kf3 : wr.frozen? ⟨D, 3, none⟩ = false := by simp [World.frozen?, HBr.out]
      have k4 : wr.cell? ⟨D, 4, none⟩ = some (.int .i64 nn) := by simp [World.cell?, HBr.out]
      have kf4 : wr.frozen? ⟨D, 4, none⟩ = false := by simp [World.frozen?, HBr.out]
      have k5 : wr.cell? ⟨D, 5, none⟩ = some (.slice A5 f5.length c5) := by simp [World.cell?, HBr.out]
      have kf5 : wr.frozen? ⟨D, 5, none⟩ = false := by simp [World.frozen?, HBr.out]
      have k6 : wr.cell? ⟨D, 6, none⟩ = some (.slice A6 f6.length c6) := by simp [World.cell?, HBr.out]
      have kf6 : wr.frozen? ⟨D, 6, none⟩ = false := by simp [World.frozen?, HBr.out]
      have qi : (i : Int) ≤ 255 := by have := HGI.out; omega
      by_cases hi : i < f5.length
      ·have p1 : decide (i < f5.length) = true := decide_eq_true hi
       have q1 : (i : Int) < f5.length := by omega
       obtain ⟨b, off, rfl, hel⟩ := HCH.out (by first | omega | (simp only; omega))
       obtain ⟨es, hes, hec, htr⟩ := hel i hi
       obtain ⟨tm, htm⟩ : ∃ tm, f5.getD i z26 = tm := ⟨_, rfl⟩
       rw [htm] at htr
       obtain ⟨U2, u2, U5, u5, U6, u6, p0, p1', p2, p3, p4, p5, p6, htr2⟩ := TR.elem hes (fun j u h => HI.out.1.cell (hec j u h) (fun h => h)) (htr.fr HI.out.1)
       have HIL := Lib.hid hi
       have HCX : Hid (Calls Tryd.prog 31 #[.agg #[.int .i64 tm.f0, .bool tm.f1, .slice U2 tm.f2.length u2, .string tm.f3, .int .i64 tm.f4, .slice U5 tm.f5.length u5, .slice U6 tm.f6.length u6]] wr fun e w' => MayA d tm e ∧ Fr wr w' (fun _ => False)) := Lib.hid (HIH.out tm U2 U5 U6 u2 u5 u6 wr (HT.out.below HI.out.1.below) htr2)
       have HTM := Lib.hid htm
       clear hi hel hec htr htr2 htm
       go_upto_if 152 with (first
        | (go_at_call 31; (with_reducible refine HCX.out.mono ?_); rintro e w7 ⟨⟨r, rfl, hr⟩, hf⟩; have HR := Lib.hid hr; have HF7 := Lib.hid (HI.out.1.trans hf); clear hr hf))
       cases r with
       | false =>
        go_wp2
        go_ret
        exact ⟨MayA.no, HF1.out.trans HF7.out⟩
       | true =>
        go_wp2
        go_roundg (gk - 1)
        case measure => have := HGI.out; have := HIL.out; omega
        case rel => exact ⟨i + 1, by first | rfl | go_num, by have := HGI.out; have := HIL.out; omega, Lib.hid ⟨HF7.out, fun j hj => by
         by_cases e : j = i
         ·rw [e, HTM.out]; exact HR.out (by trivial)
         ·exact HI.out.2 j (by omega)⟩⟩
      ·have p1 : decide (i < f5.length) = false := decide_eq_false hi
       have HIE : Hid (i = f5.length) := Lib.hid (by have := HGI.out; omega)
       clear hi
       go_wp2
       go_ret
       exact ⟨MayA.mk true (fun _ => MayP.mk46 (.inl rfl) HLE.out.1 (fun _ => HLE.out.2 (by trivial)) (fun j hj => HI.out.2 j (by rw [HIE.out]; exact hj))), HF1.out.trans HI.out.1⟩
    ·skip
     have hl2 : f5.length = 2 := HLE.out.2 rfl
     have b1 : ((f5.length : Int) == 2) = true := by simp; omega
     have b2 : ((f5.length : Int) != 2) = false := by simp; omega
     have b3 : (f5.length == 2) = true := by simpa using hl2
     have b4 : (f5.length != 2) = false := by simpa using hl2
     have b5 : (f5.length : Int) = 2 := by omega
     clear hl2
     clear hbad
     go_upto_region 19 with (fail)
     clear b1 b2 b3 b4 b5
     go_wp2
     go_loopg [3] f5.length (fun g a3 wr => ∃ i : Nat, a3 = .int .i64 i ∧ g + i = f5.length ∧ Hid (Fr w1 wr (fun _ => False) ∧ ∀ j, j < i → MayP d (f5.getD j z26)))
     case atStart => exact ⟨0, rfl, by omega, Lib.hid ⟨Fr.refl _ _, fun j hj => absurd hj (by omega)⟩⟩
     case round =>
      obtain ⟨i, rfl, hgi, HI⟩ := hrel
      have HGI := Lib.hid hgi
      clear hgi k0 kf0 k1 kf1 k2 kf2 k3 kf3 k4 kf4 k5 kf5 k6 kf6
      have HBr := Lib.hid (HI.out.1.blk HB.out (fun h => h))
      have k0 : wr.cell? ⟨D, 0, none⟩ = some (.int .i64 6) := by simp [World.cell?, HBr.out]
      have kf0 : wr.frozen? ⟨D, 0, none⟩ = false := by simp [World.frozen?, HBr.out]
      have k1 : wr.cell? ⟨D, 1, none⟩ = some (.bool bb) := by simp [World.cell?, HBr.out]
      have kf1 : wr.frozen? ⟨D, 1, none⟩ = false := by simp [World.frozen?, HBr.out]
      have k2 : wr.cell? ⟨D, 2, none⟩ = some (.slice A2 f2.length c2) := by simp [World.cell?, HBr.out]
      have kf2 : wr.frozen? ⟨D, 2, none⟩ = false := by simp [World.frozen?, HBr.out]
      have k3 : wr.cell? ⟨D, 3, none⟩ = some (.string s) := by simp [World.cell?, HBr.out]
      have kf3 : wr.frozen? ⟨D, 3, none⟩ = false := by simp [World.frozen?, HBr.out]
      have k4 : wr.cell? ⟨D, 4, none⟩ = some (.int .i64 nn) := by simp [World.cell?, HBr.out]
      have kf4 : wr.frozen? ⟨D, 4, none⟩ = false := by simp [World.frozen?, HBr.out]
      have k5 : wr.cell? ⟨D, 5, none⟩ = some (.slice A5 f5.length c5) := by simp [World.cell?, HBr.out]
      have kf5 : wr.frozen? ⟨D, 5, none⟩ = false := by simp [World.frozen?, HBr.out]
      have k6 : wr.cell? ⟨D, 6, none⟩ = some (.slice A6 f6.length c6) := by simp [World.cell?, HBr.out]
      have kf6 : wr.frozen? ⟨D, 6, none⟩ = false := by simp [World.frozen?, HBr.out]
      have qi : (i : Int) ≤ 255 := by have := HGI.out; omega
      by_cases hi : i < f5.length
      ·have p1 : decide (i < f5.length) = true := decide_eq_true hi
       have q1 : (i : Int) < f5.length := by omega
       obtain ⟨b, off, rfl, hel⟩ := HCH.out (by first | omega | (simp only; omega))
       obtain ⟨es, hes, hec, htr⟩ := hel i hi
       obtain ⟨tm, htm⟩ : ∃ tm, f5.getD i z26 = tm := ⟨_, rfl⟩
       rw [htm] at htr
       obtain ⟨U2, u2, U5, u5, U6, u6, p0, p1', p2, p3, p4, p5, p6, htr2⟩ := TR.elem hes (fun j u h => HI.out.1.cell (hec j u h) (fun h => h)) (htr.fr HI.out.1)
       have HIL := Lib.hid hi
       have HCX : Hid (Calls Tryd.prog 31 #[.agg #[.int .i64 tm.f0, .bool tm.f1, .slice U2 tm.f2.length u2, .string tm.f3, .int .i64 tm.f4, .slice U5 tm.f5.length u5, .slice U6 tm.f6.length u6]] wr fun e w' => MayA d tm e ∧ Fr wr w' (fun _ => False)) := Lib.hid (HIH.out tm U2 U5 U6 u2 u5 u6 wr (HT.out.below HI.out.1.below) htr2)
       have HTM := Lib.hid htm
       clear hi hel hec htr htr2 htm
       go_upto_if 152 with (first
        | (go_at_call 31; (with_reducible refine HCX.out.mono ?_); rintro e w7 ⟨⟨r, rfl, hr⟩, hf⟩; have HR := Lib.hid hr; have HF7 := Lib.hid (HI.out.1.trans hf); clear hr hf))
       cases r with
       | false =>
        go_wp2
        go_ret
        exact ⟨MayA.no, HF1.out.trans HF7.out⟩
       | true =>
        go_wp2
        go_roundg (gk - 1)
        case measure => have := HGI.out; have := HIL.out; omega
        case rel => exact ⟨i + 1, by first | rfl | go_num, by have := HGI.out; have := HIL.out; omega, Lib.hid ⟨HF7.out, fun j hj => by
         by_cases e : j = i
         ·rw [e, HTM.out]; exact HR.out (by trivial)
         ·exact HI.out.2 j (by omega)⟩⟩
      ·have p1 : decide (i < f5.length) = false := decide_eq_false hi
       have HIE : Hid (i = f5.length) := Lib.hid (by have := HGI.out; omega)
       clear hi
       go_wp2
       go_ret
       exact ⟨MayA.mk true (fun _ => MayP.mk46 (.inr rfl) HLE.out.1 (fun _ => HLE.out.2 (by trivial)) (fun j hj => HI.out.2 j (by rw [HIE.out]; exact hj))), HF1.out.trans HI.out.1⟩
  ·have e4 : ¬ k = 4 := fun e => e46 (.inl e)
   have e6 : ¬ k = 6 := fun e => e46 (.inr e)
   have n4 : (k == 4) = false := by simpa using e4
   have n6 : (k == 6) = false := by simpa using e6
   go_wp2
   go_ret
   exact ⟨MayA.no, HF1.out⟩
theorem may_c : ∀ d, MayC d
 | 0 => fun t _ _ _ _ _ _ _ _ h => h.elim
 | d + 1 => may_of d (may_c d)
end Go.Proofs.YtjiaaefpepdoeaaDoor
