/-
  TEXTS JOINED FOR A CLAIM (SlideTwice): Sn0 Aw13 Snd. What each proves, and under which conditions, stands at its head. Conditions: none beyond those.
-/
import Derived.Test.YtjiaaefpepdoeaaZ2SlideTwice
import Derived.Test.YtjiaaefpepdoeaaZ0SlideTwice
import Derived.Test.YtjiaaefpepdoeaaZ1SlideTwice
import Derived.Laws.OwnMore
import Derived.Lib.AppendZeros
import Derived.Deep.RegionHeld3
import Derived.Deep.LoopGhost
import Derived.IntWalk
/-
  FOR SOUND AND LIVE: rows of bools, a store into a row of one's own, a part of a row; the plain side of Sound's two loops. Conditions: those named in each.
-/
namespace Go.Proofs.Ytjiaaefpepdoeaa
open Go.RowKit Md
set_option linter.unusedVariables false
def bw (l : List Bool) : List Value := l.map Value.bool
theorem bw_length (l : List Bool) : (bw l).length = l.length := by simp [bw]
theorem bw_get {l : List Bool} {k : Nat} (h : k < l.length) : (bw l)[k]? = some (.bool (l.getD k false)) := by simp [bw, List.getD, h]
theorem boolInfo : (Try.prog.info? 4).map (fun i => (i.zero, i.size, i.bytes)) = some (some (.bool false), 1, 1) := by kernel_rfl
theorem Rd.keep2 {w w1 : World} {v : Value} {xs : List Value} {S : Nat → Prop} (h : Rd w v xs) (hf : Fr w w1 S) (hn : 0 < xs.length → ∀ i, InBlk v i → ¬ S i) : Rd w1 v xs := by
  by_cases h0 : 0 < xs.length
  · exact h.keep hf (hn h0)
  · rcases h with h | ⟨b, off, cap, rfl, hx, _⟩
    · exact .inl h
    · omega
/-- a row that is read: the cell of an index -/
theorem Rd.cellAt {w : World} {A : Option Addr} {n cap : Nat} {xs : List Value} (h : Rd w (.slice A n cap) xs) (h0 : 0 < xs.length) : ∃ b off, A = some ⟨b, off, none⟩ ∧ ∀ i, i < xs.length → w.cell? ⟨b, off + i, none⟩ = xs[i]? := by
  rcases h with ⟨rfl, _⟩ | ⟨b, off, cap', e, _, _, _, _, hc⟩
  · simp at h0
  · injection e with e1 e2 e3; exact ⟨b, off, e1, hc⟩
theorem Own.cellAt {w : World} {e : TypeId} {A : Option Addr} {n cap : Nat} {xs : List Value} (h : Own w e (.slice A n cap) xs) (h0 : 0 < xs.length) : ∃ b, A = some ⟨b, 0, none⟩ ∧ b < w.heap.size ∧ ∀ i, i < xs.length → w.cell? ⟨b, i, none⟩ = xs[i]? ∧ w.frozen? ⟨b, i, none⟩ = false := by
  rcases h.form with ⟨e, rfl⟩ | ⟨b, cap', e, hl, hm, hg, hc, hf⟩
  · simp at h0
  · injection e with e1 e2 e3; exact ⟨b, e1, hg, fun i hi => ⟨hc i hi, hf i⟩⟩
theorem Apt.new {W : World} {e : TypeId} {v u : Value} {xs : List Value} (h : Own W e v xs) (hu : ∀ k, InBlk u k → W.heap.size ≤ k) : Apt v u := fun k hk h2 => by
  have := h.lt k hk; have := hu k h2; omega
section
variable {w W W1 : World} {e : TypeId} {v u : Value} {xs : List Value} {S : Nat → Prop} {T : TypeId} {p q : Nat} {ws : List Int} {size : Int}
theorem Own.setAt {g cap k : Nat} (h : Own W e (.slice (some ⟨g, 0, none⟩) xs.length cap) xs) (hk : k < xs.length) :
    Own (W.setCell ⟨g, k, none⟩ u) e (.slice (some ⟨g, 0, none⟩) xs.length cap) (xs.set k u) ∧ Fr W (W.setCell ⟨g, k, none⟩ u) (fun i => i = g) := by
  refine ⟨?_, Fr.setCell (S := fun i => i = g) (a := ⟨g, k, none⟩) (Fr.refl W _) (fun _ => rfl) _⟩
  rcases h.2 with ⟨hv, _⟩ | ⟨g', cap', cur, hv, hb, hg, hl, hm, hs, ht⟩
  · cases hv
  · injection hv with h1 h2 h3
    injection h1 with h1
    injection h1 with h1
    subst h1
    subst h3
    refine ⟨by simp, .inr ⟨g, cap, cur.setIfInBounds k u, by simp, Nat.zero_le _, ?_, by simpa using hl, hm, by simpa using hs, ?_⟩⟩
    · simp [World.setCell, Array.getElem?_modify, hg]
    · rw [List.length_set, Array.toList_setIfInBounds, List.take_set, ht]
/-- two rows of different kinds share nothing -/
theorem Own.apart {e2 : TypeId} {ys : List Value} (h : Own W e v xs) (k : Own W e2 u ys) (ne : e ≠ e2) : Apt v u := fun i h1 h2 => by
  obtain ⟨c1, b1⟩ := h.elem i h1
  obtain ⟨c2, b2⟩ := k.elem i h2
  rw [b1] at b2
  simp at b2
  exact ne b2.2
theorem Own.not_ptr (h : Own W e u xs) (ha : Ar T W p v ws size) (ne : T ≠ e) : ∀ i, InBlk u i → i ≠ p := fun i hi ei => by
  obtain ⟨c, b⟩ := h.elem i hi
  rw [ei, ha.blk] at b
  simp at b
  exact ne b.2
theorem Own.not_box {D : Nat} {c : Array Value} {T2 : TypeId} (h : Own W e u xs) (hb : W.heap[D]? = some (.cells c T2 (0, 0))) (ne : T2 ≠ e) : ¬ InBlk u D := fun hi => by
  obtain ⟨c2, b⟩ := h.elem D hi
  rw [hb] at b
  simp at b
  exact ne b.2
theorem Own.cases {ws : List Int} {A : Option Addr} {cap : Nat} (h : Own W 29 (.slice A ws.length cap) (uw ws)) :
    (A = none ∧ ws.length = 0 ∧ cap = 0) ∨ ∃ g, A = some ⟨g, 0, none⟩ ∧ ws.length ≤ cap ∧ cap ≤ maxLen ∧ g < W.heap.size ∧ (∀ i, i < ws.length → W.cell? ⟨g, i, none⟩ = some (.int .u64 (ws.getD i 0))) ∧ ∀ i, W.frozen? ⟨g, i, none⟩ = false := by
  rcases h.form with ⟨e, h0⟩ | ⟨g, cap', e, hl, hm, hg, hc, hf⟩
  · injection e with e1 e2 e3
    exact .inl ⟨e1, e2, e3⟩
  · injection e with e1 e2 e3
    subst e3
    rw [uw_length] at *
    exact .inr ⟨g, e1, hl, hm, hg, fun i hi => by rw [hc i hi, uw_get hi], hf⟩
theorem rd_sliced {ws : List Int} {A : Option Addr} {cap : Nat} (h : Own W 29 (.slice A ws.length cap) (uw ws)) (lo hi : Nat) (h1 : lo ≤ hi) (h2 : hi ≤ ws.length) :
    Rd W (sliced A lo hi cap 1) (uw ((ws.drop lo).take (hi - lo))) ∧ ∀ i, InBlk (sliced A lo hi cap 1) i → InBlk (.slice A ws.length cap) i := by
  have hlen : ((ws.drop lo).take (hi - lo)).length = hi - lo := by simp; omega
  rcases h.cases with ⟨rfl, h3, rfl⟩ | ⟨g, rfl, hl, hm, hg, hc, hf⟩
  · have hlo : lo = 0 := by omega
    have hhi : hi = 0 := by omega
    subst hlo hhi
    refine ⟨.inl ⟨by simp [uw], none, 0, rfl, fun _ => rfl⟩, fun i hi => ?_⟩
    simp [sliced, InBlk, Value.ownBlock] at hi
  · refine ⟨?_, fun i hi => ?_⟩
    · by_cases h0 : hi - lo = 0
      · have e : (ws.drop lo).take (hi - lo) = [] := List.eq_nil_of_length_eq_zero (by omega)
        rw [e]
        refine .inl ⟨rfl, (if cap = lo then some ⟨g, 0, none⟩ else (some (⟨g, 0, none⟩ : Addr)).map (·.add (lo * 1))), cap - lo, ?_, ?_⟩
        · unfold sliced; rw [h0]
        · intro hn
          split at hn
          · cases hn
          · simp at hn
      · have hne : ¬ cap = lo := by omega
        refine .inr ⟨g, lo, cap - lo, ?_, by rw [uw_length]; omega, by rw [uw_length]; omega, by omega, hg, fun i hi => ?_⟩
        · unfold sliced
          rw [if_neg hne, uw_length, hlen]
          simp [Addr.add_lit]
        · rw [uw_length] at hi
          rw [hc (lo + i) (by omega), uw_get hi]
          simp only [List.getD_eq_getElem?_getD, List.getElem?_take, List.getElem?_drop]
          rw [if_pos (by omega)]
    · unfold sliced at hi
      split at hi
      · simpa [InBlk, Value.ownBlock] using hi
      · simpa [InBlk, Value.ownBlock, Addr.add_lit] using hi
theorem elemWord : Try.prog.elem 39 = 29 := by kernel_rfl
theorem undWord : Try.prog.underlying 39 = some (.slice (Try.prog.elem 39)) := by kernel_rfl
theorem sizeWord (w : World) : (Go.sizeOf (Try.prog.elem 39)).run Try.prog w = .ok 1 w := by
  obtain ⟨i0, hi, hz0, hz1, hz2⟩ := info_parts wordInfo
  rw [elemWord]
  simp [Go.sizeOf, Go.typeInfo, hi, hz1]
theorem run_part (A : Option Addr) (len cap lo hi : Nat) (h1 : lo ≤ hi) (h2 : hi ≤ cap) (w : World) :
    (Instr.slice 39 (.slice A len cap) (some (.int .i64 (lo : Int))) (some (.int .i64 (hi : Int))) none).run Try.prog w = .ok (sliced A lo hi cap 1) w := by
  rw [run_slice_lh w _ _ _ _ undWord .i64 .i64 _ _ (by omega) (by omega) (by omega), sizeWord]
  rfl
/-- a part of a row of words, as it is handed on -/
theorem rd_part {ws : List Int} {A : Option Addr} {cap : Nat} (h : Own W 29 (.slice A ws.length cap) (uw ws)) (lo hi : Nat) (h1 : lo ≤ hi) (h2 : hi ≤ ws.length) :
    ∃ u, (∀ W : World, (Instr.slice 39 (.slice A ws.length cap) (some (.int .i64 (lo : Int))) (some (.int .i64 (hi : Int))) none).run Try.prog W = .ok u W) ∧ Rd W u (uw ((ws.drop lo).take (hi - lo))) ∧ ∀ i, InBlk u i → InBlk (.slice A ws.length cap) i := by
  have hcap : ws.length ≤ cap := by
    rcases h.cases with ⟨_, h3, rfl⟩ | ⟨g, _, hl, _⟩
    · omega
    · exact hl
  exact ⟨_, fun w => run_part A ws.length cap lo hi h1 (by omega) w, (rd_sliced h lo hi h1 h2).1, (rd_sliced h lo hi h1 h2).2⟩
end

/-- An append whose run is known, at a step of a region that draws its order. -/
theorem step_append_run {P : Program} (w : World) {ops : Array Oper} {o : Oper} {a : Act} {K : Act → World → Prop} {Q : Exit → Act → World → Prop} {E : Prop} (hgd : o.guard = none) (s x : Operand) (t tn : TypeId)
    (ho : o.op = .call { callee := .builtin .append, args := #[s, x], argTypes := #[t, tn] }) (vs vx : Value) (hs : a.eval s = vs) (hx : a.eval x = vx)
    (v' : Value) (w' : World) (hr : (Builtin.append_ #[t, tn] o.type #[vs, vx]).run P w = .ok v' w') (h : K (a.put o.dst v') w') :
    if Region.wanted o (yielded ops a.tmps) = true then Oper.wp P o a w K Q else E := by
  have hw : Region.wanted o (yielded ops a.tmps) = true := by simp [Region.wanted, hgd]
  rw [if_pos hw]
  exact Lib.wp_append_run w s x t tn ho vs vx hs hx v' w' hr h
/-- a part of a row of words that is an object's fields -/
theorem rd_fields {W : World} {ws : List Int} {A : Option Addr} {cap k : Nat} {f : Int} (h : Own W 29 (.slice A ws.length cap) (uw ws)) (h0 : 0 ≤ f) (h1 : (k : Int) + 1 + f ≤ ws.length)
    (hp : fieldsAt ws k f.toNat = (ws.drop (k + 1)).take (k + 1 + f.toNat - (k + 1))) :
    ∃ u, (∀ W : World, (Instr.slice 39 (.slice A ws.length cap) (some (.int .i64 ((k : Int) + 1))) (some (.int .i64 ((k : Int) + 1 + f))) none).run Try.prog W = .ok u W) ∧ (∀ W1, Own W1 29 (.slice A ws.length cap) (uw ws) → Rd W1 u (uw (fieldsAt ws k f.toNat))) := by
  obtain ⟨u, hu, _⟩ := rd_part h (k + 1) (k + 1 + f.toNat) (by omega) (by omega)
  have e1 : (((k + 1 : Nat)) : Int) = (k : Int) + 1 := by omega
  have e2 : (((k + 1 + f.toNat : Nat)) : Int) = (k : Int) + 1 + f := by omega
  rw [e1, e2] at hu
  refine ⟨u, hu, fun W1 h1 => ?_⟩
  obtain ⟨u2, hu2, hr2, _⟩ := rd_part h1 (k + 1) (k + 1 + f.toNat) (by omega) (by omega)
  rw [e1, e2] at hu2
  have := (hu W1).symm.trans (hu2 W1)
  injection this with e3
  rw [hp, e3]
  exact hr2
theorem mk_bools (n : Nat) (w : World) (hn : n ≤ 1048576) : ∃ w', (Instr.makeSlice 108 (.int .i64 (n : Int)) (.int .i64 (n : Int))).run Try.prog w = .ok (.slice (some ⟨w.heap.size, 0, none⟩) n n) w' ∧ Own w' 4 (.slice (some ⟨w.heap.size, 0, none⟩) n n) (bw (List.replicate n false)) ∧ Fr w w' (fun _ => False) := by
  obtain ⟨i0, hi, hz0, hz1, hz2⟩ := info_parts boolInfo
  obtain ⟨w', hr, ho, hg⟩ := run_make_full (P := Try.prog) w 0 108 4 i0 (.bool false) 1 Try.underlying108 hi hz0 hz1 .i64 .i64 n (by rw [hz2]; omega) (by unfold maxLen; omega) (Nat.zero_le _)
  refine ⟨w', hr, ?_, (Fr.refl w _).grown hg (fun k hk => by cases hk)⟩
  have e : (madeCells (Value.cells (.bool false)) (n * 1)).toList = bw (List.replicate n false) := by
    rw [Nat.mul_one]
    exact (toList_madeCells_one (.bool false) n).trans (by simp [bw])
  rw [e] at ho
  unfold Own
  rw [bw_length, List.length_replicate]
  exact ho

/-! ### the plain side -/
theorem fieldsAt_part {ws : List Int} {a n : Nat} (h : a + 1 + n ≤ ws.length) : fieldsAt ws a n = (ws.drop (a + 1)).take (a + 1 + n - (a + 1)) := by
  apply List.ext_getElem?
  intro i
  unfold fieldsAt
  rw [List.getElem?_take, List.getElem?_drop]
  by_cases hi : i < n
  · rw [if_pos (by omega), List.getElem?_map, List.getElem?_range hi]
    simp only [Option.map_some]
    rw [List.getElem?_eq_getElem (by omega)]
    unfold rd0 rdAt
    rw [if_pos (by omega)]
    have e : ((a : Int) + 1 + i).toNat = a + 1 + i := by omega
    rw [e]
    simp [List.getD, show a + 1 + i < ws.length by omega]
  · rw [if_neg (by omega)]
    simp; omega
def flatF (ws P : List Int) : List Int := P.flatMap fun a => fieldsAt ws a (fieldsH (obj0 ws a)).toNat
theorem flatF_snoc (ws P : List Int) (a : Int) : flatF ws (P ++ [a]) = flatF ws P ++ fieldsAt ws a (fieldsH (obj0 ws a)).toNat := by simp [flatF]
theorem flatF_len {ws : List Int} {b : Int} {L : List Int} (h : Md.Rows ws b L) : ∀ P Q, L = P ++ Q → (∀ a ∈ P, fieldsH (obj0 ws a) ≤ (obj0 ws a).size) → b + (flatF ws P).length + P.length ≤ ws.length := by
  induction h with
  | nil => intro P Q e _; cases P with
    | nil => simp [flatF]
    | cons a P => cases e
  | @cons a hd L ho hr ih =>
    intro P Q e hf
    cases P with
    | nil => have := obj_facts ho; simp [flatF]; omega
    | cons c P =>
      injection e with e1 e2
      subst e1
      have h1 := ih P Q e2 (fun x hx => hf x (by simp [hx]))
      have h2 := hf a (by simp)
      have h3 := obj_facts ho
      rw [obj0_of ho] at h2
      have h4 : flatF ws (a :: P) = fieldsAt ws a (fieldsH (obj0 ws a)).toNat ++ flatF ws P := by simp [flatF]
      rw [h4, obj0_of ho, List.length_append]
      have h5 : (fieldsAt ws a (fieldsH hd).toNat).length = (fieldsH hd).toNat := by simp [fieldsAt]
      rw [h5]
      simp only [List.length_cons]
      omega
theorem fieldsH_nonneg {h : Hdr} (hz : 0 ≤ h.size) : 0 ≤ fieldsH h := by unfold fieldsH; split <;> first | decide | (split <;> first | exact hz | decide)
def fitA (ws : List Int) (a : Int) : Bool := decide (fieldsH (obj0 ws a) ≤ (obj0 ws a).size)
theorem soundB_none {ws rs : List Int} (h : objs ws = none) : soundB ws rs = false := by unfold soundB; rw [h]
theorem soundB_far {ws rs L : List Int} {a : Int} (h : objs ws = some L) (ha : a ∈ L) (hf : fitA ws a = false) : soundB ws rs = false := by
  unfold soundB
  rw [h]
  simp only [Bool.and_eq_false_iff, List.all_eq_false]
  right
  refine ⟨a, ha, ?_⟩
  unfold soundAt
  unfold fitA at hf
  simp only [hf, Bool.false_and, Bool.false_eq_true, not_false_eq_true]
theorem soundB_of {ws rs L : List Int} (h : objs ws = some L) (hf : ∀ a ∈ L, fitA ws a = true) : soundB ws rs = (rs ++ flatF ws L).all fun w => soundW w (isList ws.length L) := by
  unfold soundB
  rw [h]
  simp only [List.all_append]
  congr 1
  have key : ∀ M : List Int, (∀ a ∈ M, fitA ws a = true) → (M.all fun at_ => soundAt ws (isList ws.length L) at_) = (flatF ws M).all fun w => soundW w (isList ws.length L) := by
    intro M
    induction M with
    | nil => intro _; rfl
    | cons a M ih =>
      intro hM
      have e : flatF ws (a :: M) = fieldsAt ws a (fieldsH (obj0 ws a)).toNat ++ flatF ws M := by simp [flatF]
      rw [e, List.all_append, List.all_cons, ih (fun b hb => hM b (by simp [hb]))]
      congr 1
      have := hM a (by simp)
      unfold fitA at this
      unfold soundAt
      simp only [this, Bool.true_and]
  exact key L hf
theorem isList_nil (n : Nat) : isList n [] = List.replicate n false := by
  unfold isList
  apply List.ext_getElem
  · simp
  · intro i h1 h2; simp
theorem isList_snoc {n k : Nat} {P : List Int} (hk : k < n) : (isList n P).set k true = isList n (P ++ [(k : Int)]) := by
  apply List.ext_getElem
  · simp [isList]
  · intro i h1 h2
    simp only [List.length_set, isList_len] at h1
    rw [List.getElem_set]
    by_cases h : k = i
    · subst h; simp [isList]
    · rw [if_neg h]
      have : ¬ ((i : Int) = k) := by omega
      simp [isList, this]
theorem okWs_fieldsAt {ws : List Int} (h : okWs ws) (a : Int) (n : Nat) : okWs (fieldsAt ws a n) := fun x hx => by
  unfold fieldsAt at hx
  obtain ⟨k, _, rfl⟩ := List.mem_map.1 hx
  unfold rd0
  cases hr : rdAt ws (a + 1 + k) with
  | none => exact ⟨Int.le_refl 0, by decide⟩
  | some y => obtain ⟨i, _, hi, rfl⟩ := rdAt_some hr; exact okWs_getD h i hi
theorem okWs_flatF {ws : List Int} (h : okWs ws) (P : List Int) : okWs (flatF ws P) := fun x hx => by
  obtain ⟨a, _, hx⟩ := List.mem_flatMap.1 hx
  exact okWs_fieldsAt h _ _ x hx
end Go.Proofs.Ytjiaaefpepdoeaa

/-
  CONTRACT: the awake of layer 13. Conditions: none.
-/
namespace Go.Proofs.Ytjiaaefpepdoeaa
open Go.RowKit Md
set_option linter.unusedVariables false
theorem rd_built (w : World) (T : TypeId) (l : List Value) (h0 : 0 < l.length) (hm : l.length ≤ 1000) : Rd (w.alloc (.cells l.toArray T)) (.slice (some ⟨w.heap.size, 0, none⟩) l.length l.length) l :=
  .inr ⟨w.heap.size, 0, l.length, rfl, h0, Nat.le_refl _, by simp only [maxLen]; omega, by simp, fun i hi => by
    rw [Nat.zero_add]
    simp only [World.cell?, blk_new]
    simp⟩
theorem own_built (w : World) (T : TypeId) (l : List Value) (hm : l.length ≤ 1000) : Own (w.alloc (.cells l.toArray T)) T (.slice (some ⟨w.heap.size, 0, none⟩) l.length l.length) l :=
  ⟨by simp, .inr ⟨w.heap.size, l.length, l.toArray, rfl, Nat.zero_le _, blk_new _ _ _, Nat.le_refl _, by simp only [maxLen]; omega, by simp, by simp⟩⟩
/-- an arena, and roots that lie in a new row -/
theorem TA.built {T : TypeId} {W : World} {p : Nat} {v : Value} {ws rs : List Int} {size : Int} (h : Ar T W p v ws size) (hr : okWs rs) (hm : rs.length ≤ 1000) :
    TA T (W.alloc (.cells (uw rs).toArray 29)) p v ws size (.slice (some ⟨W.heap.size, 0, none⟩) (uw rs).length (uw rs).length) rs :=
  ⟨h.fr ((Fr.refl _ _).alloc _), own_built W 29 (uw rs) (by rw [uw_length]; exact hm), fun k hk e => by
    have := h.own.lt k hk
    simp [InBlk, Value.ownBlock] at e
    omega, hr, by omega⟩
/-- the root's cell -/
theorem TA.root {T : TypeId} {W : World} {p : Nat} {v : Value} {ws rs : List Int} {size : Int} {g cap : Nat} (h : TA T W p v ws size (.slice (some ⟨g, 0, none⟩) rs.length cap) rs) (k : Nat) (hk : k < rs.length) :
    W.cell? ⟨g, k, none⟩ = some (.int .u64 (rs.getD k 0)) := by
  rcases h.own.form with ⟨e, h0⟩ | ⟨g', cap', e, hl, hm, hg, hc, hf⟩
  · cases e
  · injection e with e1 e2 e3
    injection e1 with e1
    injection e1 with e1
    subst e1
    rw [hc k (by rw [uw_length]; exact hk), uw_get hk]
set_option maxRecDepth 100000 in
set_option maxHeartbeats 4000000 in
theorem awake13_c (w : World) : Calls Try.prog 37 #[] w fun e w' => e = .returned (.bool true) ∧ Fr w w' (fun _ => False) := by
  obtain ⟨H, hH, okH, hT, hP, hL⟩ : ∃ H, makeH ⟨1, 0, 1, false⟩ = H ∧ okW H ∧ threadM [H] [5] ⟨true, 0⟩ = some ([23], [H]) ∧ ofW 5 0 = 5 ∧ ofW 7 1 = 23 :=
    ⟨134217750, by decide +kernel, by unfold okW; omega, by decide +kernel, by decide +kernel, by decide +kernel⟩
  have HH := Lib.hid hH
  have HT := Lib.hid hT
  have HP := Lib.hid hP
  have HL := Lib.hid hL
  have R1 : Hid (∀ w : World, Rd (w.alloc (.cells #[.int .u64 H] 29)) (.slice (some ⟨w.heap.size, 0, none⟩) 1 1) (uw [H])) := Lib.hid (fun w => rd_built w 29 (uw [H]) (by simp [uw]) (by simp [uw]))
  have K1 : Hid (okWs [H]) := Lib.hid (fun x hx => by simp at hx; subst hx; exact okH)
  have K5 : Hid (okWs [5]) := Lib.hid (fun x hx => by simp at hx; subst hx; unfold okW; omega)
  have Z0 : Hid ((0 : Int) ≤ 0) := Lib.hid (Int.le_refl 0)
  have L1 : Hid ((([H] : List Int).length : Int) + 0 ≤ 1048576) := Lib.hid (by simp only [List.length_cons, List.length_nil]; omega)
  clear hH okH hT hP hL
  go_enter Try.func37, Try.ntmps37
  go_upto_region 6 with (first
    | (go_at_call 32; (with_reducible refine (Wd.rmake_c 1 0 1 false H _ HH.out).mono ?_); rintro e w1 ⟨rfl, hb⟩; have HF1 := Lib.hid (Fr.of_below hb (fun _ => False)); clear hb)
    | (go_at_call 31; (with_reducible refine (fill_c _ [H] 0 _ (R1.out _) K1.out Z0.out L1.out).mono ?_); rintro e w2 ⟨p, v2, rfl, hn⟩; have HA2 := Lib.hid hn.1; have HF2 := Lib.hid ((HF1.out.alloc _).trans hn.2.1); have HNV : Hid (∀ k, InBlk v2 k → w.heap.size ≤ k) := Lib.hid (fun k hk => Nat.le_trans (HF1.out.alloc _).size (hn.2.2.2 k hk)); clear hn)
    | (go_at_call 46; (with_reducible refine (Wd.rof_c 5 0 5 _ HP.out).mono ?_); rintro e w3 ⟨rfl, n3, rfl⟩; have HA3 := Lib.hid (HA2.out.drewN n3); have HF3 := Lib.hid (HF2.out.drewN n3)))
  have hta := TA.built HA3.out K5.out (by decide)
  have hf4 := HF3.out.alloc (.cells #[.int .u64 5] 29)
  obtain ⟨W4, hW4⟩ : ∃ W4, (w2.drewN n3).alloc (.cells #[.int .u64 5] 29) = W4 := ⟨_, rfl⟩
  obtain ⟨g, hg⟩ : ∃ g, w2.heap.size = g := ⟨_, rfl⟩
  have hg0 : w.heap.size ≤ g := by rw [← hg]; exact HF2.out.size
  have hta2 : TA 101 W4 p v2 [H] (([H] : List Int).length + 0) (.slice (some ⟨g, 0, none⟩) 1 1) [5] := by rw [← hW4, ← hg]; exact hta
  rw [hW4] at hf4 ⊢
  rw [hg]
  have H4 := Lib.hid hta2
  have HF4 := Lib.hid hf4
  have HG := Lib.hid hg0
  clear hta hf4 hW4 hg hta2 hg0
  go_upto_region 8 with (first
    | (go_at_call 44; (with_reducible refine (thread_yes p v2 _ [H] [5] [23] [H] _ 0 true _ H4.out HT.out).mono ?_); rintro e w5 ⟨rfl, ht5, hf5⟩; have H5 := Lib.hid ht5; have HF5 := Lib.hid hf5; clear ht5 hf5)
    | (go_at_call 23; (with_reducible refine (get_c p v2 [23] _ 0 23 _ H5.out.ar rfl).mono ?_); rintro e w6 ⟨rfl, rfl⟩))
  have k0 := TA.root (rs := [H]) (g := g) (cap := 1) H5.out 0 (by simp)
  have e0 : ([H] : List Int).getD 0 0 = H := rfl
  rw [e0] at k0
  clear e0
  have HH2 : (H == H) = true := by simp
  go_wp2_with (first
    | (go_at_call 46; (with_reducible refine (Wd.rof_c 7 1 23 _ HL.out).mono ?_); rintro e w3 ⟨rfl, n3, rfl⟩))
  go_ret
  refine ⟨by simp, ?_⟩
  refine Fr.drewN (HF4.out.then_ HF5.out (fun i hi hlt => ?_)) _
  rcases hi with hi | hi
  · have := HNV.out i hi; omega
  · simp [InBlk, Value.ownBlock] at hi; have := HG.out; omega
end Go.Proofs.Ytjiaaefpepdoeaa

/-
  CONTRACT: the model's Sound. Conditions: none but that the model's arena stands and that the roots read as words.
-/
namespace Go.Proofs.Ytjiaaefpepdoeaa
open Go.RowKit Md
set_option linter.unusedVariables false
/-- The state of Sound's first loop: ib objects are marked, ia objects' fields are collected. -/
structure SI (w W : World) (p : Nat) (v : Value) (ws rs : List Int) (size : Int) (L : List Int) (lv bv av : Value) (ib ia : Nat) : Prop where
  ar : Ar 41 W p v ws size
  fr : Fr w W fun _ => False
  lo : Own W 3 lv (iw L)
  bo : Own W 4 bv (bw (isList ws.length (L.take ib)))
  ao : Own W 29 av (uw (rs ++ flatF ws (L.take ia)))
  inb : ∀ k, InBlk bv k → w.heap.size ≤ k
  ina : ∀ k, InBlk av k → w.heap.size ≤ k
  vlt : ∀ k, InBlk v k → k < w.heap.size
  plt : p < w.heap.size
  fit : ∀ a ∈ L.take ia, fitA ws a = true
section
variable {w W W1 : World} {p : Nat} {v : Value} {ws rs : List Int} {size : Int} {L : List Int} {lv bv av : Value} {ib ia : Nat}
theorem SI.frm (h : SI w W p v ws rs size L lv bv av ib ia) (hf : Fr W W1 fun _ => False) : SI w W1 p v ws rs size L lv bv av ib ia :=
  ⟨h.ar.fr hf, h.fr.trans hf, h.lo.keep hf (fun _ _ h => h), h.bo.keep hf (fun _ _ h => h), h.ao.keep hf (fun _ _ h => h), h.inb, h.ina, h.vlt, h.plt, h.fit⟩
theorem take_snoc {L : List Int} {i : Nat} (hi : i < L.length) {b : Int} (hb : L.getD i 0 = b) : L.take (i + 1) = L.take i ++ [b] := by
  rw [List.take_succ_eq_append_getElem hi, ← hb]
  simp [List.getD, hi]
theorem SI.bset {gb k cb i : Nat} (h : SI w W p v ws rs size L lv (.slice (some ⟨gb, 0, none⟩) ws.length cb) av i ia) (hi : i < L.length) (hb : L.getD i 0 = k) (hk : k < ws.length) :
    SI w (W.setCell ⟨gb, k, none⟩ (.bool true)) p v ws rs size L lv (.slice (some ⟨gb, 0, none⟩) ws.length cb) av (i + 1) ia := by
  have hbl : (bw (isList ws.length (L.take i))).length = ws.length := by rw [bw_length, isList_len]
  have hbo := h.bo
  rw [← hbl] at hbo
  rw [hbl] at hbo
  have hgb := h.inb gb (by simp [InBlk, Value.ownBlock])
  have hin : InBlk (.slice (some ⟨gb, 0, none⟩) ws.length cb) gb := by simp [InBlk, Value.ownBlock]
  have hs : Own (W.setCell ⟨gb, k, none⟩ (.bool true)) 4 (.slice (some ⟨gb, 0, none⟩) ws.length cb) ((bw (isList ws.length (L.take i))).set k (.bool true)) ∧ Fr W (W.setCell ⟨gb, k, none⟩ (.bool true)) (fun i => i = gb) := by
    have := Own.setAt (cap := cb) (g := gb) (k := k) (u := .bool true) (xs := bw (isList ws.length (L.take i))) (e := 4) (W := W) (by rw [hbl]; exact h.bo) (by rw [hbl]; exact hk)
    rw [hbl] at this
    exact this
  have hf := hs.2
  have e1 : (bw (isList ws.length (L.take i))).set k (.bool true) = bw (isList ws.length (L.take (i + 1))) := by
    unfold bw
    rw [take_snoc hi hb, ← isList_snoc hk, List.map_set]
  rw [e1] at hs
  have n1 : ∀ k, InBlk v k → ¬ k = gb := fun k hk e => by have := h.vlt k hk; omega
  have n2 : ∀ k, InBlk lv k → ¬ k = gb := fun k hk e => h.lo.apart h.bo (by decide) k hk (by rw [e]; exact hin)
  have n3 : ∀ k, InBlk av k → ¬ k = gb := fun k hk e => h.ao.apart h.bo (by decide) k hk (by rw [e]; exact hin)
  have np : ¬ p = gb := by have := h.plt; omega
  exact ⟨h.ar.keep hf np n1, h.fr.setCell (S := fun _ => False) (a := ⟨gb, k, none⟩) (fun (hlt : gb < w.heap.size) => by omega) _, h.lo.keep hf n2, hs.1, h.ao.keep hf n3, h.inb, h.ina, h.vlt, h.plt, h.fit⟩
theorem SI.app {k i : Nat} {f : Int} {u : Value} (h : SI w W p v ws rs size L lv bv av (i + 1) i) (hi : i < L.length) (hb : L.getD i 0 = k) (hfa : fitA ws k = true) (hf : fieldsH (obj0 ws k) = f)
    (hu : Rd W u (uw (fieldsAt ws k f.toNat))) (hlen : (rs ++ flatF ws (L.take i)).length + (fieldsAt ws k f.toNat).length ≤ 1073741824) :
    ∃ v' w1, (Builtin.append_ #[39, 39] 39 #[av, u]).run Try.prog W = .ok v' w1 ∧ SI w w1 p v ws rs size L lv bv v' (i + 1) (i + 1) ∧ Fr W w1 (fun i => InBlk av i) := by
  obtain ⟨i0, hi0, hz0, hz1, hzb⟩ := info_parts wordInfo
  obtain ⟨v', w1, hr, ho, hg, hn⟩ := run_append_rd (P := Try.prog) W 39 39 29 i0 (.int .u64 0) Try.underlying39 hi0 hz0 hz1 (by omega) rfl av u _ _ h.ao hu (uw_one _) (by rw [uw_length, uw_length]; exact hlen)
  rw [← uw_append, List.append_assoc, ← hf, ← flatF_snoc, ← take_snoc hi hb] at ho
  have hf1 : Fr W w1 (fun i => InBlk av i) := (Fr.refl W _).grown hg (fun k hk _ => hk)
  have n1 : ∀ k, InBlk v k → ¬ InBlk av k := fun k hk e => by have := h.vlt k hk; have := h.ina k e; omega
  have np : ¬ InBlk av p := fun e => by have := h.plt; have := h.ina p e; omega
  refine ⟨v', w1, hr, ⟨h.ar.keep hf1 np n1, h.fr.grown hg (fun k hk hlt => by have := h.ina k hk; omega), h.lo.keep hf1 (h.lo.apart h.ao (by decide)), h.bo.keep hf1 (h.bo.apart h.ao (by decide)), ho, h.inb, fun k hk => ?_, h.vlt, h.plt, fun a ha => ?_⟩, hf1⟩
  · rcases hn k hk with h1 | h1
    · exact h.ina k h1
    · exact Nat.le_trans h.fr.size h1
  · rw [take_snoc hi hb] at ha
    rcases List.mem_append.1 ha with ha | ha
    · exact h.fit a ha
    · simp only [List.mem_singleton] at ha; rw [ha]; exact hfa
end
set_option maxRecDepth 100000 in
set_option maxHeartbeats 4000000 in
theorem sound8_none (p : Nat) (v r : Value) (ws rs : List Int) (size : Int) (w : World) (h : Ar 41 w p v ws size) (ho : objs ws = none) :
    Calls Try.prog 39 #[.pointer (some ⟨p, 0, none⟩), r] w fun e w' => e = .returned (.bool (soundB ws rs)) ∧ Fr w w' (fun _ => False) := by
  rw [soundB_none ho]
  have H := Lib.hid h
  have HO : Hid ((objs ws).isSome = false) := Lib.hid (by rw [ho]; rfl)
  clear h ho
  go_enter Try.func39, Try.ntmps39
  go_wp2_with (first | (go_at_call 36; (with_reducible refine (mobjects_c p v ws size _ H.out).mono ?_); rintro e w1 ⟨u, rfl, hn⟩; rw [HO.out]; have HF := Lib.hid hn.2.1; clear hn))
  go_ret
  exact ⟨rfl, HF.out⟩
set_option maxRecDepth 100000 in
set_option maxHeartbeats 4000000 in
theorem sound8_some (p : Nat) (v r : Value) (ws rs L : List Int) (size : Int) (w : World) (h : Ar 41 w p v ws size) (hr : Rd w r (uw rs)) (hok : okWs rs) (hl : rs.length ≤ 1048576) (ho : objs ws = some L) :
    Calls Try.prog 39 #[.pointer (some ⟨p, 0, none⟩), r] w fun e w' => e = .returned (.bool (soundB ws rs)) ∧ Fr w w' (fun _ => False) := by
  have hle := h.le
  have hmx := h.mx
  have HLB : Hid (ws.length ≤ 1048576 ∧ rs.length ≤ 1048576) := Lib.hid (by omega)
  have HLR : Hid (rs.length ≤ 1073741824) := Lib.hid (by omega)
  have H := Lib.hid h
  have HR := Lib.hid hr
  have HOK := Lib.hid hok
  have HO : Hid ((objs ws).isSome = true) := Lib.hid (by rw [ho]; rfl)
  have HOL : Hid ((objs ws).getD [] = L) := Lib.hid (by rw [ho]; rfl)
  have HO2 := Lib.hid ho
  have HROW := Lib.hid (rows_of_objs ho)
  obtain ⟨SB, hsb⟩ : ∃ b, soundB ws rs = b := ⟨_, rfl⟩
  rw [hsb]
  have HSB := Lib.hid hsb
  obtain ⟨A, cap, rfl⟩ := h.val
  have q0 : 0 ≤ (ws.length : Int) := by omega
  have q1 : (ws.length : Int) ≤ 1048576 := by omega
  have qL : (L.length : Int) ≤ 1048576 := by have := HROW.out.len; omega
  clear h hr hok ho hsb hle hmx hl
  go_enter Try.func39, Try.ntmps39
  go_upto_region 5 with (first
    | (go_at_call 36; (with_reducible refine (mobjects_c p _ ws size _ H.out).mono ?_); rintro e w1 ⟨lv, rfl, hn⟩; rw [HO.out]; rw [HOL.out] at hn; have HN1 := Lib.hid hn.1; have HF1 := Lib.hid hn.2.1; have HA1 := Lib.hid (H.out.fr hn.2.1); have HR1 := Lib.hid (HR.out.keep hn.2.1 (fun _ _ h => h)); clear hn)
    | (go_at_call 40; (with_reducible refine (copy_c _ rs _ HR1.out HLR.out).mono ?_); rintro e w2 ⟨av, rfl, hn⟩; have HC2 := Lib.hid hn; have HF2 := Lib.hid (HF1.out.trans hn.2.1); have HA2 := Lib.hid (HA1.out.fr hn.2.1); have HN2 := Lib.hid (HN1.out.keep hn.2.1 (fun _ _ h => h)); have k0 := HA2.out.c0; clear hn))
  obtain ⟨w3, hmk, hbo, hfm⟩ := mk_bools ws.length w2 HLB.out.1
  have H0 : Hid (SI w w3 p (.slice A ws.length cap) ws rs size L lv (.slice (some ⟨w2.heap.size, 0, none⟩) ws.length ws.length) av 0 0) := Lib.hid ⟨HA2.out.fr hfm, HF2.out.trans hfm, HN2.out.keep hfm (fun _ _ h => h), by simpa [isList_nil] using hbo, by simpa [flatF] using HC2.out.1.keep hfm (fun _ _ h => h), (fun k hk => by have := HF2.out.size; simp [InBlk, Value.ownBlock] at hk; omega), (fun k hk => Nat.le_trans HF1.out.size (HC2.out.2.2 k hk)), H.out.own.lt, H.out.lt, by simp⟩
  clear hbo hfm
  obtain ⟨gb, hgb⟩ : ∃ gb, w2.heap.size = gb := ⟨_, rfl⟩
  rw [hgb] at hmk H0
  clear hgb
  go_wp2
  go_loopg [7, 9] L.length (fun g a7 a9 wr => ∃ (av : Value) (i : Nat), a7 = av ∧ a9 = .int .i64 i ∧ g + i = L.length ∧ Hid (SI w wr p (.slice A ws.length cap) ws rs size L lv (.slice (some ⟨gb, 0, none⟩) ws.length ws.length) av i i))
  case atStart => exact ⟨_, 0, rfl, rfl, rfl, H0⟩
  case round =>
    clear H0
    obtain ⟨av, i, rfl, rfl, hgi, HI⟩ := hrel
    have HG := Lib.hid hgi
    clear hgi
    obtain ⟨Al, cl, rfl⟩ := HI.out.lo.rd.len
    rw [iw_length] at *
    by_cases hi : i < L.length
    · obtain ⟨gl, rfl, hc⟩ : ∃ gl, Al = some ⟨gl, 0, none⟩ ∧ ∀ i, i < L.length → wr.cell? ⟨gl, i, none⟩ = (iw L)[i]? := by
        rcases HI.out.lo.form with ⟨e, h0⟩ | ⟨gl, cl', e, hl, hm, hg, hc, hf⟩
        · injection e with e1 e2 e3; omega
        · injection e with e1 e2 e3; rw [iw_length] at hc; exact ⟨gl, e1, hc⟩
      have ck := hc i hi
      rw [iw_get hi] at ck
      obtain ⟨b, hb⟩ : ∃ b, L.getD i 0 = b := ⟨_, rfl⟩
      rw [hb] at ck
      have hbm : b ∈ L := by rw [← hb, List.getD_eq_getElem?_getD, List.getElem?_eq_getElem hi]; exact List.getElem_mem hi
      obtain ⟨hd, hob, ho0, hb0, hb1, hrd, hz0, hz1, hz2⟩ := HROW.out.obj b hbm
      obtain ⟨k, rfl⟩ := Int.eq_ofNat_of_zero_le hb0
      have HB := Lib.hid hb
      have HI2 := Lib.hid hi
      have HOB := Lib.hid hob
      have HMEM := Lib.hid hbm
      have qk : (k : Int) < ws.length := hb1
      have qi : (i : Int) < L.length := by omega
      have HK : Hid (k < ws.length) := Lib.hid (by omega)
      obtain ⟨kd, z, t, n⟩ := hd
      have HZ : Hid (0 ≤ z ∧ z < 1048576 ∧ (k : Int) + 1 + z ≤ ws.length) := Lib.hid ⟨hz0, hz1, hz2⟩
      have HO0 := Lib.hid ho0
      obtain ⟨f, hfd⟩ : ∃ f, fieldsH ⟨kd, z, t, n⟩ = f := ⟨_, rfl⟩
      have HFD := Lib.hid hfd
      obtain ⟨hbc, hbf⟩ : wr.cell? ⟨gb, k, none⟩ = some (.bool ((isList ws.length (L.take i)).getD k false)) ∧ wr.frozen? ⟨gb, k, none⟩ = false := by
        rcases HI.out.bo.form with ⟨e, _⟩ | ⟨g', cap', e, _, _, _, hcb, hfb⟩
        · cases e
        · injection e with e1 e2 e3
          injection e1 with e1
          injection e1 with e1
          subst e1
          have := hcb k (by rw [bw_length, isList_len]; omega)
          rw [bw_get (by rw [isList_len]; omega)] at this
          exact ⟨this, hfb k⟩
      clear hi hb hbm hob ho0 hb0 hrd hz0 hz1 hz2 hfd hc hb1
      go_upto_region 10 with (fail)
      have HI3 := Lib.hid (HI.out.bset (k := k) HI2.out HB.out HK.out)
      obtain ⟨W1, hW1⟩ : ∃ W1, wr.setCell ⟨gb, k, none⟩ (.bool true) = W1 := ⟨_, rfl⟩
      rw [hW1] at HI3 ⊢
      clear hbc hbf hW1 ck HI
      have ck : W1.cell? ⟨gl, i, none⟩ = some (.int .i64 k) := by
        rcases HI3.out.lo.form with ⟨e, _⟩ | ⟨g', cap', e, _, _, _, hcb, hfb⟩
        · cases e
        · injection e with e1 e2 e3
          injection e1 with e1
          injection e1 with e1
          subst e1
          have := hcb i (by rw [iw_length]; exact HI2.out)
          rw [iw_get HI2.out, HB.out] at this
          exact this
      go_upto_region 11 with (first | (go_at_call 41; (with_reducible refine (mobj_some p _ ws size k _ _ HI3.out.ar HOB.out).mono ?_); rintro e wo ⟨rfl, hfo⟩))
      obtain ⟨W2, hW2⟩ : ∃ W2, wo.alloc (.cells #[.int .i64 kd, .int .i64 z, .int .i64 t, .bool n] 50) = W2 := ⟨_, rfl⟩
      obtain ⟨D, hD⟩ : ∃ D, wo.heap.size = D := ⟨_, rfl⟩
      have hf2 : Fr W1 W2 (fun _ => False) := by rw [← hW2]; exact hfo.alloc _
      have hdb : W2.heap[D]? = some (.cells #[.int .i64 kd, .int .i64 z, .int .i64 t, .bool n] 50 (0, 0)) := by rw [← hW2, ← hD]; exact blk_new _ _ _
      have HI4 := Lib.hid (HI3.out.frm hf2)
      have cl2 := hf2.cell ck (fun h => h)
      simp only [hW2, hD]
      have d0 : W2.cell? ⟨D, 0, none⟩ = some (.int .i64 kd) := by simp [World.cell?, hdb]
      have d1 : W2.cell? ⟨D, 1, none⟩ = some (.int .i64 z) := by simp [World.cell?, hdb]
      have d2 : W2.cell? ⟨D, 2, none⟩ = some (.int .i64 t) := by simp [World.cell?, hdb]
      have d3 : W2.cell? ⟨D, 3, none⟩ = some (.bool n) := by simp [World.cell?, hdb]
      have HDB := Lib.hid hdb
      clear hW2 hD hfo hf2 ck HI3 hdb
      refine wp_region_cls (S := fun w' => Fr W2 w' (fun _ => False)) (by kernel_rfl) (by kernel_rfl) ((Fr.refl W2 _).drew) (fun ne => ?_)
      generalize hS : (fun w' : World => Fr W2 w' (fun _ => False)) = S
      replace ne : Nonempty (Cw S) := by subst hS; exact ne
      have f0 : ∀ x : Cw S, x.val.cell? ⟨D, 0, none⟩ = some (.int .i64 kd) := by subst hS; exact fun x => x.prop.cell d0 (fun h => h)
      have f1 : ∀ x : Cw S, x.val.cell? ⟨D, 1, none⟩ = some (.int .i64 z) := by subst hS; exact fun x => x.prop.cell d1 (fun h => h)
      have f2 : ∀ x : Cw S, x.val.cell? ⟨D, 2, none⟩ = some (.int .i64 t) := by subst hS; exact fun x => x.prop.cell d2 (fun h => h)
      have f3 : ∀ x : Cw S, x.val.cell? ⟨D, 3, none⟩ = some (.bool n) := by subst hS; exact fun x => x.prop.cell d3 (fun h => h)
      have HX : Hid (∀ w', S w' → Fr W2 w' (fun _ => False)) := Lib.hid (by subst hS; exact fun w' h => h)
      have HK2 : Hid (∀ w1 w2, S w1 → Below w1.heap.size w1 w2 → S w2) := Lib.hid (by subst hS; exact fun w1 w2 h hb => h.trans (Fr.of_below hb _))
      clear hS
      repeat (any_goals (first | go_big_quiet_step ((go_at_call 42; exact Cw.call (Wd.rfields_c kd z t n f _ HFD.out) (fun w' h => HK2.out _ _ (Cw.prop _) h))) | quiet_step ((go_at_call 42; exact Cw.call (Wd.rfields_c kd z t n f _ HFD.out) (fun w' h => HK2.out _ _ (Cw.prop _) h)))))
      refine wpQuiet_nil ?_
      intro w9 hw9
      obtain ⟨⟨w9, hS9⟩, rfl⟩ := hw9
      have h9 := HX.out _ hS9
      have HI9 := Lib.hid (HI4.out.frm h9)
      clear hS9 HX HK2 ne f0 f1 f2 f3
      by_cases hfz : z < f
      · have hff : decide (z < f) = true := decide_eq_true hfz
        go_wp2
        go_ret
        have hfa : fitA ws k = false := by unfold fitA; rw [HO0.out, HFD.out]; exact decide_eq_false (by simp only; omega)
        rw [← HSB.out, soundB_far HO2.out HMEM.out hfa]
        exact ⟨rfl, HI9.out.fr⟩
      · have hff : decide (z < f) = false := decide_eq_false hfz
        have hfz2 : f ≤ z := by omega
        clear hfz
        go_upto_region 13 with (fail)
        have hf0 : 0 ≤ f := by rw [← HFD.out]; exact fieldsH_nonneg HZ.out.1
        have hz2 := HZ.out
        have HFA : Hid (fitA ws k = true) := Lib.hid (by unfold fitA; rw [HO0.out, HFD.out]; exact decide_eq_true hfz2)
        obtain ⟨u, hsl, hur⟩ := rd_fields (f := f) (k := k) HI9.out.ar.own hf0 (by omega) (fieldsAt_part (by omega))
        have HU := Lib.hid hur
        have HFE : Hid (fieldsH (obj0 ws k) = f) := Lib.hid (by rw [HO0.out]; exact HFD.out)
        have HLEN : Hid ((rs ++ flatF ws (L.take i)).length + (fieldsAt ws k f.toNat).length ≤ 1073741824) := Lib.hid (by
          have h1 := flatF_len HROW.out (L.take i) (L.drop i) (List.take_append_drop i L).symm (fun a ha => by have := HI9.out.fit a ha; unfold fitA at this; exact of_decide_eq_true this)
          have h2 := HLB.out
          have h3 : (fieldsAt ws k f.toNat).length = f.toNat := by simp [fieldsAt]
          rw [List.length_append, h3]
          omega)
        have c0 := HI9.out.ar.c0
        have cl0 := h9.cell cl2 (fun h => h)
        have e0 := h9.cell d0 (fun h => h)
        have e1 := h9.cell d1 (fun h => h)
        have e2 := h9.cell d2 (fun h => h)
        have e3 := h9.cell d3 (fun h => h)
        have HDB9 := Lib.hid (h9.blk HDB.out (fun h => h))
        have HI9d := Lib.hid (HI9.out.frm ((Fr.refl w9 (fun _ => False)).drew))
        have qz1 : (0 : Int) ≤ (k : Int) + 1 := by omega
        have hw1 : IntKind.i64.wrap ((k : Int) + 1) = k + 1 := IntWalk.i64_in _ (by omega)
        have hw2 : IntKind.i64.wrap ((k : Int) + 1 + f) = k + 1 + f := IntWalk.i64_in _ (by clear hw1; omega)
        have HW1 := Lib.hid hw1
        clear cl2 d0 d1 d2 d3 h9 HI9 HI4 hz2 hur hfz2
        go_region_held3 (fun w' => w'.cell? ⟨p, 0, none⟩ = some (.slice A ws.length cap) ∧ w'.cell? ⟨gl, i, none⟩ = some (.int .i64 k) ∧ w'.cell? ⟨D, 0, none⟩ = some (.int .i64 kd) ∧ w'.cell? ⟨D, 1, none⟩ = some (.int .i64 z) ∧ w'.cell? ⟨D, 2, none⟩ = some (.int .i64 t) ∧ w'.cell? ⟨D, 3, none⟩ = some (.bool n))
          (first | exact ⟨r0, r1, r2, r3, r4, r5⟩ | exact ⟨g0, g1, g2, g3, g4, g5⟩ | exact ⟨c0, cl0, e0, e1, e2, e3⟩)
          (first
            | (go_at_call 42; (with_reducible refine (Wd.rfields_c kd z t n f _ HFD.out).mono ?_); rintro e wa ⟨rfl, hb⟩; have hfb := (Fr.of_below hb (fun _ => False)); have g0 := hfb.cell (a := ⟨p, 0, none⟩) c0 (fun h => h); have g1 := hfb.cell (a := ⟨gl, i, none⟩) cl0 (fun h => h); have g2 := hfb.cell (a := ⟨D, 0, none⟩) e0 (fun h => h); have g3 := hfb.cell (a := ⟨D, 1, none⟩) e1 (fun h => h); have g4 := hfb.cell (a := ⟨D, 2, none⟩) e2 (fun h => h); have g5 := hfb.cell (a := ⟨D, 3, none⟩) e3 (fun h => h); have HDBa := Lib.hid (hfb.blk (w := w9.drew) HDB9.out (fun h => h)); have HIa := Lib.hid (HI9d.out.frm hfb); clear hb hfb)
            | (obtain ⟨v', wb, hrun, hIb, hfb⟩ := HIa.out.app (k := k) HI2.out HB.out HFA.out HFE.out (HU.out _ HIa.out.ar.own) HLEN.out; refine step_append_run _ (by rfl) _ _ _ _ (by rfl) _ _ (by rfl) (by rfl) _ _ hrun ?_; have r0 := hfb.cell (a := ⟨p, 0, none⟩) g0 (fun e => (HIa.out.ao.not_ptr HIa.out.ar (by decide)) p e rfl); have r1 := hfb.cell (a := ⟨gl, i, none⟩) g1 (HIa.out.lo.apart HIa.out.ao (by decide) gl (by simp [InBlk, Value.ownBlock])); have hnd := HIa.out.ao.not_box HDBa.out (by decide); have r2 := hfb.cell (a := ⟨D, 0, none⟩) g2 hnd; have r3 := hfb.cell (a := ⟨D, 1, none⟩) g3 hnd; have r4 := hfb.cell (a := ⟨D, 2, none⟩) g4 hnd; have r5 := hfb.cell (a := ⟨D, 3, none⟩) g5 hnd; have HIb := Lib.hid hIb; clear hrun hIb hfb hnd))
        clear r0 r1 r2 r3 r4 r5 g0 g1 g2 g3 g4 g5 c0 cl0 e0 e1 e2 e3 hw1 hw2 hsl
        go_wp2
        go_roundg (gk - 1)
        case measure => have := HG.out; have := HI2.out; omega
        case rel => exact ⟨_, i + 1, rfl, by go_num, by have := HG.out; have := HI2.out; omega, HIb⟩
    · have hiL : L.length ≤ i := by omega
      have hie : i = L.length := by have := HG.out; omega
      subst hie
      have HFT : Hid (∀ a ∈ L, fitA ws a = true) := Lib.hid (fun a ha => HI.out.fit a (by rw [List.take_length]; exact ha))
      have HOKA : Hid (okWs (rs ++ flatF ws L)) := Lib.hid (okWs_append HOK.out (okWs_flatF HI.out.ar.ok _))
      have HS2 := Lib.hid (soundB_of (rs := rs) HO2.out HFT.out)
      have HIA := HI.out.ao
      have HIB := HI.out.bo
      rw [List.take_length] at HIA HIB
      obtain ⟨acc, hacc⟩ : ∃ acc, rs ++ flatF ws L = acc := ⟨_, rfl⟩
      rw [hacc] at HIA HOKA HS2
      obtain ⟨isl, hisl⟩ : ∃ isl, isList ws.length L = isl := ⟨_, rfl⟩
      rw [hisl] at HIB HS2
      have HISL : Hid (isl.length = ws.length) := Lib.hid (by rw [← hisl, isList_len])
      have HLA : Hid (acc.length ≤ 1073741824) := Lib.hid (by
        have h1 := flatF_len HROW.out L [] (by simp) (fun a ha => by have := HFT.out a ha; unfold fitA at this; exact of_decide_eq_true this)
        have h2 := HLB.out
        rw [← hacc, List.length_append]
        omega)
      have qA : (acc.length : Int) ≤ 1073741824 := by have := HLA.out; omega
      have HA0 := Lib.hid HIA
      have HB0 := Lib.hid HIB
      have HFW := Lib.hid HI.out.fr
      obtain ⟨Aa, ca, rfl⟩ := HIA.rd.len
      rw [uw_length] at *
      clear hi hiL HIA HIB hacc hisl HI
      obtain ⟨W0, hW0⟩ : ∃ W0, wr = W0 := ⟨_, rfl⟩
      rw [hW0] at HA0 HB0 HFW ⊢
      clear hW0
      go_wp2
      go_loopg [12] acc.length (fun g a12 wr => ∃ (i : Nat), a12 = .int .i64 i ∧ g + i = acc.length ∧ Hid (Fr W0 wr (fun _ => False) ∧ ∀ j, j < i → soundW (acc.getD j 0) isl = true))
      case atStart => exact ⟨0, rfl, rfl, Lib.hid ⟨Fr.refl _ _, fun j hj => by omega⟩⟩
      case round =>
        obtain ⟨i, rfl, hgi, HI⟩ := hrel
        have HGI := Lib.hid hgi
        clear hgi
        by_cases hi : i < acc.length
        · have HAw := Lib.hid (HA0.out.keep HI.out.1 (fun _ _ h => h))
          have HBw := Lib.hid (HB0.out.keep HI.out.1 (fun _ _ h => h))
          obtain ⟨ga, rfl, hc⟩ : ∃ ga, Aa = some ⟨ga, 0, none⟩ ∧ ∀ i, i < acc.length → wr.cell? ⟨ga, i, none⟩ = (uw acc)[i]? := by
            rcases HAw.out.form with ⟨e, h0⟩ | ⟨gl, cl', e, hl, hm, hg, hc, hf⟩
            · injection e with e1 e2 e3; omega
            · injection e with e1 e2 e3; rw [uw_length] at hc; exact ⟨gl, e1, hc⟩
          have ck := hc i hi
          rw [uw_get hi] at ck
          have hx : okW (acc.getD i 0) := okWs_getD HOKA.out i hi
          obtain ⟨x, hxe⟩ : ∃ x, acc.getD i 0 = x := ⟨_, rfl⟩
          rw [hxe] at ck hx
          have HX := Lib.hid hx
          have HXE := Lib.hid hxe
          have qi : (i : Int) < acc.length := by omega
          have HI2 := Lib.hid hi
          have HNO : Hid (soundW x isl = false → SB = false) := Lib.hid (fun hs => by rw [← HSB.out, HS2.out]; exact List.all_eq_false.2 ⟨x, by rw [← HXE.out, List.getD_eq_getElem?_getD, List.getElem?_eq_getElem hi]; exact List.getElem_mem hi, by rw [hs]; decide⟩)
          obtain ⟨t, ht⟩ : ∃ t, tagW x = t := ⟨_, rfl⟩
          obtain ⟨n, hn⟩ : ∃ n, valW x = n := ⟨_, rfl⟩
          have HT := Lib.hid ht
          have HN := Lib.hid hn
          clear hi hc hx hxe ht hn
          have bfr : Hid (Fr w (wr.drewN 0) (fun _ => False)) := Lib.hid ((HFW.out.trans HI.out.1).drewN 0)
          by_cases h6 : t = 6
          · have hs : soundW x isl = false := by unfold soundW; rw [HT.out, if_pos (.inl h6)]
            have hsb := HNO.out hs
            have HSB2 := Lib.hid hsb
            subst h6
            clear hs hsb
            go_wp2_with (first | (go_at_call 64; (with_reducible refine (Wd.rval_c x n _ HX.out HN.out).mono ?_); rintro e wv ⟨rfl, nv, rfl⟩) | (go_at_call 43; (with_reducible refine (Wd.rtag_c x 6 _ HX.out HT.out).mono ?_); rintro e wt ⟨rfl, nt, rfl⟩))
            go_ret
            exact ⟨by rw [HSB2.out]; rfl, (HFW.out.trans HI.out.1).drewN _⟩
          · have b6 : (t == 6) = false := by simpa using h6
            by_cases h7 : t = 7
            · have hs : soundW x isl = false := by unfold soundW; rw [HT.out, if_pos (.inr h7)]
              have hsb := HNO.out hs
              have HSB2 := Lib.hid hsb
              subst h7
              clear hs hsb b6 h6
              go_wp2_with (first | (go_at_call 64; (with_reducible refine (Wd.rval_c x n _ HX.out HN.out).mono ?_); rintro e wv ⟨rfl, nv, rfl⟩) | (go_at_call 43; (with_reducible refine (Wd.rtag_c x 7 _ HX.out HT.out).mono ?_); rintro e wt ⟨rfl, nt, rfl⟩))
              go_ret
              exact ⟨by rw [HSB2.out]; rfl, (HFW.out.trans HI.out.1).drewN _⟩
            · have b7 : (t == 7) = false := by simpa using h7
              by_cases h5 : t = 5
              · subst h5
                clear b6 b7 h6 h7
                have hsw : soundW x isl = (decide (0 ≤ n) && decide (n < isl.length) && isl.getD n.toNat false) := by unfold soundW; rw [HT.out, HN.out]; rfl
                have HSW := Lib.hid hsw
                clear hsw
                by_cases hn0 : n < 0
                · have hsb := HNO.out (by rw [HSW.out, decide_eq_false (show ¬ 0 ≤ n by omega)]; rfl)
                  have HSB2 := Lib.hid hsb
                  have b1 : decide (n < 0) = true := decide_eq_true hn0
                  clear hsb hn0
                  go_wp2_with (first | (go_at_call 64; (with_reducible refine (Wd.rval_c x n _ HX.out HN.out).mono ?_); rintro e wv ⟨rfl, nv, rfl⟩) | (go_at_call 43; (with_reducible refine (Wd.rtag_c x 5 _ HX.out HT.out).mono ?_); rintro e wt ⟨rfl, nt, rfl⟩))
                  go_ret
                  exact ⟨by rw [HSB2.out]; rfl, (HFW.out.trans HI.out.1).drewN _⟩
                · have b1 : decide (n < 0) = false := decide_eq_false hn0
                  by_cases hn1 : (ws.length : Int) ≤ n
                  · have hsb := HNO.out (by rw [HSW.out, HISL.out, decide_eq_false (show ¬ n < ws.length by omega), Bool.and_false]; rfl)
                    have HSB2 := Lib.hid hsb
                    have b2 : decide ((ws.length : Int) ≤ n) = true := decide_eq_true hn1
                    clear hsb hn0 hn1
                    go_wp2_with (first | (go_at_call 64; (with_reducible refine (Wd.rval_c x n _ HX.out HN.out).mono ?_); rintro e wv ⟨rfl, nv, rfl⟩) | (go_at_call 43; (with_reducible refine (Wd.rtag_c x 5 _ HX.out HT.out).mono ?_); rintro e wt ⟨rfl, nt, rfl⟩))
                    go_ret
                    exact ⟨by rw [HSB2.out]; rfl, (HFW.out.trans HI.out.1).drewN _⟩
                  · have b2 : decide ((ws.length : Int) ≤ n) = false := decide_eq_false hn1
                    obtain ⟨m, rfl⟩ := Int.eq_ofNat_of_zero_le (show 0 ≤ n by omega)
                    have hm : m < ws.length := by omega
                    have qm : (m : Int) < ws.length := by omega
                    have cb : wr.cell? ⟨gb, m, none⟩ = some (.bool (isl.getD m false)) := by
                      rcases HBw.out.form with ⟨e, _⟩ | ⟨g', cap', e, _, _, _, hcb, hfb⟩
                      · cases e
                      · injection e with e1 e2 e3
                        injection e1 with e1
                        injection e1 with e1
                        subst e1
                        have := hcb m (by rw [bw_length, HISL.out]; exact hm)
                        rw [bw_get (by rw [HISL.out]; exact hm)] at this
                        exact this
                    have hsw2 : soundW x isl = isl.getD m false := by
                      rw [HSW.out, HISL.out, decide_eq_true (show (0 : Int) ≤ m by omega), decide_eq_true qm]; rfl
                    clear hn0 hn1 hm HSW
                    obtain ⟨bb, hbb⟩ : ∃ bb, isl.getD m false = bb := ⟨_, rfl⟩
                    rw [hbb] at cb hsw2
                    have HSW2 := Lib.hid hsw2
                    clear hbb hsw2
                    cases bb with
                    | false =>
                      have hsb := HNO.out HSW2.out
                      have HSB2 := Lib.hid hsb
                      clear hsb
                      go_wp2_with (first | (go_at_call 64; (with_reducible refine (Wd.rval_c x (m : Int) _ HX.out HN.out).mono ?_); rintro e wv ⟨rfl, nv, rfl⟩) | (go_at_call 43; (with_reducible refine (Wd.rtag_c x 5 _ HX.out HT.out).mono ?_); rintro e wt ⟨rfl, nt, rfl⟩))
                      go_ret
                      exact ⟨by rw [HSB2.out]; rfl, (HFW.out.trans HI.out.1).drewN _⟩
                    | true =>
                      have HYES : Hid (soundW x isl = true) := Lib.hid HSW2.out
                      go_wp2_with (first | (go_at_call 64; (with_reducible refine (Wd.rval_c x (m : Int) _ HX.out HN.out).mono ?_); rintro e wv ⟨rfl, nv, rfl⟩) | (go_at_call 43; (with_reducible refine (Wd.rtag_c x 5 _ HX.out HT.out).mono ?_); rintro e wt ⟨rfl, nt, rfl⟩))
                      go_roundg (gk - 1)
                      case measure => have := HGI.out; have := HI2.out; omega
                      case rel => exact ⟨i + 1, by go_num, by have := HGI.out; have := HI2.out; omega, Lib.hid ⟨HI.out.1.drewN _, fun j hj => by
                        by_cases hj2 : j < i
                        · exact HI.out.2 j hj2
                        · have : j = i := by omega
                          subst this
                          rw [HXE.out]; exact HYES.out⟩⟩
              · have b5 : (t == 5) = false := by simpa using h5
                have HYES : Hid (soundW x isl = true) := Lib.hid (by unfold soundW; rw [HT.out, if_neg (by omega), if_neg h5])
                clear h5 h6 h7
                go_wp2_with (first | (go_at_call 64; (with_reducible refine (Wd.rval_c x n _ HX.out HN.out).mono ?_); rintro e wv ⟨rfl, nv, rfl⟩) | (go_at_call 43; (with_reducible refine (Wd.rtag_c x t _ HX.out HT.out).mono ?_); rintro e wt ⟨rfl, nt, rfl⟩))
                go_roundg (gk - 1)
                case measure => have := HGI.out; have := HI2.out; omega
                case rel => exact ⟨i + 1, by go_num, by have := HGI.out; have := HI2.out; omega, Lib.hid ⟨HI.out.1.drewN _, fun j hj => by
                  by_cases hj2 : j < i
                  · exact HI.out.2 j hj2
                  · have : j = i := by omega
                    subst this
                    rw [HXE.out]; exact HYES.out⟩⟩
        · go_wp2
          go_ret
          have : SB = true := by
            rw [← HSB.out, HS2.out]
            refine List.all_eq_true.2 fun x hx => ?_
            obtain ⟨j, hj, rfl⟩ := List.getElem_of_mem hx
            have := HI.out.2 j (by have := HGI.out; omega)
            rw [List.getD_eq_getElem?_getD, List.getElem?_eq_getElem hj] at this
            exact this
          exact ⟨by rw [this]; rfl, HFW.out.trans HI.out.1⟩
theorem sound8_c (p : Nat) (v r : Value) (ws rs : List Int) (size : Int) (w : World) (h : Ar 41 w p v ws size) (hr : Rd w r (uw rs)) (hok : okWs rs) (hl : rs.length ≤ 1048576) :
    Calls Try.prog 39 #[.pointer (some ⟨p, 0, none⟩), r] w fun e w' => e = .returned (.bool (soundB ws rs)) ∧ Fr w w' (fun _ => False) := by
  cases ho : objs ws with
  | none => exact sound8_none p v r ws rs size w h ho
  | some L => exact sound8_some p v r ws rs L size w h hr hok hl ho
end Go.Proofs.Ytjiaaefpepdoeaa
