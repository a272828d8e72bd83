/-
  TEXTS JOINED FOR A CLAIM (ThreadPlays): Sn0 Fl Chn Aw13. What each proves, and under which conditions, stands at its head. Conditions: none beyond those.
-/
import Derived.Test.YtjiaaefpepdoeaaZ2ThreadPlays
import Derived.Test.YtjiaaefpepdoeaaZ0ThreadPlays
import Derived.Test.YtjiaaefpepdoeaaZ1ThreadPlays
import Derived.Laws.OwnMore
import Derived.Lib.AppendZeros
import Derived.Deep.RegionHeld3
import Derived.Deep.LoopGhost
/-
  FOR SOUND AND LIVE: rows of bools, a store into a row of one's own, a part of a row; the plain side of Sound's two loops. Conditions: those named in each.
-/
namespace Go.Proofs.Ytjiaaefpepdoeaa
open Go.RowKit Md
set_option linter.unusedVariables false
def bw (l : List Bool) : List Value := l.map Value.bool
theorem bw_length (l : List Bool) : (bw l).length = l.length := by simp [bw]
theorem bw_get {l : List Bool} {k : Nat} (h : k < l.length) : (bw l)[k]? = some (.bool (l.getD k false)) := by simp [bw, List.getD, h]
theorem boolInfo : (Try.prog.info? 4).map (fun i => (i.zero, i.size, i.bytes)) = some (some (.bool false), 1, 1) := by kernel_rfl
theorem Rd.keep2 {w w1 : World} {v : Value} {xs : List Value} {S : Nat → Prop} (h : Rd w v xs) (hf : Fr w w1 S) (hn : 0 < xs.length → ∀ i, InBlk v i → ¬ S i) : Rd w1 v xs := by
  by_cases h0 : 0 < xs.length
  · exact h.keep hf (hn h0)
  · rcases h with h | ⟨b, off, cap, rfl, hx, _⟩
    · exact .inl h
    · omega
/-- a row that is read: the cell of an index -/
theorem Rd.cellAt {w : World} {A : Option Addr} {n cap : Nat} {xs : List Value} (h : Rd w (.slice A n cap) xs) (h0 : 0 < xs.length) : ∃ b off, A = some ⟨b, off, none⟩ ∧ ∀ i, i < xs.length → w.cell? ⟨b, off + i, none⟩ = xs[i]? := by
  rcases h with ⟨rfl, _⟩ | ⟨b, off, cap', e, _, _, _, _, hc⟩
  · simp at h0
  · injection e with e1 e2 e3; exact ⟨b, off, e1, hc⟩
theorem Own.cellAt {w : World} {e : TypeId} {A : Option Addr} {n cap : Nat} {xs : List Value} (h : Own w e (.slice A n cap) xs) (h0 : 0 < xs.length) : ∃ b, A = some ⟨b, 0, none⟩ ∧ b < w.heap.size ∧ ∀ i, i < xs.length → w.cell? ⟨b, i, none⟩ = xs[i]? ∧ w.frozen? ⟨b, i, none⟩ = false := by
  rcases h.form with ⟨e, rfl⟩ | ⟨b, cap', e, hl, hm, hg, hc, hf⟩
  · simp at h0
  · injection e with e1 e2 e3; exact ⟨b, e1, hg, fun i hi => ⟨hc i hi, hf i⟩⟩
theorem Apt.new {W : World} {e : TypeId} {v u : Value} {xs : List Value} (h : Own W e v xs) (hu : ∀ k, InBlk u k → W.heap.size ≤ k) : Apt v u := fun k hk h2 => by
  have := h.lt k hk; have := hu k h2; omega
section
variable {w W W1 : World} {e : TypeId} {v u : Value} {xs : List Value} {S : Nat → Prop} {T : TypeId} {p q : Nat} {ws : List Int} {size : Int}
theorem Own.setAt {g cap k : Nat} (h : Own W e (.slice (some ⟨g, 0, none⟩) xs.length cap) xs) (hk : k < xs.length) :
    Own (W.setCell ⟨g, k, none⟩ u) e (.slice (some ⟨g, 0, none⟩) xs.length cap) (xs.set k u) ∧ Fr W (W.setCell ⟨g, k, none⟩ u) (fun i => i = g) := by
  refine ⟨?_, Fr.setCell (S := fun i => i = g) (a := ⟨g, k, none⟩) (Fr.refl W _) (fun _ => rfl) _⟩
  rcases h.2 with ⟨hv, _⟩ | ⟨g', cap', cur, hv, hb, hg, hl, hm, hs, ht⟩
  · cases hv
  · injection hv with h1 h2 h3
    injection h1 with h1
    injection h1 with h1
    subst h1
    subst h3
    refine ⟨by simp, .inr ⟨g, cap, cur.setIfInBounds k u, by simp, Nat.zero_le _, ?_, by simpa using hl, hm, by simpa using hs, ?_⟩⟩
    · simp [World.setCell, Array.getElem?_modify, hg]
    · rw [List.length_set, Array.toList_setIfInBounds, List.take_set, ht]
/-- two rows of different kinds share nothing -/
theorem Own.apart {e2 : TypeId} {ys : List Value} (h : Own W e v xs) (k : Own W e2 u ys) (ne : e ≠ e2) : Apt v u := fun i h1 h2 => by
  obtain ⟨c1, b1⟩ := h.elem i h1
  obtain ⟨c2, b2⟩ := k.elem i h2
  rw [b1] at b2
  simp at b2
  exact ne b2.2
theorem Own.not_ptr (h : Own W e u xs) (ha : Ar T W p v ws size) (ne : T ≠ e) : ∀ i, InBlk u i → i ≠ p := fun i hi ei => by
  obtain ⟨c, b⟩ := h.elem i hi
  rw [ei, ha.blk] at b
  simp at b
  exact ne b.2
theorem Own.not_box {D : Nat} {c : Array Value} {T2 : TypeId} (h : Own W e u xs) (hb : W.heap[D]? = some (.cells c T2 (0, 0))) (ne : T2 ≠ e) : ¬ InBlk u D := fun hi => by
  obtain ⟨c2, b⟩ := h.elem D hi
  rw [hb] at b
  simp at b
  exact ne b.2
theorem Own.cases {ws : List Int} {A : Option Addr} {cap : Nat} (h : Own W 29 (.slice A ws.length cap) (uw ws)) :
    (A = none ∧ ws.length = 0 ∧ cap = 0) ∨ ∃ g, A = some ⟨g, 0, none⟩ ∧ ws.length ≤ cap ∧ cap ≤ maxLen ∧ g < W.heap.size ∧ (∀ i, i < ws.length → W.cell? ⟨g, i, none⟩ = some (.int .u64 (ws.getD i 0))) ∧ ∀ i, W.frozen? ⟨g, i, none⟩ = false := by
  rcases h.form with ⟨e, h0⟩ | ⟨g, cap', e, hl, hm, hg, hc, hf⟩
  · injection e with e1 e2 e3
    exact .inl ⟨e1, e2, e3⟩
  · injection e with e1 e2 e3
    subst e3
    rw [uw_length] at *
    exact .inr ⟨g, e1, hl, hm, hg, fun i hi => by rw [hc i hi, uw_get hi], hf⟩
theorem rd_sliced {ws : List Int} {A : Option Addr} {cap : Nat} (h : Own W 29 (.slice A ws.length cap) (uw ws)) (lo hi : Nat) (h1 : lo ≤ hi) (h2 : hi ≤ ws.length) :
    Rd W (sliced A lo hi cap 1) (uw ((ws.drop lo).take (hi - lo))) ∧ ∀ i, InBlk (sliced A lo hi cap 1) i → InBlk (.slice A ws.length cap) i := by
  have hlen : ((ws.drop lo).take (hi - lo)).length = hi - lo := by simp; omega
  rcases h.cases with ⟨rfl, h3, rfl⟩ | ⟨g, rfl, hl, hm, hg, hc, hf⟩
  · have hlo : lo = 0 := by omega
    have hhi : hi = 0 := by omega
    subst hlo hhi
    refine ⟨.inl ⟨by simp [uw], none, 0, rfl, fun _ => rfl⟩, fun i hi => ?_⟩
    simp [sliced, InBlk, Value.ownBlock] at hi
  · refine ⟨?_, fun i hi => ?_⟩
    · by_cases h0 : hi - lo = 0
      · have e : (ws.drop lo).take (hi - lo) = [] := List.eq_nil_of_length_eq_zero (by omega)
        rw [e]
        refine .inl ⟨rfl, (if cap = lo then some ⟨g, 0, none⟩ else (some (⟨g, 0, none⟩ : Addr)).map (·.add (lo * 1))), cap - lo, ?_, ?_⟩
        · unfold sliced; rw [h0]
        · intro hn
          split at hn
          · cases hn
          · simp at hn
      · have hne : ¬ cap = lo := by omega
        refine .inr ⟨g, lo, cap - lo, ?_, by rw [uw_length]; omega, by rw [uw_length]; omega, by omega, hg, fun i hi => ?_⟩
        · unfold sliced
          rw [if_neg hne, uw_length, hlen]
          simp [Addr.add_lit]
        · rw [uw_length] at hi
          rw [hc (lo + i) (by omega), uw_get hi]
          simp only [List.getD_eq_getElem?_getD, List.getElem?_take, List.getElem?_drop]
          rw [if_pos (by omega)]
    · unfold sliced at hi
      split at hi
      · simpa [InBlk, Value.ownBlock] using hi
      · simpa [InBlk, Value.ownBlock, Addr.add_lit] using hi
theorem elemWord : Try.prog.elem 39 = 29 := by kernel_rfl
theorem undWord : Try.prog.underlying 39 = some (.slice (Try.prog.elem 39)) := by kernel_rfl
theorem sizeWord (w : World) : (Go.sizeOf (Try.prog.elem 39)).run Try.prog w = .ok 1 w := by
  obtain ⟨i0, hi, hz0, hz1, hz2⟩ := info_parts wordInfo
  rw [elemWord]
  simp [Go.sizeOf, Go.typeInfo, hi, hz1]
theorem run_part (A : Option Addr) (len cap lo hi : Nat) (h1 : lo ≤ hi) (h2 : hi ≤ cap) (w : World) :
    (Instr.slice 39 (.slice A len cap) (some (.int .i64 (lo : Int))) (some (.int .i64 (hi : Int))) none).run Try.prog w = .ok (sliced A lo hi cap 1) w := by
  rw [run_slice_lh w _ _ _ _ undWord .i64 .i64 _ _ (by omega) (by omega) (by omega), sizeWord]
  rfl
/-- a part of a row of words, as it is handed on -/
theorem rd_part {ws : List Int} {A : Option Addr} {cap : Nat} (h : Own W 29 (.slice A ws.length cap) (uw ws)) (lo hi : Nat) (h1 : lo ≤ hi) (h2 : hi ≤ ws.length) :
    ∃ u, (∀ W : World, (Instr.slice 39 (.slice A ws.length cap) (some (.int .i64 (lo : Int))) (some (.int .i64 (hi : Int))) none).run Try.prog W = .ok u W) ∧ Rd W u (uw ((ws.drop lo).take (hi - lo))) ∧ ∀ i, InBlk u i → InBlk (.slice A ws.length cap) i := by
  have hcap : ws.length ≤ cap := by
    rcases h.cases with ⟨_, h3, rfl⟩ | ⟨g, _, hl, _⟩
    · omega
    · exact hl
  exact ⟨_, fun w => run_part A ws.length cap lo hi h1 (by omega) w, (rd_sliced h lo hi h1 h2).1, (rd_sliced h lo hi h1 h2).2⟩
end

/-- An append whose run is known, at a step of a region that draws its order. -/
theorem step_append_run {P : Program} (w : World) {ops : Array Oper} {o : Oper} {a : Act} {K : Act → World → Prop} {Q : Exit → Act → World → Prop} {E : Prop} (hgd : o.guard = none) (s x : Operand) (t tn : TypeId)
    (ho : o.op = .call { callee := .builtin .append, args := #[s, x], argTypes := #[t, tn] }) (vs vx : Value) (hs : a.eval s = vs) (hx : a.eval x = vx)
    (v' : Value) (w' : World) (hr : (Builtin.append_ #[t, tn] o.type #[vs, vx]).run P w = .ok v' w') (h : K (a.put o.dst v') w') :
    if Region.wanted o (yielded ops a.tmps) = true then Oper.wp P o a w K Q else E := by
  have hw : Region.wanted o (yielded ops a.tmps) = true := by simp [Region.wanted, hgd]
  rw [if_pos hw]
  exact Lib.wp_append_run w s x t tn ho vs vx hs hx v' w' hr h
/-- a part of a row of words that is an object's fields -/
theorem rd_fields {W : World} {ws : List Int} {A : Option Addr} {cap k : Nat} {f : Int} (h : Own W 29 (.slice A ws.length cap) (uw ws)) (h0 : 0 ≤ f) (h1 : (k : Int) + 1 + f ≤ ws.length)
    (hp : fieldsAt ws k f.toNat = (ws.drop (k + 1)).take (k + 1 + f.toNat - (k + 1))) :
    ∃ u, (∀ W : World, (Instr.slice 39 (.slice A ws.length cap) (some (.int .i64 ((k : Int) + 1))) (some (.int .i64 ((k : Int) + 1 + f))) none).run Try.prog W = .ok u W) ∧ (∀ W1, Own W1 29 (.slice A ws.length cap) (uw ws) → Rd W1 u (uw (fieldsAt ws k f.toNat))) := by
  obtain ⟨u, hu, _⟩ := rd_part h (k + 1) (k + 1 + f.toNat) (by omega) (by omega)
  have e1 : (((k + 1 : Nat)) : Int) = (k : Int) + 1 := by omega
  have e2 : (((k + 1 + f.toNat : Nat)) : Int) = (k : Int) + 1 + f := by omega
  rw [e1, e2] at hu
  refine ⟨u, hu, fun W1 h1 => ?_⟩
  obtain ⟨u2, hu2, hr2, _⟩ := rd_part h1 (k + 1) (k + 1 + f.toNat) (by omega) (by omega)
  rw [e1, e2] at hu2
  have := (hu W1).symm.trans (hu2 W1)
  injection this with e3
  rw [hp, e3]
  exact hr2
theorem mk_bools (n : Nat) (w : World) (hn : n ≤ 1048576) : ∃ w', (Instr.makeSlice 108 (.int .i64 (n : Int)) (.int .i64 (n : Int))).run Try.prog w = .ok (.slice (some ⟨w.heap.size, 0, none⟩) n n) w' ∧ Own w' 4 (.slice (some ⟨w.heap.size, 0, none⟩) n n) (bw (List.replicate n false)) ∧ Fr w w' (fun _ => False) := by
  obtain ⟨i0, hi, hz0, hz1, hz2⟩ := info_parts boolInfo
  obtain ⟨w', hr, ho, hg⟩ := run_make_full (P := Try.prog) w 0 108 4 i0 (.bool false) 1 Try.underlying108 hi hz0 hz1 .i64 .i64 n (by rw [hz2]; omega) (by unfold maxLen; omega) (Nat.zero_le _)
  refine ⟨w', hr, ?_, (Fr.refl w _).grown hg (fun k hk => by cases hk)⟩
  have e : (madeCells (Value.cells (.bool false)) (n * 1)).toList = bw (List.replicate n false) := by
    rw [Nat.mul_one]
    exact (toList_madeCells_one (.bool false) n).trans (by simp [bw])
  rw [e] at ho
  unfold Own
  rw [bw_length, List.length_replicate]
  exact ho

/-! ### the plain side -/
theorem fieldsAt_part {ws : List Int} {a n : Nat} (h : a + 1 + n ≤ ws.length) : fieldsAt ws a n = (ws.drop (a + 1)).take (a + 1 + n - (a + 1)) := by
  apply List.ext_getElem?
  intro i
  unfold fieldsAt
  rw [List.getElem?_take, List.getElem?_drop]
  by_cases hi : i < n
  · rw [if_pos (by omega), List.getElem?_map, List.getElem?_range hi]
    simp only [Option.map_some]
    rw [List.getElem?_eq_getElem (by omega)]
    unfold rd0 rdAt
    rw [if_pos (by omega)]
    have e : ((a : Int) + 1 + i).toNat = a + 1 + i := by omega
    rw [e]
    simp [List.getD, show a + 1 + i < ws.length by omega]
  · rw [if_neg (by omega)]
    simp; omega
def flatF (ws P : List Int) : List Int := P.flatMap fun a => fieldsAt ws a (fieldsH (obj0 ws a)).toNat
theorem flatF_snoc (ws P : List Int) (a : Int) : flatF ws (P ++ [a]) = flatF ws P ++ fieldsAt ws a (fieldsH (obj0 ws a)).toNat := by simp [flatF]
theorem flatF_len {ws : List Int} {b : Int} {L : List Int} (h : Md.Rows ws b L) : ∀ P Q, L = P ++ Q → (∀ a ∈ P, fieldsH (obj0 ws a) ≤ (obj0 ws a).size) → b + (flatF ws P).length + P.length ≤ ws.length := by
  induction h with
  | nil => intro P Q e _; cases P with
    | nil => simp [flatF]
    | cons a P => cases e
  | @cons a hd L ho hr ih =>
    intro P Q e hf
    cases P with
    | nil => have := obj_facts ho; simp [flatF]; omega
    | cons c P =>
      injection e with e1 e2
      subst e1
      have h1 := ih P Q e2 (fun x hx => hf x (by simp [hx]))
      have h2 := hf a (by simp)
      have h3 := obj_facts ho
      rw [obj0_of ho] at h2
      have h4 : flatF ws (a :: P) = fieldsAt ws a (fieldsH (obj0 ws a)).toNat ++ flatF ws P := by simp [flatF]
      rw [h4, obj0_of ho, List.length_append]
      have h5 : (fieldsAt ws a (fieldsH hd).toNat).length = (fieldsH hd).toNat := by simp [fieldsAt]
      rw [h5]
      simp only [List.length_cons]
      omega
theorem fieldsH_nonneg {h : Hdr} (hz : 0 ≤ h.size) : 0 ≤ fieldsH h := by unfold fieldsH; split <;> first | decide | (split <;> first | exact hz | decide)
def fitA (ws : List Int) (a : Int) : Bool := decide (fieldsH (obj0 ws a) ≤ (obj0 ws a).size)
theorem soundB_none {ws rs : List Int} (h : objs ws = none) : soundB ws rs = false := by unfold soundB; rw [h]
theorem soundB_far {ws rs L : List Int} {a : Int} (h : objs ws = some L) (ha : a ∈ L) (hf : fitA ws a = false) : soundB ws rs = false := by
  unfold soundB
  rw [h]
  simp only [Bool.and_eq_false_iff, List.all_eq_false]
  right
  refine ⟨a, ha, ?_⟩
  unfold soundAt
  unfold fitA at hf
  simp only [hf, Bool.false_and, Bool.false_eq_true, not_false_eq_true]
theorem soundB_of {ws rs L : List Int} (h : objs ws = some L) (hf : ∀ a ∈ L, fitA ws a = true) : soundB ws rs = (rs ++ flatF ws L).all fun w => soundW w (isList ws.length L) := by
  unfold soundB
  rw [h]
  simp only [List.all_append]
  congr 1
  have key : ∀ M : List Int, (∀ a ∈ M, fitA ws a = true) → (M.all fun at_ => soundAt ws (isList ws.length L) at_) = (flatF ws M).all fun w => soundW w (isList ws.length L) := by
    intro M
    induction M with
    | nil => intro _; rfl
    | cons a M ih =>
      intro hM
      have e : flatF ws (a :: M) = fieldsAt ws a (fieldsH (obj0 ws a)).toNat ++ flatF ws M := by simp [flatF]
      rw [e, List.all_append, List.all_cons, ih (fun b hb => hM b (by simp [hb]))]
      congr 1
      have := hM a (by simp)
      unfold fitA at this
      unfold soundAt
      simp only [this, Bool.true_and]
  exact key L hf
theorem isList_nil (n : Nat) : isList n [] = List.replicate n false := by
  unfold isList
  apply List.ext_getElem
  · simp
  · intro i h1 h2; simp
theorem isList_snoc {n k : Nat} {P : List Int} (hk : k < n) : (isList n P).set k true = isList n (P ++ [(k : Int)]) := by
  apply List.ext_getElem
  · simp [isList]
  · intro i h1 h2
    simp only [List.length_set, isList_len] at h1
    rw [List.getElem_set]
    by_cases h : k = i
    · subst h; simp [isList]
    · rw [if_neg h]
      have : ¬ ((i : Int) = k) := by omega
      simp [isList, this]
theorem okWs_fieldsAt {ws : List Int} (h : okWs ws) (a : Int) (n : Nat) : okWs (fieldsAt ws a n) := fun x hx => by
  unfold fieldsAt at hx
  obtain ⟨k, _, rfl⟩ := List.mem_map.1 hx
  unfold rd0
  cases hr : rdAt ws (a + 1 + k) with
  | none => exact ⟨Int.le_refl 0, by decide⟩
  | some y => obtain ⟨i, _, hi, rfl⟩ := rdAt_some hr; exact okWs_getD h i hi
theorem okWs_flatF {ws : List Int} (h : okWs ws) (P : List Int) : okWs (flatF ws P) := fun x hx => by
  obtain ⟨a, _, hx⟩ := List.mem_flatMap.1 hx
  exact okWs_fieldsAt h _ _ x hx
end Go.Proofs.Ytjiaaefpepdoeaa

/-
  ROWS OF FIELDS: a slice of structs of a bool and a number, of the call's own; one field is appended. Conditions: those named in each.
-/
namespace Go.Proofs.Ytjiaaefpepdoeaa
open Go.RowKit Md
set_option linter.unusedVariables false
def fw (l : List Fld) : List Value := l.flatMap fun f => [.bool f.root, .int .i64 f.at_]
theorem fw_length (l : List Fld) : (fw l).length = l.length * 2 := by
  unfold fw
  induction l with
  | nil => rfl
  | cons f l ih => simp only [List.flatMap_cons, List.length_append, List.length_cons, List.length_nil, ih]; omega
theorem fw_append (a b : List Fld) : fw (a ++ b) = fw a ++ fw b := by simp [fw]
theorem fw_get : ∀ {l : List Fld} {k : Nat} (h : k < l.length), (fw l)[k * 2]? = some (.bool (l.getD k ⟨false, 0⟩).root) ∧ (fw l)[k * 2 + 1]? = some (.int .i64 (l.getD k ⟨false, 0⟩).at_) := by
  intro l
  induction l with
  | nil => intro k h; simp at h
  | cons f l ih =>
    intro k h
    have e : fw (f :: l) = .bool f.root :: .int .i64 f.at_ :: fw l := by simp [fw]
    rw [e]
    cases k with
    | zero => simp [List.getD]
    | succ k =>
      have h2 := ih (k := k) (by simp at h; omega)
      have e1 : (k + 1) * 2 = k * 2 + 1 + 1 := by omega
      have e2 : (k + 1) * 2 + 1 = (k * 2 + 1) + 1 + 1 := by omega
      rw [e1]
      simp only [List.getElem?_cons_succ, List.getD_cons_succ]
      exact h2
/-- A slice value that owns the fields l; its block is new since B blocks stood. -/
def Own2 (B : Nat) (w : World) (e : TypeId) (v : Value) (l : List Fld) : Prop := w.ownsRow B e 2 v l.length (fw l)
section
variable {B : Nat} {w w1 W : World} {e : TypeId} {v u : Value} {l : List Fld} {S : Nat → Prop} {T : TypeId} {p : Nat} {ws : List Int} {size : Int} {xs : List Value}
theorem Own2.nil (B : Nat) (w : World) (e : TypeId) : Own2 B w e (.slice none 0 0) [] := World.ownsRow_nil w B e 2
theorem Own2.keep (h : Own2 B w e v l) (hf : Fr w w1 S) (hn : ∀ i, InBlk v i → ¬ S i) : Own2 B w1 e v l := by
  refine ⟨h.1, ?_⟩
  rcases h.2 with h0 | ⟨g, cap, cur, rfl, hb, hg, rest⟩
  · exact .inl h0
  · exact .inr ⟨g, cap, cur, rfl, hb, hf.blk hg (hn g (by simp [InBlk, Value.ownBlock])), rest⟩
theorem Own2.lt (h : Own2 B w e v l) : ∀ i, InBlk v i → B ≤ i ∧ i < w.heap.size := fun i hi => World.ownsRow.lt h i hi
theorem Own2.elem (h : Own2 B w e v l) : ∀ i, InBlk v i → ∃ cur, w.heap[i]? = some (.cells cur e (0, 0)) := by
  intro i hi
  rcases h.2 with ⟨rfl, _⟩ | ⟨g, cap, cur, rfl, hb, hg, _⟩
  · simp [InBlk, Value.ownBlock] at hi
  · simp [InBlk, Value.ownBlock] at hi; subst hi; exact ⟨cur, hg⟩
theorem Own2.len (h : Own2 B w e v l) : ∃ A cap, v = .slice A l.length cap := by
  rcases h.2 with ⟨rfl, h0⟩ | ⟨g, cap, cur, rfl, _⟩
  · exact ⟨none, 0, by rw [h0]⟩
  · exact ⟨_, cap, rfl⟩
theorem Own2.cellAt {A : Option Addr} {n cap : Nat} (h : Own2 B w e (.slice A n cap) l) (h0 : 0 < l.length) : ∃ b, A = some ⟨b, 0, none⟩ ∧ b < w.heap.size ∧ ∀ i, i < l.length → w.cell? ⟨b, i * 2, none⟩ = some (.bool (l.getD i ⟨false, 0⟩).root) ∧ w.cell? ⟨b, i * 2 + 1, none⟩ = some (.int .i64 (l.getD i ⟨false, 0⟩).at_) := by
  rcases h.2 with ⟨_, h1⟩ | ⟨g, cap', cur, e1, hb, hg, hl, hm, hs, ht⟩
  · omega
  · injection e1 with e1 e2 e3
    refine ⟨g, e1, (Array.getElem?_eq_some_iff.1 hg).1, fun i hi => ?_⟩
    have h2 := fw_get hi
    have hc : ∀ j, j < l.length * 2 → w.cell? ⟨g, j, none⟩ = (fw l)[j]? := fun j hj => by
      rw [cell_of_row w g j cur e (0, 0) hg, ← ht, List.getElem?_take, if_pos hj]
      simp
    rw [hc _ (by omega), hc _ (by omega)]
    exact h2
theorem Own2.not_ptr (h : Own2 B w e u l) (ha : Ar T w p v ws size) (ne : T ≠ e) : ∀ i, InBlk u i → i ≠ p := fun i hi ei => by
  obtain ⟨c, b⟩ := h.elem i hi
  rw [ei, ha.blk] at b
  simp at b
  exact ne b.2
theorem Own2.not_box {D : Nat} {c : Array Value} {T2 : TypeId} (h : Own2 B w e u l) (hb : w.heap[D]? = some (.cells c T2 (0, 0))) (ne : T2 ≠ e) : ¬ InBlk u D := fun hi => by
  obtain ⟨c2, b⟩ := h.elem D hi
  rw [hb] at b
  simp at b
  exact ne b.2
theorem Own2.apart {e2 : TypeId} {ys : List Value} (h : Own2 B w e v l) (k : Own w e2 u ys) (ne : e ≠ e2) : Apt v u := fun i h1 h2 => by
  obtain ⟨c1, b1⟩ := h.elem i h1
  obtain ⟨c2, b2⟩ := k.elem i h2
  rw [b1] at b2
  simp at b2
  exact ne b2.2
/-- One field is appended. -/
theorem run_append_fld (t e : TypeId) (ht : Try.prog.underlying t = some (.slice e)) (hinf : (Try.prog.info? e).map (fun i => (i.zero, i.size, i.bytes)) = some (some (.agg #[.bool false, .int .i64 0]), 2, 16))
    (f : Fld) (h : Own2 B W e u l) (hB : B ≤ W.heap.size) (hl : l.length ≤ 16777216) :
    ∃ v' w1, (Builtin.append_ #[t, t] t #[u, .slice (some ⟨W.heap.size, 0, none⟩) 1 1]).run Try.prog (W.alloc (.cells #[.bool f.root, .int .i64 f.at_] e)) = .ok v' w1 ∧ Own2 B w1 e v' (l ++ [f]) ∧ Fr W w1 (fun i => InBlk u i) := by
  obtain ⟨i0, hi, hz0, hz1, hzb⟩ := info_parts hinf
  have hb : (W.alloc (.cells #[.bool f.root, .int .i64 f.at_] e)).heap[W.heap.size]? = some (.cells #[.bool f.root, .int .i64 f.at_] e (0, 0)) := blk_new _ _ _
  have hnews : ∀ j x, [Value.bool f.root, Value.int .i64 f.at_][j]? = some x → (W.alloc (.cells #[.bool f.root, .int .i64 f.at_] e)).cell? ((⟨W.heap.size, 0, none⟩ : Addr).add j) = some x := fun j x hj => by
    rw [Addr.add_lit, Nat.zero_add, cell_of_row _ _ j _ _ _ hb]
    simpa using hj
  obtain ⟨v', w1, hr, ho, hg, _⟩ := run_append_own (P := Try.prog) (W.alloc (.cells #[.bool f.root, .int .i64 f.at_] e)) B t t e i0 (.agg #[.bool false, .int .i64 0]) 2 16 ht hi hz0 hz1 hzb rfl (by decide) u l.length (fw l) (World.ownsRow.alloc h _) ⟨W.heap.size, 0, none⟩ 1 1 [.bool f.root, .int .i64 f.at_] rfl hnews (by simp [Value.oneCell']) (by unfold maxLen; omega) (by omega) (by simp; omega)
  refine ⟨v', w1, hr, ?_, ((Fr.refl W _).alloc _).grown hg (fun k hk _ => hk)⟩
  unfold Own2
  rw [List.length_append, fw_append]
  exact ho
end
end Go.Proofs.Ytjiaaefpepdoeaa

/-
  CONTRACT: thread.Chain. Conditions: none but that arena and roots stand.
-/
namespace Go.Proofs.Ytjiaaefpepdoeaa
open Go.RowKit Md
set_option linter.unusedVariables false
def chainA (ws rs : List Int) (at_ : Int) : Option (List Fld) := chainM ws rs (ws.length + rs.length) (getR ws at_)
/-- The state of Chain's rounds. -/
structure CI (T E : TypeId) (w W : World) (p : Nat) (v r : Value) (ws rs : List Int) (size x0 : Int) (g : Nat) (u : Value) (acc : List Fld) (x : Int) : Prop where
  ta : TA T W p v ws size r rs
  fr : Fr w W fun _ => False
  ow : Own2 w.heap.size W E u acc
  eq : chainM ws rs (ws.length + rs.length) x0 = (chainM ws rs g x).map (acc ++ ·)
  gn : g + acc.length = ws.length + rs.length
  okx : okW x
/-- The answer. -/
def CA (E : TypeId) (w w' : World) (c : Option (List Fld)) (e : Ending) : Prop :=
  ∃ u, e = .returned (.tuple #[u, .bool c.isSome]) ∧ Own2 w.heap.size w' E u (c.getD []) ∧ Fr w w' fun _ => False
theorem chain_stop {ws rs : List Int} {g : Nat} {x : Int} (h : tagW x ≠ 7) : chainM ws rs g x = some [] := by cases g <;> simp [chainM, h]
theorem chain_far {ws rs : List Int} {g : Nat} {x : Int} (h : tagW x = 7) (hf : fGet ws rs (Md.linked x) = none) : chainM ws rs g x = none := by cases g <;> simp [chainM, h, hf]
theorem chain_zero {ws rs : List Int} {x : Int} (h : tagW x = 7) : chainM ws rs 0 x = none := by simp [chainM, h]
theorem chain_step {ws rs : List Int} {g : Nat} {x y : Int} (h : tagW x = 7) (hf : fGet ws rs (Md.linked x) = some y) : chainM ws rs (g + 1) x = (chainM ws rs g y).map (Md.linked x :: ·) := by simp [chainM, h, hf]
theorem okW_getR {ws : List Int} (h : okWs ws) (i : Int) : okW (getR ws i) := by
  unfold getR
  cases hr : rdAt ws i with
  | none => exact ⟨Int.le_refl 0, by decide⟩
  | some y => obtain ⟨k, _, hk, rfl⟩ := rdAt_some hr; exact okWs_getD h k hk
theorem TA.not_box {T : TypeId} {W : World} {p : Nat} {v r : Value} {ws rs : List Int} {size : Int} {D : Nat} {c : Array Value} {T2 : TypeId} (h : TA T W p v ws size r rs) (hb : W.heap[D]? = some (.cells c T2 (0, 0))) (ne : T2 ≠ 29) : ¬ UO v r D := fun e =>
  e.elim (h.ar.own.not_box hb ne) (h.own.not_box hb ne)
section
variable {T E : TypeId} {w W W1 : World} {p : Nat} {v r : Value} {ws rs : List Int} {size x0 : Int} {g : Nat} {u : Value} {acc : List Fld} {x : Int}
theorem CI.frm (h : CI T E w W p v r ws rs size x0 g u acc x) (hf : Fr W W1 fun _ => False) : CI T E w W1 p v r ws rs size x0 g u acc x :=
  ⟨h.ta.fr hf, h.fr.trans hf, h.ow.keep hf (fun _ _ h => h), h.eq, h.gn, h.okx⟩
theorem CI.app {t : TypeId} {b : Bool} {i y : Int} (h : CI T E w W p v r ws rs size x0 (g + 1) u acc x) (ht : Try.prog.underlying t = some (.slice E)) (hinf : (Try.prog.info? E).map (fun i => (i.zero, i.size, i.bytes)) = some (some (.agg #[.bool false, .int .i64 0]), 2, 16))
    (hT : E ≠ T) (hE : E ≠ 29) (h7 : tagW x = 7) (hl : Md.linked x = ⟨b, i⟩) (hy : fGet ws rs ⟨b, i⟩ = some y) :
    ∃ v' w1, (Builtin.append_ #[t, t] t #[u, .slice (some ⟨W.heap.size, 0, none⟩) 1 1]).run Try.prog (W.alloc (.cells #[.bool b, .int .i64 i] E)) = .ok v' w1 ∧ CI T E w w1 p v r ws rs size x0 g v' (acc ++ [⟨b, i⟩]) y := by
  have hle := h.ta.ar.le
  have hmx := h.ta.ar.mx
  have hlr := h.ta.lenr
  obtain ⟨v', w1, hr, ho, hf⟩ := run_append_fld t E ht hinf ⟨b, i⟩ h.ow h.fr.size (by have := h.gn; omega)
  have hn1 : ∀ k, InBlk u k → ¬ InBlk v k := fun k hk e => h.ow.apart h.ta.ar.own hE k hk e
  have hn2 : ∀ k, InBlk u k → ¬ InBlk r k := fun k hk e => h.ow.apart h.ta.own hE k hk e
  refine ⟨v', w1, hr, ⟨h.ta.ar.keep hf (fun e => h.ow.not_ptr h.ta.ar (fun e => hT e.symm) p e rfl) (fun k hk e => hn1 k e hk), h.ta.own.keep hf (fun k hk e => hn2 k e hk), h.ta.ap, h.ta.okr, h.ta.lenr⟩, h.fr.then_ hf (fun k hk hlt => by have := (h.ow.lt k hk).1; omega), ho, ?_, by simp; have := h.gn; omega, fGet_ok h.ta.ar.ok h.ta.okr hy⟩
  rw [h.eq, chain_step h7 (by rw [hl]; exact hy), hl, Option.map_map]
  exact congrArg (fun F => Option.map F (chainM ws rs g y)) (funext fun z => by simp)
end
theorem fldInfo : (Try.prog.info? 68).map (fun i => (i.zero, i.size, i.bytes)) = some (some (.agg #[.bool false, .int .i64 0]), 2, 16) := by kernel_rfl
theorem mfldInfo : (Try.prog.info? 83).map (fun i => (i.zero, i.size, i.bytes)) = some (some (.agg #[.bool false, .int .i64 0]), 2, 16) := by kernel_rfl
set_option maxRecDepth 100000 in
set_option maxHeartbeats 4000000 in
theorem chain_c (p : Nat) (v r : Value) (ws rs : List Int) (size at_ : Int) (w : World) (h : TA 101 w p v ws size r rs) :
    Calls Try.prog 47 #[.pointer (some ⟨p, 0, none⟩), r, .int .i64 at_] w fun e w' => CA 68 w w' (chainA ws rs at_) e := by
  have hmx := h.ar.mx
  have hle := h.ar.le
  have hlr := h.lenr
  have HB : Hid (ws.length ≤ 1048576 ∧ rs.length ≤ 1048576) := Lib.hid (by omega)
  have H0 : Hid (CI 101 68 w w p v r ws rs size (getR ws at_) (ws.length + rs.length) (.slice none 0 0) [] (getR ws at_)) := Lib.hid ⟨h, Fr.refl _ _, Own2.nil _ _ _, by simp, by simp, okW_getR h.ar.ok _⟩
  have H := Lib.hid h
  obtain ⟨A, cap, rfl⟩ := h.own.rd.len
  rw [uw_length] at *
  obtain ⟨x0, hx0⟩ : ∃ x0, getR ws at_ = x0 := ⟨_, rfl⟩
  have HX0 := Lib.hid hx0
  obtain ⟨Z, hZ⟩ : ∃ Z, chainA ws rs at_ = Z := ⟨_, rfl⟩
  rw [hZ]
  have HZ : Hid (chainM ws rs (ws.length + rs.length) x0 = Z) := Lib.hid (by rw [← hZ, ← hx0]; rfl)
  rw [hx0] at H0
  clear h hmx hle hlr hZ hx0
  go_enter Try.func47, Try.ntmps47
  go_wp2_with (first | (go_at_call 23; (with_reducible refine (get_u p v ws size at_ _ H.out.ar).mono ?_); rintro e w1 ⟨rfl, rfl⟩; rw [HX0.out]))
  go_loopg [8, 9] (ws.length + rs.length) (fun g a8 a9 wr => ∃ (u : Value) (acc : List Fld) (x : Int), a8 = u ∧ a9 = .int .u64 x ∧ Hid (CI 101 68 w wr p v (.slice A rs.length cap) ws rs size x0 g u acc x))
  case atStart => exact ⟨_, [], x0, rfl, rfl, H0⟩
  case round =>
    clear H0
    obtain ⟨u, acc, x, rfl, rfl, HI⟩ := hrel
    have HX := Lib.hid HI.out.okx
    obtain ⟨t, ht⟩ : ∃ t, tagW x = t := ⟨_, rfl⟩
    have HT := Lib.hid ht
    clear ht
    by_cases h7 : t = 7
    · subst h7
      obtain ⟨⟨fb, fi⟩, hfl⟩ : ∃ f, Md.linked x = f := ⟨_, rfl⟩
      have HFL := Lib.hid hfl
      clear hfl
      go_upto_region 7 with (first | (go_at_call 66; (with_reducible refine (Wd.tag_c x 7 _ HX.out HT.out).mono ?_); rintro e w2 ⟨rfl, n2, rfl⟩) | (go_at_call 70; (with_reducible refine (Wd.linked_c x ⟨fb, fi⟩ _ HX.out HFL.out).mono ?_); rintro e wl ⟨rfl, hb⟩))
      obtain ⟨W2, hW2⟩ : ∃ W2, wl.alloc (.cells #[.bool fb, .int .i64 fi] 68) = W2 := ⟨_, rfl⟩
      obtain ⟨D, hD⟩ : ∃ D, wl.heap.size = D := ⟨_, rfl⟩
      have hf2 : Fr wr W2 (fun _ => False) := by rw [← hW2]; exact (((Fr.refl _ _).drewN n2).trans (Fr.of_below hb _)).alloc _
      have hdb : W2.heap[D]? = some (.cells #[.bool fb, .int .i64 fi] 68 (0, 0)) := by rw [← hW2, ← hD]; exact blk_new _ _ _
      have HI2 := Lib.hid (HI.out.frm hf2)
      have k0 : W2.cell? ⟨D, 0, none⟩ = some (.bool fb) := by simp [World.cell?, hdb]
      have k1 : W2.cell? ⟨D, 1, none⟩ = some (.int .i64 fi) := by simp [World.cell?, hdb]
      have HDB := Lib.hid hdb
      simp only [hW2, hD]
      clear hW2 hD hb hf2 hdb HI
      cases hfg : fGet ws rs ⟨fb, fi⟩ with
      | none =>
        have HG := Lib.hid hfg
        clear hfg
        go_wp2_with (first | (go_at_call 65; (with_reducible refine (fget_c p v _ ws rs size fi fb _ HI2.out.ta).mono ?_); rintro e w3 ⟨rfl, hf⟩; rw [HG.out]; have HF3 := Lib.hid hf; clear hf))
        go_ret2
        have hz : Z = none := by rw [← HZ.out, HI2.out.eq, chain_far HT.out (by rw [HFL.out]; exact HG.out)]; rfl
        rw [hz]
        exact ⟨_, rfl, Own2.nil _ _ _, HI2.out.fr.trans HF3.out⟩
      | some y =>
        have HG := Lib.hid hfg
        have hbd := HB.out
        have hgn := HI2.out.gn
        have hw : wrap64 ((ws.length : Int) + rs.length) = ws.length + rs.length := by unfold wrap64; omega
        have HW := Lib.hid hw
        obtain ⟨Au, cu, rfl⟩ := HI2.out.ow.len
        clear hfg hw
        cases gk with
        | zero =>
          have d1 : decide ((ws.length : Int) + rs.length ≤ acc.length) = true := decide_eq_true (by omega)
          clear hbd hgn
          have hw := HW.out
          go_wp2_with (first | (go_at_call 65; (with_reducible refine (fget_c p v _ ws rs size fi fb _ HI2.out.ta).mono ?_); rintro e w3 ⟨rfl, hf⟩; rw [HG.out]; have HI3 := Lib.hid (HI2.out.frm hf); clear hf) | (go_at_call 27; (with_reducible refine (used_c p v ws size _ HI3.out.ta.ar).mono ?_); rintro e w4 ⟨rfl, rfl⟩))
          go_ret2
          have hz : Z = none := by rw [← HZ.out, HI3.out.eq, chain_zero HT.out]; rfl
          rw [hz]
          exact ⟨_, rfl, Own2.nil _ _ _, HI3.out.fr⟩
        | succ g' =>
          have d1 : decide ((ws.length : Int) + rs.length ≤ acc.length) = false := decide_eq_false (by omega)
          clear hbd hgn
          have hw := HW.out
          go_upto_region 10 with (first | (go_at_call 65; (with_reducible refine (fget_c p v _ ws rs size fi fb _ HI2.out.ta).mono ?_); rintro e w3 ⟨rfl, hf⟩; rw [HG.out]; have HI3 := Lib.hid (HI2.out.frm hf); have hdb3 := hf.blk HDB.out (fun h => h); clear hf) | (go_at_call 27; (with_reducible refine (used_c p v ws size _ HI3.out.ta.ar).mono ?_); rintro e w4 ⟨rfl, rfl⟩))
          have k03 : w3.cell? ⟨D, 0, none⟩ = some (.bool fb) := by simp [World.cell?, hdb3]
          have k13 : w3.cell? ⟨D, 1, none⟩ = some (.int .i64 fi) := by simp [World.cell?, hdb3]
          obtain ⟨v', w5, hrun, hI5⟩ := HI3.out.app (t := 63) (b := fb) (i := fi) (y := y) Try.underlying63 fldInfo (by decide) (by decide) HT.out HFL.out HG.out
          have HI5 := Lib.hid hI5
          have HRUN := Lib.hid hrun
          clear hdb3 k0 k1 hrun hI5 hw
          go_wp2_with (at_builtin; refine Lib.wpList_append_run _ rfl _ _ _ _ rfl _ _ rfl rfl _ w5 HRUN.out ?_)
          go_roundg g'
          case measure => exact Nat.lt_succ_self _
          case rel => exact ⟨_, acc ++ [⟨fb, fi⟩], y, rfl, rfl, HI5⟩
    · have hb : (t == 7) = false := by simpa using h7
      have H7 := Lib.hid h7
      clear h7
      go_wp2_with (first | (go_at_call 66; (with_reducible refine (Wd.tag_c x t _ HX.out HT.out).mono ?_); rintro e w2 ⟨rfl, n2, rfl⟩))
      go_ret2
      have hz : Z = some acc := by rw [← HZ.out, HI.out.eq, chain_stop (by rw [HT.out]; exact H7.out)]; simp
      rw [hz]
      exact ⟨_, rfl, HI.out.ow.keep ((Fr.refl wr (fun _ => False)).drewN _) (fun _ _ h => h), HI.out.fr.drewN _⟩
end Go.Proofs.Ytjiaaefpepdoeaa

/-
  CONTRACT: the awake of layer 13. Conditions: none.
-/
namespace Go.Proofs.Ytjiaaefpepdoeaa
open Go.RowKit Md
set_option linter.unusedVariables false
theorem rd_built (w : World) (T : TypeId) (l : List Value) (h0 : 0 < l.length) (hm : l.length ≤ 1000) : Rd (w.alloc (.cells l.toArray T)) (.slice (some ⟨w.heap.size, 0, none⟩) l.length l.length) l :=
  .inr ⟨w.heap.size, 0, l.length, rfl, h0, Nat.le_refl _, by simp only [maxLen]; omega, by simp, fun i hi => by
    rw [Nat.zero_add]
    simp only [World.cell?, blk_new]
    simp⟩
theorem own_built (w : World) (T : TypeId) (l : List Value) (hm : l.length ≤ 1000) : Own (w.alloc (.cells l.toArray T)) T (.slice (some ⟨w.heap.size, 0, none⟩) l.length l.length) l :=
  ⟨by simp, .inr ⟨w.heap.size, l.length, l.toArray, rfl, Nat.zero_le _, blk_new _ _ _, Nat.le_refl _, by simp only [maxLen]; omega, by simp, by simp⟩⟩
/-- an arena, and roots that lie in a new row -/
theorem TA.built {T : TypeId} {W : World} {p : Nat} {v : Value} {ws rs : List Int} {size : Int} (h : Ar T W p v ws size) (hr : okWs rs) (hm : rs.length ≤ 1000) :
    TA T (W.alloc (.cells (uw rs).toArray 29)) p v ws size (.slice (some ⟨W.heap.size, 0, none⟩) (uw rs).length (uw rs).length) rs :=
  ⟨h.fr ((Fr.refl _ _).alloc _), own_built W 29 (uw rs) (by rw [uw_length]; exact hm), fun k hk e => by
    have := h.own.lt k hk
    simp [InBlk, Value.ownBlock] at e
    omega, hr, by omega⟩
/-- the root's cell -/
theorem TA.root {T : TypeId} {W : World} {p : Nat} {v : Value} {ws rs : List Int} {size : Int} {g cap : Nat} (h : TA T W p v ws size (.slice (some ⟨g, 0, none⟩) rs.length cap) rs) (k : Nat) (hk : k < rs.length) :
    W.cell? ⟨g, k, none⟩ = some (.int .u64 (rs.getD k 0)) := by
  rcases h.own.form with ⟨e, h0⟩ | ⟨g', cap', e, hl, hm, hg, hc, hf⟩
  · cases e
  · injection e with e1 e2 e3
    injection e1 with e1
    injection e1 with e1
    subst e1
    rw [hc k (by rw [uw_length]; exact hk), uw_get hk]
set_option maxRecDepth 100000 in
set_option maxHeartbeats 4000000 in
theorem awake13_c (w : World) : Calls Try.prog 37 #[] w fun e w' => e = .returned (.bool true) ∧ Fr w w' (fun _ => False) := by
  obtain ⟨H, hH, okH, hT, hP, hL⟩ : ∃ H, makeH ⟨1, 0, 1, false⟩ = H ∧ okW H ∧ threadM [H] [5] ⟨true, 0⟩ = some ([23], [H]) ∧ ofW 5 0 = 5 ∧ ofW 7 1 = 23 :=
    ⟨134217750, by decide +kernel, by unfold okW; omega, by decide +kernel, by decide +kernel, by decide +kernel⟩
  have HH := Lib.hid hH
  have HT := Lib.hid hT
  have HP := Lib.hid hP
  have HL := Lib.hid hL
  have R1 : Hid (∀ w : World, Rd (w.alloc (.cells #[.int .u64 H] 29)) (.slice (some ⟨w.heap.size, 0, none⟩) 1 1) (uw [H])) := Lib.hid (fun w => rd_built w 29 (uw [H]) (by simp [uw]) (by simp [uw]))
  have K1 : Hid (okWs [H]) := Lib.hid (fun x hx => by simp at hx; subst hx; exact okH)
  have K5 : Hid (okWs [5]) := Lib.hid (fun x hx => by simp at hx; subst hx; unfold okW; omega)
  have Z0 : Hid ((0 : Int) ≤ 0) := Lib.hid (Int.le_refl 0)
  have L1 : Hid ((([H] : List Int).length : Int) + 0 ≤ 1048576) := Lib.hid (by simp only [List.length_cons, List.length_nil]; omega)
  clear hH okH hT hP hL
  go_enter Try.func37, Try.ntmps37
  go_upto_region 6 with (first
    | (go_at_call 32; (with_reducible refine (Wd.rmake_c 1 0 1 false H _ HH.out).mono ?_); rintro e w1 ⟨rfl, hb⟩; have HF1 := Lib.hid (Fr.of_below hb (fun _ => False)); clear hb)
    | (go_at_call 31; (with_reducible refine (fill_c _ [H] 0 _ (R1.out _) K1.out Z0.out L1.out).mono ?_); rintro e w2 ⟨p, v2, rfl, hn⟩; have HA2 := Lib.hid hn.1; have HF2 := Lib.hid ((HF1.out.alloc _).trans hn.2.1); have HNV : Hid (∀ k, InBlk v2 k → w.heap.size ≤ k) := Lib.hid (fun k hk => Nat.le_trans (HF1.out.alloc _).size (hn.2.2.2 k hk)); clear hn)
    | (go_at_call 46; (with_reducible refine (Wd.rof_c 5 0 5 _ HP.out).mono ?_); rintro e w3 ⟨rfl, n3, rfl⟩; have HA3 := Lib.hid (HA2.out.drewN n3); have HF3 := Lib.hid (HF2.out.drewN n3)))
  have hta := TA.built HA3.out K5.out (by decide)
  have hf4 := HF3.out.alloc (.cells #[.int .u64 5] 29)
  obtain ⟨W4, hW4⟩ : ∃ W4, (w2.drewN n3).alloc (.cells #[.int .u64 5] 29) = W4 := ⟨_, rfl⟩
  obtain ⟨g, hg⟩ : ∃ g, w2.heap.size = g := ⟨_, rfl⟩
  have hg0 : w.heap.size ≤ g := by rw [← hg]; exact HF2.out.size
  have hta2 : TA 101 W4 p v2 [H] (([H] : List Int).length + 0) (.slice (some ⟨g, 0, none⟩) 1 1) [5] := by rw [← hW4, ← hg]; exact hta
  rw [hW4] at hf4 ⊢
  rw [hg]
  have H4 := Lib.hid hta2
  have HF4 := Lib.hid hf4
  have HG := Lib.hid hg0
  clear hta hf4 hW4 hg hta2 hg0
  go_upto_region 8 with (first
    | (go_at_call 44; (with_reducible refine (thread_yes p v2 _ [H] [5] [23] [H] _ 0 true _ H4.out HT.out).mono ?_); rintro e w5 ⟨rfl, ht5, hf5⟩; have H5 := Lib.hid ht5; have HF5 := Lib.hid hf5; clear ht5 hf5)
    | (go_at_call 23; (with_reducible refine (get_c p v2 [23] _ 0 23 _ H5.out.ar rfl).mono ?_); rintro e w6 ⟨rfl, rfl⟩))
  have k0 := TA.root (rs := [H]) (g := g) (cap := 1) H5.out 0 (by simp)
  have e0 : ([H] : List Int).getD 0 0 = H := rfl
  rw [e0] at k0
  clear e0
  have HH2 : (H == H) = true := by simp
  go_wp2_with (first
    | (go_at_call 46; (with_reducible refine (Wd.rof_c 7 1 23 _ HL.out).mono ?_); rintro e w3 ⟨rfl, n3, rfl⟩))
  go_ret
  refine ⟨by simp, ?_⟩
  refine Fr.drewN (HF4.out.then_ HF5.out (fun i hi hlt => ?_)) _
  rcases hi with hi | hi
  · have := HNV.out i hi; omega
  · simp [InBlk, Value.ownBlock] at hi; have := HG.out; omega
end Go.Proofs.Ytjiaaefpepdoeaa
