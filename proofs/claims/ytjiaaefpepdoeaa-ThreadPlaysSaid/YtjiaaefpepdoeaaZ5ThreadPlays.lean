/-
  TEXTS JOINED FOR A CLAIM (ThreadPlays): Opn RowTpl. What each proves, and under which conditions, stands at its head. Conditions: none beyond those.
-/
import Derived.Test.YtjiaaefpepdoeaaZ1ThreadPlays
import Derived.Test.YtjiaaefpepdoeaaChecked
import Derived.WalkKit
import Derived.ProofKit
import Derived.OpenShut
import Derived.ChangeSlices
import Derived.ChangeOld
import Derived.Test.YtjiaaefpepdoeaaRows
import Derived.Test.YtjiaaefpepdoeaaZ4ThreadPlays
import Derived.Deep.Slices
import Derived.Deep.Fields
import Derived.ChangeSame
import Derived.ShutString
import Derived.Below
import Derived.SizedLaws
import Derived.Test.YtjiaaefpepdoeaaZ0ThreadPlays
import Derived.Test.YtjiaaefpepdoeaaZ2ThreadPlays
import Derived.Test.YtjiaaefpepdoeaaZ3ThreadPlays
/-
  ARGUMENTS OPENED: a slice of numbers that came in reads as a list. Conditions: none.
-/
namespace Go.Proofs.Ytjiaaefpepdoeaa.Opn
open Go.ChangeShapes Go.WideShapes Go.ChangeAt Go.RowKit
set_option linter.unusedVariables false
theorem spot_none {w : World} {a : Addr} {v : Value} (h : w.cell? a = some v) : a.spot = none := by
  unfold World.cell? at h
  split at h
  · split at h
    · cases h
    · rename_i h1; simpa using h1
  · cases h
section
variable {H : Type} {enc : TypeId × Value → H} {P : Program} {w : World} {base : Nat} {held : Bool}
theorem open_row {t e : TypeId} {k : IntKind} {fuel len cap : Nat} {A : Option Addr} {x : DataW H × List MemPlace} (ht : P.underlying t = some (.slice e)) (he : P.underlying e = some (.int k)) (hc : P.cellsOf e = 1)
    (h : DataW.trod enc P w base (fun _ => true) held fuel t [.slice A len cap] = some x) :
    ∃ zs : List Int, zs.length = len ∧ (∀ n ∈ zs, (Lit.int k n).wf = true) ∧ Rd w (.slice A len cap) (zs.map (Value.int k)) := by
  rcases open_ints ht he hc h with ⟨hcs, _⟩ | ⟨a, l, c, zs, hcs, _, hl, hm, hz, _, hcell, hwz⟩
  · simp at hcs
    obtain ⟨rfl, rfl, rfl⟩ := hcs
    exact ⟨[], rfl, (fun n hn => by cases hn), .inl ⟨rfl, none, 0, rfl, fun _ => rfl⟩⟩
  · simp at hcs
    obtain ⟨rfl, rfl, rfl⟩ := hcs
    simp only [if_true] at hz
    have hlz : (zs.take len).length = len := by simp; omega
    refine ⟨zs.take len, hlz, fun n hn => hwz n (List.mem_of_mem_take hn), ?_⟩
    by_cases h0 : len = 0
    · subst h0
      exact .inl ⟨by simp, some a, cap, rfl, fun h => by cases h⟩
    · obtain ⟨b, off, sp⟩ := a
      have h1 := hcell 0 (by omega)
      have h2 := spot_none h1
      simp [Addr.add] at h2
      subst h2
      have ad : ∀ n, (Addr.mk b off none).add n = ⟨b, off + n, none⟩ := fun n => by
        unfold Addr.add; split
        · subst_vars; rfl
        · rfl
      have hb := World.block_lt_of_cell? w _ h1
      rw [ad] at hb
      refine .inr ⟨b, off, cap, by rw [List.length_map, hlz], by rw [List.length_map, hlz]; omega, by rw [List.length_map, hlz]; exact hl, hm, hb, fun i hi => ?_⟩
      have hi' : i < len := by rw [List.length_map, hlz] at hi; exact hi
      have h3 := hcell i (by omega)
      rw [ad] at h3
      rw [h3]
      simp [List.getD, List.getElem?_eq_getElem (show i < zs.length by omega), List.getElem?_take, hi']
end
end Go.Proofs.Ytjiaaefpepdoeaa.Opn

/-
  ROW: ThreadPlays: the given statement, from the law's walk. Conditions: none.
-/
namespace Go.Proofs.Ytjiaaefpepdoeaa.threadPlays
open Go.ChangeShapes Go.WideShapes Go.ChangeAt Go.RowKit
open Go.ChangeMaps (open_string shut_string)
set_option linter.unusedVariables false

theorem spot_none {w : World} {a : Addr} {v : Value} (h : w.cell? a = some v) : a.spot = none := by
  unfold World.cell? at h
  split at h
  · split at h
    · cases h
    · rename_i h1; simpa using h1
  · cases h
theorem fill_list {α : Type} (z : α) (n : Nat) (P : Nat → α → Prop) (h : ∀ i, i < n → ∃ d, P i d) : ∃ ds : List α, ds.length = n ∧ ∀ i, i < n → P i (ds.getD i z) := by
  induction n with
  | zero => exact ⟨[], rfl, fun i hi => absurd hi (Nat.not_lt_zero i)⟩
  | succ n ih =>
    obtain ⟨ds, hl, hd⟩ := ih (fun i hi => h i (by omega))
    obtain ⟨d, hp⟩ := h n (by omega)
    refine ⟨ds ++ [d], by simp [hl], fun i hi => ?_⟩
    by_cases hn : i < n
    · have := hd i hn
      simp only [List.getD, List.getElem?_append_left (show i < ds.length by omega)] at this ⊢
      exact this
    · have : i = n := by omega
      subst this
      simp only [List.getD, List.getElem?_append_right (show ds.length ≤ i by omega), hl, Nat.sub_self, List.getElem?_cons_zero, Option.getD_some]
      exact hp
section
variable {H : Type} {enc : TypeId × Value → H} {w : World} {base : Nat} {spare : Nat → Bool} {held : Bool}
open Go.Deep
variable {P : Program}
theorem open_slice_fields {t e : TypeId} {fs : Array Field} {fuel : Nat} {cs : List Value} {x : DataW H × List MemPlace} (ht : P.underlying t = some (.slice e)) (he : P.underlying e = some (.struct fs))
    (hone : oneCellFields P fs = true) (hC : P.cellsOf e = fs.size) (h : DataW.trod enc P w base spare held fuel t cs = some x) :
    (cs = [.slice none 0 0] ∧ x = (.nil, [])) ∨
    ∃ (a : Addr) (len cap m : Nat) (D : Nat → DataW H) (Pl : Nat → List MemPlace), cs = [.slice (some a) len cap] ∧ base ≤ a.block ∧ len ≤ cap ∧ cap ≤ maxLen ∧ m = (if spare a.block then cap else len) ∧
      x = (.slice ((List.range len).map D) ((List.range (m - len)).map fun j => D (len + j)), MemPlace.row a (m * fs.size) ++ (List.range m).flatMap Pl) ∧
      ∀ i, i < m → ∃ (ys : List (DataW H × List MemPlace)) (n : Nat), D i = .agg (ys.map (·.1)) ∧ Pl i = ys.flatMap (·.2) ∧ ys.length = fs.size ∧
        ∀ (j : Nat) (f : Field), fs[j]? = some f → ∃ (v : Value) (y : DataW H × List MemPlace), w.cell? (a.add (i * fs.size + j)) = some v ∧ ys[j]? = some y ∧ DataW.trod enc P w base spare held n f.type [v] = some y := by
  rcases open_slice ht h with h0 | ⟨a, len, cap, m, n, D, Pl, hcs, hb, hl, hm, hmm, hx, hi⟩
  · exact .inl h0
  · refine .inr ⟨a, len, cap, m, D, Pl, hcs, hb, hl, hm, hmm, by rw [hC] at hx; exact hx, fun i him => ?_⟩
    obtain ⟨cs', hc, ht'⟩ := hi i him
    rw [hC] at hc
    obtain ⟨ys, n', hn', hy, hlen, hyl, hf⟩ := DataW.trod_struct he ht'
    obtain ⟨_, hcl, hat⟩ := World.cells?_some hc
    simp only [Prod.mk.injEq] at hy
    refine ⟨ys, n', hy.1, hy.2, hyl, fun j f hj => ?_⟩
    obtain ⟨ho, hk⟩ := hone_of hone j f hj
    have hjl : j < fs.size := (Array.getElem?_eq_some_iff.1 hj).1
    have hcell := hat j hjl
    have hv : cs'[j]? = some (cs'[j]'(by omega)) := List.getElem?_eq_getElem (by omega)
    have h1 := hf j f hj
    rw [ho, hk] at h1
    have hone' : (cs'.drop j).take 1 = [cs'[j]'(by omega)] := by
      rw [List.drop_eq_getElem_cons (by omega)]
      rfl
    rw [hone'] at h1
    have hys : ys[j]? = some (ys[j]'(by omega)) := List.getElem?_eq_getElem (by omega)
    refine ⟨_, _, ?_, hys, h1.trans hys⟩
    rw [← Go.Deep.add_add, hcell, hv]
theorem open_deeds {fuel : Nat} {A : Option Addr} {len cap : Nat} {x : DataW H × List MemPlace} (h : DataW.trod enc Try.prog w base spare held fuel 80 [.slice A len cap] = some x) :
    ∃ ds : List TDeed, ds.length ≤ cap ∧ ds.length = len ∧ (0 < ds.length → ∃ b off, A = some ⟨b, off, none⟩ ∧ ∀ i, i < ds.length → w.cell? ⟨b, off + i * 4, none⟩ = some (.int .i64 (ds.getD i tdeed0).dd) ∧ w.cell? ⟨b, off + i * 4 + 1, none⟩ = some (.int .i64 (ds.getD i tdeed0).at_) ∧ w.cell? ⟨b, off + i * 4 + 2, none⟩ = some (.int .i64 (ds.getD i tdeed0).to_) ∧ w.cell? ⟨b, off + i * 4 + 3, none⟩ = some (.bool (ds.getD i tdeed0).root)) := by
  rcases open_slice_fields Try.underlying80 Try.underlying82 (by kernel_rfl) (by kernel_rfl) h with ⟨hcs, _⟩ | ⟨a, l, c, m, D, Pl, hcs, hb, hl, hm, hmm, hx, hi⟩
  · simp at hcs
    obtain ⟨rfl, rfl, rfl⟩ := hcs
    exact ⟨[], Nat.le_refl _, rfl, fun h => absurd h (Nat.lt_irrefl 0)⟩
  · simp at hcs
    obtain ⟨rfl, rfl, rfl⟩ := hcs
    have hlm : len ≤ m := by rw [hmm]; split <;> omega
    have hd : ∀ i, i < len → ∃ d : TDeed, w.cell? (a.add (i * 4 + 0)) = some (.int .i64 d.dd) ∧ w.cell? (a.add (i * 4 + 1)) = some (.int .i64 d.at_) ∧ w.cell? (a.add (i * 4 + 2)) = some (.int .i64 d.to_) ∧ w.cell? (a.add (i * 4 + 3)) = some (.bool d.root) := by
      intro i him
      obtain ⟨ys, n, _, _, _, hf⟩ := hi i (by omega)
      obtain ⟨v0, y0, hc0, _, ht0⟩ := hf 0 _ rfl
      obtain ⟨v1, y1, hc1, _, ht1⟩ := hf 1 _ rfl
      obtain ⟨v2, y2, hc2, _, ht2⟩ := hf 2 _ rfl
      obtain ⟨v3, y3, hc3, _, ht3⟩ := hf 3 _ rfl
      obtain ⟨n0, e0, _, _⟩ := DataW.trod_int Try.underlying3 ht0
      obtain ⟨n1, e1, _, _⟩ := DataW.trod_int Try.underlying3 ht1
      obtain ⟨n2, e2, _, _⟩ := DataW.trod_int Try.underlying3 ht2
      obtain ⟨n3, e3, _⟩ := DataW.trod_bool Try.underlying4 ht3
      simp only [List.cons.injEq, and_true] at e0 e1 e2 e3
      subst e0 e1 e2 e3
      exact ⟨⟨n0, n1, n2, n3⟩, hc0, hc1, hc2, hc3⟩
    obtain ⟨ds, hdl, hdd⟩ := fill_list tdeed0 len _ hd
    refine ⟨ds, by omega, hdl, fun h0 => ?_⟩
    · obtain ⟨b, off, sp⟩ := a
      have h1 := (hdd 0 (by omega)).1
      have h2 := spot_none h1
      simp [Addr.add] at h2
      subst h2
      refine ⟨b, off, rfl, fun i hil => ?_⟩
      obtain ⟨g0, g1, g2, g3⟩ := hdd i (by omega)
      have ad : ∀ n, (Addr.mk b off none).add n = ⟨b, off + n, none⟩ := fun n => by
        unfold Addr.add; split
        · subst_vars; rfl
        · rfl
      rw [ad] at g0 g1 g2 g3
      exact ⟨g0, g1, g2, g3⟩
end
theorem own : ownKnob Try.prog.godebug = none := by kernel_rfl
theorem laidOut : laidOutB Try.prog = true := by kernel_rfl
set_option maxRecDepth 100000 in
theorem lifted (os : Os) (started : os.Started) (H : Type) (enc : TypeId × Value → H) :
    ReturnsInHanded {} Try.checked os 11 .any (Rows.threadPlaysSpec.pre6 enc Try.prog Try.f11 Rows.threadPlaysRow.domain false) (Rows.threadPlaysSpec.post enc Try.prog Try.f11 false true false false) := by
  refine returnsInHanded_of_change_sized (C := Try.checked) own started (by kernel_rfl) Try.func11
    (ChangeSpec.witness6 (enc := enc) (C := Try.checked) false ⟨#[], #[.slice none 0 0, .slice none 0 0, .slice none 0 0], []⟩ 8 (by kernel_rfl) (by kernel_rfl) (by kernel_rfl) (by kernel_rfl)) ?_
  intro W base args ds gs before hval0 hW hcnd hsz0 _
  have hsz : (DataW.weightsEach Try.prog (Try.f11.params.toList ++ Rows.threadPlaysSpec.plain.varTypes Try.prog) (ds ++ gs)).all (· ≤ reachBytes) = true := hsz0
  have hval : ∀ (j : Nat) t v, Try.f11.params[j]? = some t → args[j]? = some v → Value.okWide Try.prog W .any base t v := hval0
  have hW' := hW
  obtain ⟨p, q, hA0, hV, rfl, hfz, hnd⟩ := hW
  have hA : DataW.TrodAll enc Try.prog W 0 (fun _ => true) true Try.f11.params.toList args.toList ds p := hA0
  rw [Try.params11] at hA hval hsz
  obtain ⟨v0, vs0, d0, ds0, p0, q0, hargs, rfl, rfl, h0, r0⟩ := trodAll_cons hA
  obtain ⟨v1, vs1, d1, ds1, p1, q1, rfl, rfl, rfl, h1, r1⟩ := trodAll_cons r0
  obtain ⟨v2, vs2, d2, ds2, p2, q2, rfl, rfl, rfl, h2, r2⟩ := trodAll_cons r1
  obtain ⟨rfl, rfl, rfl⟩ := trodAll_nil r2
  obtain rfl : args = #[v0, v1, v2] := by cases args; simp_all
  obtain ⟨rfl, rfl⟩ := trodVars_none hV
  have k0 := h0
  have lt0 : ∀ x ∈ p0, x.block < W.heap.size := by obtain ⟨m, hm⟩ := k0; exact DataW.trod_lt m _ _ _ hm
  have k1 := h1
  have lt1 : ∀ x ∈ p1, x.block < W.heap.size := by obtain ⟨m, hm⟩ := k1; exact DataW.trod_lt m _ _ _ hm
  have k2 := h2
  have lt2 : ∀ x ∈ p2, x.block < W.heap.size := by obtain ⟨m, hm⟩ := k2; exact DataW.trod_lt m _ _ _ hm
  obtain ⟨A, len, cap, rfl⟩ := okWide_slice Try.underlying39 (hval 0 39 v0 rfl rfl)
  obtain ⟨B, lenb, capb, rfl⟩ := okWide_slice Try.underlying39 (hval 1 39 v1 rfl rfl)
  obtain ⟨l, rfl, hw, hl⟩ : ∃ zs : List Int, zs.length = len ∧ (∀ n ∈ zs, (Lit.int .u64 n).wf = true) ∧ Rd W (.slice A len cap) (zs.map (Value.int .u64)) := by
    obtain ⟨fuel, hf⟩ := h0
    simp only [Value.cells] at hf
    exact Opn.open_row Try.underlying39 Try.underlying29 (by kernel_rfl) hf
  obtain ⟨rs, rfl, hws, hs⟩ : ∃ zs : List Int, zs.length = lenb ∧ (∀ n ∈ zs, (Lit.int .u64 n).wf = true) ∧ Rd W (.slice B lenb capb) (zs.map (Value.int .u64)) := by
    obtain ⟨fuel, hf⟩ := h1
    simp only [Value.cells] at hf
    exact Opn.open_row Try.underlying39 Try.underlying29 (by kernel_rfl) hf
  obtain ⟨Ad, len3, cap3, rfl⟩ := okWide_slice Try.underlying80 (hval 2 80 v2 rfl rfl)
  obtain ⟨dl, hdl, rfl, hdc⟩ : ∃ ds : List TDeed, ds.length ≤ cap3 ∧ ds.length = len3 ∧ (0 < ds.length → ∃ b off, Ad = some ⟨b, off, none⟩ ∧ ∀ i, i < ds.length → W.cell? ⟨b, off + i * 4, none⟩ = some (.int .i64 (ds.getD i tdeed0).dd) ∧ W.cell? ⟨b, off + i * 4 + 1, none⟩ = some (.int .i64 (ds.getD i tdeed0).at_) ∧ W.cell? ⟨b, off + i * 4 + 2, none⟩ = some (.int .i64 (ds.getD i tdeed0).to_) ∧ W.cell? ⟨b, off + i * 4 + 3, none⟩ = some (.bool (ds.getD i tdeed0).root)) := by
    obtain ⟨fuel, hf⟩ := h2
    simp only [Value.cells] at hf
    exact open_deeds hf
  have hok : Md.okWs l := fun n hn => by
    have wf := hw n hn
    simp [Lit.wf, IntKind.min, IntKind.max, IntKind.bits, IntKind.signed] at wf
    unfold Md.okW; omega
  have hor : Md.okWs rs := fun n hn => by
    have wf := hws n hn
    simp [Lit.wf, IntKind.min, IntKind.max, IntKind.bits, IntKind.signed] at wf
    unfold Md.okW; omega
  clear hA0 hval0 hsz0 hsz
  refine (((tp_c A B Ad cap capb cap3 l rs dl W hl hs hok hor hdl hdc).mono fun _ _ h => ⟨h.1, h.2.below⟩ : Calls Try.prog 11 #[.slice A l.length cap, .slice B rs.length capb, .slice Ad dl.length cap3] W fun e W' => e = .returned (.bool true) ∧ Below W.heap.size W W')).mono fun e W' ⟨he, bel⟩ => ?_
  subst he
  exact ⟨_, rfl, _, _, _, [], _, [], hW', trodAll_mk1 (shut_bool Try.underlying4 _), (trodAll_cons_mk (Below.trod laidOut (by kernel_rfl) (of_decide_eq_true (by kernel_rfl)) k0 bel lt0) (trodAll_cons_mk (Below.trod laidOut (by kernel_rfl) (of_decide_eq_true (by kernel_rfl)) k1 bel lt1) (trodAll_cons_mk (Below.trod laidOut (by kernel_rfl) (of_decide_eq_true (by kernel_rfl)) k2 bel lt2) trodAll_mk0))), rfl, bel.frame _, fun h => by cases h⟩
theorem over : Rows.threadPlaysRow.holds Try.pinned (OpenSpec.ofChange Rows.threadPlaysSpec) :=
  OpenClaim.holds_of_wide 11 Try.f11 rfl rfl rfl rfl rfl rfl rfl ⟨rfl, rfl, rfl, rfl, rfl⟩ rfl rfl rfl rfl rfl (by kernel_rfl) Try.func11 (by kernel_rfl)
    (of_decide_eq_true (by kernel_rfl)) (by unfold Func.isWrapper; first | (rw [if_pos (by decide +kernel)]; kernel_rfl) | (rw [if_neg (by decide +kernel)]; exact ⟨rfl, rfl⟩))
    (fun os started H enc _ => lifted os started H enc)
theorem proved : Rows.ThreadPlaysSaid := over
end Go.Proofs.Ytjiaaefpepdoeaa.threadPlays
namespace Go.Proofs.Ytjiaaefpepdoeaa
/-- The row, under a short name, for the claim. -/
theorem threadPlays_holds : Rows.ThreadPlaysSaid := threadPlays.proved
#print axioms threadPlays_holds
end Go.Proofs.Ytjiaaefpepdoeaa
