/-
  TEXTS JOINED FOR A CLAIM (MarkMore): Lv Liv Lvw Mwd Aw12 More. What each proves, and under which conditions, stands at its head. Conditions: none beyond those.
-/
import Derived.Test.YtjiaaefpepdoeaaZ0MarkMore
import Derived.Test.YtjiaaefpepdoeaaZ3MarkMore
import Derived.Deep.LoopGhost
import Derived.Deep.RegionHeld3
import Derived.IntWalk
import Derived.Outline
import Derived.Test.YtjiaaefpepdoeaaZ2MarkMore
import Derived.Test.YtjiaaefpepdoeaaZ1MarkMore
/-
  PLAIN LAW: what is reached from some roots: the least set that holds them and is closed. Conditions: those named in each.
-/
namespace Go.Proofs.Ytjiaaefpepdoeaa.Md
set_option linter.unusedVariables false

/-- The search by a stack: from what is seen and what is to be done on to the end; none: a pointer to no object. -/
inductive Lv (ws : List Int) : List Bool → List Int → Option (List Bool) → Prop
  | nil {seen : List Bool} : Lv ws seen [] (some seen)
  | other {seen : List Bool} {rest : List Int} {w : Int} {r : Option (List Bool)} : tagW w ≠ 5 → Lv ws seen rest r → Lv ws seen (rest ++ [w]) r
  | bad {seen : List Bool} {rest : List Int} {w : Int} : tagW w = 5 → objAt ws (valW w) = none → Lv ws seen (rest ++ [w]) none
  | old {seen : List Bool} {rest : List Int} {w : Int} {h : Hdr} {r : Option (List Bool)} : tagW w = 5 → objAt ws (valW w) = some h → seen.getD (valW w).toNat false = true → Lv ws seen rest r → Lv ws seen (rest ++ [w]) r
  | new {seen : List Bool} {rest : List Int} {w : Int} {h : Hdr} {r : Option (List Bool)} : tagW w = 5 → objAt ws (valW w) = some h → seen.getD (valW w).toNat false = false →
      Lv ws (seen.set (valW w).toNat true) (rest ++ fieldsAt ws (valW w) (nFields h)) r → Lv ws seen (rest ++ [w]) r

/-- a set of places holds what some words point at -/
def Holds (T : Nat → Prop) (todo : List Int) : Prop := ∀ w ∈ todo, tagW w = 5 → T (valW w).toNat
/-- a set of places is closed: it holds what its objects' fields point at -/
def Closed (ws : List Int) (T : Nat → Prop) : Prop := ∀ x : Nat, T x → ∃ h, objAt ws x = some h ∧ Holds T (fieldsAt ws x (nFields h))
def isIn (s : List Bool) (x : Nat) : Prop := s.getD x false = true
theorem isIn_set {s : List Bool} {k x : Nat} (hk : k < s.length) : isIn (s.set k true) x ↔ x = k ∨ isIn s x := by
  unfold isIn
  by_cases h : x = k
  · subst h; simp [hk]
  · simp [List.getD, Ne.symm h, h]
theorem Lv.spec {ws : List Int} {seen : List Bool} {todo : List Int} {r : Option (List Bool)} (h : Lv ws seen todo r) : ∀ s, r = some s → seen.length = ws.length →
    s.length = ws.length ∧ (∀ x, isIn seen x → isIn s x) ∧ Holds (isIn s) todo ∧ (∀ x, isIn s x → isIn seen x ∨ ∃ hd, objAt ws x = some hd ∧ Holds (isIn s) (fieldsAt ws x (nFields hd))) ∧
    (∀ T : Nat → Prop, (∀ x, isIn seen x → T x) → Holds T todo → (∀ x : Nat, T x → ¬ isIn seen x → ∃ hd, objAt ws x = some hd ∧ Holds T (fieldsAt ws x (nFields hd))) → ∀ x, isIn s x → T x) := by
  induction h with
  | nil =>
    intro s e hl
    injection e with e; subst e
    exact ⟨hl, fun _ h => h, fun w hw => absurd hw (by simp), fun x hx => .inl hx, fun T h1 _ _ x hx => h1 x hx⟩
  | other ht _ ih =>
    intro s e hl
    obtain ⟨a, b, c, d, f⟩ := ih s e hl
    refine ⟨a, b, fun w hw h5 => ?_, d, fun T h1 h2 h3 => f T h1 (fun w hw => h2 w (by simp [hw])) h3⟩
    rcases List.mem_append.1 hw with hw | hw
    · exact c w hw h5
    · simp only [List.mem_singleton] at hw; subst hw; exact absurd h5 ht
  | bad => intro s e; cases e
  | @old seen rest w hd r ht ho hs _ ih =>
    intro s e hl
    obtain ⟨a, b, c, d, f⟩ := ih s e hl
    refine ⟨a, b, fun w' hw h5 => ?_, d, fun T h1 h2 h3 => f T h1 (fun w hw => h2 w (by simp [hw])) h3⟩
    rcases List.mem_append.1 hw with hw | hw
    · exact c w' hw h5
    · simp only [List.mem_singleton] at hw; subst hw; exact b _ hs
  | @new seen rest w hd r ht ho hs _ ih =>
    intro s e hl
    have hf := obj_facts ho
    have hk : (valW w).toNat < seen.length := by omega
    obtain ⟨a, b, c, d, f⟩ := ih s e (by rw [List.length_set]; exact hl)
    have e0 : ((valW w).toNat : Int) = valW w := Int.toNat_of_nonneg hf.1
    have hw : isIn s (valW w).toNat := b _ ((isIn_set hk).2 (.inl rfl))
    refine ⟨a, fun x hx => b x ((isIn_set hk).2 (.inr hx)), fun w' hw' h5 => ?_, fun x hx => ?_, fun T h1 h2 h3 x hx => ?_⟩
    · rcases List.mem_append.1 hw' with hw' | hw'
      · exact c w' (by simp [hw']) h5
      · simp only [List.mem_singleton] at hw'; subst hw'; exact hw
    · rcases d x hx with h | h
      · rcases (isIn_set hk).1 h with rfl | h
        · right
          refine ⟨hd, by rw [e0]; exact ho, fun w' hw' h5 => c w' ?_ h5⟩
          rw [e0] at hw'
          simp [hw']
        · exact .inl h
      · exact .inr h
    · have hT : T (valW w).toNat := h2 w (by simp) ht
      refine f T (fun y hy => ?_) (fun w' hw' h5 => ?_) (fun y hy hny => ?_) x hx
      · rcases (isIn_set hk).1 hy with rfl | hy
        · exact hT
        · exact h1 y hy
      · rcases List.mem_append.1 hw' with hw' | hw'
        · exact h2 w' (by simp [hw']) h5
        · obtain ⟨hd2, ho2, hh⟩ := h3 _ hT (by unfold isIn; rw [hs]; simp)
          rw [e0, ho] at ho2
          injection ho2 with ho2
          subst ho2
          rw [e0] at hh
          exact hh w' hw' h5
      · exact h3 y hy (fun h => hny ((isIn_set hk).2 (.inr h)))
/-- what is reached from some roots -/
def Reach (ws rs : List Int) (s : List Bool) : Prop := Lv ws (List.replicate ws.length false) rs (some s)
theorem isIn_none {n x : Nat} : ¬ isIn (List.replicate n false) x := by
  unfold isIn
  by_cases h : x < n
  · simp [h]
  · simp [List.getD, h]
section
variable {ws rs : List Int} {s : List Bool}
theorem Reach.len (h : Reach ws rs s) : s.length = ws.length := (Lv.spec h s rfl (by simp)).1
theorem Reach.holds (h : Reach ws rs s) : Holds (isIn s) rs := (Lv.spec h s rfl (by simp)).2.2.1
theorem Reach.closed (h : Reach ws rs s) : Closed ws (isIn s) := fun x hx => ((Lv.spec h s rfl (by simp)).2.2.2.1 x hx).elim (fun h => absurd h isIn_none) id
theorem Reach.least (h : Reach ws rs s) (T : Nat → Prop) (hT : Holds T rs) (hc : Closed ws T) : ∀ x, isIn s x → T x :=
  (Lv.spec h s rfl (by simp)).2.2.2.2 T (fun x hx => absurd hx isIn_none) hT (fun x hx _ => hc x hx)
/-- what more roots reach is what each of them reaches -/
theorem reach_union {a b : List Int} {x y z : List Bool} (hx : Reach ws a x) (hy : Reach ws b y) (hz : Reach ws (a ++ b) z) (k : Nat) : isIn z k ↔ isIn x k ∨ isIn y k := by
  constructor
  · refine hz.least (fun k => isIn x k ∨ isIn y k) (fun w hw h5 => ?_) (fun k hk => ?_) k
    · rcases List.mem_append.1 hw with hw | hw
      · exact .inl (hx.holds w hw h5)
      · exact .inr (hy.holds w hw h5)
    · rcases hk with hk | hk
      · obtain ⟨h, ho, hh⟩ := hx.closed k hk
        exact ⟨h, ho, fun w hw h5 => .inl (hh w hw h5)⟩
      · obtain ⟨h, ho, hh⟩ := hy.closed k hk
        exact ⟨h, ho, fun w hw h5 => .inr (hh w hw h5)⟩
  · rintro (h | h)
    · exact hx.least (isIn z) (fun w hw h5 => hz.holds w (by simp [hw]) h5) hz.closed k h
    · exact hy.least (isIn z) (fun w hw h5 => hz.holds w (by simp [hw]) h5) hz.closed k h
end
/-- in a sound heap the search finds an object wherever it looks, and reaches objects alone -/
theorem Lv.sound {ws rs L : List Int} (S : Snd ws rs L) {seen : List Bool} {todo : List Int} {r : Option (List Bool)} (h : Lv ws seen todo r) : (∀ w ∈ todo, sw L w) → r ≠ none := by
  induction h with
  | nil => intro _ e; cases e
  | other _ _ ih => intro hs; exact ih (fun w hw => hs w (by simp [hw]))
  | @bad seen rest w ht ho =>
    intro hs
    have := (hs w (by simp)).2.2 ht
    obtain ⟨hd, ho2, _⟩ := S.rows.obj _ this
    rw [ho] at ho2; cases ho2
  | old _ _ _ _ ih => intro hs; exact ih (fun w hw => hs w (by simp [hw]))
  | @new seen rest w hd r ht ho hs0 _ ih =>
    intro hs
    have hm := (hs w (by simp)).2.2 ht
    have h0 := obj0_of ho
    have hf := S.fit _ hm
    rw [h0] at hf
    refine ih (fun w' hw' => ?_)
    rcases List.mem_append.1 hw' with hw' | hw'
    · exact hs w' (by simp [hw'])
    · unfold fieldsAt at hw'
      obtain ⟨k, hk, rfl⟩ := List.mem_map.1 hw'
      have hk := List.mem_range.1 hk
      unfold nFields at hk
      exact S.fld _ hm k (by rw [h0]; omega)
theorem Reach.objs {ws rs ys L : List Int} {s : List Bool} (S : Snd ws ys L) (h : Reach ws rs s) (hr : ∀ w ∈ rs, sw L w) : ∀ x : Nat, isIn s x → (x : Int) ∈ L := by
  refine h.least (fun x => (x : Int) ∈ L) (fun w hw h5 => ?_) (fun x hx => ?_)
  · have := (hr w hw).2.2 h5
    have h0 := S.rows.ge _ this
    show ((valW w).toNat : Int) ∈ L
    rw [Int.toNat_of_nonneg h0]; exact this
  · obtain ⟨hd, ho, h0, _⟩ := S.rows.obj _ hx
    refine ⟨hd, ho, fun w hw h5 => ?_⟩
    have hf := S.fit _ hx
    rw [h0] at hf
    unfold fieldsAt at hw
    obtain ⟨k, hk, rfl⟩ := List.mem_map.1 hw
    have hk := List.mem_range.1 hk
    unfold nFields at hk
    have h2 := (S.fld _ hx k (by rw [h0]; omega)).2.2 h5
    have h3 := S.rows.ge _ h2
    show ((valW (rd0 ws ((x : Int) + 1 + (k : Int)))).toNat : Int) ∈ L
    rw [Int.toNat_of_nonneg h3]; exact h2
/-- the places of what is reached -/
theorem mem_seenList {s : List Bool} {x : Int} : x ∈ seenList s ↔ ∃ k : Nat, x = k ∧ k < s.length ∧ isIn s k := by
  unfold seenList isIn
  simp only [List.mem_map, List.mem_filter, List.mem_range]
  constructor
  · rintro ⟨k, ⟨h1, h2⟩, rfl⟩; exact ⟨k, rfl, h1, h2⟩
  · rintro ⟨k, rfl, h1, h2⟩; exact ⟨k, ⟨h1, h2⟩, rfl⟩
theorem seenList_sorted (s : List Bool) : (seenList s).Pairwise (· < ·) := by
  unfold seenList
  rw [List.pairwise_map]
  exact (List.pairwise_lt_range.filter _).imp (fun h => by omega)
/-- how many words some objects take that lie one behind the other -/
theorem words_le {ws : List Int} {b : Int} {L : List Int} (h : Rows ws b L) : ∀ l : List Int, l.Pairwise (· < ·) → (∀ x ∈ l, x ∈ L) → b + wordsM ws l ≤ ws.length ∧ l.length ≤ L.length := by
  induction h with
  | nil => intro l _ hm; cases l with
    | nil => simp [wordsM]
    | cons x l => exact absurd (hm x (by simp)) (by simp)
  | @cons a hd L ho hr ih =>
    intro l hp hm
    have h3 := obj_facts ho
    cases l with
    | nil =>
      have := ih [] List.Pairwise.nil (by simp)
      simp only [wordsM, List.map_nil, List.sum_nil, List.length_nil, List.length_cons] at this ⊢
      omega
    | cons x l =>
      obtain ⟨hx, hp2⟩ := List.pairwise_cons.1 hp
      have e1 : wordsM ws (x :: l) = 1 + (obj0 ws x).size + wordsM ws l := by simp [wordsM]
      rcases List.mem_cons.1 (hm x (by simp)) with e | e
      · subst e
        have := ih l hp2 (fun y hy => by
          rcases List.mem_cons.1 (hm y (by simp [hy])) with e | e
          · have := hx y hy; omega
          · exact e)
        rw [e1, obj0_of ho]
        simp only [List.length_cons]
        omega
      · have := ih (x :: l) hp (fun y hy => by
          rcases List.mem_cons.1 (hm y hy) with e2 | e2
          · have h4 := hr.ge x e
            rcases List.mem_cons.1 hy with e3 | e3
            · omega
            · have := hx y e3; omega
          · exact e2)
        simp only [List.length_cons] at this ⊢
        omega
theorem Lv.inv {ws : List Int} {seen : List Bool} {todo : List Int} {r : Option (List Bool)} (h : Lv ws seen todo r) :
    (todo = [] ∧ r = some seen) ∨ ∃ rest w, todo = rest ++ [w] ∧ ((tagW w ≠ 5 ∧ Lv ws seen rest r) ∨ (tagW w = 5 ∧ objAt ws (valW w) = none ∧ r = none) ∨
      (∃ hd, tagW w = 5 ∧ objAt ws (valW w) = some hd ∧ seen.getD (valW w).toNat false = true ∧ Lv ws seen rest r) ∨
      (∃ hd, tagW w = 5 ∧ objAt ws (valW w) = some hd ∧ seen.getD (valW w).toNat false = false ∧ Lv ws (seen.set (valW w).toNat true) (rest ++ fieldsAt ws (valW w) (nFields hd)) r)) := by
  cases h with
  | nil => exact .inl ⟨rfl, rfl⟩
  | other ht h => exact .inr ⟨_, _, rfl, .inl ⟨ht, h⟩⟩
  | bad ht ho => exact .inr ⟨_, _, rfl, .inr (.inl ⟨ht, ho, rfl⟩)⟩
  | old ht ho hs h => exact .inr ⟨_, _, rfl, .inr (.inr (.inl ⟨_, ht, ho, hs, h⟩))⟩
  | new ht ho hs h => exact .inr ⟨_, _, rfl, .inr (.inr (.inr ⟨_, ht, ho, hs, h⟩))⟩
theorem snoc_inj {a b : List Int} {x y : Int} (h : a ++ [x] = b ++ [y]) : a = b ∧ x = y := by
  have h1 := congrArg List.reverse h
  simp at h1
  exact ⟨h1.2, h1.1⟩
theorem Lv.det {ws : List Int} {seen : List Bool} {todo : List Int} {r : Option (List Bool)} (h : Lv ws seen todo r) : ∀ r', Lv ws seen todo r' → r = r' := by
  induction h with
  | nil =>
    intro r' k
    rcases k.inv with ⟨_, e⟩ | ⟨rest, w, e, _⟩
    · exact e.symm
    · exact absurd e (by simp)
  | other ht _ ih =>
    intro r' k
    rcases k.inv with ⟨e, _⟩ | ⟨rest, w, e, k⟩
    · exact absurd e (by simp)
    · obtain ⟨rfl, rfl⟩ := snoc_inj e
      rcases k with ⟨_, k⟩ | ⟨k, _⟩ | ⟨_, k, _⟩ | ⟨_, k, _⟩
      · exact ih r' k
      · exact absurd k ht
      · exact absurd k ht
      · exact absurd k ht
  | bad ht ho =>
    intro r' k
    rcases k.inv with ⟨e, _⟩ | ⟨rest, w, e, k⟩
    · exact absurd e (by simp)
    · obtain ⟨rfl, rfl⟩ := snoc_inj e
      rcases k with ⟨k, _⟩ | ⟨_, _, k⟩ | ⟨_, _, k, _⟩ | ⟨_, _, k, _⟩
      · exact absurd ht k
      · exact k.symm
      · rw [ho] at k; cases k
      · rw [ho] at k; cases k
  | old ht ho hs _ ih =>
    intro r' k
    rcases k.inv with ⟨e, _⟩ | ⟨rest, w, e, k⟩
    · exact absurd e (by simp)
    · obtain ⟨rfl, rfl⟩ := snoc_inj e
      rcases k with ⟨k, _⟩ | ⟨_, k, _⟩ | ⟨_, _, _, _, k⟩ | ⟨_, _, _, k, _⟩
      · exact absurd ht k
      · rw [ho] at k; cases k
      · exact ih r' k
      · rw [hs] at k; cases k
  | new ht ho hs _ ih =>
    intro r' k
    rcases k.inv with ⟨e, _⟩ | ⟨rest, w, e, k⟩
    · exact absurd e (by simp)
    · obtain ⟨rfl, rfl⟩ := snoc_inj e
      rcases k with ⟨k, _⟩ | ⟨_, k, _⟩ | ⟨_, _, _, k, _⟩ | ⟨_, _, ho2, _, k⟩
      · exact absurd ht k
      · rw [ho] at k; cases k
      · rw [hs] at k; cases k
      · rw [ho] at ho2
        injection ho2 with e2
        subst e2
        exact ih r' k
/-- the search, reckoned (none: out of breath) -/
def lvM (ws : List Int) : Nat → List Bool → List Int → Option (Option (List Bool))
  | 0, _, _ => none
  | k + 1, seen, todo =>
    match todo.getLast? with
    | none => some (some seen)
    | some w =>
      if tagW w = 5 then
        match objAt ws (valW w) with
        | none => some none
        | some h =>
          if seen.getD (valW w).toNat false = true then lvM ws k seen todo.dropLast
          else lvM ws k (seen.set (valW w).toNat true) (todo.dropLast ++ fieldsAt ws (valW w) (nFields h))
      else lvM ws k seen todo.dropLast
theorem lv_of {ws : List Int} : ∀ (k : Nat) (seen : List Bool) (todo : List Int) (r : Option (List Bool)), lvM ws k seen todo = some r → Lv ws seen todo r := by
  intro k
  induction k with
  | zero => intro _ _ _ h; cases h
  | succ k ih =>
    intro seen todo r h
    unfold lvM at h
    cases hl : todo.getLast? with
    | none =>
      rw [hl] at h
      injection h with h
      subst h
      have : todo = [] := List.getLast?_eq_none_iff.1 hl
      subst this
      exact .nil
    | some w =>
      rw [hl] at h
      simp only at h
      have e : todo = todo.dropLast ++ [w] := by
        obtain ⟨ys, rfl⟩ := List.getLast?_eq_some_iff.1 hl
        simp
      rw [e]
      split at h
      · rename_i ht
        split at h
        · rename_i ho
          injection h with h
          subst h
          exact .bad ht ho
        · rename_i hd ho
          split at h
          · rename_i hs
            exact .old ht ho hs (ih _ _ _ h)
          · rename_i hs
            exact .new ht ho (by simpa using hs) (ih _ _ _ h)
      · rename_i ht
        exact .other ht (ih _ _ _ h)
end Go.Proofs.Ytjiaaefpepdoeaa.Md

/-
  CONTRACT: mark.Live. Conditions: at most 4000 words, at most 4000 roots.
-/
namespace Go.Proofs.Ytjiaaefpepdoeaa
open Go.RowKit Md
set_option linter.unusedVariables false
/-- the last word is taken off a row of one's own -/
theorem Own.pop {W : World} {e : TypeId} {g n c : Nat} {xs : List Value} {x : Value} (h : Own W e (.slice (some ⟨g, 0, none⟩) (n + 1) c) (xs ++ [x])) (hn : xs.length = n) : Own W e (.slice (some ⟨g, 0, none⟩) n c) xs := by
  rcases h.2 with ⟨hv, _⟩ | ⟨g', cap', cur, hv, hb, hg, hl, hm, hs, ht⟩
  · cases hv
  · injection hv with h1 h2 h3
    injection h1 with h1
    injection h1 with h1
    subst h1
    subst h3
    have hl2 : (xs ++ [x]).length = n + 1 := by simp [hn]
    rw [hl2] at hl ht
    refine ⟨by omega, .inr ⟨g, c, cur, by rw [hn], Nat.zero_le _, hg, by omega, hm, hs, ?_⟩⟩
    have h4 := congrArg (List.take n) ht
    rw [List.take_take] at h4
    rw [hn, Nat.mul_one]
    have h5 : min n ((n + 1) * 1) = n := by omega
    rw [h5] at h4
    rw [h4, List.take_append_of_le_length (by omega), ← hn, List.take_length]
def unseen (s : List Bool) : Nat := (s.filter (fun b => !b)).length
theorem unseen_set : ∀ (s : List Bool) (k : Nat), k < s.length → s.getD k false = false → unseen (s.set k true) + 1 = unseen s := by
  intro s
  induction s with
  | nil => intro k h; simp at h
  | cons b s ih =>
    intro k hk hs
    cases k with
    | zero => simp at hs; subst hs; simp [unseen]
    | succ k =>
      have := ih k (by simp at hk; omega) (by simpa using hs)
      unfold unseen at this ⊢
      cases b <;> simp at this ⊢ <;> omega
theorem unseen_new (n : Nat) : unseen (List.replicate n false) = n := by simp [unseen]
def mu (ws : List Int) (seen : List Bool) (todo : List Int) : Nat := todo.length + unseen seen * ws.length
structure LV (w W : World) (p : Nat) (v : Value) (ws rs : List Int) (size : Int) (sv tv : Value) (seen : List Bool) (todo : List Int) : Prop where
  ar : Ar 101 W p v ws size
  fr : Fr w W fun _ => False
  so : Own W 4 sv (bw seen)
  own : Own W 29 tv (uw todo)
  ins : ∀ k, InBlk sv k → w.heap.size ≤ k
  int : ∀ k, InBlk tv k → w.heap.size ≤ k
  vlt : ∀ k, InBlk v k → k < w.heap.size
  plt : p < w.heap.size
  okt : okWs todo
  sl : seen.length = ws.length
  back : ∀ r, Lv ws seen todo r → Lv ws (List.replicate ws.length false) rs r
section
variable {w W W1 : World} {p : Nat} {v : Value} {ws rs : List Int} {size : Int} {sv tv : Value} {seen : List Bool} {todo : List Int}
theorem LV.frm (h : LV w W p v ws rs size sv tv seen todo) (hf : Fr W W1 fun _ => False) : LV w W1 p v ws rs size sv tv seen todo :=
  ⟨h.ar.fr hf, h.fr.trans hf, h.so.keep hf (fun _ _ h => h), h.own.keep hf (fun _ _ h => h), h.ins, h.int, h.vlt, h.plt, h.okt, h.sl, h.back⟩
theorem LV.pop {g c n : Nat} {x : Int} {rest : List Int} (h : LV w W p v ws rs size sv (.slice (some ⟨g, 0, none⟩) (n + 1) c) seen (rest ++ [x])) (hn : rest.length = n) (hb : ∀ r, Lv ws seen rest r → Lv ws seen (rest ++ [x]) r) :
    LV w W p v ws rs size sv (.slice (some ⟨g, 0, none⟩) n c) seen rest :=
  ⟨h.ar, h.fr, h.so, Own.pop (x := .int .u64 x) (by have := h.own; rw [uw_append] at this; exact this) (by rw [uw_length]; exact hn), h.ins, fun k hk => h.int k (by simpa [InBlk, Value.ownBlock] using hk), h.vlt, h.plt, fun y hy => h.okt y (by simp [hy]), h.sl, fun r hr => h.back r (hb r hr)⟩
/-- without a word on the way back -/
structure LW (w W : World) (p : Nat) (v : Value) (ws : List Int) (size : Int) (sv tv : Value) (seen : List Bool) (todo : List Int) : Prop where
  ar : Ar 101 W p v ws size
  fr : Fr w W fun _ => False
  so : Own W 4 sv (bw seen)
  own : Own W 29 tv (uw todo)
  ins : ∀ k, InBlk sv k → w.heap.size ≤ k
  int : ∀ k, InBlk tv k → w.heap.size ≤ k
  vlt : ∀ k, InBlk v k → k < w.heap.size
  plt : p < w.heap.size
  okt : okWs todo
  sl : seen.length = ws.length
theorem LV.lw (h : LV w W p v ws rs size sv tv seen todo) : LW w W p v ws size sv tv seen todo := ⟨h.ar, h.fr, h.so, h.own, h.ins, h.int, h.vlt, h.plt, h.okt, h.sl⟩
theorem LW.lv (h : LW w W p v ws size sv tv seen todo) (hb : ∀ r, Lv ws seen todo r → Lv ws (List.replicate ws.length false) rs r) : LV w W p v ws rs size sv tv seen todo := ⟨h.ar, h.fr, h.so, h.own, h.ins, h.int, h.vlt, h.plt, h.okt, h.sl, hb⟩
theorem LW.frm (h : LW w W p v ws size sv tv seen todo) (hf : Fr W W1 fun _ => False) : LW w W1 p v ws size sv tv seen todo :=
  ⟨h.ar.fr hf, h.fr.trans hf, h.so.keep hf (fun _ _ h => h), h.own.keep hf (fun _ _ h => h), h.ins, h.int, h.vlt, h.plt, h.okt, h.sl⟩
theorem LW.see {g k cb nb : Nat} (h : LW w W p v ws size (.slice (some ⟨g, 0, none⟩) nb cb) tv seen todo) (hnb : seen.length = nb) (hk : k < seen.length) :
    LW w (W.setCell ⟨g, k, none⟩ (.bool true)) p v ws size (.slice (some ⟨g, 0, none⟩) nb cb) tv (seen.set k true) todo := by
  subst hnb
  have hin : InBlk (.slice (some ⟨g, 0, none⟩) seen.length cb) g := by simp [InBlk, Value.ownBlock]
  have hs := Own.setAt (cap := cb) (g := g) (k := k) (u := .bool true) (xs := bw seen) (e := 4) (W := W) (by rw [bw_length]; exact h.so) (by rw [bw_length]; exact hk)
  have hf := hs.2
  have hs1 := hs.1
  rw [bw_length] at hs1
  have e1 : (bw seen).set k (.bool true) = bw (seen.set k true) := by unfold bw; rw [List.map_set]
  rw [e1] at hs1
  have hgw := h.ins g hin
  exact ⟨h.ar.keep hf (by have := h.plt; omega) (fun i hi e => by have := h.vlt i hi; omega), h.fr.setCell (S := fun _ => False) (a := ⟨g, k, none⟩) (fun (hlt : g < w.heap.size) => by omega) _, hs1, h.own.keep hf (fun i hi e => h.own.apart h.so (by decide) i hi (by rw [e]; exact hin)), h.ins, h.int, h.vlt, h.plt, h.okt, by rw [List.length_set]; exact h.sl⟩
theorem LW.push (x : Int) (h : LW w W p v ws size sv tv seen todo) (hx : okW x) (hlen : todo.length ≤ 1073741823) :
    ∃ v' w1, (Builtin.append_ #[39, 39] 39 #[tv, .slice (some ⟨W.heap.size, 0, none⟩) 1 1]).run Try.prog (W.alloc (.cells #[.int .u64 x] 29)) = .ok v' w1 ∧ LW w w1 p v ws size sv v' seen (todo ++ [x]) ∧ Fr W w1 (fun i => InBlk tv i) := by
  obtain ⟨i0, hi, hz0, hz1, hzb⟩ := info_parts wordInfo
  have hf3 : Fr W (W.alloc (.cells #[.int .u64 x] 29)) (fun _ => False) := (Fr.refl _ _).alloc _
  have hone : Rd (W.alloc (.cells #[.int .u64 x] 29)) (.slice (some ⟨W.heap.size, 0, none⟩) 1 1) (uw [x]) := .inr ⟨W.heap.size, 0, 1, rfl, by simp [uw], by simp [uw], by decide, by simp, fun i hi => by
    have : i = 0 := by simp [uw] at hi; exact hi
    subst this
    simp only [World.cell?, blk_new]; rfl⟩
  obtain ⟨v', w1, hr, ho, hg, hn⟩ := run_append_rd (P := Try.prog) _ 39 39 29 i0 (.int .u64 0) Try.underlying39 hi hz0 hz1 (by omega) rfl _ _ (uw todo) (uw [x]) (h.own.keep hf3 (fun _ _ h => h)) hone (uw_one [x]) (by rw [uw_length, uw_length]; simp; omega)
  rw [← uw_append] at ho
  have hf4 : Fr W w1 (fun i => InBlk tv i) := (hf3.mono fun _ h _ => h.elim).grown hg (fun k hk _ => hk)
  refine ⟨v', w1, hr, ⟨h.ar.keep hf4 (fun e => by have := h.int p e; have := h.plt; omega) (fun i hi e => by have := h.vlt i hi; have := h.int i e; omega), h.fr.then_ hf4 (fun k hk hlt => by have := h.int k hk; omega), h.so.keep hf4 (fun i hi e => h.so.apart h.own (by decide) i hi e), ho, h.ins, fun k hk => ?_, h.vlt, h.plt, okWs_append h.okt (fun y hy => by simp at hy; rw [hy]; exact hx), h.sl⟩, hf4⟩
  rcases hn k hk with h1 | h1
  · exact h.int k h1
  · have h2 := h.fr.size
    have h3 : (W.alloc (.cells #[.int .u64 x] 29)).heap.size = W.heap.size + 1 := Array.size_push _
    omega
end
theorem mu_new {ws : List Int} {seen : List Bool} {rest : List Int} {x : Int} {k n : Nat} (hk : k < seen.length) (hs : seen.getD k false = false) (hn : n < ws.length) : mu ws (seen.set k true) (rest ++ fieldsAt ws x n) < mu ws seen (rest ++ [x]) := by
  have h1 := unseen_set seen k hk hs
  unfold mu
  have h2 : (fieldsAt ws x n).length = n := by simp [fieldsAt]
  rw [← h1, List.length_append, List.length_append, h2, Nat.add_mul]
  simp only [List.length_cons, List.length_nil]
  omega
theorem fieldsAt_succ (ws : List Int) (a : Int) (n : Nat) : fieldsAt ws a (n + 1) = fieldsAt ws a n ++ [rd0 ws (a + 1 + n)] := by simp [fieldsAt, List.range_succ]
/-- a number is appended to a row of the call's own -/
theorem ints_push {W : World} {u : Value} {acc : List Int} (x : Int) (h : Own W 3 u (iw acc)) (hlen : acc.length ≤ 1073741823) :
    ∃ v' w1, (Builtin.append_ #[51, 51] 51 #[u, .slice (some ⟨W.heap.size, 0, none⟩) 1 1]).run Try.prog (W.alloc (.cells #[.int .i64 x] 3)) = .ok v' w1 ∧ Own w1 3 v' (iw (acc ++ [x])) ∧ Fr W w1 (fun i => InBlk u i) ∧ ∀ k, InBlk v' k → InBlk u k ∨ W.heap.size ≤ k := by
  obtain ⟨i0, hi, hz0, hz1, hzb⟩ := info_parts intInfo
  have hf3 : Fr W (W.alloc (.cells #[.int .i64 x] 3)) (fun _ => False) := (Fr.refl _ _).alloc _
  have hone : Rd (W.alloc (.cells #[.int .i64 x] 3)) (.slice (some ⟨W.heap.size, 0, none⟩) 1 1) (iw [x]) := .inr ⟨W.heap.size, 0, 1, rfl, by simp [iw], by simp [iw], by decide, by simp, fun i hi => by
    have : i = 0 := by simp [iw] at hi; exact hi
    subst this
    simp only [World.cell?, blk_new]; rfl⟩
  obtain ⟨v', w1, hr, ho, hg, hn⟩ := run_append_rd (P := Try.prog) _ 51 51 3 i0 (.int .i64 0) Try.underlying51 hi hz0 hz1 (by omega) rfl _ _ (iw acc) (iw [x]) (h.keep hf3 (fun _ _ h => h)) hone (oneCell_all [x]) (by rw [iw_length, iw_length]; simp; omega)
  rw [← iw_append] at ho
  have hf4 : Fr W w1 (fun i => InBlk u i) := (hf3.mono fun _ h _ => h.elim).grown hg (fun k hk _ => hk)
  refine ⟨v', w1, hr, ho, hf4, fun k hk => ?_⟩
  rcases hn k hk with h1 | h1
  · exact .inl h1
  · right
    have h3 : (W.alloc (.cells #[.int .i64 x] 3)).heap.size = W.heap.size + 1 := Array.size_push _
    omega
def upTo (s : List Bool) (i : Nat) : List Int := ((List.range i).filter fun (j : Nat) => s.getD j false).map fun (j : Nat) => (j : Int)
theorem upTo_succ (s : List Bool) (i : Nat) : upTo s (i + 1) = if s.getD i false = true then upTo s i ++ [(i : Int)] else upTo s i := by
  unfold upTo
  rw [List.range_succ, List.filter_append]
  split
  · rename_i h; simp [-List.getD_eq_getElem?_getD, h]
  · rename_i h; simp [-List.getD_eq_getElem?_getD, h]
theorem upTo_len (s : List Bool) (i : Nat) : (upTo s i).length ≤ i := by
  unfold upTo
  rw [List.length_map]
  exact Nat.le_trans (List.length_filter_le _ _) (by simp)
theorem upTo_all (s : List Bool) : upTo s s.length = seenList s := rfl
/-- The answer. -/
def LvA (w w' : World) (ws rs : List Int) (e : Ending) : Prop :=
  ∃ (r : Option (List Bool)) (u : Value), Lv ws (List.replicate ws.length false) rs r ∧ e = .returned (.tuple #[u, .bool r.isSome]) ∧ New w w' 3 u (iw ((r.map seenList).getD []))
end Go.Proofs.Ytjiaaefpepdoeaa

/-
  CONTRACT: mark.Live: the walk. Conditions: at most 4000 words, at most 4000 roots.
-/
namespace Go.Proofs.Ytjiaaefpepdoeaa
open Go.RowKit Md
set_option linter.unusedVariables false
set_option maxRecDepth 100000 in
set_option maxHeartbeats 4000000 in
theorem live_c (p : Nat) (v r : Value) (ws rs : List Int) (size : Int) (w : World) (h : Ar 101 w p v ws size) (hr : Rd w r (uw rs)) (hok : okWs rs) (hl : ws.length ≤ 4000) (hlr : rs.length ≤ 4000) :
    Calls Try.prog 49 #[.pointer (some ⟨p, 0, none⟩), r] w fun e w' => LvA w w' ws rs e := by
  have HL : Hid (ws.length ≤ 4000 ∧ rs.length ≤ 4000) := Lib.hid ⟨hl, hlr⟩
  have HM : Hid (rs.length + ws.length * ws.length ≤ 16004000) := Lib.hid (by
    have : ws.length * ws.length ≤ 4000 * 4000 := Nat.mul_le_mul hl hl
    omega)
  have HLR : Hid (rs.length ≤ 1073741824) := Lib.hid (by omega)
  have H := Lib.hid h
  have HR := Lib.hid hr
  have HOK := Lib.hid hok
  have q1 : (ws.length : Int) ≤ 4000 := by omega
  clear h hr hok hl hlr
  go_enter Try.func49, Try.ntmps49
  obtain ⟨w1, hmk, hbo, hfm⟩ := mk_bools ws.length w (by have := HL.out; omega)
  have HA1 := Lib.hid (H.out.fr hfm)
  have HR1 := Lib.hid (HR.out.keep hfm (fun _ _ h => h))
  have HB1 := Lib.hid hbo
  have HF1 := Lib.hid hfm
  clear hbo hfm
  go_upto_region 5 with (first
    | (go_at_call 27; (with_reducible refine (used_c p v ws size _ H.out).mono ?_); rintro e wu ⟨rfl, rfl⟩)
    | (go_at_call 61; (with_reducible refine (clone_c _ rs _ HR1.out HLR.out).mono ?_); rintro e w2 ⟨tv, rfl, hn⟩; have HC2 := Lib.hid hn; have HA2 := Lib.hid (HA1.out.fr hn.2.1); have HB2 := Lib.hid (HB1.out.keep hn.2.1 (fun _ _ h => h)); have HF2 := Lib.hid (HF1.out.trans hn.2.1); clear hn))
  have H0 : Hid (LV w w2 p v ws rs size (.slice (some ⟨w.heap.size, 0, none⟩) ws.length ws.length) tv (List.replicate ws.length false) rs) := Lib.hid ⟨HA2.out, HF2.out, HB2.out, HC2.out.1, (fun k hk => by simp [InBlk, Value.ownBlock] at hk; omega), (fun k hk => Nat.le_trans HF1.out.size (HC2.out.2.2 k hk)), H.out.own.lt, H.out.lt, HOK.out, by simp, fun r h => h⟩
  have HMU : Hid (mu ws (List.replicate ws.length false) rs ≤ rs.length + ws.length * ws.length) := Lib.hid (by unfold mu; rw [unseen_new]; exact Nat.le_refl _)
  obtain ⟨gs, hgs⟩ : ∃ gs, w.heap.size = gs := ⟨_, rfl⟩
  have HGS := Lib.hid hgs
  rw [hgs] at H0 ⊢
  clear HA1 HR1 HB1 HF1 HA2 HB2 HF2 HC2 hgs hmk
  go_loopg [7] (rs.length + ws.length * ws.length) (fun g a7 wr => ∃ (tv : Value) (seen : List Bool) (todo : List Int), tv = a7 ∧ Hid (mu ws seen todo ≤ g ∧ g ≤ rs.length + ws.length * ws.length) ∧ Hid (LV w wr p v ws rs size (.slice (some ⟨gs, 0, none⟩) ws.length ws.length) tv seen todo))
  case atStart => exact ⟨tv, _, _, rfl, Lib.hid ⟨HMU.out, Nat.le_refl _⟩, H0⟩
  case round =>
    clear H0 HMU
    obtain ⟨tv, seen, todo, rfl, HG, HI⟩ := hrel
    obtain ⟨G, rfl⟩ : ∃ G, G = gk := ⟨_, rfl⟩
    by_cases h0 : todo = []
    · subst h0
      obtain ⟨At, ct, rfl⟩ := HI.out.own.rd.len
      have e0 : (uw []).length = 0 := rfl
      rw [e0] at HI ⊢
      clear e0
      go_wp2
      have HSL : Hid (seen.length = ws.length) := Lib.hid HI.out.sl
      have HBK := Lib.hid (HI.out.back (some seen) .nil)
      have HSO := Lib.hid HI.out.so
      have HFW := Lib.hid HI.out.fr
      have HNS := Lib.hid HI.out.ins
      clear HI
      obtain ⟨W0, hW0⟩ : ∃ W0, W0 = wr := ⟨_, rfl⟩
      subst hW0
      go_loopg [15, 83] ws.length (fun g a15 a83 wr => ∃ (lv : Value) (i : Nat), lv = a15 ∧ a83 = .int .i64 i ∧ g + i = ws.length ∧ Hid (Fr w wr (fun _ => False) ∧ Own wr 4 (.slice (some ⟨gs, 0, none⟩) ws.length ws.length) (bw seen) ∧ Own wr 3 lv (iw (upTo seen i)) ∧ ∀ k, InBlk lv k → w.heap.size ≤ k))
      case atStart => exact ⟨_, 0, rfl, rfl, rfl, Lib.hid ⟨HFW.out, HSO.out, Own.nil _ _, fun k hk => by simp [InBlk, Value.ownBlock] at hk⟩⟩
      case round =>
        obtain ⟨lv, i, rfl, rfl, hgi, HI⟩ := hrel
        have HGI := Lib.hid hgi
        clear hgi
        by_cases hi : i < ws.length
        · have HIL := Lib.hid hi
          have qi : (i : Int) < ws.length := by omega
          obtain ⟨b, hb⟩ : ∃ b, seen.getD i false = b := ⟨_, rfl⟩
          have HB := Lib.hid hb
          have cb : wr.cell? ⟨gs, i, none⟩ = some (.bool b) := by
            obtain ⟨b2, e, _, hc⟩ := HI.out.2.1.cellAt (by rw [bw_length, HSL.out]; omega)
            injection e with e
            injection e with e
            subst e
            have h1 := (hc i (by rw [bw_length, HSL.out]; exact hi)).1
            rw [bw_get (by rw [HSL.out]; exact hi), hb] at h1
            exact h1
          clear hi hb
          cases b with
          | true =>
            obtain ⟨v', w1, hrun, ho, hf, hn⟩ := ints_push (i : Int) HI.out.2.2.1 (by have := upTo_len seen i; have := HIL.out; have := HL.out; omega)
            have HRUN := Lib.hid hrun
            have HF := Lib.hid hf
            have HO := Lib.hid ho
            have HN := Lib.hid hn
            clear hrun ho hf hn
            go_wp2_with (at_builtin; refine Lib.wpList_append_run _ rfl _ _ _ _ rfl _ _ rfl rfl _ w1 HRUN.out ?_)
            go_roundg (gk - 1)
            case measure => have := HGI.out; have := HIL.out; omega
            case rel =>
              have e1 : upTo seen (i + 1) = upTo seen i ++ [(i : Int)] := by rw [upTo_succ, if_pos HB.out]
              refine ⟨_, i + 1, rfl, by first | rfl | go_num, by have := HGI.out; have := HIL.out; omega, Lib.hid ⟨HI.out.1.then_ HF.out (fun k hk hlt => by have := HI.out.2.2.2 k hk; omega), HI.out.2.1.keep HF.out (fun k hk e => HI.out.2.1.apart HI.out.2.2.1 (by decide) k hk e), by rw [e1]; exact HO.out, fun k hk => ?_⟩⟩
              rcases HN.out k hk with h1 | h1
              · exact HI.out.2.2.2 k h1
              · exact Nat.le_trans HI.out.1.size h1
          | false =>
            go_wp2
            go_roundg (gk - 1)
            case measure => have := HGI.out; have := HIL.out; omega
            case rel =>
              have e1 : upTo seen (i + 1) = upTo seen i := by rw [upTo_succ, if_neg (by rw [HB.out]; decide)]
              exact ⟨_, i + 1, rfl, by first | rfl | go_num, by have := HGI.out; have := HIL.out; omega, Lib.hid ⟨HI.out.1, HI.out.2.1, by rw [e1]; exact HI.out.2.2.1, HI.out.2.2.2⟩⟩
        · have hie : i = ws.length := by have := HGI.out; omega
          have b3 : decide (i < ws.length) = false := decide_eq_false hi
          have HO : Hid (Own wr 3 lv (iw (seenList seen))) := Lib.hid (by have := HI.out.2.2.1; rw [hie, ← HSL.out] at this; exact this)
          clear hi hie
          go_wp2
          go_ret2
          exact ⟨some seen, _, HBK.out, rfl, HO.out, HI.out.1, HI.out.2.2.2⟩
    · obtain ⟨rest, x, rfl⟩ : ∃ rest x, todo = rest ++ [x] := ⟨todo.dropLast, todo.getLast h0, (List.dropLast_concat_getLast h0).symm⟩
      obtain ⟨n, hn⟩ : ∃ n, rest.length = n := ⟨_, rfl⟩
      have HN := Lib.hid hn
      have hlt : (rest ++ [x]).length = n + 1 := by simp [hn]
      obtain ⟨At, ct, rfl⟩ := HI.out.own.rd.len
      rw [uw_length, hlt] at HI ⊢
      obtain ⟨gt, rfl, _, hct⟩ := HI.out.own.cellAt (by rw [uw_length]; omega)
      have cx := (hct n (by rw [uw_length]; omega)).1
      rw [uw_get (by omega)] at cx
      have hxg : (rest ++ [x]).getD n 0 = x := by rw [← hn]; simp [List.getD]
      rw [hxg] at cx
      have HX : Hid (okW x) := Lib.hid (HI.out.okt x (by simp))
      have hcap : n + 1 ≤ ct := by
        rcases HI.out.own.form with ⟨e, _⟩ | ⟨g', cap', e, hl, _⟩
        · cases e
        · injection e with e1 e2 e3; rw [uw_length] at hl; omega
      have qn : (n : Int) ≤ 16004000 := by have := HG.out; have := HM.out; unfold mu at *; omega
      have qc : (n : Int) < ct := by omega
      have hmn : ((n + 1 : Nat) : Int) - 1 = n := by omega
      clear h0 hn hlt hct hxg hcap
      go_upto_region 8 with (fail)
      obtain ⟨t, ht⟩ : ∃ t, tagW x = t := ⟨_, rfl⟩
      have HT := Lib.hid ht
      clear ht cx hmn qc
      by_cases h5 : t = 5
      · subst h5
        obtain ⟨nv, hnv⟩ : ∃ n, valW x = n := ⟨_, rfl⟩
        have HV := Lib.hid hnv
        cases hob : objAt ws nv with
        | none =>
          have HOB := Lib.hid hob
          have HLW := Lib.hid (HI.out.lw)
          have HBK := Lib.hid (HI.out.back none (.bad HT.out (by rw [hnv]; exact hob)))
          clear hnv hob HI
          go_wp2_with (first | (go_at_call 66; (with_reducible refine (Wd.tag_c x 5 _ HX.out HT.out).mono ?_); rintro e wt ⟨rfl, nt, rfl⟩) | (go_at_call 67; (with_reducible refine (Wd.val_c x nv _ HX.out HV.out).mono ?_); rintro e wv ⟨rfl, n3, rfl⟩; have HL3 := Lib.hid (HLW.out.frm ((Fr.refl _ _).drewN (nt + n3)))) | (go_at_call 62; (with_reducible refine (obj_none p v ws size nv _ HL3.out.ar HOB.out).mono ?_); rintro e wo ⟨rfl, hfo⟩; have HL4 := Lib.hid (HL3.out.frm hfo); clear hfo))
          go_ret2
          exact ⟨none, _, HBK.out, rfl, Own.nil _ _, HL4.out.fr.alloc _, fun k hk => by simp [InBlk, Value.ownBlock] at hk⟩
        | some hd =>
          have HOB := Lib.hid hob
          obtain ⟨hb0, hb1, hrd, hz0, hz1, hz2⟩ := obj_facts hob
          obtain ⟨k, rfl⟩ := Int.eq_ofNat_of_zero_le hb0
          obtain ⟨kd, z, th, nn⟩ := hd
          simp only at hz0 hz1 hz2
          have HZ : Hid (0 ≤ z ∧ z < 1048576 ∧ (k : Int) + 1 + z ≤ ws.length) := Lib.hid ⟨hz0, hz1, hz2⟩
          have qk : (k : Int) < ws.length := hb1
          have HK : Hid (k < ws.length) := Lib.hid (by omega)
          have HKS : Hid (k < seen.length) := Lib.hid (by rw [HI.out.sl]; omega)
          obtain ⟨f, hfd⟩ : ∃ f, fieldsH ⟨kd, z, th, nn⟩ = f := ⟨_, rfl⟩
          have HFD := Lib.hid hfd
          obtain ⟨bs, hbs⟩ : ∃ bs, seen.getD k false = bs := ⟨_, rfl⟩
          have HBS := Lib.hid hbs
          clear hnv hob hb0 hb1 hrd hz0 hz1 hz2 hfd hbs
          go_upto_region 11 with (first | (go_at_call 66; (with_reducible refine (Wd.tag_c x 5 _ HX.out HT.out).mono ?_); rintro e wt ⟨rfl, nt, rfl⟩) | (go_at_call 67; (with_reducible refine (Wd.val_c x (k : Int) _ HX.out HV.out).mono ?_); rintro e wv ⟨rfl, n3, rfl⟩; have HL3 := Lib.hid (HI.out.frm ((Fr.refl _ _).drewN (nt + n3)))) | (go_at_call 62; (with_reducible refine (obj_some p v ws size k _ _ HL3.out.ar HOB.out).mono ?_); rintro e wo ⟨rfl, hfo⟩))
          obtain ⟨W2, hW2⟩ : ∃ W2, wo.alloc (.cells #[.int .i64 kd, .int .i64 z, .int .i64 th, .bool nn] 104) = W2 := ⟨_, rfl⟩
          obtain ⟨D, hD⟩ : ∃ D, wo.heap.size = D := ⟨_, rfl⟩
          have hf2 : Fr (wr.drewN (nt + n3)) W2 (fun _ => False) := by rw [← hW2]; exact hfo.alloc _
          have hdb : W2.heap[D]? = some (.cells #[.int .i64 kd, .int .i64 z, .int .i64 th, .bool nn] 104 (0, 0)) := by rw [← hW2, ← hD]; exact blk_new _ _ _
          have HL4 := Lib.hid (HL3.out.frm hf2)
          have HDB := Lib.hid hdb
          simp only [hW2, hD]
          obtain ⟨cb, fb⟩ : W2.cell? ⟨gs, k, none⟩ = some (.bool bs) ∧ W2.frozen? ⟨gs, k, none⟩ = false := by
            obtain ⟨b, e, _, hc⟩ := HL4.out.so.cellAt (by rw [bw_length]; have := HKS.out; omega)
            injection e with e
            injection e with e
            subst e
            have h1 := hc k (by rw [bw_length]; exact HKS.out)
            rw [bw_get HKS.out, HBS.out] at h1
            exact h1
          have HBK := Lib.hid HI.out.back
          clear hW2 hD hfo hf2 hdb HI HL3
          cases bs with
          | true =>
            have HLP := Lib.hid (HL4.out.pop HN.out (fun r hr => .old HT.out (by rw [HV.out]; exact HOB.out) (by rw [HV.out]; exact HBS.out) hr))
            go_wp2
            go_roundg (G - 1)
            case measure => have := HG.out; unfold mu at this; simp at this; omega
            case rel => exact ⟨_, seen, rest, rfl, Lib.hid ⟨by have := HG.out; unfold mu at this ⊢; simp at this; omega, by have := HG.out; omega⟩, HLP⟩
          | false =>
            go_upto_region 15 with (fail)
            have hlw := HL4.out.lw
            have hpop : LW w W2 p v ws size (.slice (some ⟨gs, 0, none⟩) ws.length ws.length) (.slice (some ⟨gt, 0, none⟩) n ct) seen rest := ⟨hlw.ar, hlw.fr, hlw.so, Own.pop (x := .int .u64 x) (by have := hlw.own; rw [uw_append] at this; exact this) (by rw [uw_length]; exact HN.out), hlw.ins, fun k hk => hlw.int k (by simpa [InBlk, Value.ownBlock] using hk), hlw.vlt, hlw.plt, fun y hy => hlw.okt y (by simp [hy]), hlw.sl⟩
            have HL5 := Lib.hid (hpop.see hlw.sl HKS.out)
            have hD5 := (Fr.setCell (S := fun i => i = gs) (a := ⟨gs, k, none⟩) (Fr.refl W2 _) (fun _ => rfl) (.bool true)).blk HDB.out (fun e => hlw.so.not_box HDB.out (by decide) (by rw [e]; simp [InBlk, Value.ownBlock]))
            obtain ⟨W3, hW3⟩ : ∃ W3, W2.setCell ⟨gs, k, none⟩ (.bool true) = W3 := ⟨_, rfl⟩
            rw [hW3] at HL5 hD5 ⊢
            have HD5 := Lib.hid hD5
            have d0 : W3.cell? ⟨D, 0, none⟩ = some (.int .i64 kd) := by simp [World.cell?, hD5]
            have d1 : W3.cell? ⟨D, 1, none⟩ = some (.int .i64 z) := by simp [World.cell?, hD5]
            have d2 : W3.cell? ⟨D, 2, none⟩ = some (.int .i64 th) := by simp [World.cell?, hD5]
            have d3 : W3.cell? ⟨D, 3, none⟩ = some (.bool nn) := by simp [World.cell?, hD5]
            clear hlw hpop hW3 hD5 cb fb HL4
            by_cases hfz : f < z
            · obtain ⟨fm, rfl⟩ := Int.eq_ofNat_of_zero_le (show 0 ≤ f by rw [← HFD.out]; exact fieldsH_nonneg HZ.out.1)
              have HFM : Hid ((k : Int) + 1 + fm ≤ ws.length) := Lib.hid (by have := HZ.out; omega)
              have HNF : Hid (nFields ⟨kd, z, th, nn⟩ = fm) := Lib.hid (by unfold nFields; rw [HFD.out]; simp only; omega)
              go_region_held3 (fun w' => w'.cell? ⟨D, 0, none⟩ = some (.int .i64 kd) ∧ w'.cell? ⟨D, 1, none⟩ = some (.int .i64 z) ∧ w'.cell? ⟨D, 2, none⟩ = some (.int .i64 th) ∧ w'.cell? ⟨D, 3, none⟩ = some (.bool nn))
                (first | exact ⟨g0, g1, g2, g3⟩ | exact ⟨d0, d1, d2, d3⟩)
                (first
                  | (go_at_call 73; (with_reducible refine (Wd.fields_c kd z th nn (fm : Int) _ HFD.out).mono ?_); rintro e wa ⟨rfl, hb⟩; have hfb := (Fr.of_below hb (fun _ => False)); have g0 := hfb.cell (a := ⟨D, 0, none⟩) d0 (fun h => h); have g1 := hfb.cell (a := ⟨D, 1, none⟩) d1 (fun h => h); have g2 := hfb.cell (a := ⟨D, 2, none⟩) d2 (fun h => h); have g3 := hfb.cell (a := ⟨D, 3, none⟩) d3 (fun h => h); have HL6 := Lib.hid ((HL5.out.frm ((Fr.refl W3 (fun _ => False)).drew)).frm hfb); clear hb hfb))
              clear g0 g1 g2 g3 d0 d1 d2 d3
              go_wp2
              go_loopg [7, 64] fm (fun g a7 a64 wr => ∃ (tv : Value) (i : Nat), tv = a7 ∧ a64 = .int .i64 i ∧ g + i = fm ∧ Hid (LW w wr p v ws size (.slice (some ⟨gs, 0, none⟩) ws.length ws.length) tv (seen.set k true) (rest ++ fieldsAt ws k i)))
              case atStart => exact ⟨_, 0, rfl, rfl, rfl, Lib.hid (by have := HL6.out; simpa [fieldsAt] using this)⟩
              case round =>
                clear HL6
                obtain ⟨tv, i, rfl, rfl, hgi, HI⟩ := hrel
                have HGI := Lib.hid hgi
                clear hgi
                by_cases hi : i < fm
                · have HIL := Lib.hid hi
                  have qi : (i : Int) < fm := by omega
                  have qf : (fm : Int) ≤ 4000 := by have := HFM.out; have := HL.out; omega
                  obtain ⟨y, hy⟩ : ∃ y, rdAt ws ((k : Int) + 1 + i) = some y := by
                    have := HFM.out
                    unfold rdAt
                    rw [if_pos (by omega)]
                    exact ⟨_, rfl⟩
                  have HY := Lib.hid hy
                  have hoy : okW y := by obtain ⟨j, _, hj, rfl⟩ := rdAt_some hy; exact okWs_getD HI.out.ar.ok j hj
                  obtain ⟨v', w1, hrun, hLp, _⟩ := HI.out.push y hoy (by rw [List.length_append, HN.out]; have := HFM.out; have := HL.out; have : (fieldsAt ws k i).length = i := by simp [fieldsAt]
                                                                         omega)
                  have HRUN := Lib.hid hrun
                  have HLp := Lib.hid hLp
                  clear hi hy hoy hrun hLp
                  go_wp2_with (first
                    | (go_at_call 23; (with_reducible refine (get_c p v ws size _ y _ HI.out.ar HY.out).mono ?_); rintro e w5 ⟨rfl, rfl⟩)
                    | (at_builtin; refine Lib.wpList_append_run _ rfl _ _ _ _ rfl _ _ rfl rfl _ w1 HRUN.out ?_))
                  go_roundg (gk - 1)
                  case measure => have := HGI.out; have := HIL.out; omega
                  case rel =>
                    refine ⟨_, i + 1, rfl, by first | rfl | go_num, by have := HGI.out; have := HIL.out; omega, Lib.hid ?_⟩
                    have e1 : rest ++ fieldsAt ws k (i + 1) = (rest ++ fieldsAt ws k i) ++ [y] := by
                      rw [fieldsAt_succ, ← List.append_assoc]
                      congr 2
                      unfold rd0
                      rw [HY.out]; rfl
                    rw [e1]
                    exact HLp.out
                · have HIE : Hid (i = fm) := Lib.hid (by have := HGI.out; omega)
                  have b7 : decide (i < fm) = false := decide_eq_false hi
                  clear hi
                  go_wp2
                  go_roundg (G - 1)
                  case measure =>
                    have := HG.out
                    have h2 : mu ws seen (rest ++ [x]) = mu ws seen (rest ++ [x]) := rfl
                    unfold mu at this; simp at this; omega
                  case rel =>
                    refine ⟨_, seen.set k true, rest ++ fieldsAt ws k fm, rfl, Lib.hid ⟨?_, by have := HG.out; omega⟩, Lib.hid ?_⟩
                    · have h1 := mu_new (ws := ws) (rest := rest) (x := k) (n := fm) HKS.out HBS.out (by have := HFM.out; omega)
                      have h2 := HG.out
                      have h3 : mu ws seen (rest ++ [(k : Int)]) = mu ws seen (rest ++ [x]) := by unfold mu; simp
                      omega
                    · have h1 := HI.out
                      rw [HIE.out] at h1
                      refine h1.lv (fun r hr => HBK.out r (.new HT.out (by rw [HV.out]; exact HOB.out) (by rw [HV.out]; exact HBS.out) ?_))
                      rw [HV.out, HNF.out]
                      exact hr
            · by_cases hzf : z < f
              · obtain ⟨fm, rfl⟩ := Int.eq_ofNat_of_zero_le (show 0 ≤ z from HZ.out.1)
                have HFM : Hid ((k : Int) + 1 + fm ≤ ws.length) := Lib.hid (by have := HZ.out; omega)
                have HNF : Hid (nFields ⟨kd, fm, th, nn⟩ = fm) := Lib.hid (by unfold nFields; rw [HFD.out]; simp only; omega)
                go_region_held3 (fun w' => w'.cell? ⟨D, 0, none⟩ = some (.int .i64 kd) ∧ w'.cell? ⟨D, 1, none⟩ = some (.int .i64 (fm : Int)) ∧ w'.cell? ⟨D, 2, none⟩ = some (.int .i64 th) ∧ w'.cell? ⟨D, 3, none⟩ = some (.bool nn))
                  (first | exact ⟨g0, g1, g2, g3⟩ | exact ⟨d0, d1, d2, d3⟩)
                  (first
                    | (go_at_call 73; (with_reducible refine (Wd.fields_c kd (fm : Int) th nn f _ HFD.out).mono ?_); rintro e wa ⟨rfl, hb⟩; have hfb := (Fr.of_below hb (fun _ => False)); have g0 := hfb.cell (a := ⟨D, 0, none⟩) d0 (fun h => h); have g1 := hfb.cell (a := ⟨D, 1, none⟩) d1 (fun h => h); have g2 := hfb.cell (a := ⟨D, 2, none⟩) d2 (fun h => h); have g3 := hfb.cell (a := ⟨D, 3, none⟩) d3 (fun h => h); have HL6 := Lib.hid ((HL5.out.frm ((Fr.refl W3 (fun _ => False)).drew)).frm hfb); clear hb hfb))
                clear g0 g1 g2 g3 d0 d1 d2 d3
                go_wp2
                go_loopg [7, 64] fm (fun g a7 a64 wr => ∃ (tv : Value) (i : Nat), tv = a7 ∧ a64 = .int .i64 i ∧ g + i = fm ∧ Hid (LW w wr p v ws size (.slice (some ⟨gs, 0, none⟩) ws.length ws.length) tv (seen.set k true) (rest ++ fieldsAt ws k i)))
                case atStart => exact ⟨_, 0, rfl, rfl, rfl, Lib.hid (by have := HL6.out; simpa [fieldsAt] using this)⟩
                case round =>
                  clear HL6
                  obtain ⟨tv, i, rfl, rfl, hgi, HI⟩ := hrel
                  have HGI := Lib.hid hgi
                  clear hgi
                  by_cases hi : i < fm
                  · have HIL := Lib.hid hi
                    have qi : (i : Int) < fm := by omega
                    have qf : (fm : Int) ≤ 4000 := by have := HFM.out; have := HL.out; omega
                    obtain ⟨y, hy⟩ : ∃ y, rdAt ws ((k : Int) + 1 + i) = some y := by
                      have := HFM.out
                      unfold rdAt
                      rw [if_pos (by omega)]
                      exact ⟨_, rfl⟩
                    have HY := Lib.hid hy
                    have hoy : okW y := by obtain ⟨j, _, hj, rfl⟩ := rdAt_some hy; exact okWs_getD HI.out.ar.ok j hj
                    obtain ⟨v', w1, hrun, hLp, _⟩ := HI.out.push y hoy (by rw [List.length_append, HN.out]; have := HFM.out; have := HL.out; have : (fieldsAt ws k i).length = i := by simp [fieldsAt]
                                                                           omega)
                    have HRUN := Lib.hid hrun
                    have HLp := Lib.hid hLp
                    clear hi hy hoy hrun hLp
                    go_wp2_with (first
                      | (go_at_call 23; (with_reducible refine (get_c p v ws size _ y _ HI.out.ar HY.out).mono ?_); rintro e w5 ⟨rfl, rfl⟩)
                      | (at_builtin; refine Lib.wpList_append_run _ rfl _ _ _ _ rfl _ _ rfl rfl _ w1 HRUN.out ?_))
                    go_roundg (gk - 1)
                    case measure => have := HGI.out; have := HIL.out; omega
                    case rel =>
                      refine ⟨_, i + 1, rfl, by first | rfl | go_num, by have := HGI.out; have := HIL.out; omega, Lib.hid ?_⟩
                      have e1 : rest ++ fieldsAt ws k (i + 1) = (rest ++ fieldsAt ws k i) ++ [y] := by
                        rw [fieldsAt_succ, ← List.append_assoc]
                        congr 2
                        unfold rd0
                        rw [HY.out]; rfl
                      rw [e1]
                      exact HLp.out
                  · have HIE : Hid (i = fm) := Lib.hid (by have := HGI.out; omega)
                    have b7 : decide (i < fm) = false := decide_eq_false hi
                    clear hi
                    go_wp2
                    go_roundg (G - 1)
                    case measure =>
                      have := HG.out
                      have h2 : mu ws seen (rest ++ [x]) = mu ws seen (rest ++ [x]) := rfl
                      unfold mu at this; simp at this; omega
                    case rel =>
                      refine ⟨_, seen.set k true, rest ++ fieldsAt ws k fm, rfl, Lib.hid ⟨?_, by have := HG.out; omega⟩, Lib.hid ?_⟩
                      · have h1 := mu_new (ws := ws) (rest := rest) (x := k) (n := fm) HKS.out HBS.out (by have := HFM.out; omega)
                        have h2 := HG.out
                        have h3 : mu ws seen (rest ++ [(k : Int)]) = mu ws seen (rest ++ [x]) := by unfold mu; simp
                        omega
                      · have h1 := HI.out
                        rw [HIE.out] at h1
                        refine h1.lv (fun r hr => HBK.out r (.new HT.out (by rw [HV.out]; exact HOB.out) (by rw [HV.out]; exact HBS.out) ?_))
                        rw [HV.out, HNF.out]
                        exact hr
              · obtain rfl : z = f := by omega
                obtain ⟨fm, rfl⟩ := Int.eq_ofNat_of_zero_le (show 0 ≤ z from HZ.out.1)
                have HFM : Hid ((k : Int) + 1 + fm ≤ ws.length) := Lib.hid (by have := HZ.out; omega)
                have HNF : Hid (nFields ⟨kd, fm, th, nn⟩ = fm) := Lib.hid (by unfold nFields; rw [HFD.out]; simp only; omega)
                go_region_held3 (fun w' => w'.cell? ⟨D, 0, none⟩ = some (.int .i64 kd) ∧ w'.cell? ⟨D, 1, none⟩ = some (.int .i64 (fm : Int)) ∧ w'.cell? ⟨D, 2, none⟩ = some (.int .i64 th) ∧ w'.cell? ⟨D, 3, none⟩ = some (.bool nn))
                  (first | exact ⟨g0, g1, g2, g3⟩ | exact ⟨d0, d1, d2, d3⟩)
                  (first
                    | (go_at_call 73; (with_reducible refine (Wd.fields_c kd (fm : Int) th nn (fm : Int) _ HFD.out).mono ?_); rintro e wa ⟨rfl, hb⟩; have hfb := (Fr.of_below hb (fun _ => False)); have g0 := hfb.cell (a := ⟨D, 0, none⟩) d0 (fun h => h); have g1 := hfb.cell (a := ⟨D, 1, none⟩) d1 (fun h => h); have g2 := hfb.cell (a := ⟨D, 2, none⟩) d2 (fun h => h); have g3 := hfb.cell (a := ⟨D, 3, none⟩) d3 (fun h => h); have HL6 := Lib.hid ((HL5.out.frm ((Fr.refl W3 (fun _ => False)).drew)).frm hfb); clear hb hfb))
                clear g0 g1 g2 g3 d0 d1 d2 d3
                go_wp2
                go_loopg [7, 64] fm (fun g a7 a64 wr => ∃ (tv : Value) (i : Nat), tv = a7 ∧ a64 = .int .i64 i ∧ g + i = fm ∧ Hid (LW w wr p v ws size (.slice (some ⟨gs, 0, none⟩) ws.length ws.length) tv (seen.set k true) (rest ++ fieldsAt ws k i)))
                case atStart => exact ⟨_, 0, rfl, rfl, rfl, Lib.hid (by have := HL6.out; simpa [fieldsAt] using this)⟩
                case round =>
                  clear HL6
                  obtain ⟨tv, i, rfl, rfl, hgi, HI⟩ := hrel
                  have HGI := Lib.hid hgi
                  clear hgi
                  by_cases hi : i < fm
                  · have HIL := Lib.hid hi
                    have qi : (i : Int) < fm := by omega
                    have qf : (fm : Int) ≤ 4000 := by have := HFM.out; have := HL.out; omega
                    obtain ⟨y, hy⟩ : ∃ y, rdAt ws ((k : Int) + 1 + i) = some y := by
                      have := HFM.out
                      unfold rdAt
                      rw [if_pos (by omega)]
                      exact ⟨_, rfl⟩
                    have HY := Lib.hid hy
                    have hoy : okW y := by obtain ⟨j, _, hj, rfl⟩ := rdAt_some hy; exact okWs_getD HI.out.ar.ok j hj
                    obtain ⟨v', w1, hrun, hLp, _⟩ := HI.out.push y hoy (by rw [List.length_append, HN.out]; have := HFM.out; have := HL.out; have : (fieldsAt ws k i).length = i := by simp [fieldsAt]
                                                                           omega)
                    have HRUN := Lib.hid hrun
                    have HLp := Lib.hid hLp
                    clear hi hy hoy hrun hLp
                    go_wp2_with (first
                      | (go_at_call 23; (with_reducible refine (get_c p v ws size _ y _ HI.out.ar HY.out).mono ?_); rintro e w5 ⟨rfl, rfl⟩)
                      | (at_builtin; refine Lib.wpList_append_run _ rfl _ _ _ _ rfl _ _ rfl rfl _ w1 HRUN.out ?_))
                    go_roundg (gk - 1)
                    case measure => have := HGI.out; have := HIL.out; omega
                    case rel =>
                      refine ⟨_, i + 1, rfl, by first | rfl | go_num, by have := HGI.out; have := HIL.out; omega, Lib.hid ?_⟩
                      have e1 : rest ++ fieldsAt ws k (i + 1) = (rest ++ fieldsAt ws k i) ++ [y] := by
                        rw [fieldsAt_succ, ← List.append_assoc]
                        congr 2
                        unfold rd0
                        rw [HY.out]; rfl
                      rw [e1]
                      exact HLp.out
                  · have HIE : Hid (i = fm) := Lib.hid (by have := HGI.out; omega)
                    have b7 : decide (i < fm) = false := decide_eq_false hi
                    clear hi
                    go_wp2
                    go_roundg (G - 1)
                    case measure =>
                      have := HG.out
                      have h2 : mu ws seen (rest ++ [x]) = mu ws seen (rest ++ [x]) := rfl
                      unfold mu at this; simp at this; omega
                    case rel =>
                      refine ⟨_, seen.set k true, rest ++ fieldsAt ws k fm, rfl, Lib.hid ⟨?_, by have := HG.out; omega⟩, Lib.hid ?_⟩
                      · have h1 := mu_new (ws := ws) (rest := rest) (x := k) (n := fm) HKS.out HBS.out (by have := HFM.out; omega)
                        have h2 := HG.out
                        have h3 : mu ws seen (rest ++ [(k : Int)]) = mu ws seen (rest ++ [x]) := by unfold mu; simp
                        omega
                      · have h1 := HI.out
                        rw [HIE.out] at h1
                        refine h1.lv (fun r hr => HBK.out r (.new HT.out (by rw [HV.out]; exact HOB.out) (by rw [HV.out]; exact HBS.out) ?_))
                        rw [HV.out, HNF.out]
                        exact hr
      · have b5 : (t == 5) = false := by simpa using h5
        have b5n : (t != 5) = true := by simpa using h5
        have HLP := Lib.hid (HI.out.pop HN.out (fun r hr => .other (by rw [HT.out]; exact h5) hr))
        clear HI
        go_wp2_with (first | (go_at_call 66; (with_reducible refine (Wd.tag_c x t _ HX.out HT.out).mono ?_); rintro e wt ⟨rfl, nt, rfl⟩))
        go_roundg (G - 1)
        case measure => have := HG.out; unfold mu at this; simp at this; omega
        case rel => exact ⟨_, seen, rest, rfl, Lib.hid ⟨by have := HG.out; unfold mu at this ⊢; simp at this; omega, by have := HG.out; omega⟩, Lib.hid (HLP.out.frm ((Fr.refl _ _).drewN nt))⟩
end Go.Proofs.Ytjiaaefpepdoeaa

/-
  CONTRACT: mark.Words. Conditions: at most 4000 words, at most 4000 roots.
-/
namespace Go.Proofs.Ytjiaaefpepdoeaa
open Go.RowKit Md
set_option linter.unusedVariables false
/-- The answer. -/
def WdA (w w' : World) (ws rs : List Int) (e : Ending) : Prop :=
  ∃ rr, Lv ws (List.replicate ws.length false) rs rr ∧ e = .returned (.int .i64 (wordsM ws ((rr.map seenList).getD []))) ∧ Fr w w' fun _ => False
theorem live_objs {ws rs : List Int} {rr : Option (List Bool)} (h : Lv ws (List.replicate ws.length false) rs rr) : (∀ a ∈ (rr.map seenList).getD [], ∃ hd, objAt ws a = some hd) ∧ ((rr.map seenList).getD []).length ≤ ws.length := by
  cases rr with
  | none => exact ⟨fun a ha => absurd ha (by simp), by simp⟩
  | some s =>
    have hr : Md.Reach ws rs s := h
    refine ⟨fun a ha => ?_, ?_⟩
    · obtain ⟨k, rfl, _, hk⟩ := mem_seenList.1 ha
      obtain ⟨hd, ho, _⟩ := hr.closed k hk
      exact ⟨hd, ho⟩
    · have := upTo_len s s.length
      rw [hr.len] at this
      rw [← hr.len] at this
      simp only [Option.map_some, Option.getD_some, ← upTo_all]
      rw [hr.len] at this ⊢
      exact this
theorem wordsM_snoc (ws M : List Int) (a : Int) : wordsM ws (M ++ [a]) = wordsM ws M + (1 + (obj0 ws a).size) := by simp [wordsM]
set_option maxRecDepth 100000 in
set_option maxHeartbeats 4000000 in
theorem mwords_c (p : Nat) (v r : Value) (ws rs : List Int) (size : Int) (w : World) (h : Ar 101 w p v ws size) (hr : Rd w r (uw rs)) (hok : okWs rs) (hl : ws.length ≤ 4000) (hlr : rs.length ≤ 4000) :
    Calls Try.prog 50 #[.pointer (some ⟨p, 0, none⟩), r] w fun e w' => WdA w w' ws rs e := by
  have H := Lib.hid h
  have HR := Lib.hid hr
  have HOK := Lib.hid hok
  have HL := Lib.hid hl
  have HLR := Lib.hid hlr
  have q1 : (ws.length : Int) ≤ 4000 := by omega
  clear h hr hok hl hlr
  go_enter Try.func50, Try.ntmps50
  go_upto_region 3 with (first
    | (go_at_call 49; (with_reducible refine (live_c p v _ ws rs size _ H.out HR.out HOK.out HL.out HLR.out).mono ?_); rintro e w1 ⟨rr, u, hlv, rfl, hn⟩; have HLV := Lib.hid hlv; have HO1 := Lib.hid hn.1; have HF1 := Lib.hid hn.2.1; have HA1 := Lib.hid (H.out.fr hn.2.1); clear hlv hn))
  obtain ⟨M, hM⟩ : ∃ M, (rr.map seenList).getD [] = M := ⟨_, rfl⟩
  have hlo := live_objs HLV.out
  rw [hM] at HO1 hlo
  have HMM := Lib.hid hM
  have HLO := Lib.hid hlo.1
  have HML := Lib.hid hlo.2
  have qM : (M.length : Int) ≤ 4000 := by have := HML.out; omega
  obtain ⟨Au, cu, rfl⟩ := HO1.out.rd.len
  rw [iw_length] at *
  try simp only [iw_length]
  clear hM hlo
  go_wp2
  go_loopg [7, 20] M.length (fun g a7 a20 wr => ∃ (n : Int) (i : Nat), a7 = .int .i64 n ∧ a20 = .int .i64 i ∧ g + i = M.length ∧ Hid (Fr w1 wr (fun _ => False) ∧ n = wordsM ws (M.take i) ∧ 0 ≤ n ∧ n ≤ i * 4001))
  case atStart => exact ⟨0, 0, rfl, rfl, rfl, Lib.hid ⟨Fr.refl _ _, by simp [wordsM], by omega, by omega⟩⟩
  case round =>
    obtain ⟨n, i, rfl, rfl, hgi, HI⟩ := hrel
    have HGI := Lib.hid hgi
    clear hgi
    by_cases hi : i < M.length
    · have HIL := Lib.hid hi
      have qi : (i : Int) < M.length := by omega
      obtain ⟨a, ha⟩ : ∃ a, M.getD i 0 = a := ⟨_, rfl⟩
      have haM : a ∈ M := by rw [← ha, List.getD_eq_getElem?_getD, List.getElem?_eq_getElem hi]; exact List.getElem_mem hi
      obtain ⟨hd, hob⟩ := HLO.out a haM
      obtain ⟨hb0, hb1, hrd, hz0, hz1, hz2⟩ := obj_facts hob
      obtain ⟨kd, z, t, nn⟩ := hd
      simp only at hz0 hz1 hz2
      have HOB := Lib.hid hob
      have HA := Lib.hid ha
      have HZ : Hid (0 ≤ z ∧ a + 1 + z ≤ ws.length ∧ 0 ≤ a) := Lib.hid ⟨hz0, hz2, hb0⟩
      have HO2 := Lib.hid (HO1.out.keep HI.out.1 (fun _ _ h => h))
      obtain ⟨gu, rfl, _, hcu⟩ := HO2.out.cellAt (by rw [iw_length]; omega)
      have ck := (hcu i (by rw [iw_length]; exact hi)).1
      rw [iw_get hi, ha] at ck
      have qn0 : 0 ≤ n := HI.out.2.2.1
      have qn1 : n ≤ 16008001 := by have := HI.out.2.2.2; have := HML.out; have := HL.out; omega
      have qz0 : 0 ≤ z := hz0
      have qz1 : z ≤ 4000 := by omega
      clear hi ha haM hob hb0 hb1 hrd hz0 hz1 hz2 hcu
      go_upto_region 7 with (first | (go_at_call 62; (with_reducible refine (obj_some p v ws size a _ _ (HA1.out.fr HI.out.1) HOB.out).mono ?_); rintro e wo ⟨rfl, hfo⟩))
      obtain ⟨W2, hW2⟩ : ∃ W2, wo.alloc (.cells #[.int .i64 kd, .int .i64 z, .int .i64 t, .bool nn] 104) = W2 := ⟨_, rfl⟩
      obtain ⟨D, hD⟩ : ∃ D, wo.heap.size = D := ⟨_, rfl⟩
      have hf2 : Fr wr W2 (fun _ => False) := by rw [← hW2]; exact hfo.alloc _
      have hdb : W2.heap[D]? = some (.cells #[.int .i64 kd, .int .i64 z, .int .i64 t, .bool nn] 104 (0, 0)) := by rw [← hW2, ← hD]; exact blk_new _ _ _
      have d1 : W2.cell? ⟨D, 1, none⟩ = some (.int .i64 z) := by simp [World.cell?, hdb]
      have HF2 := Lib.hid (HI.out.1.trans hf2)
      simp only [hW2, hD]
      clear hW2 hD hfo hf2 hdb ck
      go_wp2
      go_roundg (gk - 1)
      case measure => have := HGI.out; have := HIL.out; omega
      case rel =>
        refine ⟨n + (1 + z), i + 1, by first | rfl | go_num, by first | rfl | go_num, by have := HGI.out; have := HIL.out; omega, Lib.hid ⟨HF2.out, ?_, by have := HI.out; have := HZ.out; omega, ?_⟩⟩
        · have e1 : M.take (i + 1) = M.take i ++ [a] := by
            rw [List.take_succ_eq_append_getElem HIL.out, ← HA.out]
            simp [List.getD, HIL.out]
          rw [e1, wordsM_snoc, ← HI.out.2.1, obj0_of HOB.out]
        · have := HI.out.2.2.2; have := HZ.out; have := HL.out; push_cast; omega
    · have hie : i = M.length := by have := HGI.out; omega
      have b2 : decide (i < M.length) = false := decide_eq_false hi
      have HW : Hid (n = wordsM ws M) := Lib.hid (by have := HI.out.2.1; rw [hie, List.take_length] at this; exact this)
      clear hi hie
      go_wp2
      go_ret
      exact ⟨rr, HLV.out, by rw [HMM.out, ← HW.out]; rfl, HF1.out.trans HI.out.1⟩
end Go.Proofs.Ytjiaaefpepdoeaa

/-
  CONTRACT: the awake of layer 12. Conditions: none.
-/

namespace Go.Proofs.Ytjiaaefpepdoeaa
open Go.RowKit Md
set_option linter.unusedVariables false
/-- a new row that lies at a block's number, in whatever spelling -/
theorem rd_blk {W : World} {g : Nat} {T : TypeId} {l : List Value} (h : W.heap[g]? = some (.cells l.toArray T (0, 0))) (h0 : 0 < l.length) (hm : l.length ≤ 1000) : Rd W (.slice (some ⟨g, 0, none⟩) l.length l.length) l :=
  .inr ⟨g, 0, l.length, rfl, h0, Nat.le_refl _, by simp only [maxLen]; omega, (Array.getElem?_eq_some_iff.1 h).1, fun i hi => by
    rw [Nat.zero_add]
    simp only [World.cell?, h]
    simp⟩
theorem blk_drew (w : World) (n : Nat) (c : Array Value) (T : TypeId) : ((w.drewN n).alloc (.cells c T)).heap[w.heap.size]? = some (.cells c T (0, 0)) := blk_new (w.drewN n) c T
set_option maxRecDepth 100000 in
set_option maxHeartbeats 4000000 in
theorem awake12_c (w : World) : Calls Try.prog 48 #[] w fun e w' => e = .returned (.bool true) ∧ Fr w w' (fun _ => False) := by
  obtain ⟨H, T, hH, hT, okH, okT, hl3, hl0, hw0⟩ : ∃ H T, makeH ⟨0, 2, 3, false⟩ = H ∧ makeH ⟨1, 1, 4, false⟩ = T ∧ okW H ∧ okW T ∧ lvM [H, 0, 4, T, 5] 10 [false, false, false, false, false] [53] = some (some [true, false, false, true, false]) ∧
      lvM [H, 0, 4, T, 5] 10 [false, false, false, false, false] [5] = some (some [true, false, false, false, false]) ∧ wordsM [H, 0, 4, T, 5] [0] = 3 :=
    ⟨402653446, 536871062, by decide +kernel, by decide +kernel, by unfold okW; omega, by unfold okW; omega, by decide +kernel, by decide +kernel, by decide +kernel⟩
  have HH := Lib.hid hH
  have HT := Lib.hid hT
  have HL3 := Lib.hid (lv_of _ _ _ _ hl3)
  have HL0 := Lib.hid (lv_of _ _ _ _ hl0)
  have HW0 := Lib.hid hw0
  have P40 : Hid (ofW 4 0 = 4) := Lib.hid (by decide +kernel)
  have P50 : Hid (ofW 5 0 = 5) := Lib.hid (by decide +kernel)
  have P53 : Hid (ofW 5 3 = 53) := Lib.hid (by decide +kernel)
  have K5 : Hid (okWs [H, 0, 4, T, 5]) := Lib.hid (fun x hx => by simp at hx; rcases hx with rfl | rfl | rfl | rfl | rfl <;> first | assumption | (unfold okW; omega))
  have K53 : Hid (okWs [53]) := Lib.hid (fun x hx => by simp at hx; subst hx; unfold okW; omega)
  have K1 : Hid (okWs [5]) := Lib.hid (fun x hx => by simp at hx; subst hx; unfold okW; omega)
  have Z0 : Hid ((0 : Int) ≤ 0) := Lib.hid (Int.le_refl 0)
  have L5 : Hid ((([H, 0, 4, T, 5] : List Int).length : Int) + 0 ≤ 1048576) := Lib.hid (by simp only [List.length_cons, List.length_nil]; omega)
  have M5 : Hid (([H, 0, 4, T, 5] : List Int).length ≤ 4000) := Lib.hid (by simp only [List.length_cons, List.length_nil]; omega)
  have M53 : Hid (([53] : List Int).length ≤ 4000) := Lib.hid (by simp only [List.length_cons, List.length_nil]; omega)
  have M1 : Hid (([5] : List Int).length ≤ 4000) := Lib.hid (by simp only [List.length_cons, List.length_nil]; omega)
  have R53 : Hid (∀ (w : World) (n : Nat), Rd ((w.drewN n).alloc (.cells #[.int .u64 53] 29)) (.slice (some ⟨w.heap.size, 0, none⟩) 1 1) (uw [53])) := Lib.hid (fun w n => rd_blk (l := uw [53]) (blk_drew w n _ _) (by simp [uw]) (by simp [uw]))
  have R05 : Hid (∀ (w : World) (n : Nat), Rd ((w.drewN n).alloc (.cells #[.int .u64 5] 29)) (.slice (some ⟨w.heap.size, 0, none⟩) 1 1) (uw [5])) := Lib.hid (fun w n => rd_blk (l := uw [5]) (blk_drew w n _ _) (by simp [uw]) (by simp [uw]))
  have RI : Hid (∀ (w : World), Rd (w.alloc (.cells #[.int .i64 0, .int .i64 3] 3)) (.slice (some ⟨w.heap.size, 0, none⟩) 2 2) (iw [0, 3])) := Lib.hid (fun w => rd_blk (l := iw [0, 3]) (blk_new w _ _) (by simp [iw]) (by simp [iw]))
  clear hH hT okH okT hl3 hl0 hw0
  go_enter Try.func48, Try.ntmps48
  go_upto_region 2 with (first
    | (go_at_call 32; (with_reducible refine (Wd.rmake_c 0 2 3 false H _ HH.out).mono ?_); rintro e w1 ⟨rfl, hb⟩; have HF1 := Lib.hid (Fr.of_below hb (fun _ => False)); clear hb)
    | (go_at_call 32; (with_reducible refine (Wd.rmake_c 1 1 4 false T _ HT.out).mono ?_); rintro e w2 ⟨rfl, hb⟩; have HB2 := Lib.hid hb; clear hb)
    | (go_at_call 46; (with_reducible refine (Wd.rof_c 4 0 4 _ P40.out).mono ?_); rintro e w3 ⟨rfl, n4, rfl⟩)
    | (go_at_call 46; (with_reducible refine (Wd.rof_c 5 0 5 _ P50.out).mono ?_); rintro e w3 ⟨rfl, n5, rfl⟩))
  have hr3 : Rd ((w2.drewN n5).alloc (.cells #[.int .u64 H, .int .u64 0, .int .u64 4, .int .u64 T, .int .u64 5] 29)) (.slice (some ⟨w2.heap.size, 0, none⟩) 5 5) (uw [H, 0, 4, T, 5]) := rd_blk (l := uw [H, 0, 4, T, 5]) (blk_drew w2 n5 _ _) (by simp [uw]) (by simp [uw])
  have hf3 : Fr w ((w2.drewN n5).alloc (.cells #[.int .u64 H, .int .u64 0, .int .u64 4, .int .u64 T, .int .u64 5] 29)) (fun _ => False) := ((HF1.out.drewN n4).trans ((Fr.of_below HB2.out _).drewN n5)).alloc _
  obtain ⟨W3, hW3⟩ : ∃ W3, (w2.drewN n5).alloc (.cells #[.int .u64 H, .int .u64 0, .int .u64 4, .int .u64 T, .int .u64 5] 29) = W3 := ⟨_, rfl⟩
  obtain ⟨g, hg⟩ : ∃ g, w2.heap.size = g := ⟨_, rfl⟩
  rw [hW3] at hr3 hf3 ⊢
  rw [hg] at hr3 ⊢
  have HR3 := Lib.hid hr3
  have HF3 := Lib.hid hf3
  clear hr3 hf3 hW3 hg
  go_upto_region 6 with (first
    | (go_at_call 31; (with_reducible refine (fill_c _ [H, 0, 4, T, 5] 0 _ HR3.out K5.out Z0.out L5.out).mono ?_); rintro e w4 ⟨p, v4, rfl, hn⟩; have HA4 := Lib.hid hn.1; have HF4 := Lib.hid (HF3.out.trans hn.2.1); clear hn)
    | (go_at_call 46; (with_reducible refine (Wd.rof_c 5 3 53 _ P53.out).mono ?_); rintro e w3 ⟨rfl, n6, rfl⟩; have HR5 := Lib.hid (R53.out w4 n6); have HF5 := Lib.hid ((HF4.out.drewN n6).alloc (.cells #[.int .u64 53] 29)); have HA5 := Lib.hid (HA4.out.fr (((Fr.refl w4 (fun _ => False)).drewN n6).alloc (.cells #[.int .u64 53] 29))))
    | (go_at_call 49; (with_reducible refine (live_c p v4 _ [H, 0, 4, T, 5] [53] _ _ HA5.out HR5.out K53.out M5.out M53.out).mono ?_); rintro e w6 ⟨rr, u, hlv, rfl, hn⟩; obtain rfl := Lv.det hlv _ HL3.out; have HN6 := Lib.hid hn.1; have HF6 := Lib.hid (HF5.out.trans hn.2.1); have HA6 := Lib.hid (HA5.out.fr hn.2.1); clear hlv hn))
  have hx6 : Own w6 3 u (iw [0, 3]) := HN6.out
  have HX6 := Lib.hid hx6
  have HRI := Lib.hid (RI.out w6)
  have HF7 := Lib.hid (HF6.out.alloc (.cells #[.int .i64 0, .int .i64 3] 3))
  have HX7 := Lib.hid (hx6.keep ((Fr.refl w6 (fun _ => False)).alloc (.cells #[.int .i64 0, .int .i64 3] 3)) (fun _ _ h => h))
  have HA7 := Lib.hid (HA6.out.fr ((Fr.refl w6 (fun _ => False)).alloc (.cells #[.int .i64 0, .int .i64 3] 3)))
  have L2 : Hid (([0, 3] : List Int).length ≤ 1073741824) := Lib.hid (by simp only [List.length_cons, List.length_nil]; omega)
  clear hx6
  go_wp2_with (first
    | (go_at_call 34; (with_reducible refine (ints_c u _ [0, 3] [0, 3] _ HX7.out.rd HRI.out L2.out).mono ?_); rintro e w8 ⟨rfl, hd⟩; have HF8 := Lib.hid (HF7.out.trans (hd.fr (fun _ => False))); have HA8 := Lib.hid (HA7.out.fr (hd.fr (fun _ => False))); clear hd)
    | (go_at_call 46; (with_reducible refine (Wd.rof_c 5 0 5 _ P50.out).mono ?_); rintro e w9 ⟨rfl, n9, rfl⟩; have HR9 := Lib.hid (R05.out w8 n9); have HF9 := Lib.hid ((HF8.out.drewN n9).alloc (.cells #[.int .u64 5] 29)); have HA9 := Lib.hid (HA8.out.fr (((Fr.refl w8 (fun _ => False)).drewN n9).alloc (.cells #[.int .u64 5] 29))))
    | (go_at_call 50; (with_reducible refine (mwords_c p v4 _ [H, 0, 4, T, 5] [5] _ _ HA9.out HR9.out K1.out M5.out M1.out).mono ?_); rintro e w10 ⟨rr, hlv, rfl, hf⟩; obtain rfl := Lv.det hlv _ HL0.out; have hwz : wordsM [H, 0, 4, T, 5] (((some [true, false, false, false, false]).map seenList).getD []) = 3 := HW0.out; rw [hwz]; have HF10 := Lib.hid (HF9.out.trans hf); clear hlv hf hwz))
  go_ret
  exact ⟨by simp, HF10.out⟩
end Go.Proofs.Ytjiaaefpepdoeaa

/-
  WALK: MarkMore. Conditions: none but that the arguments read as words.
-/
namespace Go.Proofs.Ytjiaaefpepdoeaa
open Go.RowKit Md
set_option linter.unusedVariables false
set_option maxRecDepth 100000 in
set_option maxHeartbeats 4000000 in
theorem has_c (u : Value) (l : List Int) (n : Int) (b : Bool) (w : World) (h : Rd w u (iw l)) (hl : l.length ≤ 1073741824) (hb : decide (n ∈ l) = b) :
    Calls Try.prog 51 #[u, .int .i64 n] w fun e w' => e = .returned (.bool b) ∧ Drawn w w' := by
  have H := Lib.hid h
  have HB := Lib.hid hb
  have qL : (l.length : Int) ≤ 1073741824 := by omega
  obtain ⟨A, cu, rfl⟩ := h.len
  rw [iw_length] at *
  clear h hl hb
  go_enter Try.func51, Try.ntmps51
  go_wp2
  go_loopg [5] l.length (fun g a5 wr => ∃ (i : Nat), a5 = .int .i64 i ∧ g + i = l.length ∧ Hid (Drawn w wr ∧ ∀ j, j < i → l.getD j 0 ≠ n))
  case atStart => exact ⟨0, rfl, rfl, Lib.hid ⟨Drawn.refl _, fun j hj => by omega⟩⟩
  case round =>
    obtain ⟨i, rfl, hgi, HI⟩ := hrel
    have HGI := Lib.hid hgi
    clear hgi
    by_cases hi : i < l.length
    · have HIL := Lib.hid hi
      have qi : (i : Int) < l.length := by omega
      have HR := Lib.hid (H.out.keep (HI.out.1.fr (fun _ => False)) (fun _ _ h => h))
      obtain ⟨br, oR, rfl, hcr⟩ := HR.out.cellAt (by rw [iw_length]; omega)
      have cr0 := hcr i (by rw [iw_length]; exact hi)
      rw [iw_get hi] at cr0
      obtain ⟨x, hx⟩ : ∃ x, l.getD i 0 = x := ⟨_, rfl⟩
      rw [hx] at cr0
      have HX := Lib.hid hx
      clear hi hx hcr
      by_cases hxn : x = n
      · have e1 : (x == n) = true := by simpa using hxn
        have hbt : b = true := by
          rw [← HB.out]
          refine decide_eq_true ?_
          rw [← hxn, ← HX.out, List.getD_eq_getElem?_getD, List.getElem?_eq_getElem HIL.out]
          exact List.getElem_mem HIL.out
        have HBT := Lib.hid hbt
        clear hbt
        go_wp2
        go_ret
        exact ⟨by rw [HBT.out]; rfl, HI.out.1⟩
      · have e1 : (x == n) = false := by simpa using hxn
        go_wp2
        go_roundg (gk - 1)
        case measure => have := HGI.out; have := HIL.out; omega
        case rel => exact ⟨i + 1, by first | rfl | go_num, by have := HGI.out; have := HIL.out; omega, Lib.hid ⟨HI.out.1, fun j hj => by
          by_cases hj2 : j < i
          · exact HI.out.2 j hj2
          · have : j = i := by omega
            subst this
            rw [HX.out]; exact hxn⟩⟩
    · have b2 : decide (i < l.length) = false := decide_eq_false hi
      have hbf : b = false := by
        rw [← HB.out]
        refine decide_eq_false fun hm => ?_
        obtain ⟨j, hj, e⟩ := List.getElem_of_mem hm
        have := HI.out.2 j (by have := HGI.out; omega)
        rw [List.getD_eq_getElem?_getD, List.getElem?_eq_getElem hj] at this
        exact this e
      have HBF := Lib.hid hbf
      clear hi hbf
      go_wp2
      go_ret
      exact ⟨by rw [HBF.out]; rfl, HI.out.1⟩
set_option maxRecDepth 100000 in
set_option maxHeartbeats 4000000 in
theorem more_far (Al Aa Ab : Option Addr) (nl cl na ca nb cb : Nat) (w : World) (h : 400 < nl ∨ 20 < na ∨ 20 < nb) :
    Calls Try.prog 10 #[.slice Al nl cl, .slice Aa na ca, .slice Ab nb cb] w fun e w' => e = .returned (.bool true) ∧ Fr w w' (fun _ => False) := by
  by_cases h1 : 400 < nl
  · have d1 : decide ((400 : Int) < nl) = true := decide_eq_true (by omega)
    clear h h1
    go_enter Try.func10, Try.ntmps10
    go_wp2_with (first | (go_at_call 48; (with_reducible refine (awake12_c _).mono ?_); rintro e w1 ⟨rfl, hf1⟩))
    go_ret
    exact ⟨rfl, hf1⟩
  · have d1 : decide ((400 : Int) < nl) = false := decide_eq_false (by omega)
    by_cases h2 : 20 < na
    · have d2 : decide ((20 : Int) < na) = true := decide_eq_true (by omega)
      clear h h1 h2
      go_enter Try.func10, Try.ntmps10
      go_wp2_with (first | (go_at_call 48; (with_reducible refine (awake12_c _).mono ?_); rintro e w1 ⟨rfl, hf1⟩))
      go_ret
      exact ⟨rfl, hf1⟩
    · have d2 : decide ((20 : Int) < na) = false := decide_eq_false (by omega)
      have d3 : decide ((20 : Int) < nb) = true := decide_eq_true (by omega)
      clear h h1 h2
      go_enter Try.func10, Try.ntmps10
      go_wp2_with (first | (go_at_call 48; (with_reducible refine (awake12_c _).mono ?_); rintro e w1 ⟨rfl, hf1⟩))
      go_ret
      exact ⟨rfl, hf1⟩
/-- two rows, one behind the other, in new memory -/
theorem two_rows (va vb : Value) (a b : List Int) (w : World) (ha : Rd w va (uw a)) (hb : Rd w vb (uw b)) (hl : a.length + b.length ≤ 1000000) :
    ∃ v1 w1 v2 w2, (Builtin.append_ #[39, 39] 39 #[.slice (some ⟨w.heap.size, 0, none⟩) 0 0, va]).run Try.prog (w.alloc (.cells #[] 29)) = .ok v1 w1 ∧
      (Builtin.append_ #[39, 39] 39 #[v1, vb]).run Try.prog w1 = .ok v2 w2 ∧ New w w2 29 v2 (uw (a ++ b)) := by
  obtain ⟨i0, hi, hz0, hz1, hz2⟩ := info_parts wordInfo
  have hs : Own (w.alloc (.cells #[] 29)) 29 (.slice (some ⟨w.heap.size, 0, none⟩) 0 0) [] := World.ownsRow_made w #[] 0 (Nat.zero_le _) (Nat.zero_le _) rfl
  have hf0 : Fr w (w.alloc (.cells #[] 29)) (fun _ => False) := (Fr.refl w _).alloc _
  obtain ⟨v1, w1, hr1, ho1, hg1, hn1⟩ := run_append_rd (P := Try.prog) _ 39 39 29 i0 (.int .u64 0) Try.underlying39 hi hz0 hz1 (by omega) rfl _ va [] (uw a) hs (ha.keep hf0 (fun _ _ h => h)) (uw_one a) (by rw [uw_length]; simp; omega)
  have hn1' : ∀ k, InBlk v1 k → w.heap.size ≤ k := fun k hk => by
    rcases hn1 k hk with h1 | h1
    · simp [InBlk, Value.ownBlock] at h1; omega
    · simp at h1; omega
  have hf1 : Fr w w1 (fun _ => False) := hf0.grown hg1 (fun k hk hlt => by simp [Value.ownBlock] at hk; omega)
  obtain ⟨v2, w2, hr2, ho2, hg2, hn2⟩ := run_append_rd (P := Try.prog) w1 39 39 29 i0 (.int .u64 0) Try.underlying39 hi hz0 hz1 (by omega) rfl v1 vb _ (uw b) ho1 (hb.keep hf1 (fun _ _ h => h)) (uw_one b) (by simp [uw]; omega)
  refine ⟨v1, w1, v2, w2, hr1, hr2, by rw [uw_append]; exact ho2, hf1.grown hg2 (fun k hk hlt => by have := hn1' k hk; omega), fun k hk => ?_⟩
  rcases hn2 k hk with h1 | h1
  · exact hn1' k h1
  · exact Nat.le_trans hf1.size h1
set_option maxRecDepth 100000 in
set_option maxHeartbeats 4000000 in
theorem more_no (Al Aa Ab : Option Addr) (cl ca cb : Nat) (l a b : List Int) (w : World) (h1 : l.length ≤ 400) (h2 : a.length ≤ 20) (h3 : b.length ≤ 20)
    (hl : Rd w (.slice Al l.length cl) (uw l)) (ha : Rd w (.slice Aa a.length ca) (uw a)) (hb : Rd w (.slice Ab b.length cb) (uw b)) (hok : okWs l) (hoa : okWs a) (hob : okWs b) (hs : soundB l (a ++ b) = false) :
    Calls Try.prog 10 #[.slice Al l.length cl, .slice Aa a.length ca, .slice Ab b.length cb] w fun e w' => e = .returned (.bool true) ∧ Fr w w' (fun _ => False) := by
  have d1 : decide ((400 : Int) < l.length) = false := decide_eq_false (by omega)
  have d2 : decide ((20 : Int) < a.length) = false := decide_eq_false (by omega)
  have d3 : decide ((20 : Int) < b.length) = false := decide_eq_false (by omega)
  have HL := Lib.hid hl
  have HA := Lib.hid ha
  have HB := Lib.hid hb
  have HOK := Lib.hid hok
  have HOA := Lib.hid hoa
  have HOB := Lib.hid hob
  have HOC : Hid (okWs (a ++ b)) := Lib.hid (okWs_append hoa hob)
  have HS := Lib.hid hs
  have Z0 : Hid ((0 : Int) ≤ 0) := Lib.hid (Int.le_refl 0)
  have HM : Hid ((l.length : Int) + 0 ≤ 1048576) := Lib.hid (by omega)
  have HLR : Hid ((a ++ b).length ≤ 1048576) := Lib.hid (by rw [List.length_append]; omega)
  have HAB : Hid (a.length + b.length ≤ 1000000) := Lib.hid (by omega)
  clear hl ha hb hok hoa hob hs h1 h2 h3
  go_enter Try.func10, Try.ntmps10
  go_upto_region 5 with (first | (go_at_call 48; (with_reducible refine (awake12_c _).mono ?_); rintro e w1 ⟨rfl, hf1⟩))
  obtain ⟨v1, wa, v2, w2, hr1, hr2, hn⟩ := two_rows _ _ a b w1 (HA.out.keep hf1 (fun _ _ h => h)) (HB.out.keep hf1 (fun _ _ h => h)) HAB.out
  have HRUN1 := Lib.hid hr1
  have HRUN2 := Lib.hid hr2
  have HF2 := Lib.hid (hf1.trans hn.2.1)
  have HC2 := Lib.hid hn.1
  have HL2 := Lib.hid (HL.out.keep HF2.out (fun _ _ h => h))
  have HX2 := Lib.hid (HA.out.keep HF2.out (fun _ _ h => h))
  have HY2 := Lib.hid (HB.out.keep HF2.out (fun _ _ h => h))
  have tok1 : True := trivial
  clear hf1 hr1 hr2 hn
  go_wp2_with (first
    | (at_builtin; have _t := tok1; refine Lib.wpList_append_run _ rfl _ _ _ _ rfl _ _ rfl rfl _ wa HRUN1.out ?_; clear tok1)
    | (at_builtin; refine Lib.wpList_append_run _ rfl _ _ _ _ rfl _ _ rfl rfl _ w2 HRUN2.out ?_)
    | (go_at_call 31; (with_reducible refine (fill_c _ l 0 _ HL2.out HOK.out Z0.out HM.out).mono ?_); rintro e w4 ⟨p, va, rfl, hn⟩; have HA4 := Lib.hid hn.1; have HF4 := Lib.hid (HF2.out.trans hn.2.1); have HL4 := Lib.hid (HL2.out.keep hn.2.1 (fun _ _ h => h)); have HC4 := Lib.hid (HC2.out.keep hn.2.1 (fun _ _ h => h)); have HX4 := Lib.hid (HX2.out.keep hn.2.1 (fun _ _ h => h)); have HY4 := Lib.hid (HY2.out.keep hn.2.1 (fun _ _ h => h)); clear hn)
    | (go_at_call 35; (with_reducible refine (mem_c _ l 0 _ HL4.out HOK.out Z0.out HM.out).mono ?_); rintro e w5 ⟨q, vm, rfl, hn⟩; have HM5 := Lib.hid hn.1; have HF5 := Lib.hid (HF4.out.trans hn.2.1); have HA5 := Lib.hid (HA4.out.fr hn.2.1); have HC5 := Lib.hid (HC4.out.keep hn.2.1 (fun _ _ h => h)); have HX5 := Lib.hid (HX4.out.keep hn.2.1 (fun _ _ h => h)); have HY5 := Lib.hid (HY4.out.keep hn.2.1 (fun _ _ h => h)); clear hn)
    | (go_at_call 39; (with_reducible refine (sound8_c q vm _ l (a ++ b) _ _ HM5.out HC5.out.rd HOC.out HLR.out).mono ?_); rintro e w6 ⟨rfl, hf⟩; rw [HS.out]; have HF6 := Lib.hid (HF5.out.trans hf); have HA6 := Lib.hid (HA5.out.fr hf); have HC6 := Lib.hid (HC5.out.keep hf (fun _ _ h => h)); have HX6 := Lib.hid (HX5.out.keep hf (fun _ _ h => h)); have HY6 := Lib.hid (HY5.out.keep hf (fun _ _ h => h)); clear hf))
  go_ret
  exact ⟨rfl, HF6.out⟩
set_option maxRecDepth 100000 in
set_option maxHeartbeats 4000000 in
theorem more_yes (Al Aa Ab : Option Addr) (cl ca cb : Nat) (l a b : List Int) (w : World) (h1 : l.length ≤ 400) (h2 : a.length ≤ 20) (h3 : b.length ≤ 20)
    (hl : Rd w (.slice Al l.length cl) (uw l)) (ha : Rd w (.slice Aa a.length ca) (uw a)) (hb : Rd w (.slice Ab b.length cb) (uw b)) (hok : okWs l) (hoa : okWs a) (hob : okWs b) (hs : soundB l (a ++ b) = true) (L : List Int) (S : Snd l (a ++ b) L) :
    Calls Try.prog 10 #[.slice Al l.length cl, .slice Aa a.length ca, .slice Ab b.length cb] w fun e w' => e = .returned (.bool true) ∧ Fr w w' (fun _ => False) := by
  have d1 : decide ((400 : Int) < l.length) = false := decide_eq_false (by omega)
  have d2 : decide ((20 : Int) < a.length) = false := decide_eq_false (by omega)
  have d3 : decide ((20 : Int) < b.length) = false := decide_eq_false (by omega)
  have HL := Lib.hid hl
  have HA := Lib.hid ha
  have HB := Lib.hid hb
  have HOK := Lib.hid hok
  have HOA := Lib.hid hoa
  have HOB := Lib.hid hob
  have HOC : Hid (okWs (a ++ b)) := Lib.hid (okWs_append hoa hob)
  have HS := Lib.hid hs
  have Z0 : Hid ((0 : Int) ≤ 0) := Lib.hid (Int.le_refl 0)
  have HM : Hid ((l.length : Int) + 0 ≤ 1048576) := Lib.hid (by omega)
  have HLR : Hid ((a ++ b).length ≤ 1048576) := Lib.hid (by rw [List.length_append]; omega)
  have HAB : Hid (a.length + b.length ≤ 1000000) := Lib.hid (by omega)
  have HSN := Lib.hid S
  have HO : Hid ((objs l).isSome = true) := Lib.hid (by rw [S.objs]; rfl)
  have HOL : Hid ((objs l).getD [] = L) := Lib.hid (by rw [S.objs]; rfl)
  have M4 : Hid (l.length ≤ 4000) := Lib.hid (by omega)
  have MA : Hid (a.length ≤ 4000) := Lib.hid (by omega)
  have MB : Hid (b.length ≤ 4000) := Lib.hid (by omega)
  have MC : Hid ((a ++ b).length ≤ 4000) := Lib.hid (by rw [List.length_append]; omega)
  have qL1 : (L.length : Int) ≤ 400 := by have := S.rows.len; omega
  clear hl ha hb hok hoa hob hs h1 h2 h3 S
  go_enter Try.func10, Try.ntmps10
  go_upto_region 5 with (first | (go_at_call 48; (with_reducible refine (awake12_c _).mono ?_); rintro e w1 ⟨rfl, hf1⟩))
  obtain ⟨v1, wa, v2, w2, hr1, hr2, hn⟩ := two_rows _ _ a b w1 (HA.out.keep hf1 (fun _ _ h => h)) (HB.out.keep hf1 (fun _ _ h => h)) HAB.out
  have HRUN1 := Lib.hid hr1
  have HRUN2 := Lib.hid hr2
  have HF2 := Lib.hid (hf1.trans hn.2.1)
  have HC2 := Lib.hid hn.1
  have HL2 := Lib.hid (HL.out.keep HF2.out (fun _ _ h => h))
  have HX2 := Lib.hid (HA.out.keep HF2.out (fun _ _ h => h))
  have HY2 := Lib.hid (HB.out.keep HF2.out (fun _ _ h => h))
  have tok1 : True := trivial
  clear hf1 hr1 hr2 hn
  go_upto_region 14 with (first
    | (at_builtin; have _t := tok1; refine Lib.wpList_append_run _ rfl _ _ _ _ rfl _ _ rfl rfl _ wa HRUN1.out ?_; clear tok1)
    | (at_builtin; refine Lib.wpList_append_run _ rfl _ _ _ _ rfl _ _ rfl rfl _ w2 HRUN2.out ?_)
    | (go_at_call 31; (with_reducible refine (fill_c _ l 0 _ HL2.out HOK.out Z0.out HM.out).mono ?_); rintro e w4 ⟨p, va, rfl, hn⟩; have HA4 := Lib.hid hn.1; have HF4 := Lib.hid (HF2.out.trans hn.2.1); have HL4 := Lib.hid (HL2.out.keep hn.2.1 (fun _ _ h => h)); have HC4 := Lib.hid (HC2.out.keep hn.2.1 (fun _ _ h => h)); have HX4 := Lib.hid (HX2.out.keep hn.2.1 (fun _ _ h => h)); have HY4 := Lib.hid (HY2.out.keep hn.2.1 (fun _ _ h => h)); clear hn)
    | (go_at_call 35; (with_reducible refine (mem_c _ l 0 _ HL4.out HOK.out Z0.out HM.out).mono ?_); rintro e w5 ⟨q, vm, rfl, hn⟩; have HM5 := Lib.hid hn.1; have HF5 := Lib.hid (HF4.out.trans hn.2.1); have HA5 := Lib.hid (HA4.out.fr hn.2.1); have HC5 := Lib.hid (HC4.out.keep hn.2.1 (fun _ _ h => h)); have HX5 := Lib.hid (HX4.out.keep hn.2.1 (fun _ _ h => h)); have HY5 := Lib.hid (HY4.out.keep hn.2.1 (fun _ _ h => h)); clear hn)
    | (go_at_call 39; (with_reducible refine (sound8_c q vm _ l (a ++ b) _ _ HM5.out HC5.out.rd HOC.out HLR.out).mono ?_); rintro e w6 ⟨rfl, hf⟩; rw [HS.out]; have HF6 := Lib.hid (HF5.out.trans hf); have HA6 := Lib.hid (HA5.out.fr hf); have HC6 := Lib.hid (HC5.out.keep hf (fun _ _ h => h)); have HX6 := Lib.hid (HX5.out.keep hf (fun _ _ h => h)); have HY6 := Lib.hid (HY5.out.keep hf (fun _ _ h => h)); clear hf)
    | (go_at_call 49; (with_reducible refine (live_c p va _ l a _ _ HA6.out HX6.out HOA.out M4.out MA.out).mono ?_); rintro e w7 ⟨rx, ux, hx, rfl, hn⟩; have HX := Lib.hid hx; have HN7 := Lib.hid hn.1; have HF7 := Lib.hid (HF6.out.trans hn.2.1); have HA7 := Lib.hid (HA6.out.fr hn.2.1); have HC7 := Lib.hid (HC6.out.keep hn.2.1 (fun _ _ h => h)); have HY7 := Lib.hid (HY6.out.keep hn.2.1 (fun _ _ h => h)); clear hx hn)
    | (go_at_call 49; (with_reducible refine (live_c p va _ l b _ _ HA7.out HY7.out HOB.out M4.out MB.out).mono ?_); rintro e w8 ⟨ry, uy, hy, rfl, hn⟩; have HY := Lib.hid hy; have HNX8 := Lib.hid (HN7.out.keep hn.2.1 (fun _ _ h => h)); have HN8 := Lib.hid hn.1; have HF8 := Lib.hid (HF7.out.trans hn.2.1); have HA8 := Lib.hid (HA7.out.fr hn.2.1); have HC8 := Lib.hid (HC7.out.keep hn.2.1 (fun _ _ h => h)); clear hy hn)
    | (go_at_call 49; (with_reducible refine (live_c p va _ l (a ++ b) _ _ HA8.out HC8.out.rd HOC.out M4.out MC.out).mono ?_); rintro e w9 ⟨rz, uz, hz, rfl, hn⟩; have HZ := Lib.hid hz; have HNX9 := Lib.hid (HNX8.out.keep hn.2.1 (fun _ _ h => h)); have HNY9 := Lib.hid (HN8.out.keep hn.2.1 (fun _ _ h => h)); have HN9 := Lib.hid hn.1; have HF9 := Lib.hid (HF8.out.trans hn.2.1); have HA9 := Lib.hid (HA8.out.fr hn.2.1); have HC9 := Lib.hid (HC8.out.keep hn.2.1 (fun _ _ h => h)); clear hz hn))
  obtain ⟨x, rfl⟩ : ∃ x, rx = some x := by
    cases rx with
    | none => exact absurd rfl (HX.out.sound HSN.out (fun w hw => HSN.out.root w (by simp [hw])))
    | some x => exact ⟨x, rfl⟩
  obtain ⟨y, rfl⟩ : ∃ y, ry = some y := by
    cases ry with
    | none => exact absurd rfl (HY.out.sound HSN.out (fun w hw => HSN.out.root w (by simp [hw])))
    | some x => exact ⟨x, rfl⟩
  obtain ⟨z, rfl⟩ : ∃ z, rz = some z := by
    cases rz with
    | none => exact absurd rfl (HZ.out.sound HSN.out (fun w hw => HSN.out.root w hw))
    | some x => exact ⟨x, rfl⟩
  have HU : Hid (∀ k, isIn z k ↔ isIn x k ∨ isIn y k) := Lib.hid (fun k => reach_union HX.out HY.out HZ.out k)
  have hws := words_le HSN.out.rows (seenList z) (seenList_sorted z) (fun q hq => by
    obtain ⟨k, rfl, _, hk⟩ := mem_seenList.1 hq
    exact Reach.objs HSN.out HZ.out (fun w hw => HSN.out.root w hw) k hk)
  have HWS := Lib.hid hws
  have BX : Hid ((seenList x).length ≤ 1073741824) := Lib.hid (by have := upTo_len x x.length; rw [upTo_all] at this; have h2 := Md.Reach.len HX.out; have := M4.out; omega)
  have BY : Hid ((seenList y).length ≤ 1073741824) := Lib.hid (by have := upTo_len y y.length; rw [upTo_all] at this; have h2 := Md.Reach.len HY.out; have := M4.out; omega)
  have BZ : Hid ((seenList z).length ≤ 1073741824) := Lib.hid (by have := upTo_len z z.length; rw [upTo_all] at this; have h2 := Md.Reach.len HZ.out; have := M4.out; omega)
  clear hws
  have HWB : Hid (wordsM l (seenList z) ≤ l.length) := Lib.hid (by have := HWS.out.1; omega)
  have HZZ : Hid (((some z : Option (List Bool)).map seenList).getD [] = seenList z) := Lib.hid rfl
  obtain ⟨wz, hwz⟩ : ∃ wz, wordsM l (seenList z) = wz := ⟨_, rfl⟩
  have HWZ := Lib.hid hwz
  have bw1 : decide ((l.length : Int) < wz) = false := decide_eq_false (by have := HWB.out; omega)
  clear hwz
  go_upto_region 17 with (first
    | (go_at_call 33; (with_reducible refine (objects_c p va l _ _ HA9.out).mono ?_); rintro e w10 ⟨ov, rfl, hn⟩; rw [HO.out]; rw [HOL.out] at hn; have HO10 := Lib.hid hn.1; have HF10 := Lib.hid (HF9.out.trans hn.2.1); have HA10 := Lib.hid (HA9.out.fr hn.2.1); have HC10 := Lib.hid (HC9.out.keep hn.2.1 (fun _ _ h => h)); have HX10 := Lib.hid (HNX9.out.keep hn.2.1 (fun _ _ h => h)); have HY10 := Lib.hid (HNY9.out.keep hn.2.1 (fun _ _ h => h)); have HZ10 := Lib.hid (HN9.out.keep hn.2.1 (fun _ _ h => h)); clear hn)
    | (go_at_call 50; (with_reducible refine (mwords_c p va _ l (a ++ b) _ _ HA10.out HC10.out.rd HOC.out M4.out MC.out).mono ?_); rintro e w11 ⟨rr, hlv, rfl, hf⟩; obtain rfl := Lv.det hlv _ HZ.out; rw [HZZ.out, HWZ.out]; have HF11 := Lib.hid (HF10.out.trans hf); have HO11 := Lib.hid (HO10.out.keep hf (fun _ _ h => h)); have HX11 := Lib.hid (HX10.out.keep hf (fun _ _ h => h)); have HY11 := Lib.hid (HY10.out.keep hf (fun _ _ h => h)); have HZ11 := Lib.hid (HZ10.out.keep hf (fun _ _ h => h)); clear hlv hf))
  have hz2 : Own w11 3 uz (iw (seenList z)) := HZ11.out
  have hx2 : Own w11 3 ux (iw (seenList x)) := HX11.out
  have hy2 : Own w11 3 uy (iw (seenList y)) := HY11.out
  have HZ2 := Lib.hid hz2
  have HX2b := Lib.hid hx2
  have HY2b := Lib.hid hy2
  obtain ⟨Ao, co, rfl⟩ := HO11.out.rd.len
  rw [iw_length] at *
  clear hz2 hx2 hy2
  go_wp2
  go_loopg [17] L.length (fun g a17 wr => ∃ (i : Nat), a17 = .int .i64 i ∧ g + i = L.length ∧ Hid (Fr w11 wr (fun _ => False)))
  case atStart => exact ⟨0, rfl, rfl, Lib.hid (Fr.refl _ _)⟩
  case round =>
    obtain ⟨i, rfl, hgi, HI⟩ := hrel
    have HGI := Lib.hid hgi
    clear hgi
    by_cases hi : i < L.length
    · have HIL := Lib.hid hi
      have qi : (i : Int) < L.length := by omega
      obtain ⟨o, ho⟩ : ∃ o, L.getD i 0 = o := ⟨_, rfl⟩
      have hoL : o ∈ L := by rw [← ho, List.getD_eq_getElem?_getD, List.getElem?_eq_getElem hi]; exact List.getElem_mem hi
      obtain ⟨_, _, _, hn0, hn1, _⟩ := HSN.out.rows.obj o hoL
      obtain ⟨k, rfl⟩ := Int.eq_ofNat_of_zero_le hn0
      have hkl : k < l.length := by omega
      have hmem : ∀ s : List Bool, s.length = l.length → (((k : Int) ∈ seenList s) ↔ isIn s k) := fun s hs => by
        rw [mem_seenList]
        constructor
        · rintro ⟨j, e, _, h⟩
          have : j = k := by omega
          rw [← this]; exact h
        · intro h; exact ⟨k, rfl, by omega, h⟩
      have hmz := hmem z (Md.Reach.len HZ.out)
      have hmx := hmem x (Md.Reach.len HX.out)
      have hmy := hmem y (Md.Reach.len HY.out)
      obtain ⟨bx, hbx⟩ : ∃ bx, decide ((k : Int) ∈ seenList x) = bx := ⟨_, rfl⟩
      obtain ⟨by2, hby⟩ : ∃ by2, decide ((k : Int) ∈ seenList y) = by2 := ⟨_, rfl⟩
      obtain ⟨bz, hbz⟩ : ∃ bz, decide ((k : Int) ∈ seenList z) = bz := ⟨_, rfl⟩
      have hq : bz = (bx || by2) := by
        rw [← hbx, ← hby, ← hbz, Bool.eq_iff_iff]
        simp only [Bool.or_eq_true, decide_eq_true_eq]
        rw [hmz, hmx, hmy]
        exact HU.out k
      have HBX := Lib.hid hbx
      have HBY := Lib.hid hby
      have HBZ := Lib.hid hbz
      have HO12 := Lib.hid (HO11.out.keep HI.out (fun _ _ h => h))
      obtain ⟨go, rfl, _, hco⟩ := HO12.out.cellAt (by rw [iw_length]; omega)
      have ck := (hco i (by rw [iw_length]; exact hi)).1
      rw [iw_get hi, ho] at ck
      clear hi ho hoL hn0 hn1 hkl hmem hmz hmx hmy hbx hby hbz hco
      go_upto_region 20 with (fail)
      refine wp_region_cls (S := fun w' => Fr wr w' (fun _ => False)) (by kernel_rfl) (by kernel_rfl) ((Fr.refl wr _).drew) (fun ne => ?_)
      generalize hS : (fun w' : World => Fr wr w' (fun _ => False)) = S
      replace ne : Nonempty (Cw S) := by subst hS; exact ne
      have f0 : ∀ x : Cw S, x.val.cell? ⟨go, i, none⟩ = some (.int .i64 k) := by subst hS; exact fun x => x.prop.cell ck (fun h => h)
      have HXS : Hid (∀ w', S w' → Fr wr w' (fun _ => False)) := Lib.hid (by subst hS; exact fun w' h => h)
      have HK2 : Hid (∀ w1 w2 : World, S w1 → Drawn w1 w2 → S w2) := Lib.hid (by subst hS; exact fun w1 w2 h hb => h.trans (hb.fr _))
      have HRZ : Hid (∀ w', S w' → Rd w' uz (iw (seenList z))) := Lib.hid (by subst hS; exact fun w' h => HZ2.out.rd.keep (HI.out.trans h) (fun _ _ h => h))
      have HRX : Hid (∀ w', S w' → Rd w' ux (iw (seenList x))) := Lib.hid (by subst hS; exact fun w' h => HX2b.out.rd.keep (HI.out.trans h) (fun _ _ h => h))
      have HRY : Hid (∀ w', S w' → Rd w' uy (iw (seenList y))) := Lib.hid (by subst hS; exact fun w' h => HY2b.out.rd.keep (HI.out.trans h) (fun _ _ h => h))
      clear hS
      cases bx <;> cases by2 <;> (simp only [Bool.or_self, Bool.or_true, Bool.or_false] at hq; subst hq)
      all_goals
        repeat (any_goals (first | go_big_quiet_step ((go_at_call 51; first | with_reducible exact Cw.call (has_c uz _ (k : Int) _ _ (HRZ.out _ (Cw.prop _)) BZ.out HBZ.out) (fun w' h => HK2.out _ _ (Cw.prop _) h) | with_reducible exact Cw.call (has_c ux _ (k : Int) _ _ (HRX.out _ (Cw.prop _)) BX.out HBX.out) (fun w' h => HK2.out _ _ (Cw.prop _) h) | with_reducible exact Cw.call (has_c uy _ (k : Int) _ _ (HRY.out _ (Cw.prop _)) BY.out HBY.out) (fun w' h => HK2.out _ _ (Cw.prop _) h))) | quiet_step ((go_at_call 51; first | with_reducible exact Cw.call (has_c uz _ (k : Int) _ _ (HRZ.out _ (Cw.prop _)) BZ.out HBZ.out) (fun w' h => HK2.out _ _ (Cw.prop _) h) | with_reducible exact Cw.call (has_c ux _ (k : Int) _ _ (HRX.out _ (Cw.prop _)) BX.out HBX.out) (fun w' h => HK2.out _ _ (Cw.prop _) h) | with_reducible exact Cw.call (has_c uy _ (k : Int) _ _ (HRY.out _ (Cw.prop _)) BY.out HBY.out) (fun w' h => HK2.out _ _ (Cw.prop _) h)))))
      all_goals
        refine wpQuiet_nil ?_
        intro w13 hw13
        obtain ⟨⟨w13, hS13⟩, rfl⟩ := hw13
        have h13 := HXS.out _ hS13
        have HF13 := Lib.hid (HI.out.trans h13)
        clear h13 hS13 f0 HRZ HRX HRY HK2 HXS ne
        go_wp2
        go_roundg (gk - 1)
        case measure => have := HGI.out; have := HIL.out; omega
        case rel => exact ⟨i + 1, by first | rfl | go_num, by have := HGI.out; have := HIL.out; omega, HF13⟩
    · have b2 : decide (i < L.length) = false := decide_eq_false hi
      obtain ⟨Az, cz, rfl⟩ := HZ2.out.rd.len
      have hzl : (seenList z).length ≤ L.length := HWS.out.2
      have b3 : decide ((seenList z).length ≤ L.length) = true := decide_eq_true hzl
      clear hi
      go_wp2
      go_ret
      exact ⟨by first | rfl | (simp [iw_length, hzl]; done), HF11.out.trans HI.out⟩
theorem more_c (Al Aa Ab : Option Addr) (cl ca cb : Nat) (l a b : List Int) (w : World)
    (hl : Rd w (.slice Al l.length cl) (uw l)) (ha : Rd w (.slice Aa a.length ca) (uw a)) (hb : Rd w (.slice Ab b.length cb) (uw b)) (hok : okWs l) (hoa : okWs a) (hob : okWs b) :
    Calls Try.prog 10 #[.slice Al l.length cl, .slice Aa a.length ca, .slice Ab b.length cb] w fun e w' => e = .returned (.bool true) ∧ Fr w w' (fun _ => False) := by
  by_cases h : 400 < l.length ∨ 20 < a.length ∨ 20 < b.length
  · exact more_far Al Aa Ab l.length cl a.length ca b.length cb w h
  · cases hs : soundB l (a ++ b) with
    | false => exact more_no Al Aa Ab cl ca cb l a b w (by omega) (by omega) (by omega) hl ha hb hok hoa hob hs
    | true =>
      obtain ⟨L, S⟩ := snd_of hs
      exact more_yes Al Aa Ab cl ca cb l a b w (by omega) (by omega) (by omega) hl ha hb hok hoa hob hs L S
end Go.Proofs.Ytjiaaefpepdoeaa
