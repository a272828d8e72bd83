/-
  PLAIN MODEL of a table of names: a list of different names, in the order in which they were first put. Conditions: none; these are definitions and small laws.
-/
import Derived.Lib.ValidU
import Derived.Lib.RuneCount
namespace Go.Proofs.YtficfpidodbdcaaDoor.Md
set_option linter.unusedVariables false
/-- a name's number -/
def fnd : List ByteArray → ByteArray → Option Nat
  | [], _ => none
  | a :: l, s => if a = s then some 0 else (fnd l s).map (· + 1)
theorem fnd_lt : ∀ {l : List ByteArray} {s : ByteArray} {i : Nat}, fnd l s = some i → i < l.length ∧ l[i]? = some s
  | [], s, i, h => by cases h
  | a :: l, s, i, h => by
    unfold fnd at h
    by_cases e : a = s
    · rw [if_pos e] at h
      injection h with h
      subst h
      simp [e]
    · rw [if_neg e] at h
      cases hf : fnd l s with
      | none => rw [hf] at h; cases h
      | some j =>
        rw [hf] at h
        simp at h
        subst h
        have := fnd_lt hf
        simpa using this
theorem fnd_none : ∀ {l : List ByteArray} {s : ByteArray}, fnd l s = none → s ∉ l
  | [], s, _ => by simp
  | a :: l, s, h => by
    unfold fnd at h
    by_cases e : a = s
    · rw [if_pos e] at h; cases h
    · rw [if_neg e] at h
      cases hf : fnd l s with
      | none => have := fnd_none hf; simp [this, Ne.symm e]
      | some j => rw [hf] at h; cases h
theorem fnd_of_not : ∀ {l : List ByteArray} {s : ByteArray}, s ∉ l → fnd l s = none
  | [], s, _ => rfl
  | a :: l, s, h => by
    unfold fnd
    simp only [List.mem_cons, not_or] at h
    rw [if_neg (fun e => h.1 e.symm), fnd_of_not h.2]
    rfl
theorem fnd_app_in : ∀ {l : List ByteArray} {s t : ByteArray} {i : Nat}, fnd l s = some i → fnd (l ++ [t]) s = some i
  | [], s, t, i, h => by cases h
  | a :: l, s, t, i, h => by
    unfold fnd at h
    rw [List.cons_append]
    unfold fnd
    by_cases e : a = s
    · rw [if_pos e] at h ⊢; exact h
    · rw [if_neg e] at h ⊢
      cases hf : fnd l s with
      | none => rw [hf] at h; cases h
      | some j => rw [hf] at h; rw [fnd_app_in hf]; exact h
theorem fnd_app_self : ∀ {l : List ByteArray} {s : ByteArray}, fnd l s = none → fnd (l ++ [s]) s = some l.length
  | [], s, _ => by simp [fnd]
  | a :: l, s, h => by
    unfold fnd at h
    rw [List.cons_append]
    unfold fnd
    by_cases e : a = s
    · rw [if_pos e] at h; cases h
    · rw [if_neg e] at h ⊢
      cases hf : fnd l s with
      | none => rw [fnd_app_self hf]; simp
      | some j => rw [hf] at h; cases h
theorem fnd_app_other : ∀ {l : List ByteArray} {s t : ByteArray}, fnd l s = none → t ≠ s → fnd (l ++ [t]) s = none := fun h ht =>
  fnd_of_not (by simp [fnd_none h, Ne.symm ht])
/-- what stands at a place of a list without doubles is found there -/
theorem fnd_at : ∀ {l : List ByteArray} {s : ByteArray} {i : Nat}, l.Nodup → l[i]? = some s → fnd l s = some i
  | [], s, i, _, h => by simp at h
  | a :: l, s, i, hn, h => by
    obtain ⟨h1, h2⟩ := List.nodup_cons.1 hn
    unfold fnd
    cases i with
    | zero => simp at h; rw [if_pos h]
    | succ i =>
      simp at h
      have hm : s ∈ l := List.mem_of_getElem? h
      rw [if_neg (fun e => h1 (by rw [e]; exact hm)), fnd_at h2 h]
      rfl
def vld (s : ByteArray) : Bool := Lib.validD s.data.toList
def cnt (s : ByteArray) : Nat := Lib.runeCount s
structure Put where
  n : Int
  e : Int
  l : List ByteArray
/-- a name is put -/
def putM (l : List ByteArray) (s : ByteArray) : Put :=
  if vld s = false then ⟨0, 4, l⟩
  else if 255 < cnt s then ⟨0, 3, l⟩
  else match fnd l s with
    | some i => ⟨i, 0, l⟩
    | none => ⟨l.length, 0, l ++ [s]⟩
end Go.Proofs.YtficfpidodbdcaaDoor.Md
