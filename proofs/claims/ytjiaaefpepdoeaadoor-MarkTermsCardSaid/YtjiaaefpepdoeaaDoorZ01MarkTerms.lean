/-
  TEXTS JOINED FOR A CLAIM (MarkTerms): Pbp. Conditions: none beyond those that each theorem states.
-/
import Derived.Test.YtjiaaefpepdoeaaDoorZ00MarkTerms
namespace Go.Proofs.YtjiaaefpepdoeaaDoor.Md
set_option linter.unusedVariables false
theorem fieldsAt_put {ws l : List Int} {x : Int} {n : Nat} (hn : n ≤ l.length) : fieldsAt (ws ++ x :: l) ws.length n = l.take n := by
 unfold fieldsAt
 apply List.ext_getElem?
 intro i
 rw [List.getElem?_map, List.getElem?_take]
 by_cases hi : i < n
 ·rw [List.getElem?_range hi, if_pos hi, Option.map_some]
  unfold rd0 rdAt
  rw [if_pos (by constructor; omega; rw [List.length_append, List.length_cons]; omega)]
  have e : ((ws.length : Int) + 1 + (i : Int)).toNat = ws.length + (1 + i) := by omega
  rw [e, List.getD_eq_getElem?_getD, List.getElem?_append_right (by omega), show ws.length + (1 + i) - ws.length = i + 1 by omega, List.getElem?_cons_succ, List.getElem?_eq_getElem (by omega)]
  rfl
 ·rw [if_neg hi, List.getElem?_eq_none (by simp; omega)]
  rfl
theorem objAt_put {ws l : List Int} {h : Hdr} (hm : mayH h = true) (hs : h.size = l.length) : objAt (ws ++ makeH h :: l) ws.length = some h := by
 refine objAt_mk (by omega) (by rw [List.length_append, List.length_cons]; omega) ?_ (by rw [List.length_append, List.length_cons]; omega)
 rw [List.getD_eq_getElem?_getD, List.getElem?_append_right (by omega)]
 simp only [Int.toNat_natCast, Nat.sub_self, List.getElem?_cons_zero, Option.getD_some]
 exact read_makeH hm
theorem Bl.put {ws l : List Int} {a : Int} {h : Hdr} (hb : Bl ws (l.take (fieldsH h).toNat) a ws.length) (hm : mayH h = true) (hs : h.size = l.length) (hf : fieldsH h ≤ h.size) (hl : ws.length < 576460752303423488) :
  Bl (ws ++ makeH h :: l) [ofW 5 ws.length] a (ws ++ makeH h :: l).length := by
 have hfit : fitsW ws.length = true := by rw [fitsW_iff]; omega
 have e : (((ws ++ makeH h :: l).length : Nat) : Int) = (ws.length : Int) + 1 + h.size := by rw [List.length_append, List.length_cons]; omega
 rw [e]
 refine .obj (h := h) (c := ws.length) ?_ (objAt_put hm hs) hf (tag_ofW (by omega) (by omega) hfit) (val_ofW (by omega) (by omega) hfit) (.nil _)
 rw [fieldsAt_put (by omega)]
 exact hb.app _
theorem Bl.one {ws : List Int} {u a : Int} (h5 : tagW u ≠ 5) (h6 : tagW u ≠ 6) (h7 : tagW u ≠ 7) : Bl ws [u] a a := .imm h5 h6 h7 (.nil a)
theorem tag_of_small {t n : Int} (ht : 0 ≤ t ∧ t ≤ 4) : tagW (ofW t n) ≠ 5 ∧ tagW (ofW t n) ≠ 6 ∧ tagW (ofW t n) ≠ 7 := by
 by_cases hf : fitsW n = true
 ·rw [tag_ofW (by omega) (by omega) hf]; omega
 ·have e : ofW t n = 4 := by unfold ofW; rw [if_neg (fun h => hf h.2.2)]
  rw [e, tag_4]; omega
end Go.Proofs.YtjiaaefpepdoeaaDoor.Md
