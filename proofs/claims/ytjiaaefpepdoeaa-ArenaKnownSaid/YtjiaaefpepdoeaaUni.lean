/-
  ONE CONTRACT A METHOD, for all arguments: Take, Set, Get, Cut of both arenas. No condition but that the arena stands.
-/
import Derived.Test.YtjiaaefpepdoeaaTwo
namespace Go.Proofs.Ytjiaaefpepdoeaa
open Go.RowKit Md
set_option linter.unusedVariables false
def takeB (ws : List Int) (s n : Int) : Bool := decide (0 ≤ n ∧ n ≤ s - ws.length)
def takeR (ws : List Int) (s n : Int) : Int := if takeB ws s n then ws.length else 0
def takeW (ws : List Int) (s n : Int) : List Int := if takeB ws s n then ws ++ List.replicate n.toNat 0 else ws
def setB (ws : List Int) (n : Int) : Bool := decide (0 ≤ n ∧ n < ws.length)
def setW (ws : List Int) (n x : Int) : List Int := if setB ws n then wrAt ws n x else ws
def getR (ws : List Int) (n : Int) : Int := (rdAt ws n).getD 0
def getB (ws : List Int) (n : Int) : Bool := (rdAt ws n).isSome
def cutB (ws : List Int) (n s' : Int) : Bool := decide (0 ≤ n ∧ n ≤ ws.length ∧ n ≤ s' ∧ s' ≤ 1048576)
def cutW (ws : List Int) (n s' : Int) : List Int := if cutB ws n s' then ws.take n.toNat else ws
def cutS (ws : List Int) (s n s' : Int) : Int := if cutB ws n s' then s' else s
theorem Ar.chg_drawn {T : TypeId} {w w1 : World} {p : Nat} {v : Value} {ws : List Int} {s : Int} (h : Ar T w p v ws s) (hd : Drawn w w1) : Chg T w w1 p v v ws s :=
  ⟨h.fr (hd.fr _), hd.fr _, fun k h => .inl h⟩
theorem take_u (p : Nat) (v : Value) (ws : List Int) (s n : Int) (w : World) (h : Ar 101 w p v ws s) :
    Calls Try.prog 19 #[.pointer (some ⟨p, 0, none⟩), .int .i64 n] w fun e w' => e = .returned (.tuple #[.int .i64 (takeR ws s n), .bool (takeB ws s n)]) ∧ ∃ v', Chg 101 w w' p v v' (takeW ws s n) s := by
  cases hb : takeB ws s n with
  | true =>
    have h1 := of_decide_eq_true hb
    obtain ⟨k, rfl⟩ := Int.eq_ofNat_of_zero_le h1.1
    refine (take_c p v ws s k w h h1.2).mono ?_
    rintro e w' ⟨rfl, v', h2⟩
    refine ⟨by simp only [takeR, hb, if_true], v', ?_⟩
    simp only [takeW, hb, if_true]
    exact h2
  | false =>
    have h1 := of_decide_eq_false hb
    refine (take_no p v ws s n w h (by omega)).mono ?_
    rintro e w' ⟨rfl, h2⟩
    refine ⟨by simp only [takeR, hb]; rfl, v, ?_⟩
    simp only [takeW, hb]
    exact h.chg_drawn h2
theorem set_u (p : Nat) (v : Value) (ws : List Int) (s n x : Int) (w : World) (h : Ar 101 w p v ws s) (hx : okW x) :
    Calls Try.prog 21 #[.pointer (some ⟨p, 0, none⟩), .int .i64 n, .int .u64 x] w fun e w' => e = .returned (.bool (setB ws n)) ∧ Chg 101 w w' p v v (setW ws n x) s := by
  cases hb : setB ws n with
  | true =>
    refine (set_c p v ws s n x w h hx (of_decide_eq_true hb)).mono ?_
    rintro e w' ⟨rfl, h1, h2⟩
    refine ⟨rfl, ?_⟩
    simp only [setW, hb, if_true]
    exact Chg.of_set h1 h2
  | false =>
    refine (set_no p v ws s n x w h (of_decide_eq_false hb)).mono ?_
    rintro e w' ⟨rfl, rfl⟩
    refine ⟨rfl, ?_⟩
    simp only [setW, hb]
    exact Chg.same h
theorem get_u (p : Nat) (v : Value) (ws : List Int) (s n : Int) (w : World) (h : Ar 101 w p v ws s) :
    Calls Try.prog 23 #[.pointer (some ⟨p, 0, none⟩), .int .i64 n] w fun e w' => e = .returned (.tuple #[.int .u64 (getR ws n), .bool (getB ws n)]) ∧ w = w' := by
  cases hb : rdAt ws n with
  | some r => simp only [getR, getB, hb, Option.getD_some, Option.isSome_some]; exact get_c p v ws s n r w h hb
  | none => simp only [getR, getB, hb, Option.getD_none, Option.isSome_none]; exact get_no p v ws s n w h hb
theorem cut_u (p : Nat) (v : Value) (ws : List Int) (s n s' : Int) (w : World) (h : Ar 101 w p v ws s) :
    Calls Try.prog 25 #[.pointer (some ⟨p, 0, none⟩), .int .i64 n, .int .i64 s'] w fun e w' => e = .returned (.bool (cutB ws n s')) ∧ ∃ v', Chg 101 w w' p v v' (cutW ws n s') (cutS ws s n s') := by
  cases hb : cutB ws n s' with
  | true =>
    have h1 := of_decide_eq_true hb
    obtain ⟨k, rfl⟩ := Int.eq_ofNat_of_zero_le h1.1
    refine (cut_c p v ws s k s' w h (by omega) h1.2.2.1 h1.2.2.2).mono ?_
    rintro e w' ⟨rfl, v', h2, h3, h4⟩
    refine ⟨rfl, v', ?_⟩
    simp only [cutW, cutS, hb, if_true]
    exact Chg.of_cut h2 h3 h4
  | false =>
    have h1 := of_decide_eq_false hb
    refine (cut_no p v ws s n s' w h (by omega)).mono ?_
    rintro e w' ⟨rfl, rfl⟩
    refine ⟨rfl, v, ?_⟩
    simp only [cutW, cutS, hb]
    exact Chg.same h
theorem mtake_u (p : Nat) (v : Value) (ws : List Int) (s n : Int) (w : World) (h : Ar 41 w p v ws s) :
    Calls Try.prog 20 #[.pointer (some ⟨p, 0, none⟩), .int .i64 n] w fun e w' => e = .returned (.tuple #[.int .i64 (takeR ws s n), .bool (takeB ws s n)]) ∧ ∃ v', Chg 41 w w' p v v' (takeW ws s n) s := by
  cases hb : takeB ws s n with
  | true =>
    have h1 := of_decide_eq_true hb
    obtain ⟨k, rfl⟩ := Int.eq_ofNat_of_zero_le h1.1
    refine (mtake_c p v ws s k w h h1.2).mono ?_
    rintro e w' ⟨rfl, v', h2⟩
    refine ⟨by simp only [takeR, hb, if_true], v', ?_⟩
    simp only [takeW, hb, if_true]
    exact h2
  | false =>
    have h1 := of_decide_eq_false hb
    refine (mtake_no p v ws s n w h (by omega)).mono ?_
    rintro e w' ⟨rfl, h2⟩
    refine ⟨by simp only [takeR, hb]; rfl, v, ?_⟩
    simp only [takeW, hb]
    exact h.chg_drawn h2
theorem mset_u (p : Nat) (v : Value) (ws : List Int) (s n x : Int) (w : World) (h : Ar 41 w p v ws s) (hx : okW x) :
    Calls Try.prog 22 #[.pointer (some ⟨p, 0, none⟩), .int .i64 n, .int .u64 x] w fun e w' => e = .returned (.bool (setB ws n)) ∧ Chg 41 w w' p v v (setW ws n x) s := by
  cases hb : setB ws n with
  | true =>
    refine (mset_c p v ws s n x w h hx (of_decide_eq_true hb)).mono ?_
    rintro e w' ⟨rfl, h1, h2⟩
    refine ⟨rfl, ?_⟩
    simp only [setW, hb, if_true]
    exact Chg.of_set h1 h2
  | false =>
    refine (mset_no p v ws s n x w h (of_decide_eq_false hb)).mono ?_
    rintro e w' ⟨rfl, rfl⟩
    refine ⟨rfl, ?_⟩
    simp only [setW, hb]
    exact Chg.same h
theorem mget_u (p : Nat) (v : Value) (ws : List Int) (s n : Int) (w : World) (h : Ar 41 w p v ws s) :
    Calls Try.prog 24 #[.pointer (some ⟨p, 0, none⟩), .int .i64 n] w fun e w' => e = .returned (.tuple #[.int .u64 (getR ws n), .bool (getB ws n)]) ∧ w = w' := by
  cases hb : rdAt ws n with
  | some r => simp only [getR, getB, hb, Option.getD_some, Option.isSome_some]; exact mget_c p v ws s n r w h hb
  | none => simp only [getR, getB, hb, Option.getD_none, Option.isSome_none]; exact mget_no p v ws s n w h hb
theorem mcut_u (p : Nat) (v : Value) (ws : List Int) (s n s' : Int) (w : World) (h : Ar 41 w p v ws s) :
    Calls Try.prog 26 #[.pointer (some ⟨p, 0, none⟩), .int .i64 n, .int .i64 s'] w fun e w' => e = .returned (.bool (cutB ws n s')) ∧ ∃ v', Chg 41 w w' p v v' (cutW ws n s') (cutS ws s n s') := by
  cases hb : cutB ws n s' with
  | true =>
    have h1 := of_decide_eq_true hb
    obtain ⟨k, rfl⟩ := Int.eq_ofNat_of_zero_le h1.1
    refine (mcut_c p v ws s k s' w h (by omega) h1.2.2.1 h1.2.2.2).mono ?_
    rintro e w' ⟨rfl, v', h2, h3, h4⟩
    refine ⟨rfl, v', ?_⟩
    simp only [cutW, cutS, hb, if_true]
    exact Chg.of_cut h2 h3 h4
  | false =>
    have h1 := of_decide_eq_false hb
    refine (mcut_no p v ws s n s' w h (by omega)).mono ?_
    rintro e w' ⟨rfl, rfl⟩
    refine ⟨rfl, v, ?_⟩
    simp only [cutW, cutS, hb]
    exact Chg.same h
end Go.Proofs.Ytjiaaefpepdoeaa
