/-
  PLAIN MODEL (no program in sight) of words, arenas, marking, threading and sliding over lists of whole numbers. Conditions: none; these are definitions.
-/
namespace Go.Proofs.YtficfpidodbdcaaDoor.Md
set_option linter.unusedVariables false

/-! ### words -/
def tagW (w : Int) : Int := w % 16
def valW (w : Int) : Int := if w < 9223372036854775808 then w / 16 else w / 16 - 1152921504606846976
def fitsW (n : Int) : Bool := decide (-576460752303423488 ≤ n) && decide (n ≤ 576460752303423487)
def ofW (t n : Int) : Int := if 0 ≤ t ∧ t ≤ 7 ∧ fitsW n = true then (n % 1152921504606846976) * 16 + t else 4
def okW (w : Int) : Prop := 0 ≤ w ∧ w < 18446744073709551616
def okWs (l : List Int) : Prop := ∀ w ∈ l, okW w
structure Hdr where
  kind : Int
  size : Int
  tree : Int
  neg : Bool
  deriving DecidableEq
def hdr0 : Hdr := ⟨0, 0, 0, false⟩
def mayH (h : Hdr) : Bool := decide (0 ≤ h.kind) && decide (h.kind ≤ 3) && decide (0 ≤ h.size) && decide (h.size < 1048576) && decide (0 ≤ h.tree) && decide (h.tree < 1048576)
def packH (h : Hdr) : Int := h.kind + (if h.neg then 4 else 0) + h.size * 8 + h.tree * 8388608
def makeH (h : Hdr) : Int := if mayH h = true then ofW 6 (packH h) else 4
def unpackH (v : Int) : Hdr := ⟨v % 4, v / 8 % 1048576, v / 8388608, decide (v / 4 % 2 = 1)⟩
def readH (w : Int) : Option Hdr := if tagW w = 6 ∧ 0 ≤ valW w ∧ valW w < 8796093022208 then some (unpackH (valW w)) else none
def fieldsH (h : Hdr) : Int := if h.kind = 0 then 2 else if h.kind = 1 then h.size else 0

/-! ### lists by whole numbers -/
def rdAt (xs : List Int) (i : Int) : Option Int := if 0 ≤ i ∧ i < xs.length then some (xs.getD i.toNat 0) else none
def rd0 (xs : List Int) (i : Int) : Int := (rdAt xs i).getD 0
def wrAt (xs : List Int) (i : Int) (v : Int) : List Int := if 0 ≤ i ∧ i < xs.length then xs.set i.toNat v else xs

/-! ### arenas -/
def objAt (ws : List Int) (at_ : Int) : Option Hdr :=
  match rdAt ws at_ with
  | none => none
  | some w => match readH w with
    | none => none
    | some h => if h.size < ws.length - at_ then some h else none
def obj0 (ws : List Int) (at_ : Int) : Hdr := (objAt ws at_).getD hdr0
/-- the places of all objects from a place on -/
def objsFrom (ws : List Int) : Nat → Int → Option (List Int)
  | 0, at_ => if at_ < ws.length then none else some []
  | k + 1, at_ => if at_ < ws.length then
      match objAt ws at_ with
      | none => none
      | some h => (objsFrom ws k (at_ + 1 + h.size)).map (at_ :: ·)
    else some []
def objs (ws : List Int) : Option (List Int) := objsFrom ws ws.length 0

/-! ### what is reached -/
def fieldsAt (ws : List Int) (at_ : Int) (n : Nat) : List Int := (List.range n).map fun (i : Nat) => rd0 ws (at_ + 1 + (i : Int))
def nFields (h : Hdr) : Nat := (min (fieldsH h) h.size).toNat
/-- the stack's last is its list's last -/
def liveM (ws : List Int) : Nat → List Bool → List Int → Option (List Bool)
  | 0, _, _ => none
  | k + 1, seen, todo =>
    match todo.getLast? with
    | none => some seen
    | some w =>
      let rest := todo.dropLast
      if tagW w = 5 then
        match objAt ws (valW w) with
        | none => none
        | some h =>
          if seen.getD (valW w).toNat false then liveM ws k seen rest
          else liveM ws k (seen.set (valW w).toNat true) (rest ++ fieldsAt ws (valW w) (nFields h))
      else liveM ws k seen rest
def seenList (seen : List Bool) : List Int := ((List.range seen.length).filter fun (i : Nat) => seen.getD i false).map fun (i : Nat) => (i : Int)
def soundW (w : Int) (is : List Bool) : Bool :=
  if tagW w = 6 ∨ tagW w = 7 then false
  else if tagW w = 5 then decide (0 ≤ valW w) && decide (valW w < is.length) && is.getD (valW w).toNat false
  else true
def isList (n : Nat) (l : List Int) : List Bool := (List.range n).map fun (i : Nat) => decide ((i : Int) ∈ l)
def soundAt (ws : List Int) (is : List Bool) (at_ : Int) : Bool :=
  let h := obj0 ws at_
  decide (fieldsH h ≤ h.size) && (fieldsAt ws at_ (fieldsH h).toNat).all fun w => soundW w is
def soundB (ws rs : List Int) : Bool :=
  match objs ws with
  | none => false
  | some l => (rs.all fun w => soundW w (isList ws.length l)) && l.all fun at_ => soundAt ws (isList ws.length l) at_
def wordsM (ws : List Int) (l : List Int) : Int := (l.map fun at_ => 1 + (obj0 ws at_).size).sum

/-! ### threading -/
structure Fld where
  root : Bool
  at_ : Int
  deriving DecidableEq
def fGet (ws rs : List Int) (f : Fld) : Option Int := if f.root then rdAt rs f.at_ else rdAt ws f.at_
def fSetW (ws : List Int) (f : Fld) (v : Int) : List Int := if f.root then ws else wrAt ws f.at_ v
def fSetR (rs : List Int) (f : Fld) (v : Int) : List Int := if f.root then wrAt rs f.at_ v else rs
def linkF (f : Fld) : Int := ofW 7 (2 * f.at_ + if f.root then 1 else 0)
def linked (w : Int) : Fld := ⟨decide (valW w % 2 = 1), valW w / 2⟩
def threadM (ws rs : List Int) (f : Fld) : Option (List Int × List Int) :=
  match fGet ws rs f with
  | none => none
  | some w =>
    if tagW w = 5 ∧ 0 ≤ valW w ∧ valW w < ws.length ∧ (f.root = true ∨ f.at_ ≠ valW w) then
      let x := rd0 ws (valW w)
      some (wrAt (fSetW ws f x) (valW w) (linkF f), fSetR rs f x)
    else none
structure Loosed where
  n : Nat
  ok : Bool
  ws : List Int
  rs : List Int
def looseM : Nat → List Int → List Int → Int → Int → Loosed
  | 0, ws, rs, at_, to => match rdAt ws at_ with
    | none => ⟨0, true, ws, rs⟩
    | some w => if tagW w = 7 then ⟨0, false, ws, rs⟩ else ⟨0, true, ws, rs⟩
  | k + 1, ws, rs, at_, to => match rdAt ws at_ with
    | none => ⟨0, true, ws, rs⟩
    | some w => if tagW w = 7 then
        match fGet ws rs (linked w) with
        | none => ⟨0, false, ws, rs⟩
        | some x =>
          let r := looseM k (fSetW (wrAt ws at_ x) (linked w) (ofW 5 to)) (fSetR rs (linked w) (ofW 5 to)) at_ to
          ⟨r.n + 1, r.ok, r.ws, r.rs⟩
      else ⟨0, true, ws, rs⟩
def chainM (ws rs : List Int) : Nat → Int → Option (List Fld)
  | 0, w => if tagW w = 7 then none else some []
  | k + 1, w => if tagW w = 7 then
      match fGet ws rs (linked w) with
      | none => none
      | some x => (chainM ws rs k x).map (linked w :: ·)
    else some []

/-! ### sliding -/
def goneM (ws : List Int) : List Int → List Int → List Int
  | _, [] => []
  | live, at_ :: all =>
    if live.head? = some at_ then goneM ws live.tail all
    else
      let h := obj0 ws at_
      let r := goneM ws live all
      match rdAt ws (at_ + 1) with
      | none => r
      | some x => if h.kind = 3 ∧ 0 < h.size ∧ x ≠ 0 then (if x < 9223372036854775808 then x else x - 18446744073709551616) :: r else r
def threadAll (f : Fld → Fld) (s : List Int × List Int) : List Fld → List Int × List Int
  | [] => s
  | x :: l => threadAll f ((threadM s.1 s.2 x).getD s) l
def upFields (at_ : Int) (h : Hdr) : List Fld := (List.range (fieldsH h).toNat).map fun (k : Nat) => ⟨false, at_ + 1 + (k : Int)⟩
structure Up where
  ws : List Int
  rs : List Int
  hs : List Hdr
def upM : List Int → Int → List Int → List Int → Up
  | [], _, ws, rs => ⟨ws, rs, []⟩
  | at_ :: l, to, ws, rs =>
    let r := looseM (ws.length + rs.length) ws rs at_ to
    let h := obj0 r.ws at_
    let s := threadAll id (r.ws, r.rs) (upFields at_ h)
    let u := upM l (to + 1 + h.size) s.1 s.2
    ⟨u.ws, u.rs, h :: u.hs⟩
def moveM (from_ to : Int) : Nat → List Int → List Int
  | 0, ws => ws
  | n + 1, ws => let ws' := moveM from_ to n ws; wrAt ws' (to + n) (rd0 ws' (from_ + n))
structure Down where
  ws : List Int
  rs : List Int
  to : Int
  moved : Int
def downM : List (Int × Hdr) → Int → Int → List Int → List Int → Down
  | [], to, m, ws, rs => ⟨ws, rs, to, m⟩
  | (at_, h) :: l, to, m, ws, rs =>
    let r := looseM (ws.length + rs.length) ws rs at_ to
    if at_ ≠ to then downM l (to + 1 + h.size) (m + 1) (moveM at_ to (1 + h.size).toNat r.ws) r.rs
    else downM l (to + 1 + h.size) m r.ws r.rs
end Go.Proofs.YtficfpidodbdcaaDoor.Md
