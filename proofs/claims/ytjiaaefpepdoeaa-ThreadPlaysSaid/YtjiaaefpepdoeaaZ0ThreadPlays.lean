/-
  TEXTS JOINED FOR A CLAIM (ThreadPlays): Mdl Enc Head Jk Lay. What each proves, and under which conditions, stands at its head. Conditions: none beyond those.
-/
/-
  PLAIN MODEL (no program in sight) of words, arenas, marking, threading and sliding over lists of whole numbers. Conditions: none; these are definitions.
-/
namespace Go.Proofs.Ytjiaaefpepdoeaa.Md
set_option linter.unusedVariables false

/-! ### words -/
def tagW (w : Int) : Int := w % 16
def valW (w : Int) : Int := if w < 9223372036854775808 then w / 16 else w / 16 - 1152921504606846976
def fitsW (n : Int) : Bool := decide (-576460752303423488 ≤ n) && decide (n ≤ 576460752303423487)
def ofW (t n : Int) : Int := if 0 ≤ t ∧ t ≤ 7 ∧ fitsW n = true then (n % 1152921504606846976) * 16 + t else 4
def okW (w : Int) : Prop := 0 ≤ w ∧ w < 18446744073709551616
def okWs (l : List Int) : Prop := ∀ w ∈ l, okW w
structure Hdr where
  kind : Int
  size : Int
  tree : Int
  neg : Bool
  deriving DecidableEq
def hdr0 : Hdr := ⟨0, 0, 0, false⟩
def mayH (h : Hdr) : Bool := decide (0 ≤ h.kind) && decide (h.kind ≤ 3) && decide (0 ≤ h.size) && decide (h.size < 1048576) && decide (0 ≤ h.tree) && decide (h.tree < 1048576)
def packH (h : Hdr) : Int := h.kind + (if h.neg then 4 else 0) + h.size * 8 + h.tree * 8388608
def makeH (h : Hdr) : Int := if mayH h = true then ofW 6 (packH h) else 4
def unpackH (v : Int) : Hdr := ⟨v % 4, v / 8 % 1048576, v / 8388608, decide (v / 4 % 2 = 1)⟩
def readH (w : Int) : Option Hdr := if tagW w = 6 ∧ 0 ≤ valW w ∧ valW w < 8796093022208 then some (unpackH (valW w)) else none
def fieldsH (h : Hdr) : Int := if h.kind = 0 then 2 else if h.kind = 1 then h.size else 0

/-! ### lists by whole numbers -/
def rdAt (xs : List Int) (i : Int) : Option Int := if 0 ≤ i ∧ i < xs.length then some (xs.getD i.toNat 0) else none
def rd0 (xs : List Int) (i : Int) : Int := (rdAt xs i).getD 0
def wrAt (xs : List Int) (i : Int) (v : Int) : List Int := if 0 ≤ i ∧ i < xs.length then xs.set i.toNat v else xs

/-! ### arenas -/
def objAt (ws : List Int) (at_ : Int) : Option Hdr :=
  match rdAt ws at_ with
  | none => none
  | some w => match readH w with
    | none => none
    | some h => if h.size < ws.length - at_ then some h else none
def obj0 (ws : List Int) (at_ : Int) : Hdr := (objAt ws at_).getD hdr0
/-- the places of all objects from a place on -/
def objsFrom (ws : List Int) : Nat → Int → Option (List Int)
  | 0, at_ => if at_ < ws.length then none else some []
  | k + 1, at_ => if at_ < ws.length then
      match objAt ws at_ with
      | none => none
      | some h => (objsFrom ws k (at_ + 1 + h.size)).map (at_ :: ·)
    else some []
def objs (ws : List Int) : Option (List Int) := objsFrom ws ws.length 0

/-! ### what is reached -/
def fieldsAt (ws : List Int) (at_ : Int) (n : Nat) : List Int := (List.range n).map fun (i : Nat) => rd0 ws (at_ + 1 + (i : Int))
def nFields (h : Hdr) : Nat := (min (fieldsH h) h.size).toNat
/-- the stack's last is its list's last -/
def liveM (ws : List Int) : Nat → List Bool → List Int → Option (List Bool)
  | 0, _, _ => none
  | k + 1, seen, todo =>
    match todo.getLast? with
    | none => some seen
    | some w =>
      let rest := todo.dropLast
      if tagW w = 5 then
        match objAt ws (valW w) with
        | none => none
        | some h =>
          if seen.getD (valW w).toNat false then liveM ws k seen rest
          else liveM ws k (seen.set (valW w).toNat true) (rest ++ fieldsAt ws (valW w) (nFields h))
      else liveM ws k seen rest
def seenList (seen : List Bool) : List Int := ((List.range seen.length).filter fun (i : Nat) => seen.getD i false).map fun (i : Nat) => (i : Int)
def soundW (w : Int) (is : List Bool) : Bool :=
  if tagW w = 6 ∨ tagW w = 7 then false
  else if tagW w = 5 then decide (0 ≤ valW w) && decide (valW w < is.length) && is.getD (valW w).toNat false
  else true
def isList (n : Nat) (l : List Int) : List Bool := (List.range n).map fun (i : Nat) => decide ((i : Int) ∈ l)
def soundAt (ws : List Int) (is : List Bool) (at_ : Int) : Bool :=
  let h := obj0 ws at_
  decide (fieldsH h ≤ h.size) && (fieldsAt ws at_ (fieldsH h).toNat).all fun w => soundW w is
def soundB (ws rs : List Int) : Bool :=
  match objs ws with
  | none => false
  | some l => (rs.all fun w => soundW w (isList ws.length l)) && l.all fun at_ => soundAt ws (isList ws.length l) at_
def wordsM (ws : List Int) (l : List Int) : Int := (l.map fun at_ => 1 + (obj0 ws at_).size).sum

/-! ### threading -/
structure Fld where
  root : Bool
  at_ : Int
  deriving DecidableEq
def fGet (ws rs : List Int) (f : Fld) : Option Int := if f.root then rdAt rs f.at_ else rdAt ws f.at_
def fSetW (ws : List Int) (f : Fld) (v : Int) : List Int := if f.root then ws else wrAt ws f.at_ v
def fSetR (rs : List Int) (f : Fld) (v : Int) : List Int := if f.root then wrAt rs f.at_ v else rs
def linkF (f : Fld) : Int := ofW 7 (2 * f.at_ + if f.root then 1 else 0)
def linked (w : Int) : Fld := ⟨decide (valW w % 2 = 1), valW w / 2⟩
def threadM (ws rs : List Int) (f : Fld) : Option (List Int × List Int) :=
  match fGet ws rs f with
  | none => none
  | some w =>
    if tagW w = 5 ∧ 0 ≤ valW w ∧ valW w < ws.length ∧ (f.root = true ∨ f.at_ ≠ valW w) then
      let x := rd0 ws (valW w)
      some (wrAt (fSetW ws f x) (valW w) (linkF f), fSetR rs f x)
    else none
structure Loosed where
  n : Nat
  ok : Bool
  ws : List Int
  rs : List Int
def looseM : Nat → List Int → List Int → Int → Int → Loosed
  | 0, ws, rs, at_, to => match rdAt ws at_ with
    | none => ⟨0, true, ws, rs⟩
    | some w => if tagW w = 7 then ⟨0, false, ws, rs⟩ else ⟨0, true, ws, rs⟩
  | k + 1, ws, rs, at_, to => match rdAt ws at_ with
    | none => ⟨0, true, ws, rs⟩
    | some w => if tagW w = 7 then
        match fGet ws rs (linked w) with
        | none => ⟨0, false, ws, rs⟩
        | some x =>
          let r := looseM k (fSetW (wrAt ws at_ x) (linked w) (ofW 5 to)) (fSetR rs (linked w) (ofW 5 to)) at_ to
          ⟨r.n + 1, r.ok, r.ws, r.rs⟩
      else ⟨0, true, ws, rs⟩
def chainM (ws rs : List Int) : Nat → Int → Option (List Fld)
  | 0, w => if tagW w = 7 then none else some []
  | k + 1, w => if tagW w = 7 then
      match fGet ws rs (linked w) with
      | none => none
      | some x => (chainM ws rs k x).map (linked w :: ·)
    else some []

/-! ### sliding -/
def goneM (ws : List Int) : List Int → List Int → List Int
  | _, [] => []
  | live, at_ :: all =>
    if live.head? = some at_ then goneM ws live.tail all
    else
      let h := obj0 ws at_
      let r := goneM ws live all
      match rdAt ws (at_ + 1) with
      | none => r
      | some x => if h.kind = 3 ∧ 0 < h.size ∧ x ≠ 0 then (if x < 9223372036854775808 then x else x - 18446744073709551616) :: r else r
def threadAll (f : Fld → Fld) (s : List Int × List Int) : List Fld → List Int × List Int
  | [] => s
  | x :: l => threadAll f ((threadM s.1 s.2 x).getD s) l
def upFields (at_ : Int) (h : Hdr) : List Fld := (List.range (fieldsH h).toNat).map fun (k : Nat) => ⟨false, at_ + 1 + (k : Int)⟩
structure Up where
  ws : List Int
  rs : List Int
  hs : List Hdr
def upM : List Int → Int → List Int → List Int → Up
  | [], _, ws, rs => ⟨ws, rs, []⟩
  | at_ :: l, to, ws, rs =>
    let r := looseM (ws.length + rs.length) ws rs at_ to
    let h := obj0 r.ws at_
    let s := threadAll id (r.ws, r.rs) (upFields at_ h)
    let u := upM l (to + 1 + h.size) s.1 s.2
    ⟨u.ws, u.rs, h :: u.hs⟩
def moveM (from_ to : Int) : Nat → List Int → List Int
  | 0, ws => ws
  | n + 1, ws => let ws' := moveM from_ to n ws; wrAt ws' (to + n) (rd0 ws' (from_ + n))
structure Down where
  ws : List Int
  rs : List Int
  to : Int
  moved : Int
def downM : List (Int × Hdr) → Int → Int → List Int → List Int → Down
  | [], to, m, ws, rs => ⟨ws, rs, to, m⟩
  | (at_, h) :: l, to, m, ws, rs =>
    let r := looseM (ws.length + rs.length) ws rs at_ to
    if at_ ≠ to then downM l (to + 1 + h.size) (m + 1) (moveM at_ to (1 + h.size).toNat r.ws) r.rs
    else downM l (to + 1 + h.size) m r.ws r.rs
end Go.Proofs.Ytjiaaefpepdoeaa.Md

namespace Go.Proofs.Ytjiaaefpepdoeaa.Md
set_option linter.unusedVariables false

theorem fitsW_iff {n : Int} : fitsW n = true ↔ -576460752303423488 ≤ n ∧ n ≤ 576460752303423487 := by
  simp [fitsW]
theorem tag_ofW {t n : Int} (h0 : 0 ≤ t) (h7 : t ≤ 7) (hf : fitsW n = true) : tagW (ofW t n) = t := by
  unfold tagW ofW
  rw [if_pos (show 0 ≤ t ∧ t ≤ 7 ∧ fitsW n = true from ⟨h0, h7, hf⟩)]
  omega
theorem val_ofW {t n : Int} (h0 : 0 ≤ t) (h7 : t ≤ 7) (hf : fitsW n = true) : valW (ofW t n) = n := by
  have e0 : ofW t n = n % 1152921504606846976 * 16 + t := by unfold ofW; exact if_pos ⟨h0, h7, hf⟩
  rw [e0]; unfold valW
  rw [fitsW_iff] at hf
  by_cases hn : 0 ≤ n
  · have e : n % 1152921504606846976 = n := Int.emod_eq_of_lt hn (by omega)
    rw [e, if_pos (by omega)]
    omega
  · have e : n % 1152921504606846976 = n + 1152921504606846976 := by omega
    rw [e, if_neg (by omega)]
    omega
theorem okW_ofW (t n : Int) : okW (ofW t n) := by
  unfold okW ofW
  split
  · rename_i h
    have := Int.emod_nonneg n (show (1152921504606846976 : Int) ≠ 0 by decide)
    have := Int.emod_lt_of_pos n (show (0 : Int) < 1152921504606846976 by decide)
    omega
  · omega
theorem tag_range (w : Int) : 0 ≤ tagW w ∧ tagW w ≤ 15 := by unfold tagW; omega
theorem fits_valW {w : Int} (h : okW w) : fitsW (valW w) = true := by
  rw [fitsW_iff]; unfold valW; unfold okW at h; split <;> omega
theorem ofW_tag_val {w : Int} (h : okW w) (ht : tagW w ≤ 7) : ofW (tagW w) (valW w) = w := by
  have hf := fits_valW h
  unfold ofW
  rw [if_pos ⟨(tag_range w).1, ht, hf⟩]
  unfold tagW valW at *
  unfold okW at h
  split <;> omega
theorem okW_ext {u v : Int} (hu : okW u) (hv : okW v) (ht : tagW u = tagW v) (hn : valW u = valW v) : u = v := by
  unfold tagW at ht; unfold valW at hn; unfold okW at hu hv
  split at hn <;> split at hn <;> omega
end Go.Proofs.Ytjiaaefpepdoeaa.Md

/-
  PLAIN LAW: headers: what is made is read as it was; what is read is made again; a header's word is that of no other header. Conditions: those named in each.
-/
namespace Go.Proofs.Ytjiaaefpepdoeaa.Md
set_option linter.unusedVariables false

theorem mayH_iff {h : Hdr} : mayH h = true ↔ 0 ≤ h.kind ∧ h.kind ≤ 3 ∧ 0 ≤ h.size ∧ h.size < 1048576 ∧ 0 ≤ h.tree ∧ h.tree < 1048576 := by
  simp [mayH, and_assoc]
theorem packH_range {h : Hdr} (hm : mayH h = true) : 0 ≤ packH h ∧ packH h < 8796093022208 := by
  rw [mayH_iff] at hm; unfold packH; split <;> omega
theorem fits_packH {h : Hdr} (hm : mayH h = true) : fitsW (packH h) = true := by
  rw [fitsW_iff]; have := packH_range hm; omega
theorem unpack_pack {h : Hdr} (hm : mayH h = true) : unpackH (packH h) = h := by
  rw [mayH_iff] at hm
  obtain ⟨k, z, t, n⟩ := h
  simp only at hm
  unfold unpackH packH
  cases n with
  | false =>
    simp only [Bool.false_eq_true, if_false, Hdr.mk.injEq, decide_eq_false_iff_not]
    exact ⟨by omega, by omega, by omega, by omega⟩
  | true =>
    simp only [if_true, Hdr.mk.injEq, decide_eq_true_eq]
    exact ⟨by omega, by omega, by omega, by omega⟩
theorem pack_unpack {v : Int} (h0 : 0 ≤ v) (h1 : v < 8796093022208) : packH (unpackH v) = v := by
  unfold packH unpackH
  by_cases h : v / 4 % 2 = 1
  · simp only [h, decide_true, if_true]; omega
  · simp only [h, decide_false, Bool.false_eq_true, if_false]; omega
theorem may_unpack {v : Int} (h0 : 0 ≤ v) (h1 : v < 8796093022208) : mayH (unpackH v) = true := by
  rw [mayH_iff]; unfold unpackH; simp only; omega
theorem tag_makeH {h : Hdr} (hm : mayH h = true) : tagW (makeH h) = 6 := by
  unfold makeH; rw [if_pos hm]; exact tag_ofW (by omega) (by omega) (fits_packH hm)
theorem val_makeH {h : Hdr} (hm : mayH h = true) : valW (makeH h) = packH h := by
  unfold makeH; rw [if_pos hm]; exact val_ofW (by omega) (by omega) (fits_packH hm)
theorem tag_4 : tagW 4 = 4 := by unfold tagW; omega
theorem may_of_tag {h : Hdr} (ht : tagW (makeH h) = 6) : mayH h = true := by
  by_cases hm : mayH h = true
  · exact hm
  · unfold makeH at ht; rw [if_neg hm, tag_4] at ht; omega
theorem okW_makeH (h : Hdr) : okW (makeH h) := by
  unfold makeH; split
  · exact okW_ofW _ _
  · unfold okW; omega
theorem read_makeH {h : Hdr} (hm : mayH h = true) : readH (makeH h) = some h := by
  have := packH_range hm
  unfold readH
  rw [if_pos ⟨tag_makeH hm, by rw [val_makeH hm]; exact this.1, by rw [val_makeH hm]; exact this.2⟩, val_makeH hm, unpack_pack hm]
theorem read_makeH_none {h : Hdr} (hm : mayH h = false) : readH (makeH h) = none := by
  have e : makeH h = 4 := by unfold makeH; rw [hm]; rfl
  have ht : ¬ (tagW 4 = 6 ∧ 0 ≤ valW 4 ∧ valW 4 < 8796093022208) := by rw [tag_4]; omega
  rw [e]; unfold readH; rw [if_neg ht]
theorem make_inj {g h : Hdr} (hg : mayH g = true) (hh : mayH h = true) (e : makeH g = makeH h) : g = h := by
  have h1 := read_makeH hg
  rw [e, read_makeH hh] at h1
  exact (Option.some.inj h1).symm
theorem read_some {w : Int} {h : Hdr} (hr : readH w = some h) : tagW w = 6 ∧ 0 ≤ valW w ∧ valW w < 8796093022208 ∧ h = unpackH (valW w) := by
  unfold readH at hr
  split at hr
  · rename_i hc; exact ⟨hc.1, hc.2.1, hc.2.2, (Option.some.inj hr).symm⟩
  · cases hr
theorem make_readH {w : Int} {h : Hdr} (hw : okW w) (hr : readH w = some h) : mayH h = true ∧ makeH h = w := by
  obtain ⟨ht, h0, h1, rfl⟩ := read_some hr
  have hm := may_unpack h0 h1
  refine ⟨hm, ?_⟩
  unfold makeH
  rw [if_pos hm, pack_unpack h0 h1, ← ht]
  exact ofW_tag_val hw (by rw [ht]; omega)
end Go.Proofs.Ytjiaaefpepdoeaa.Md

/-
  PLAIN LAW: pointers that are threaded and loosened (Jonkers), over lists of whole numbers: what a heap's words are while some fields are on threads. Conditions: rows of at most 2^50 words.
-/
namespace Go.Proofs.Ytjiaaefpepdoeaa.Md
set_option linter.unusedVariables false

inductive Loc where
  | w (i : Nat)
  | r (i : Nat)
  deriving DecidableEq
structure St where
  ws : List Int
  rs : List Int
def Loc.fld : Loc → Fld
  | .w i => ⟨false, i⟩
  | .r i => ⟨true, i⟩
def Loc.ok (s : St) : Loc → Prop
  | .w i => i < s.ws.length
  | .r i => i < s.rs.length
def Loc.above (lo : Nat) : Loc → Prop
  | .w i => lo ≤ i
  | .r _ => True
def St.get (s : St) : Loc → Int
  | .w i => s.ws.getD i 0
  | .r i => s.rs.getD i 0
def St.put (s : St) (l : Loc) (v : Int) : St := match l with
  | .w i => ⟨s.ws.set i v, s.rs⟩
  | .r i => ⟨s.ws, s.rs.set i v⟩
def St.small (s : St) : Prop := s.ws.length ≤ 1125899906842624 ∧ s.rs.length ≤ 1125899906842624
def linkL (l : Loc) : Int := linkF l.fld
def ptrW (p : Int) : Int := ofW 5 p

theorem St.put_ws (s : St) (l : Loc) (v : Int) : (s.put l v).ws.length = s.ws.length := by cases l <;> simp [St.put]
theorem St.put_rs (s : St) (l : Loc) (v : Int) : (s.put l v).rs.length = s.rs.length := by cases l <;> simp [St.put]
theorem Loc.ok_put {s : St} {l m : Loc} {v : Int} : m.ok (s.put l v) ↔ m.ok s := by
  cases m <;> simp [Loc.ok, St.put_ws, St.put_rs]
theorem St.small_put {s : St} {l : Loc} {v : Int} (h : s.small) : (s.put l v).small := by
  unfold St.small; rw [St.put_ws, St.put_rs]; exact h
theorem St.get_put {s : St} {l m : Loc} {v : Int} (hl : l.ok s) : (s.put l v).get m = if m = l then v else s.get m := by
  cases l with
  | w i =>
    cases m with
    | w j =>
      simp only [St.put, St.get, Loc.w.injEq]
      by_cases h : j = i
      · subst h; simp only [Loc.ok] at hl; simp [hl]
      · simp only [h, if_false]; simp [List.getD, Ne.symm h]
    | r j => simp [St.put, St.get]
  | r i =>
    cases m with
    | r j =>
      simp only [St.put, St.get, Loc.r.injEq]
      by_cases h : j = i
      · subst h; simp only [Loc.ok] at hl; simp [hl]
      · simp only [h, if_false]; simp [List.getD, Ne.symm h]
    | w j => simp [St.put, St.get]
theorem St.get_put_ne {s : St} {l m : Loc} {v : Int} (hl : l.ok s) (h : m ≠ l) : (s.put l v).get m = s.get m := by rw [St.get_put hl, if_neg h]
theorem St.get_put_eq {s : St} {l : Loc} {v : Int} (hl : l.ok s) : (s.put l v).get l = v := by rw [St.get_put hl, if_pos rfl]

/-! ### the model's steps, by places -/
theorem fGet_loc {s : St} {l : Loc} (h : l.ok s) : fGet s.ws s.rs l.fld = some (s.get l) := by
  cases l <;> simp only [Loc.ok] at h <;> simp [fGet, Loc.fld, rdAt, St.get, h]
theorem fSet_loc {s : St} {l : Loc} (h : l.ok s) (v : Int) : (⟨fSetW s.ws l.fld v, fSetR s.rs l.fld v⟩ : St) = s.put l v := by
  cases l <;> simp only [Loc.ok] at h <;> simp [fSetW, fSetR, Loc.fld, wrAt, St.put, h]
theorem fits_link {s : St} (hs : s.small) {l : Loc} (h : l.ok s) : fitsW (2 * l.fld.at_ + if l.fld.root then 1 else 0) = true := by
  rw [fitsW_iff]; unfold St.small at hs
  cases l <;> simp only [Loc.ok] at h <;> simp [Loc.fld] <;> omega
theorem tag_linkL {s : St} (hs : s.small) {l : Loc} (h : l.ok s) : tagW (linkL l) = 7 := tag_ofW (by decide) (by decide) (fits_link hs h)
theorem val_linkL {s : St} (hs : s.small) {l : Loc} (h : l.ok s) : valW (linkL l) = 2 * l.fld.at_ + if l.fld.root then 1 else 0 := val_ofW (by decide) (by decide) (fits_link hs h)
theorem linked_linkL {s : St} (hs : s.small) {l : Loc} (h : l.ok s) : linked (linkL l) = l.fld := by
  unfold linked
  rw [val_linkL hs h]
  cases l with
  | w i =>
    simp only [Loc.fld, Bool.false_eq_true, if_false, Fld.mk.injEq]
    exact ⟨by simp, by omega⟩
  | r i =>
    simp only [Loc.fld, if_true, Fld.mk.injEq]
    exact ⟨by simp, by omega⟩
theorem linkL_inj {s : St} (hs : s.small) {l m : Loc} (hl : l.ok s) (hm : m.ok s) (h : linkL l = linkL m) : l = m := by
  have h1 := val_linkL hs hl
  rw [h, val_linkL hs hm] at h1
  cases l <;> cases m <;> simp [Loc.fld] at h1 <;> simp <;> omega
theorem fits_small {s : St} (hs : s.small) {p : Nat} (h : p < s.ws.length) : fitsW (p : Int) = true := by
  rw [fitsW_iff]; unfold St.small at hs; omega
theorem thread_step {s : St} (hs : s.small) {l : Loc} {p : Nat} (hl : l.ok s) (hp : p < s.ws.length) (hne : l ≠ .w p) (hv : s.get l = ptrW p) :
    threadM s.ws s.rs l.fld = some (((s.put l (s.get (.w p))).put (.w p) (linkL l)).ws, ((s.put l (s.get (.w p))).put (.w p) (linkL l)).rs) := by
  have ht : tagW (ptrW p) = 5 := tag_ofW (by decide) (by decide) (fits_small hs hp)
  have hvp : valW (ptrW p) = p := val_ofW (by decide) (by decide) (fits_small hs hp)
  unfold threadM
  rw [fGet_loc hl, hv]
  simp only [hvp]
  have hc : tagW (ptrW p) = 5 ∧ (0 : Int) ≤ p ∧ (p : Int) < s.ws.length ∧ (l.fld.root = true ∨ l.fld.at_ ≠ (p : Int)) := by
    refine ⟨ht, by omega, by omega, ?_⟩
    cases l with
    | r i => exact Or.inl rfl
    | w i => right; simp only [Loc.fld]; intro e; apply hne; simp; omega
  rw [if_pos hc]
  have hx : rd0 s.ws p = s.get (.w p) := by simp [rd0, rdAt, St.get, hp]
  have h2 := fSet_loc hl (s.get (.w p))
  rw [hx]
  have hW : fSetW s.ws l.fld (s.get (.w p)) = (s.put l (s.get (.w p))).ws := congrArg St.ws h2
  have hR : fSetR s.rs l.fld (s.get (.w p)) = (s.put l (s.get (.w p))).rs := congrArg St.rs h2
  rw [hW, hR]
  generalize hs' : s.put l (s.get (.w p)) = s'
  have hlen : (p : Int) < (s'.ws.length : Int) := by rw [← hs', St.put_ws]; omega
  have h0 : (0 : Int) ≤ p := by omega
  simp only [wrAt, h0, hlen, and_self, if_true, St.put, Int.toNat_natCast, linkL]
theorem loose_step {s : St} (hs : s.small) {l : Loc} {p : Nat} (k : Nat) (to : Int) (hl : l.ok s) (hp : p < s.ws.length) (hv : s.get (.w p) = linkL l) :
    looseM (k + 1) s.ws s.rs p to =
      let s' := (s.put (.w p) (s.get l)).put l (ptrW to)
      let r := looseM k s'.ws s'.rs p to
      ⟨r.n + 1, r.ok, r.ws, r.rs⟩ := by
  have hrd : rdAt s.ws p = some (s.get (.w p)) := by simp [rdAt, St.get, hp]
  have h1 : (⟨wrAt s.ws p (s.get l), s.rs⟩ : St) = s.put (.w p) (s.get l) := by simp [wrAt, St.put, hp]
  have hl' : l.ok (s.put (.w p) (s.get l)) := Loc.ok_put.2 hl
  have h2 := fSet_loc hl' (ptrW to)
  have hW : fSetW (wrAt s.ws p (s.get l)) l.fld (ofW 5 to) = ((s.put (.w p) (s.get l)).put l (ptrW to)).ws := by
    rw [← h2, ← h1]; rfl
  have hR : fSetR s.rs l.fld (ofW 5 to) = ((s.put (.w p) (s.get l)).put l (ptrW to)).rs := by
    rw [← h2, ← h1]; rfl
  rw [looseM, hrd, hv]
  simp only [tag_linkL hs hl, if_true, linked_linkL hs hl, fGet_loc hl, hW, hR]
theorem loose_stop (k : Nat) {s : St} {p : Nat} (to : Int) (hp : p < s.ws.length) (hv : tagW (s.get (.w p)) ≠ 7) : looseM k s.ws s.rs p to = ⟨0, true, s.ws, s.rs⟩ := by
  have hrd : rdAt s.ws p = some (s.get (.w p)) := by simp [rdAt, St.get, hp]
  cases k <;> simp [looseM, hrd, hv]

/-! ### what stands where -/
inductive Stat where
  | plain (v : Int)
  | pend (p : Nat)
  deriving DecidableEq
def Ch (s : St) : Int → List Loc → Int → Prop
  | c, [], z => c = z
  | c, l :: ls, z => c = linkL l ∧ Ch s (s.get l) ls z
theorem Ch.congr {s s' : St} : ∀ {ls : List Loc} {c z : Int}, (∀ l ∈ ls, s'.get l = s.get l) → Ch s c ls z → Ch s' c ls z
  | [], _, _, _, h => h
  | l :: ls, _, _, hg, h => ⟨h.1, by rw [hg l (by simp)]; exact Ch.congr (fun m hm => hg m (by simp [hm])) h.2⟩
def nohead (hw : Nat → Option Int) : Loc → Prop
  | .w i => hw i = none
  | .r _ => True
theorem nohead.ne {hw : Nat → Option Int} {l : Loc} {p : Nat} {h : Int} (hn : nohead hw l) (hp : hw p = some h) : l ≠ .w p := by
  intro e; subst e; simp [nohead, hp] at hn
def updS (st : Loc → Stat) (l : Loc) (v : Stat) : Loc → Stat := fun m => if m = l then v else st m
def updC (ch : Nat → List Loc) (p : Nat) (v : List Loc) : Nat → List Loc := fun q => if q = p then v else ch q
structure Jk (s : St) (lo : Nat) (st : Loc → Stat) (hw : Nat → Option Int) (ch : Nat → List Loc) : Prop where
  plain : ∀ l v, l.ok s → l.above lo → nohead hw l → st l = .plain v → s.get l = v
  chain : ∀ p h, hw p = some h → lo ≤ p → p < s.ws.length ∧ Ch s (s.get (.w p)) (ch p) h
  mem : ∀ p h, hw p = some h → lo ≤ p → ∀ l, l ∈ ch p ↔ l.ok s ∧ l.above lo ∧ nohead hw l ∧ st l = .pend p
  nodup : ∀ p, (ch p).Nodup
  htag : ∀ p h, hw p = some h → tagW h ≠ 7
section
variable {s : St} {lo : Nat} {st : Loc → Stat} {hw : Nat → Option Int} {ch : Nat → List Loc}
theorem Jk.congr {st' : Loc → Stat} (J : Jk s lo st hw ch) (h : ∀ l, l.ok s → l.above lo → nohead hw l → st' l = st l) : Jk s lo st' hw ch where
  plain := fun l v a b c e => J.plain l v a b c (by rw [← h l a b c]; exact e)
  chain := J.chain
  mem := fun p hh hp hlo l => by
    rw [J.mem p hh hp hlo l]
    constructor
    · rintro ⟨a, b, c, d⟩; exact ⟨a, b, c, by rw [h l a b c]; exact d⟩
    · rintro ⟨a, b, c, d⟩; exact ⟨a, b, c, by rw [← h l a b c]; exact d⟩
  nodup := J.nodup
  htag := J.htag
theorem Jk.thread (J : Jk s lo st hw ch) (hs : s.small) {l : Loc} {p : Nat} {h : Int} (hl : l.ok s) (ha : l.above lo) (hn : nohead hw l) (hst : st l = .plain (ptrW p)) (hp : hw p = some h) (hlo : lo ≤ p) :
    ∃ s' : St, threadM s.ws s.rs l.fld = some (s'.ws, s'.rs) ∧ s'.ws.length = s.ws.length ∧ s'.rs.length = s.rs.length ∧ Jk s' lo (updS st l (.pend p)) hw (updC ch p (l :: ch p)) := by
  have hpl := (J.chain p h hp hlo).1
  have hne := hn.ne hp
  have hwp : (Loc.w p).ok (s.put l (s.get (.w p))) := Loc.ok_put.2 hpl
  refine ⟨_, thread_step hs hl hpl hne (J.plain l _ hl ha hn hst), by rw [St.put_ws, St.put_ws], by rw [St.put_rs, St.put_rs], ?_⟩
  have gt : ∀ m : Loc, m ≠ l → m ≠ .w p → ((s.put l (s.get (.w p))).put (.w p) (linkL l)).get m = s.get m := fun m h1 h2 => by
    rw [St.get_put_ne hwp h2, St.get_put_ne hl h1]
  have okk : ∀ m : Loc, m.ok ((s.put l (s.get (.w p))).put (.w p) (linkL l)) ↔ m.ok s := fun m => Loc.ok_put.trans Loc.ok_put
  have lnot : ∀ q h', hw q = some h' → lo ≤ q → l ∉ ch q := fun q h' hq hlq hm => by
    have := ((J.mem q h' hq hlq l).1 hm).2.2.2; rw [hst] at this; cases this
  constructor
  · intro m v a b c e
    unfold updS at e
    by_cases hm : m = l
    · rw [if_pos hm] at e; cases e
    · rw [if_neg hm] at e
      rw [gt m hm (c.ne hp)]
      exact J.plain m v ((okk m).1 a) b c e
  · intro q h' hq hlq
    have hc := J.chain q h' hq hlq
    refine ⟨by rw [St.put_ws, St.put_ws]; exact hc.1, ?_⟩
    have hmem : ∀ m ∈ ch q, ((s.put l (s.get (.w p))).put (.w p) (linkL l)).get m = s.get m := fun m hm => by
      have h3 := (J.mem q h' hq hlq m).1 hm
      exact gt m (fun e => lnot q h' hq hlq (e ▸ hm)) (h3.2.2.1.ne hp)
    unfold updC
    by_cases hqp : q = p
    · subst hqp
      rw [if_pos rfl]
      rw [hp] at hq; cases hq
      refine ⟨St.get_put_eq hwp, ?_⟩
      rw [St.get_put_ne hwp hne, St.get_put_eq hl]
      exact Ch.congr hmem hc.2
    · rw [if_neg hqp, gt (.w q) (fun e => (hn.ne hq) e.symm) (by simp [hqp])]
      exact Ch.congr hmem hc.2
  · intro q h' hq hlq m
    have h3 := J.mem q h' hq hlq m
    unfold updC updS
    rw [okk]
    by_cases hml : m = l
    · subst hml
      by_cases hqp : q = p
      · subst hqp
        simp [hl, ha, hn]
      · simp only [if_neg hqp, if_true, Stat.pend.injEq]
        constructor
        · intro hm; exact absurd hm (lnot q h' hq hlq)
        · rintro ⟨_, _, _, e⟩; exact absurd e.symm hqp
    · simp only [if_neg hml]
      by_cases hqp : q = p
      · subst hqp; rw [if_pos rfl, List.mem_cons]; simp only [hml, false_or]; exact h3
      · rw [if_neg hqp]; exact h3
  · intro q
    unfold updC
    by_cases hqp : q = p
    · subst hqp; rw [if_pos rfl]; exact List.nodup_cons.2 ⟨lnot q h hp hlo, J.nodup q⟩
    · rw [if_neg hqp]; exact J.nodup q
  · exact J.htag
/-- one field is loosened -/
theorem Jk.loose1 (J : Jk s lo st hw ch) {l : Loc} {ls : List Loc} {p : Nat} {h : Int} (hp : hw p = some h) (hlo : lo ≤ p) (hch : ch p = l :: ls) (v : Int) :
    Jk ((s.put (.w p) (s.get l)).put l v) lo (updS st l (.plain v)) hw (updC ch p ls) := by
  obtain ⟨hpl, hc⟩ := J.chain p h hp hlo
  have hl3 := (J.mem p h hp hlo l).1 (by rw [hch]; simp)
  obtain ⟨hl, ha, hn, hst⟩ := hl3
  have hne := hn.ne hp
  have hwp : (Loc.w p).ok s := hpl
  have hl' : l.ok (s.put (.w p) (s.get l)) := Loc.ok_put.2 hl
  have gt : ∀ m : Loc, m ≠ l → m ≠ .w p → ((s.put (.w p) (s.get l)).put l v).get m = s.get m := fun m h1 h2 => by
    rw [St.get_put_ne hl' h1, St.get_put_ne hwp h2]
  have okk : ∀ m : Loc, m.ok ((s.put (.w p) (s.get l)).put l v) ↔ m.ok s := fun m => Loc.ok_put.trans Loc.ok_put
  have nd := J.nodup p
  rw [hch] at nd
  obtain ⟨hlls, ndls⟩ := List.nodup_cons.1 nd
  rw [hch] at hc
  constructor
  · intro m u a b c e
    unfold updS at e
    by_cases hm : m = l
    · rw [if_pos hm] at e; cases e; subst hm; exact St.get_put_eq hl'
    · rw [if_neg hm] at e
      rw [gt m hm (c.ne hp)]
      exact J.plain m u ((okk m).1 a) b c e
  · intro q h' hq hlq
    refine ⟨by rw [St.put_ws, St.put_ws]; exact (J.chain q h' hq hlq).1, ?_⟩
    unfold updC
    by_cases hqp : q = p
    · subst hqp
      rw [if_pos rfl]
      rw [hp] at hq; cases hq
      rw [St.get_put_ne hl' (Ne.symm hne), St.get_put_eq hwp]
      refine Ch.congr (fun m hm => ?_) hc.2
      have h3 := (J.mem q h hp hlo m).1 (by rw [hch]; simp [hm])
      exact gt m (fun e => hlls (e ▸ hm)) (h3.2.2.1.ne hp)
    · rw [if_neg hqp, gt (.w q) (fun e => (hn.ne hq) e.symm) (by simp [hqp])]
      refine Ch.congr (fun m hm => ?_) (J.chain q h' hq hlq).2
      have h3 := (J.mem q h' hq hlq m).1 hm
      refine gt m (fun e => ?_) (h3.2.2.1.ne hp)
      have h4 := h3.2.2.2
      rw [e, hst] at h4; cases h4; exact hqp rfl
  · intro q h' hq hlq m
    have h3 := J.mem q h' hq hlq m
    unfold updC updS
    rw [okk]
    by_cases hml : m = l
    · subst hml
      simp only [if_true]
      constructor
      · intro hm
        by_cases hqp : q = p
        · subst hqp; rw [if_pos rfl] at hm; exact absurd hm hlls
        · rw [if_neg hqp] at hm
          have h4 := (h3.1 hm).2.2.2
          rw [hst] at h4; cases h4; exact absurd rfl hqp
      · rintro ⟨_, _, _, e⟩; cases e
    · simp only [if_neg hml]
      by_cases hqp : q = p
      · subst hqp; rw [if_pos rfl, ← h3, hch, List.mem_cons]; simp [hml]
      · rw [if_neg hqp]; exact h3
  · intro q
    unfold updC
    by_cases hqp : q = p
    · rw [if_pos hqp]; exact ndls
    · rw [if_neg hqp]; exact J.nodup q
  · exact J.htag
end
theorem updC_self (ch : Nat → List Loc) (p : Nat) (v : List Loc) (h : ch p = v) : updC ch p v = ch := by
  funext q; unfold updC; split
  · rename_i e; subst e; exact h.symm
  · rfl
theorem updC_updC (ch : Nat → List Loc) (p : Nat) (u v : List Loc) : updC (updC ch p u) p v = updC ch p v := by
  funext q; unfold updC; split <;> rfl
def loosed (st : Loc → Stat) (p : Nat) (v : Int) : Loc → Stat := fun l => if st l = .pend p then .plain v else st l
theorem Jk.loose_aux {hw : Nat → Option Int} {lo p : Nat} {h to : Int} (hp : hw p = some h) (hlo : lo ≤ p) : ∀ (ls : List Loc) (k : Nat) (s : St) (st : Loc → Stat) (ch : Nat → List Loc),
    Jk s lo st hw ch → s.small → ch p = ls → ls.length ≤ k →
    ∃ s' : St, looseM k s.ws s.rs p to = ⟨ls.length, true, s'.ws, s'.rs⟩ ∧ s'.ws.length = s.ws.length ∧ s'.rs.length = s.rs.length ∧ s'.get (.w p) = h ∧ Jk s' lo (loosed st p (ptrW to)) hw (updC ch p [])
  | [], k, s, st, ch, J, hs, hch, hk => by
    obtain ⟨hpl, hc⟩ := J.chain p h hp hlo
    rw [hch] at hc
    have hg : s.get (.w p) = h := hc
    refine ⟨s, loose_stop k to hpl (by rw [hg]; exact J.htag p h hp), rfl, rfl, hg, ?_⟩
    rw [updC_self ch p [] hch]
    refine J.congr fun l a b c => ?_
    unfold loosed
    rw [if_neg]
    intro e
    have := (J.mem p h hp hlo l).2 ⟨a, b, c, e⟩
    rw [hch] at this; cases this
  | l :: ls, k, s, st, ch, J, hs, hch, hk => by
    obtain ⟨k, rfl⟩ : ∃ m, k = m + 1 := ⟨k - 1, by simp at hk; omega⟩
    obtain ⟨hpl, hc⟩ := J.chain p h hp hlo
    rw [hch] at hc
    have hl3 := (J.mem p h hp hlo l).1 (by rw [hch]; simp)
    have J1 := J.loose1 hp hlo hch (ptrW to)
    obtain ⟨s', e, e1, e2, e3, J2⟩ := Jk.loose_aux (to := to) hp hlo ls k _ _ _ J1 (St.small_put (St.small_put hs)) (by simp [updC]) (by simp at hk; omega)
    refine ⟨s', ?_, by rw [e1, St.put_ws, St.put_ws], by rw [e2, St.put_rs, St.put_rs], e3, ?_⟩
    · rw [loose_step hs k to hl3.1 hpl hc.1]
      simp only [e, List.length_cons]
    · rw [updC_updC] at J2
      have : loosed (updS st l (.plain (ptrW to))) p (ptrW to) = loosed st p (ptrW to) := by
        funext m; unfold loosed updS
        by_cases hm : m = l
        · subst hm; simp [hl3.2.2.2]
        · simp [hm]
      rw [this] at J2
      exact J2
/-- a list of numbers below n, none twice, is not longer than n -/
theorem nodup_len : ∀ (n : Nat) (l : List Nat), l.Nodup → (∀ x ∈ l, x < n) → l.length ≤ n
  | 0, l, _, h => by cases l with
    | nil => simp
    | cons a l => exact absurd (h a (by simp)) (by omega)
  | n + 1, l, nd, h => by
    have h1 : (l.erase n).length ≤ n := nodup_len n (l.erase n) (nd.erase n) (fun x hx => by
      have hm := (List.Nodup.mem_erase_iff nd).1 hx
      have := h x hm.2
      have := hm.1
      omega)
    have h2 := List.length_erase_le (a := n) (l := l)
    by_cases hm : n ∈ l
    · have := List.length_erase_of_mem hm; omega
    · rw [List.erase_of_not_mem hm] at h1; omega
def Loc.num (n : Nat) : Loc → Nat
  | .w i => i
  | .r i => n + i
theorem locs_len {s : St} {l : List Loc} (nd : l.Nodup) (h : ∀ x ∈ l, x.ok s) : l.length ≤ s.ws.length + s.rs.length := by
  have h1 := nodup_len (s.ws.length + s.rs.length) (l.map (Loc.num s.ws.length)) (by
    rw [List.nodup_iff_pairwise_ne] at nd ⊢
    rw [List.pairwise_map]
    refine List.Pairwise.imp_of_mem ?_ nd
    intro a b ha hb hab e
    have := h a ha
    have := h b hb
    apply hab
    cases a <;> cases b <;> simp_all [Loc.num, Loc.ok] <;> omega) (fun x hx => by
      obtain ⟨y, hy, rfl⟩ := List.mem_map.1 hx
      have := h y hy
      cases y <;> simp_all [Loc.num, Loc.ok] <;> omega)
  simpa using h1
theorem Jk.loose {s : St} {lo : Nat} {st : Loc → Stat} {hw : Nat → Option Int} {ch : Nat → List Loc} (J : Jk s lo st hw ch) (hs : s.small) {p : Nat} {h to : Int} (hp : hw p = some h) (hlo : lo ≤ p) :
    ∃ s' : St, looseM (s.ws.length + s.rs.length) s.ws s.rs p to = ⟨(ch p).length, true, s'.ws, s'.rs⟩ ∧ s'.ws.length = s.ws.length ∧ s'.rs.length = s.rs.length ∧ s'.get (.w p) = h ∧ Jk s' lo (loosed st p (ptrW to)) hw (updC ch p []) :=
  Jk.loose_aux hp hlo (ch p) _ s st ch J hs rfl (locs_len (J.nodup p) fun x hx => ((J.mem p h hp hlo x).1 hx).1)
end Go.Proofs.Ytjiaaefpepdoeaa.Md

/-
  PLAIN LAW: how the objects of a row of words lie, and what a sound heap is. Conditions: those named in each.
-/
namespace Go.Proofs.Ytjiaaefpepdoeaa.Md
set_option linter.unusedVariables false

theorem obj_facts {ws : List Int} {a : Int} {h : Hdr} (hh : objAt ws a = some h) :
    0 ≤ a ∧ a < ws.length ∧ readH (ws.getD a.toNat 0) = some h ∧ 0 ≤ h.size ∧ h.size < 1048576 ∧ a + 1 + h.size ≤ ws.length := by
  unfold objAt rdAt at hh
  by_cases hc : 0 ≤ a ∧ a < ws.length
  · rw [if_pos hc] at hh
    simp only at hh
    cases hr : readH (ws.getD a.toNat 0) with
    | none => rw [hr] at hh; cases hh
    | some g =>
      rw [hr] at hh
      simp only at hh
      split at hh
      · rename_i hs
        injection hh with e
        subst e
        obtain ⟨_, h0, h1, e⟩ := read_some hr
        have : 0 ≤ g.size ∧ g.size < 1048576 := by rw [e]; unfold unpackH; simp only; omega
        exact ⟨hc.1, hc.2, rfl, this.1, this.2, by omega⟩
      · cases hh
  · rw [if_neg hc] at hh; cases hh
theorem obj0_of {ws : List Int} {a : Int} {h : Hdr} (hh : objAt ws a = some h) : obj0 ws a = h := by unfold obj0; rw [hh]; rfl
theorem objAt_mk {ws : List Int} {a : Int} {h : Hdr} (h0 : 0 ≤ a) (h1 : a < ws.length) (hr : readH (ws.getD a.toNat 0) = some h) (hs : a + 1 + h.size ≤ ws.length) : objAt ws a = some h := by
  unfold objAt rdAt
  rw [if_pos ⟨h0, h1⟩]
  simp only [hr]
  rw [if_pos (by omega)]

/-- The objects from a place on, one behind the other, to the end of the words. -/
inductive Rows (ws : List Int) : Int → List Int → Prop
  | nil : Rows ws ws.length []
  | cons {a : Int} {h : Hdr} {L : List Int} : objAt ws a = some h → Rows ws (a + 1 + h.size) L → Rows ws a (a :: L)
theorem rows_of_objsFrom {ws : List Int} : ∀ (g : Nat) (a : Int) (L : List Int), a ≤ ws.length → objsFrom ws g a = some L → Rows ws a L := by
  intro g
  induction g with
  | zero =>
    intro a L ha h
    unfold objsFrom at h
    split at h
    · cases h
    · injection h with e; subst e
      have : a = ws.length := by omega
      subst this; exact .nil
  | succ g ih =>
    intro a L ha h
    unfold objsFrom at h
    split at h
    · split at h
      · cases h
      · rename_i hd ho
        cases hq : objsFrom ws g (a + 1 + hd.size) with
        | none => rw [hq] at h; cases h
        | some M =>
          rw [hq] at h
          simp only [Option.map_some, Option.some.injEq] at h
          subst h
          have := obj_facts ho
          exact .cons ho (ih _ _ (by omega) hq)
    · injection h with e; subst e
      have : a = ws.length := by omega
      subst this; exact .nil
theorem rows_of_objs {ws L : List Int} (h : objs ws = some L) : Rows ws 0 L := rows_of_objsFrom _ _ _ (by omega) h
section
variable {ws : List Int} {a : Int} {L : List Int}
theorem Rows.len (h : Rows ws a L) : a + L.length ≤ ws.length := by
  induction h with
  | nil => simp
  | cons ho _ ih => have := obj_facts ho; simp only [List.length_cons]; omega
theorem Rows.objsFrom (h : Rows ws a L) : ∀ g, L.length ≤ g → objsFrom ws g a = some L := by
  induction h with
  | nil => intro g _; cases g <;> simp [Md.objsFrom]
  | cons ho _ ih =>
    intro g hg
    cases g with
    | zero => simp at hg
    | succ g =>
      have := obj_facts ho
      unfold Md.objsFrom
      rw [if_pos this.2.1]
      simp only [ho]
      rw [ih g (by simp at hg; omega)]
      rfl
theorem Rows.objs (h : Rows ws 0 L) : objs ws = some L := h.objsFrom _ (by have := h.len; omega)
theorem Rows.ge (h : Rows ws a L) : ∀ b ∈ L, a ≤ b := by
  induction h with
  | nil => simp
  | cons ho _ ih =>
    have := obj_facts ho
    intro b hb
    rcases List.mem_cons.1 hb with rfl | hb
    · omega
    · have := ih b hb; omega
theorem Rows.obj (h : Rows ws a L) : ∀ b ∈ L, ∃ hd, objAt ws b = some hd ∧ obj0 ws b = hd ∧ 0 ≤ b ∧ b < ws.length ∧ readH (ws.getD b.toNat 0) = some hd ∧ 0 ≤ hd.size ∧ hd.size < 1048576 ∧ b + 1 + hd.size ≤ ws.length := by
  induction h with
  | nil => simp
  | cons ho _ ih =>
    intro b hb
    rcases List.mem_cons.1 hb with rfl | hb
    · have := obj_facts ho; exact ⟨_, ho, obj0_of ho, this.1, this.2.1, this.2.2.1, this.2.2.2.1, this.2.2.2.2.1, this.2.2.2.2.2⟩
    · exact ih b hb
theorem Rows.sep (h : Rows ws a L) : ∀ b ∈ L, ∀ c ∈ L, b < c → b + 1 + (obj0 ws b).size ≤ c := by
  induction h with
  | nil => simp
  | cons ho hr ih =>
    have hf := obj_facts ho
    intro b hb c hc hlt
    rcases List.mem_cons.1 hb with e1 | hb
    · rcases List.mem_cons.1 hc with e2 | hc
      · omega
      · rw [e1, obj0_of ho]; exact hr.ge c hc
    · rcases List.mem_cons.1 hc with e2 | hc
      · have := hr.ge b hb; omega
      · exact ih b hb c hc hlt
theorem Rows.nodup (h : Rows ws a L) : L.Nodup := by
  induction h with
  | nil => simp
  | cons ho hr ih =>
    have := obj_facts ho
    exact List.nodup_cons.2 ⟨fun hm => by have := hr.ge _ hm; omega, ih⟩
theorem Rows.sorted (h : Rows ws a L) : L.Pairwise (· < ·) := by
  induction h with
  | nil => simp
  | cons ho hr ih =>
    have := obj_facts ho
    exact List.pairwise_cons.2 ⟨fun b hb => by have := hr.ge b hb; omega, ih⟩
end

/-! ### sound heaps -/
def sw (L : List Int) (w : Int) : Prop := tagW w ≠ 6 ∧ tagW w ≠ 7 ∧ (tagW w = 5 → valW w ∈ L)
theorem isList_len (n : Nat) (L : List Int) : (isList n L).length = n := by simp [isList]
theorem isList_get {n : Nat} {L : List Int} {i : Nat} (h : i < n) : (isList n L).getD i false = decide ((i : Int) ∈ L) := by
  simp [isList, h]
theorem soundW_sw {n : Nat} {L : List Int} {w : Int} (hL : ∀ b ∈ L, 0 ≤ b ∧ b < n) : soundW w (isList n L) = true ↔ sw L w := by
  unfold soundW sw
  by_cases h6 : tagW w = 6 ∨ tagW w = 7
  · rw [if_pos h6]; simp only [Bool.false_eq_true, false_iff]; rintro ⟨a, b, _⟩; omega
  · rw [if_neg h6]
    by_cases h5 : tagW w = 5
    · rw [if_pos h5, isList_len]
      simp only [Bool.and_eq_true, decide_eq_true_eq]
      constructor
      · rintro ⟨⟨h0, h1⟩, h2⟩
        rw [isList_get (by omega)] at h2
        have h3 := of_decide_eq_true h2
        rw [Int.toNat_of_nonneg h0] at h3
        exact ⟨by omega, by omega, fun _ => h3⟩
      · rintro ⟨_, _, h3⟩
        have h4 := h3 h5
        have h5 := hL _ h4
        refine ⟨⟨h5.1, h5.2⟩, ?_⟩
        rw [isList_get (by omega)]
        exact decide_eq_true (by rw [Int.toNat_of_nonneg h5.1]; exact h4)
    · rw [if_neg h5]
      simp only [true_iff]
      exact ⟨by omega, by omega, fun h => absurd h h5⟩
/-- A sound heap: its objects lie in a row, each holds its fields, each field and each root may stand. -/
structure Snd (ws rs L : List Int) : Prop where
  objs : objs ws = some L
  rows : Rows ws 0 L
  root : ∀ r ∈ rs, sw L r
  fit : ∀ a ∈ L, fieldsH (obj0 ws a) ≤ (obj0 ws a).size
  fld : ∀ a ∈ L, ∀ k : Nat, (k : Int) < fieldsH (obj0 ws a) → sw L (rd0 ws (a + 1 + k))
theorem snd_of {ws rs : List Int} (h : soundB ws rs = true) : ∃ L, Snd ws rs L := by
  unfold soundB at h
  cases ho : objs ws with
  | none => rw [ho] at h; cases h
  | some L =>
    rw [ho] at h
    have hr := rows_of_objs ho
    have hL : ∀ b ∈ L, 0 ≤ b ∧ b < ws.length := fun b hb => by obtain ⟨hd, _, _, h0, h1, _⟩ := hr.obj b hb; exact ⟨h0, h1⟩
    simp only [Bool.and_eq_true, List.all_eq_true] at h
    refine ⟨L, ho, hr, fun r hr => (soundW_sw hL).1 (h.1 r hr), fun a ha => ?_, fun a ha k hk => ?_⟩
    · have := h.2 a ha
      unfold soundAt at this
      simp only [Bool.and_eq_true, decide_eq_true_eq] at this
      exact this.1
    · have := h.2 a ha
      unfold soundAt at this
      simp only [Bool.and_eq_true, decide_eq_true_eq, List.all_eq_true] at this
      refine (soundW_sw hL).1 (this.2 _ ?_)
      unfold fieldsAt
      exact List.mem_map.2 ⟨k, List.mem_range.2 (by omega), rfl⟩
theorem Snd.bool {ws rs L : List Int} (h : Snd ws rs L) : soundB ws rs = true := by
  have hL : ∀ b ∈ L, 0 ≤ b ∧ b < ws.length := fun b hb => by obtain ⟨hd, _, _, h0, h1, _⟩ := h.rows.obj b hb; exact ⟨h0, h1⟩
  unfold soundB
  rw [h.objs]
  simp only [Bool.and_eq_true, List.all_eq_true]
  refine ⟨fun r hr => (soundW_sw hL).2 (h.root r hr), fun a ha => ?_⟩
  unfold soundAt
  simp only [Bool.and_eq_true, decide_eq_true_eq, List.all_eq_true]
  refine ⟨h.fit a ha, fun w hw => (soundW_sw hL).2 ?_⟩
  unfold fieldsAt at hw
  obtain ⟨k, hk, rfl⟩ := List.mem_map.1 hw
  exact h.fld a ha k (by have := List.mem_range.1 hk; omega)

/-! ### which words are fields, which are headers -/
def fldB (ws L : List Int) (j : Nat) : Bool := L.any fun a => decide (a < (j : Int)) && decide ((j : Int) ≤ a + fieldsH (obj0 ws a))
theorem fldB_iff {ws L : List Int} {j : Nat} : fldB ws L j = true ↔ ∃ a ∈ L, a < (j : Int) ∧ (j : Int) ≤ a + fieldsH (obj0 ws a) := by
  simp [fldB, List.any_eq_true]
def hdw (L ws : List Int) : Nat → Option Int := fun i => if (i : Int) ∈ L then some (ws.getD i 0) else none
theorem hdw_some {L ws : List Int} {i : Nat} {h : Int} : hdw L ws i = some h ↔ (i : Int) ∈ L ∧ h = ws.getD i 0 := by
  unfold hdw
  split
  · rename_i h1; simp [h1, eq_comm]
  · rename_i h1; simp [h1]
theorem nohead_w {L ws : List Int} {i : Nat} : nohead (hdw L ws) (.w i) ↔ (i : Int) ∉ L := by
  show hdw L ws i = none ↔ _
  unfold hdw
  split
  · rename_i h1; simp [h1]
  · rename_i h1; simp [h1]
section
variable {ws rs L : List Int}
theorem Rows.one {a b j : Int} (h : Rows ws 0 L) (ha : a ∈ L) (hb : b ∈ L) (h1 : a ≤ j) (h2 : j ≤ a + (obj0 ws a).size) (h3 : b ≤ j) (h4 : j ≤ b + (obj0 ws b).size) : a = b := by
  by_cases e : a = b
  · exact e
  · by_cases hlt : a < b
    · have := h.sep a ha b hb hlt; omega
    · have := h.sep b hb a ha (by omega); omega
theorem Snd.fld_head (h : Snd ws rs L) {j : Nat} (hf : fldB ws L j = true) : (j : Int) ∉ L := by
  intro hm
  obtain ⟨a, ha, h1, h2⟩ := fldB_iff.1 hf
  have h3 := h.fit a ha
  obtain ⟨hd, _, e, _, _, _, h0, _⟩ := h.rows.obj j hm
  have := h.rows.one ha hm (j := j) (by omega) (by omega) (by omega) (by rw [e]; omega)
  omega
theorem Snd.fld_lt (h : Snd ws rs L) {j : Nat} (hf : fldB ws L j = true) : j < ws.length := by
  obtain ⟨a, ha, h1, h2⟩ := fldB_iff.1 hf
  have h3 := h.fit a ha
  obtain ⟨hd, _, e, _, _, _, _, _, h4⟩ := h.rows.obj a ha
  rw [e] at h3 h2
  omega
theorem Snd.fld_sw (h : Snd ws rs L) {j : Nat} (hf : fldB ws L j = true) : sw L (ws.getD j 0) := by
  have hl := h.fld_lt hf
  obtain ⟨a, ha, h1, h2⟩ := fldB_iff.1 hf
  obtain ⟨hd, _, e, h0, _⟩ := h.rows.obj a ha
  have := h.fld a ha (j - a - 1).toNat (by omega)
  have e2 : a + 1 + ((j - a - 1).toNat : Int) = j := by omega
  rw [e2] at this
  have e3 : rd0 ws j = ws.getD j 0 := by unfold rd0 rdAt; rw [if_pos (by omega)]; simp
  rw [e3] at this
  exact this
theorem fld_of {a : Int} {j : Nat} (ha : a ∈ L) (h1 : a < j) (h2 : (j : Int) ≤ a + fieldsH (obj0 ws a)) : fldB ws L j = true := fldB_iff.2 ⟨a, ha, h1, h2⟩
/-- behind its fields an object holds none, nor is its header one -/
theorem Snd.fld_not (h : Snd ws rs L) {a : Int} {j : Nat} (ha : a ∈ L) (h1 : a ≤ j) (h2 : (j : Int) ≤ a + (obj0 ws a).size) (h3 : (j : Int) = a ∨ a + fieldsH (obj0 ws a) < j) : fldB ws L j = false := by
  cases hf : fldB ws L j with
  | false => rfl
  | true =>
    obtain ⟨b, hb, h4, h5⟩ := fldB_iff.1 hf
    have h6 := h.fit b hb
    have := h.rows.one ha hb h1 h2 (by omega) (by omega)
    subst this
    omega
theorem Snd.head_tag (h : Snd ws rs L) {j : Nat} (hm : (j : Int) ∈ L) : j < ws.length ∧ tagW (ws.getD j 0) = 6 := by
  obtain ⟨hd, _, _, h0, h1, h2, _⟩ := h.rows.obj j hm
  exact ⟨by omega, (read_some h2).1⟩
end
theorem ptr_of {w : Int} (h : okW w) (ht : tagW w = 5) : w = ptrW (valW w) := by
  have := ofW_tag_val h (by omega)
  rw [ht] at this
  exact this.symm
theorem ptrW_inj {s : St} (hs : s.small) {p q : Nat} (hp : p < s.ws.length) (hq : q < s.ws.length) (h : ptrW p = ptrW q) : p = q := by
  have h1 : valW (ptrW p) = p := val_ofW (by decide) (by decide) (fits_small hs hp)
  have h2 : valW (ptrW q) = q := val_ofW (by decide) (by decide) (fits_small hs hq)
  rw [h, h2] at h1
  omega
/-- where all begins: nothing is on a thread -/
theorem Jk.start {ws rs ys L : List Int} (h : Snd ws ys L) {st : Loc → Stat} (hst : ∀ m, Loc.ok ⟨ws, rs⟩ m → st m = .plain (St.get ⟨ws, rs⟩ m)) : Jk ⟨ws, rs⟩ 0 st (hdw L ws) (fun _ => []) where
  plain := fun l v a _ _ e => by rw [hst l a] at e; cases e; rfl
  chain := fun p hh hp _ => by
    obtain ⟨hm, rfl⟩ := hdw_some.1 hp
    exact ⟨(h.head_tag hm).1, rfl⟩
  mem := fun p hh hp _ l => by
    constructor
    · intro hm; cases hm
    · rintro ⟨a, _, _, e⟩; rw [hst l a] at e; cases e
  nodup := fun _ => List.nodup_nil
  htag := fun p hh hp => by
    obtain ⟨hm, rfl⟩ := hdw_some.1 hp
    rw [(h.head_tag hm).2]; decide
theorem list_ext {xs ys : List Int} (hl : xs.length = ys.length) (h : ∀ j, j < ys.length → xs.getD j 0 = ys.getD j 0) : xs = ys := by
  apply List.ext_getElem hl
  intro i h1 h2
  have := h i h2
  simpa [List.getD, h1, h2] using this
theorem getD_set {xs : List Int} {i j : Nat} {v : Int} (hi : i < xs.length) : (xs.set i v).getD j 0 = if j = i then v else xs.getD j 0 := by
  by_cases h : j = i
  · subst h; simp [hi]
  · rw [if_neg h]; simp [List.getD, Ne.symm h]
end Go.Proofs.Ytjiaaefpepdoeaa.Md
