/-
  TEXTS JOINED FOR A CLAIM (MarkTerms): Mdl Enc Head Jk Lay Lv Sl Tw Blt Stp. Conditions: none beyond those that each theorem states.
-/
namespace Go.Proofs.YtjiaaefpepdoeaaDoor.Md
set_option linter.unusedVariables false
def tagW (w : Int) : Int := w % 16
def valW (w : Int) : Int := if w < 9223372036854775808 then w / 16 else w / 16 - 1152921504606846976
def fitsW (n : Int) : Bool := decide (-576460752303423488 ≤ n) && decide (n ≤ 576460752303423487)
def ofW (t n : Int) : Int := if 0 ≤ t ∧ t ≤ 7 ∧ fitsW n = true then (n % 1152921504606846976) * 16 + t else 4
def okW (w : Int) : Prop := 0 ≤ w ∧ w < 18446744073709551616
def okWs (l : List Int) : Prop := ∀ w ∈ l, okW w
structure Hdr where
 kind : Int
 size : Int
 tree : Int
 neg : Bool
 deriving DecidableEq
def hdr0 : Hdr := ⟨0, 0, 0, false⟩
def mayH (h : Hdr) : Bool := decide (0 ≤ h.kind) && decide (h.kind ≤ 3) && decide (0 ≤ h.size) && decide (h.size < 1048576) && decide (0 ≤ h.tree) && decide (h.tree < 1048576)
def packH (h : Hdr) : Int := h.kind + (if h.neg then 4 else 0) + h.size * 8 + h.tree * 8388608
def makeH (h : Hdr) : Int := if mayH h = true then ofW 6 (packH h) else 4
def unpackH (v : Int) : Hdr := ⟨v % 4, v / 8 % 1048576, v / 8388608, decide (v / 4 % 2 = 1)⟩
def readH (w : Int) : Option Hdr := if tagW w = 6 ∧ 0 ≤ valW w ∧ valW w < 8796093022208 then some (unpackH (valW w)) else none
def fieldsH (h : Hdr) : Int := if h.kind = 0 then 2 else if h.kind = 1 then h.size else 0
def rdAt (xs : List Int) (i : Int) : Option Int := if 0 ≤ i ∧ i < xs.length then some (xs.getD i.toNat 0) else none
def rd0 (xs : List Int) (i : Int) : Int := (rdAt xs i).getD 0
def wrAt (xs : List Int) (i : Int) (v : Int) : List Int := if 0 ≤ i ∧ i < xs.length then xs.set i.toNat v else xs
def objAt (ws : List Int) (at_ : Int) : Option Hdr :=
 match rdAt ws at_ with
 | none => none
 | some w => match readH w with
  | none => none
  | some h => if h.size < ws.length - at_ then some h else none
def obj0 (ws : List Int) (at_ : Int) : Hdr := (objAt ws at_).getD hdr0
def objsFrom (ws : List Int) : Nat → Int → Option (List Int)
 | 0, at_ => if at_ < ws.length then none else some []
 | k + 1, at_ => if at_ < ws.length then
   match objAt ws at_ with
   | none => none
   | some h => (objsFrom ws k (at_ + 1 + h.size)).map (at_ :: ·)
  else some []
def objs (ws : List Int) : Option (List Int) := objsFrom ws ws.length 0
def fieldsAt (ws : List Int) (at_ : Int) (n : Nat) : List Int := (List.range n).map fun (i : Nat) => rd0 ws (at_ + 1 + (i : Int))
def nFields (h : Hdr) : Nat := (min (fieldsH h) h.size).toNat
def seenList (seen : List Bool) : List Int := ((List.range seen.length).filter fun (i : Nat) => seen.getD i false).map fun (i : Nat) => (i : Int)
def soundW (w : Int) (is : List Bool) : Bool :=
 if tagW w = 6 ∨ tagW w = 7 then false
 else if tagW w = 5 then decide (0 ≤ valW w) && decide (valW w < is.length) && is.getD (valW w).toNat false
 else true
def isList (n : Nat) (l : List Int) : List Bool := (List.range n).map fun (i : Nat) => decide ((i : Int) ∈ l)
def soundAt (ws : List Int) (is : List Bool) (at_ : Int) : Bool :=
 let h := obj0 ws at_
 decide (fieldsH h ≤ h.size) && (fieldsAt ws at_ (fieldsH h).toNat).all fun w => soundW w is
def soundB (ws rs : List Int) : Bool :=
 match objs ws with
 | none => false
 | some l => (rs.all fun w => soundW w (isList ws.length l)) && l.all fun at_ => soundAt ws (isList ws.length l) at_
def wordsM (ws : List Int) (l : List Int) : Int := (l.map fun at_ => 1 + (obj0 ws at_).size).sum
structure Fld where
 root : Bool
 at_ : Int
 deriving DecidableEq
def fGet (ws rs : List Int) (f : Fld) : Option Int := if f.root then rdAt rs f.at_ else rdAt ws f.at_
def fSetW (ws : List Int) (f : Fld) (v : Int) : List Int := if f.root then ws else wrAt ws f.at_ v
def fSetR (rs : List Int) (f : Fld) (v : Int) : List Int := if f.root then wrAt rs f.at_ v else rs
def linkF (f : Fld) : Int := ofW 7 (2 * f.at_ + if f.root then 1 else 0)
def linked (w : Int) : Fld := ⟨decide (valW w % 2 = 1), valW w / 2⟩
def threadM (ws rs : List Int) (f : Fld) : Option (List Int × List Int) :=
 match fGet ws rs f with
 | none => none
 | some w =>
  if tagW w = 5 ∧ 0 ≤ valW w ∧ valW w < ws.length ∧ (f.root = true ∨ f.at_ ≠ valW w) then
   let x := rd0 ws (valW w)
   some (wrAt (fSetW ws f x) (valW w) (linkF f), fSetR rs f x)
  else none
structure Loosed where
 n : Nat
 ok : Bool
 ws : List Int
 rs : List Int
def looseM : Nat → List Int → List Int → Int → Int → Loosed
 | 0, ws, rs, at_, to => match rdAt ws at_ with
  | none => ⟨0, true, ws, rs⟩
  | some w => if tagW w = 7 then ⟨0, false, ws, rs⟩ else ⟨0, true, ws, rs⟩
 | k + 1, ws, rs, at_, to => match rdAt ws at_ with
  | none => ⟨0, true, ws, rs⟩
  | some w => if tagW w = 7 then
    match fGet ws rs (linked w) with
    | none => ⟨0, false, ws, rs⟩
    | some x =>
     let r := looseM k (fSetW (wrAt ws at_ x) (linked w) (ofW 5 to)) (fSetR rs (linked w) (ofW 5 to)) at_ to
     ⟨r.n + 1, r.ok, r.ws, r.rs⟩
   else ⟨0, true, ws, rs⟩
def chainM (ws rs : List Int) : Nat → Int → Option (List Fld)
 | 0, w => if tagW w = 7 then none else some []
 | k + 1, w => if tagW w = 7 then
   match fGet ws rs (linked w) with
   | none => none
   | some x => (chainM ws rs k x).map (linked w :: ·)
  else some []
def goneM (ws : List Int) : List Int → List Int → List Int
 | _, [] => []
 | live, at_ :: all =>
  if live.head? = some at_ then goneM ws live.tail all
  else
   let h := obj0 ws at_
   let r := goneM ws live all
   match rdAt ws (at_ + 1) with
   | none => r
   | some x => if h.kind = 3 ∧ 0 < h.size ∧ x ≠ 0 then (if x < 9223372036854775808 then x else x - 18446744073709551616) :: r else r
structure Up where
 ws : List Int
 rs : List Int
 hs : List Hdr
structure Down where
 ws : List Int
 rs : List Int
 to : Int
 moved : Int
end Go.Proofs.YtjiaaefpepdoeaaDoor.Md
namespace Go.Proofs.YtjiaaefpepdoeaaDoor.Md
set_option linter.unusedVariables false
theorem fitsW_iff {n : Int} : fitsW n = true ↔ -576460752303423488 ≤ n ∧ n ≤ 576460752303423487 := by
 simp [fitsW]
theorem tag_ofW {t n : Int} (h0 : 0 ≤ t) (h7 : t ≤ 7) (hf : fitsW n = true) : tagW (ofW t n) = t := by
 unfold tagW ofW
 rw [if_pos (show 0 ≤ t ∧ t ≤ 7 ∧ fitsW n = true from ⟨h0, h7, hf⟩)]
 omega
theorem val_ofW {t n : Int} (h0 : 0 ≤ t) (h7 : t ≤ 7) (hf : fitsW n = true) : valW (ofW t n) = n := by
 have e0 : ofW t n = n % 1152921504606846976 * 16 + t := by unfold ofW; exact if_pos ⟨h0, h7, hf⟩
 rw [e0]; unfold valW
 rw [fitsW_iff] at hf
 by_cases hn : 0 ≤ n
 ·have e : n % 1152921504606846976 = n := Int.emod_eq_of_lt hn (by omega)
  rw [e, if_pos (by omega)]
  omega
 ·have e : n % 1152921504606846976 = n + 1152921504606846976 := by omega
  rw [e, if_neg (by omega)]
  omega
theorem okW_ofW (t n : Int) : okW (ofW t n) := by
 unfold okW ofW
 split
 ·rename_i h
  have := Int.emod_nonneg n (show (1152921504606846976 : Int) ≠ 0 by decide)
  have := Int.emod_lt_of_pos n (show (0 : Int) < 1152921504606846976 by decide)
  omega
 ·omega
theorem tag_range (w : Int) : 0 ≤ tagW w ∧ tagW w ≤ 15 := by unfold tagW; omega
theorem fits_valW {w : Int} (h : okW w) : fitsW (valW w) = true := by
 rw [fitsW_iff]; unfold valW; unfold okW at h; split <;> omega
theorem ofW_tag_val {w : Int} (h : okW w) (ht : tagW w ≤ 7) : ofW (tagW w) (valW w) = w := by
 have hf := fits_valW h
 unfold ofW
 rw [if_pos ⟨(tag_range w).1, ht, hf⟩]
 unfold tagW valW at *
 unfold okW at h
 split <;> omega
end Go.Proofs.YtjiaaefpepdoeaaDoor.Md
namespace Go.Proofs.YtjiaaefpepdoeaaDoor.Md
set_option linter.unusedVariables false
theorem mayH_iff {h : Hdr} : mayH h = true ↔ 0 ≤ h.kind ∧ h.kind ≤ 3 ∧ 0 ≤ h.size ∧ h.size < 1048576 ∧ 0 ≤ h.tree ∧ h.tree < 1048576 := by
 simp [mayH, and_assoc]
theorem packH_range {h : Hdr} (hm : mayH h = true) : 0 ≤ packH h ∧ packH h < 8796093022208 := by
 rw [mayH_iff] at hm; unfold packH; split <;> omega
theorem fits_packH {h : Hdr} (hm : mayH h = true) : fitsW (packH h) = true := by
 rw [fitsW_iff]; have := packH_range hm; omega
theorem unpack_pack {h : Hdr} (hm : mayH h = true) : unpackH (packH h) = h := by
 rw [mayH_iff] at hm
 obtain ⟨k, z, t, n⟩ := h
 simp only at hm
 unfold unpackH packH
 cases n with
 | false =>
  simp only [Bool.false_eq_true, if_false, Hdr.mk.injEq, decide_eq_false_iff_not]
  exact ⟨by omega, by omega, by omega, by omega⟩
 | true =>
  simp only [if_true, Hdr.mk.injEq, decide_eq_true_eq]
  exact ⟨by omega, by omega, by omega, by omega⟩
theorem tag_makeH {h : Hdr} (hm : mayH h = true) : tagW (makeH h) = 6 := by
 unfold makeH; rw [if_pos hm]; exact tag_ofW (by omega) (by omega) (fits_packH hm)
theorem val_makeH {h : Hdr} (hm : mayH h = true) : valW (makeH h) = packH h := by
 unfold makeH; rw [if_pos hm]; exact val_ofW (by omega) (by omega) (fits_packH hm)
theorem tag_4 : tagW 4 = 4 := by unfold tagW; omega
theorem okW_makeH (h : Hdr) : okW (makeH h) := by
 unfold makeH; split
 ·exact okW_ofW _ _
 ·unfold okW; omega
theorem read_makeH {h : Hdr} (hm : mayH h = true) : readH (makeH h) = some h := by
 have := packH_range hm
 unfold readH
 rw [if_pos ⟨tag_makeH hm, by rw [val_makeH hm]; exact this.1, by rw [val_makeH hm]; exact this.2⟩, val_makeH hm, unpack_pack hm]
theorem read_some {w : Int} {h : Hdr} (hr : readH w = some h) : tagW w = 6 ∧ 0 ≤ valW w ∧ valW w < 8796093022208 ∧ h = unpackH (valW w) := by
 unfold readH at hr
 split at hr
 ·rename_i hc; exact ⟨hc.1, hc.2.1, hc.2.2, (Option.some.inj hr).symm⟩
 ·cases hr
end Go.Proofs.YtjiaaefpepdoeaaDoor.Md
namespace Go.Proofs.YtjiaaefpepdoeaaDoor.Md
set_option linter.unusedVariables false
inductive Loc where
 | w (i : Nat)
 | r (i : Nat)
 deriving DecidableEq
structure St where
 ws : List Int
 rs : List Int
def Loc.fld : Loc → Fld
 | .w i => ⟨false, i⟩
 | .r i => ⟨true, i⟩
def Loc.ok (s : St) : Loc → Prop
 | .w i => i < s.ws.length
 | .r i => i < s.rs.length
def Loc.above (lo : Nat) : Loc → Prop
 | .w i => lo ≤ i
 | .r _ => True
def St.get (s : St) : Loc → Int
 | .w i => s.ws.getD i 0
 | .r i => s.rs.getD i 0
def St.put (s : St) (l : Loc) (v : Int) : St := match l with
 | .w i => ⟨s.ws.set i v, s.rs⟩
 | .r i => ⟨s.ws, s.rs.set i v⟩
def St.small (s : St) : Prop := s.ws.length ≤ 1125899906842624 ∧ s.rs.length ≤ 1125899906842624
def linkL (l : Loc) : Int := linkF l.fld
def ptrW (p : Int) : Int := ofW 5 p
theorem St.put_ws (s : St) (l : Loc) (v : Int) : (s.put l v).ws.length = s.ws.length := by cases l <;> simp [St.put]
theorem St.put_rs (s : St) (l : Loc) (v : Int) : (s.put l v).rs.length = s.rs.length := by cases l <;> simp [St.put]
theorem Loc.ok_put {s : St} {l m : Loc} {v : Int} : m.ok (s.put l v) ↔ m.ok s := by
 cases m <;> simp [Loc.ok, St.put_ws, St.put_rs]
theorem St.small_put {s : St} {l : Loc} {v : Int} (h : s.small) : (s.put l v).small := by
 unfold St.small; rw [St.put_ws, St.put_rs]; exact h
theorem St.get_put {s : St} {l m : Loc} {v : Int} (hl : l.ok s) : (s.put l v).get m = if m = l then v else s.get m := by
 cases l with
 | w i =>
  cases m with
  | w j =>
   simp only [St.put, St.get, Loc.w.injEq]
   by_cases h : j = i
   ·subst h; simp only [Loc.ok] at hl; simp [hl]
   ·simp only [h, if_false]; simp [List.getD, Ne.symm h]
  | r j => simp [St.put, St.get]
 | r i =>
  cases m with
  | r j =>
   simp only [St.put, St.get, Loc.r.injEq]
   by_cases h : j = i
   ·subst h; simp only [Loc.ok] at hl; simp [hl]
   ·simp only [h, if_false]; simp [List.getD, Ne.symm h]
  | w j => simp [St.put, St.get]
theorem St.get_put_ne {s : St} {l m : Loc} {v : Int} (hl : l.ok s) (h : m ≠ l) : (s.put l v).get m = s.get m := by rw [St.get_put hl, if_neg h]
theorem St.get_put_eq {s : St} {l : Loc} {v : Int} (hl : l.ok s) : (s.put l v).get l = v := by rw [St.get_put hl, if_pos rfl]
theorem fGet_loc {s : St} {l : Loc} (h : l.ok s) : fGet s.ws s.rs l.fld = some (s.get l) := by
 cases l <;> simp only [Loc.ok] at h <;> simp [fGet, Loc.fld, rdAt, St.get, h]
theorem fSet_loc {s : St} {l : Loc} (h : l.ok s) (v : Int) : (⟨fSetW s.ws l.fld v, fSetR s.rs l.fld v⟩ : St) = s.put l v := by
 cases l <;> simp only [Loc.ok] at h <;> simp [fSetW, fSetR, Loc.fld, wrAt, St.put, h]
theorem fits_link {s : St} (hs : s.small) {l : Loc} (h : l.ok s) : fitsW (2 * l.fld.at_ + if l.fld.root then 1 else 0) = true := by
 rw [fitsW_iff]; unfold St.small at hs
 cases l <;> simp only [Loc.ok] at h <;> simp [Loc.fld] <;> omega
theorem tag_linkL {s : St} (hs : s.small) {l : Loc} (h : l.ok s) : tagW (linkL l) = 7 := tag_ofW (by decide) (by decide) (fits_link hs h)
theorem val_linkL {s : St} (hs : s.small) {l : Loc} (h : l.ok s) : valW (linkL l) = 2 * l.fld.at_ + if l.fld.root then 1 else 0 := val_ofW (by decide) (by decide) (fits_link hs h)
theorem linked_linkL {s : St} (hs : s.small) {l : Loc} (h : l.ok s) : linked (linkL l) = l.fld := by
 unfold linked
 rw [val_linkL hs h]
 cases l with
 | w i =>
  simp only [Loc.fld, Bool.false_eq_true, if_false, Fld.mk.injEq]
  exact ⟨by simp, by omega⟩
 | r i =>
  simp only [Loc.fld, if_true, Fld.mk.injEq]
  exact ⟨by simp, by omega⟩
theorem fits_small {s : St} (hs : s.small) {p : Nat} (h : p < s.ws.length) : fitsW (p : Int) = true := by
 rw [fitsW_iff]; unfold St.small at hs; omega
theorem thread_step {s : St} (hs : s.small) {l : Loc} {p : Nat} (hl : l.ok s) (hp : p < s.ws.length) (hne : l ≠ .w p) (hv : s.get l = ptrW p) :
  threadM s.ws s.rs l.fld = some (((s.put l (s.get (.w p))).put (.w p) (linkL l)).ws, ((s.put l (s.get (.w p))).put (.w p) (linkL l)).rs) := by
 have ht : tagW (ptrW p) = 5 := tag_ofW (by decide) (by decide) (fits_small hs hp)
 have hvp : valW (ptrW p) = p := val_ofW (by decide) (by decide) (fits_small hs hp)
 unfold threadM
 rw [fGet_loc hl, hv]
 simp only [hvp]
 have hc : tagW (ptrW p) = 5 ∧ (0 : Int) ≤ p ∧ (p : Int) < s.ws.length ∧ (l.fld.root = true ∨ l.fld.at_ ≠ (p : Int)) := by
  refine ⟨ht, by omega, by omega, ?_⟩
  cases l with
  | r i => exact Or.inl rfl
  | w i => right; simp only [Loc.fld]; intro e; apply hne; simp; omega
 rw [if_pos hc]
 have hx : rd0 s.ws p = s.get (.w p) := by simp [rd0, rdAt, St.get, hp]
 have h2 := fSet_loc hl (s.get (.w p))
 rw [hx]
 have hW : fSetW s.ws l.fld (s.get (.w p)) = (s.put l (s.get (.w p))).ws := congrArg St.ws h2
 have hR : fSetR s.rs l.fld (s.get (.w p)) = (s.put l (s.get (.w p))).rs := congrArg St.rs h2
 rw [hW, hR]
 generalize hs' : s.put l (s.get (.w p)) = s'
 have hlen : (p : Int) < (s'.ws.length : Int) := by rw [← hs', St.put_ws]; omega
 have h0 : (0 : Int) ≤ p := by omega
 simp only [wrAt, h0, hlen, and_self, if_true, St.put, Int.toNat_natCast, linkL]
theorem loose_step {s : St} (hs : s.small) {l : Loc} {p : Nat} (k : Nat) (to : Int) (hl : l.ok s) (hp : p < s.ws.length) (hv : s.get (.w p) = linkL l) :
  looseM (k + 1) s.ws s.rs p to =
   let s' := (s.put (.w p) (s.get l)).put l (ptrW to)
   let r := looseM k s'.ws s'.rs p to
   ⟨r.n + 1, r.ok, r.ws, r.rs⟩ := by
 have hrd : rdAt s.ws p = some (s.get (.w p)) := by simp [rdAt, St.get, hp]
 have h1 : (⟨wrAt s.ws p (s.get l), s.rs⟩ : St) = s.put (.w p) (s.get l) := by simp [wrAt, St.put, hp]
 have hl' : l.ok (s.put (.w p) (s.get l)) := Loc.ok_put.2 hl
 have h2 := fSet_loc hl' (ptrW to)
 have hW : fSetW (wrAt s.ws p (s.get l)) l.fld (ofW 5 to) = ((s.put (.w p) (s.get l)).put l (ptrW to)).ws := by
  rw [← h2, ← h1]; rfl
 have hR : fSetR s.rs l.fld (ofW 5 to) = ((s.put (.w p) (s.get l)).put l (ptrW to)).rs := by
  rw [← h2, ← h1]; rfl
 rw [looseM, hrd, hv]
 simp only [tag_linkL hs hl, if_true, linked_linkL hs hl, fGet_loc hl, hW, hR]
theorem loose_stop (k : Nat) {s : St} {p : Nat} (to : Int) (hp : p < s.ws.length) (hv : tagW (s.get (.w p)) ≠ 7) : looseM k s.ws s.rs p to = ⟨0, true, s.ws, s.rs⟩ := by
 have hrd : rdAt s.ws p = some (s.get (.w p)) := by simp [rdAt, St.get, hp]
 cases k <;> simp [looseM, hrd, hv]
inductive Stat where
 | plain (v : Int)
 | pend (p : Nat)
 deriving DecidableEq
def Ch (s : St) : Int → List Loc → Int → Prop
 | c, [], z => c = z
 | c, l :: ls, z => c = linkL l ∧ Ch s (s.get l) ls z
theorem Ch.congr {s s' : St} : ∀ {ls : List Loc} {c z : Int}, (∀ l ∈ ls, s'.get l = s.get l) → Ch s c ls z → Ch s' c ls z
 | [], _, _, _, h => h
 | l :: ls, _, _, hg, h => ⟨h.1, by rw [hg l (by simp)]; exact Ch.congr (fun m hm => hg m (by simp [hm])) h.2⟩
def nohead (hw : Nat → Option Int) : Loc → Prop
 | .w i => hw i = none
 | .r _ => True
theorem nohead.ne {hw : Nat → Option Int} {l : Loc} {p : Nat} {h : Int} (hn : nohead hw l) (hp : hw p = some h) : l ≠ .w p := by
 intro e; subst e; simp [nohead, hp] at hn
def updS (st : Loc → Stat) (l : Loc) (v : Stat) : Loc → Stat := fun m => if m = l then v else st m
def updC (ch : Nat → List Loc) (p : Nat) (v : List Loc) : Nat → List Loc := fun q => if q = p then v else ch q
structure Jk (s : St) (lo : Nat) (st : Loc → Stat) (hw : Nat → Option Int) (ch : Nat → List Loc) : Prop where
 plain : ∀ l v, l.ok s → l.above lo → nohead hw l → st l = .plain v → s.get l = v
 chain : ∀ p h, hw p = some h → lo ≤ p → p < s.ws.length ∧ Ch s (s.get (.w p)) (ch p) h
 mem : ∀ p h, hw p = some h → lo ≤ p → ∀ l, l ∈ ch p ↔ l.ok s ∧ l.above lo ∧ nohead hw l ∧ st l = .pend p
 nodup : ∀ p, (ch p).Nodup
 htag : ∀ p h, hw p = some h → tagW h ≠ 7
section
variable {s : St} {lo : Nat} {st : Loc → Stat} {hw : Nat → Option Int} {ch : Nat → List Loc}
theorem Jk.congr {st' : Loc → Stat} (J : Jk s lo st hw ch) (h : ∀ l, l.ok s → l.above lo → nohead hw l → st' l = st l) : Jk s lo st' hw ch where
 plain := fun l v a b c e => J.plain l v a b c (by rw [← h l a b c]; exact e)
 chain := J.chain
 mem := fun p hh hp hlo l => by
  rw [J.mem p hh hp hlo l]
  constructor
  ·rintro ⟨a, b, c, d⟩; exact ⟨a, b, c, by rw [h l a b c]; exact d⟩
  ·rintro ⟨a, b, c, d⟩; exact ⟨a, b, c, by rw [← h l a b c]; exact d⟩
 nodup := J.nodup
 htag := J.htag
theorem Jk.thread (J : Jk s lo st hw ch) (hs : s.small) {l : Loc} {p : Nat} {h : Int} (hl : l.ok s) (ha : l.above lo) (hn : nohead hw l) (hst : st l = .plain (ptrW p)) (hp : hw p = some h) (hlo : lo ≤ p) :
  ∃ s' : St, threadM s.ws s.rs l.fld = some (s'.ws, s'.rs) ∧ s'.ws.length = s.ws.length ∧ s'.rs.length = s.rs.length ∧ Jk s' lo (updS st l (.pend p)) hw (updC ch p (l :: ch p)) := by
 have hpl := (J.chain p h hp hlo).1
 have hne := hn.ne hp
 have hwp : (Loc.w p).ok (s.put l (s.get (.w p))) := Loc.ok_put.2 hpl
 refine ⟨_, thread_step hs hl hpl hne (J.plain l _ hl ha hn hst), by rw [St.put_ws, St.put_ws], by rw [St.put_rs, St.put_rs], ?_⟩
 have gt : ∀ m : Loc, m ≠ l → m ≠ .w p → ((s.put l (s.get (.w p))).put (.w p) (linkL l)).get m = s.get m := fun m h1 h2 => by
  rw [St.get_put_ne hwp h2, St.get_put_ne hl h1]
 have okk : ∀ m : Loc, m.ok ((s.put l (s.get (.w p))).put (.w p) (linkL l)) ↔ m.ok s := fun m => Loc.ok_put.trans Loc.ok_put
 have lnot : ∀ q h', hw q = some h' → lo ≤ q → l ∉ ch q := fun q h' hq hlq hm => by
  have := ((J.mem q h' hq hlq l).1 hm).2.2.2; rw [hst] at this; cases this
 constructor
 ·intro m v a b c e
  unfold updS at e
  by_cases hm : m = l
  ·rw [if_pos hm] at e; cases e
  ·rw [if_neg hm] at e
   rw [gt m hm (c.ne hp)]
   exact J.plain m v ((okk m).1 a) b c e
 ·intro q h' hq hlq
  have hc := J.chain q h' hq hlq
  refine ⟨by rw [St.put_ws, St.put_ws]; exact hc.1, ?_⟩
  have hmem : ∀ m ∈ ch q, ((s.put l (s.get (.w p))).put (.w p) (linkL l)).get m = s.get m := fun m hm => by
   have h3 := (J.mem q h' hq hlq m).1 hm
   exact gt m (fun e => lnot q h' hq hlq (e ▸ hm)) (h3.2.2.1.ne hp)
  unfold updC
  by_cases hqp : q = p
  ·subst hqp
   rw [if_pos rfl]
   rw [hp] at hq; cases hq
   refine ⟨St.get_put_eq hwp, ?_⟩
   rw [St.get_put_ne hwp hne, St.get_put_eq hl]
   exact Ch.congr hmem hc.2
  ·rw [if_neg hqp, gt (.w q) (fun e => (hn.ne hq) e.symm) (by simp [hqp])]
   exact Ch.congr hmem hc.2
 ·intro q h' hq hlq m
  have h3 := J.mem q h' hq hlq m
  unfold updC updS
  rw [okk]
  by_cases hml : m = l
  ·subst hml
   by_cases hqp : q = p
   ·subst hqp
    simp [hl, ha, hn]
   ·simp only [if_neg hqp, if_true, Stat.pend.injEq]
    constructor
    ·intro hm; exact absurd hm (lnot q h' hq hlq)
    ·rintro ⟨_, _, _, e⟩; exact absurd e.symm hqp
  ·simp only [if_neg hml]
   by_cases hqp : q = p
   ·subst hqp; rw [if_pos rfl, List.mem_cons]; simp only [hml, false_or]; exact h3
   ·rw [if_neg hqp]; exact h3
 ·intro q
  unfold updC
  by_cases hqp : q = p
  ·subst hqp; rw [if_pos rfl]; exact List.nodup_cons.2 ⟨lnot q h hp hlo, J.nodup q⟩
  ·rw [if_neg hqp]; exact J.nodup q
 ·exact J.htag
theorem Jk.loose1 (J : Jk s lo st hw ch) {l : Loc} {ls : List Loc} {p : Nat} {h : Int} (hp : hw p = some h) (hlo : lo ≤ p) (hch : ch p = l :: ls) (v : Int) :
  Jk ((s.put (.w p) (s.get l)).put l v) lo (updS st l (.plain v)) hw (updC ch p ls) := by
 obtain ⟨hpl, hc⟩ := J.chain p h hp hlo
 have hl3 := (J.mem p h hp hlo l).1 (by rw [hch]; simp)
 obtain ⟨hl, ha, hn, hst⟩ := hl3
 have hne := hn.ne hp
 have hwp : (Loc.w p).ok s := hpl
 have hl' : l.ok (s.put (.w p) (s.get l)) := Loc.ok_put.2 hl
 have gt : ∀ m : Loc, m ≠ l → m ≠ .w p → ((s.put (.w p) (s.get l)).put l v).get m = s.get m := fun m h1 h2 => by
  rw [St.get_put_ne hl' h1, St.get_put_ne hwp h2]
 have okk : ∀ m : Loc, m.ok ((s.put (.w p) (s.get l)).put l v) ↔ m.ok s := fun m => Loc.ok_put.trans Loc.ok_put
 have nd := J.nodup p
 rw [hch] at nd
 obtain ⟨hlls, ndls⟩ := List.nodup_cons.1 nd
 rw [hch] at hc
 constructor
 ·intro m u a b c e
  unfold updS at e
  by_cases hm : m = l
  ·rw [if_pos hm] at e; cases e; subst hm; exact St.get_put_eq hl'
  ·rw [if_neg hm] at e
   rw [gt m hm (c.ne hp)]
   exact J.plain m u ((okk m).1 a) b c e
 ·intro q h' hq hlq
  refine ⟨by rw [St.put_ws, St.put_ws]; exact (J.chain q h' hq hlq).1, ?_⟩
  unfold updC
  by_cases hqp : q = p
  ·subst hqp
   rw [if_pos rfl]
   rw [hp] at hq; cases hq
   rw [St.get_put_ne hl' (Ne.symm hne), St.get_put_eq hwp]
   refine Ch.congr (fun m hm => ?_) hc.2
   have h3 := (J.mem q h hp hlo m).1 (by rw [hch]; simp [hm])
   exact gt m (fun e => hlls (e ▸ hm)) (h3.2.2.1.ne hp)
  ·rw [if_neg hqp, gt (.w q) (fun e => (hn.ne hq) e.symm) (by simp [hqp])]
   refine Ch.congr (fun m hm => ?_) (J.chain q h' hq hlq).2
   have h3 := (J.mem q h' hq hlq m).1 hm
   refine gt m (fun e => ?_) (h3.2.2.1.ne hp)
   have h4 := h3.2.2.2
   rw [e, hst] at h4; cases h4; exact hqp rfl
 ·intro q h' hq hlq m
  have h3 := J.mem q h' hq hlq m
  unfold updC updS
  rw [okk]
  by_cases hml : m = l
  ·subst hml
   simp only [if_true]
   constructor
   ·intro hm
    by_cases hqp : q = p
    ·subst hqp; rw [if_pos rfl] at hm; exact absurd hm hlls
    ·rw [if_neg hqp] at hm
     have h4 := (h3.1 hm).2.2.2
     rw [hst] at h4; cases h4; exact absurd rfl hqp
   ·rintro ⟨_, _, _, e⟩; cases e
  ·simp only [if_neg hml]
   by_cases hqp : q = p
   ·subst hqp; rw [if_pos rfl, ← h3, hch, List.mem_cons]; simp [hml]
   ·rw [if_neg hqp]; exact h3
 ·intro q
  unfold updC
  by_cases hqp : q = p
  ·rw [if_pos hqp]; exact ndls
  ·rw [if_neg hqp]; exact J.nodup q
 ·exact J.htag
end
theorem updC_self (ch : Nat → List Loc) (p : Nat) (v : List Loc) (h : ch p = v) : updC ch p v = ch := by
 funext q; unfold updC; split
 ·rename_i e; subst e; exact h.symm
 ·rfl
theorem updC_updC (ch : Nat → List Loc) (p : Nat) (u v : List Loc) : updC (updC ch p u) p v = updC ch p v := by
 funext q; unfold updC; split <;> rfl
def loosed (st : Loc → Stat) (p : Nat) (v : Int) : Loc → Stat := fun l => if st l = .pend p then .plain v else st l
theorem Jk.loose_aux {hw : Nat → Option Int} {lo p : Nat} {h to : Int} (hp : hw p = some h) (hlo : lo ≤ p) : ∀ (ls : List Loc) (k : Nat) (s : St) (st : Loc → Stat) (ch : Nat → List Loc),
  Jk s lo st hw ch → s.small → ch p = ls → ls.length ≤ k →
  ∃ s' : St, looseM k s.ws s.rs p to = ⟨ls.length, true, s'.ws, s'.rs⟩ ∧ s'.ws.length = s.ws.length ∧ s'.rs.length = s.rs.length ∧ s'.get (.w p) = h ∧ Jk s' lo (loosed st p (ptrW to)) hw (updC ch p [])
 | [], k, s, st, ch, J, hs, hch, hk => by
  obtain ⟨hpl, hc⟩ := J.chain p h hp hlo
  rw [hch] at hc
  have hg : s.get (.w p) = h := hc
  refine ⟨s, loose_stop k to hpl (by rw [hg]; exact J.htag p h hp), rfl, rfl, hg, ?_⟩
  rw [updC_self ch p [] hch]
  refine J.congr fun l a b c => ?_
  unfold loosed
  rw [if_neg]
  intro e
  have := (J.mem p h hp hlo l).2 ⟨a, b, c, e⟩
  rw [hch] at this; cases this
 | l :: ls, k, s, st, ch, J, hs, hch, hk => by
  obtain ⟨k, rfl⟩ : ∃ m, k = m + 1 := ⟨k - 1, by simp at hk; omega⟩
  obtain ⟨hpl, hc⟩ := J.chain p h hp hlo
  rw [hch] at hc
  have hl3 := (J.mem p h hp hlo l).1 (by rw [hch]; simp)
  have J1 := J.loose1 hp hlo hch (ptrW to)
  obtain ⟨s', e, e1, e2, e3, J2⟩ := Jk.loose_aux (to := to) hp hlo ls k _ _ _ J1 (St.small_put (St.small_put hs)) (by simp [updC]) (by simp at hk; omega)
  refine ⟨s', ?_, by rw [e1, St.put_ws, St.put_ws], by rw [e2, St.put_rs, St.put_rs], e3, ?_⟩
  ·rw [loose_step hs k to hl3.1 hpl hc.1]
   simp only [e, List.length_cons]
  ·rw [updC_updC] at J2
   have : loosed (updS st l (.plain (ptrW to))) p (ptrW to) = loosed st p (ptrW to) := by
    funext m; unfold loosed updS
    by_cases hm : m = l
    ·subst hm; simp [hl3.2.2.2]
    ·simp [hm]
   rw [this] at J2
   exact J2
theorem nodup_len : ∀ (n : Nat) (l : List Nat), l.Nodup → (∀ x ∈ l, x < n) → l.length ≤ n
 | 0, l, _, h => by cases l with
  | nil => simp
  | cons a l => exact absurd (h a (by simp)) (by omega)
 | n + 1, l, nd, h => by
  have h1 : (l.erase n).length ≤ n := nodup_len n (l.erase n) (nd.erase n) (fun x hx => by
   have hm := (List.Nodup.mem_erase_iff nd).1 hx
   have := h x hm.2
   have := hm.1
   omega)
  have h2 := List.length_erase_le (a := n) (l := l)
  by_cases hm : n ∈ l
  ·have := List.length_erase_of_mem hm; omega
  ·rw [List.erase_of_not_mem hm] at h1; omega
def Loc.num (n : Nat) : Loc → Nat
 | .w i => i
 | .r i => n + i
theorem locs_len {s : St} {l : List Loc} (nd : l.Nodup) (h : ∀ x ∈ l, x.ok s) : l.length ≤ s.ws.length + s.rs.length := by
 have h1 := nodup_len (s.ws.length + s.rs.length) (l.map (Loc.num s.ws.length)) (by
  rw [List.nodup_iff_pairwise_ne] at nd ⊢
  rw [List.pairwise_map]
  refine List.Pairwise.imp_of_mem ?_ nd
  intro a b ha hb hab e
  have := h a ha
  have := h b hb
  apply hab
  cases a <;> cases b <;> simp_all [Loc.num, Loc.ok] <;> omega) (fun x hx => by
   obtain ⟨y, hy, rfl⟩ := List.mem_map.1 hx
   have := h y hy
   cases y <;> simp_all [Loc.num, Loc.ok] <;> omega)
 simpa using h1
theorem Jk.loose {s : St} {lo : Nat} {st : Loc → Stat} {hw : Nat → Option Int} {ch : Nat → List Loc} (J : Jk s lo st hw ch) (hs : s.small) {p : Nat} {h to : Int} (hp : hw p = some h) (hlo : lo ≤ p) :
  ∃ s' : St, looseM (s.ws.length + s.rs.length) s.ws s.rs p to = ⟨(ch p).length, true, s'.ws, s'.rs⟩ ∧ s'.ws.length = s.ws.length ∧ s'.rs.length = s.rs.length ∧ s'.get (.w p) = h ∧ Jk s' lo (loosed st p (ptrW to)) hw (updC ch p []) :=
 Jk.loose_aux hp hlo (ch p) _ s st ch J hs rfl (locs_len (J.nodup p) fun x hx => ((J.mem p h hp hlo x).1 hx).1)
end Go.Proofs.YtjiaaefpepdoeaaDoor.Md
namespace Go.Proofs.YtjiaaefpepdoeaaDoor.Md
set_option linter.unusedVariables false
theorem obj_facts {ws : List Int} {a : Int} {h : Hdr} (hh : objAt ws a = some h) :
  0 ≤ a ∧ a < ws.length ∧ readH (ws.getD a.toNat 0) = some h ∧ 0 ≤ h.size ∧ h.size < 1048576 ∧ a + 1 + h.size ≤ ws.length := by
 unfold objAt rdAt at hh
 by_cases hc : 0 ≤ a ∧ a < ws.length
 ·rw [if_pos hc] at hh
  simp only at hh
  cases hr : readH (ws.getD a.toNat 0) with
  | none => rw [hr] at hh; cases hh
  | some g =>
   rw [hr] at hh
   simp only at hh
   split at hh
   ·rename_i hs
    injection hh with e
    subst e
    obtain ⟨_, h0, h1, e⟩ := read_some hr
    have : 0 ≤ g.size ∧ g.size < 1048576 := by rw [e]; unfold unpackH; simp only; omega
    exact ⟨hc.1, hc.2, rfl, this.1, this.2, by omega⟩
   ·cases hh
 ·rw [if_neg hc] at hh; cases hh
theorem obj0_of {ws : List Int} {a : Int} {h : Hdr} (hh : objAt ws a = some h) : obj0 ws a = h := by unfold obj0; rw [hh]; rfl
theorem objAt_mk {ws : List Int} {a : Int} {h : Hdr} (h0 : 0 ≤ a) (h1 : a < ws.length) (hr : readH (ws.getD a.toNat 0) = some h) (hs : a + 1 + h.size ≤ ws.length) : objAt ws a = some h := by
 unfold objAt rdAt
 rw [if_pos ⟨h0, h1⟩]
 simp only [hr]
 rw [if_pos (by omega)]
inductive Rows (ws : List Int) : Int → List Int → Prop
 | nil : Rows ws ws.length []
 | cons {a : Int} {h : Hdr} {L : List Int} : objAt ws a = some h → Rows ws (a + 1 + h.size) L → Rows ws a (a :: L)
theorem rows_of_objsFrom {ws : List Int} : ∀ (g : Nat) (a : Int) (L : List Int), a ≤ ws.length → objsFrom ws g a = some L → Rows ws a L := by
 intro g
 induction g with
 | zero =>
  intro a L ha h
  unfold objsFrom at h
  split at h
  ·cases h
  ·injection h with e; subst e
   have : a = ws.length := by omega
   subst this; exact .nil
 | succ g ih =>
  intro a L ha h
  unfold objsFrom at h
  split at h
  ·split at h
   ·cases h
   ·rename_i hd ho
    cases hq : objsFrom ws g (a + 1 + hd.size) with
    | none => rw [hq] at h; cases h
    | some M =>
     rw [hq] at h
     simp only [Option.map_some, Option.some.injEq] at h
     subst h
     have := obj_facts ho
     exact .cons ho (ih _ _ (by omega) hq)
  ·injection h with e; subst e
   have : a = ws.length := by omega
   subst this; exact .nil
theorem rows_of_objs {ws L : List Int} (h : objs ws = some L) : Rows ws 0 L := rows_of_objsFrom _ _ _ (by omega) h
section
variable {ws : List Int} {a : Int} {L : List Int}
theorem Rows.len (h : Rows ws a L) : a + L.length ≤ ws.length := by
 induction h with
 | nil => simp
 | cons ho _ ih => have := obj_facts ho; simp only [List.length_cons]; omega
theorem Rows.objsFrom (h : Rows ws a L) : ∀ g, L.length ≤ g → objsFrom ws g a = some L := by
 induction h with
 | nil => intro g _; cases g <;> simp [Md.objsFrom]
 | cons ho _ ih =>
  intro g hg
  cases g with
  | zero => simp at hg
  | succ g =>
   have := obj_facts ho
   unfold Md.objsFrom
   rw [if_pos this.2.1]
   simp only [ho]
   rw [ih g (by simp at hg; omega)]
   rfl
theorem Rows.objs (h : Rows ws 0 L) : objs ws = some L := h.objsFrom _ (by have := h.len; omega)
theorem Rows.ge (h : Rows ws a L) : ∀ b ∈ L, a ≤ b := by
 induction h with
 | nil => simp
 | cons ho _ ih =>
  have := obj_facts ho
  intro b hb
  rcases List.mem_cons.1 hb with rfl | hb
  ·omega
  ·have := ih b hb; omega
theorem Rows.obj (h : Rows ws a L) : ∀ b ∈ L, ∃ hd, objAt ws b = some hd ∧ obj0 ws b = hd ∧ 0 ≤ b ∧ b < ws.length ∧ readH (ws.getD b.toNat 0) = some hd ∧ 0 ≤ hd.size ∧ hd.size < 1048576 ∧ b + 1 + hd.size ≤ ws.length := by
 induction h with
 | nil => simp
 | cons ho _ ih =>
  intro b hb
  rcases List.mem_cons.1 hb with rfl | hb
  ·have := obj_facts ho; exact ⟨_, ho, obj0_of ho, this.1, this.2.1, this.2.2.1, this.2.2.2.1, this.2.2.2.2.1, this.2.2.2.2.2⟩
  ·exact ih b hb
theorem Rows.sep (h : Rows ws a L) : ∀ b ∈ L, ∀ c ∈ L, b < c → b + 1 + (obj0 ws b).size ≤ c := by
 induction h with
 | nil => simp
 | cons ho hr ih =>
  have hf := obj_facts ho
  intro b hb c hc hlt
  rcases List.mem_cons.1 hb with e1 | hb
  ·rcases List.mem_cons.1 hc with e2 | hc
   ·omega
   ·rw [e1, obj0_of ho]; exact hr.ge c hc
  ·rcases List.mem_cons.1 hc with e2 | hc
   ·have := hr.ge b hb; omega
   ·exact ih b hb c hc hlt
theorem Rows.nodup (h : Rows ws a L) : L.Nodup := by
 induction h with
 | nil => simp
 | cons ho hr ih =>
  have := obj_facts ho
  exact List.nodup_cons.2 ⟨fun hm => by have := hr.ge _ hm; omega, ih⟩
theorem Rows.sorted (h : Rows ws a L) : L.Pairwise (· < ·) := by
 induction h with
 | nil => simp
 | cons ho hr ih =>
  have := obj_facts ho
  exact List.pairwise_cons.2 ⟨fun b hb => by have := hr.ge b hb; omega, ih⟩
end
def sw (L : List Int) (w : Int) : Prop := tagW w ≠ 6 ∧ tagW w ≠ 7 ∧ (tagW w = 5 → valW w ∈ L)
theorem isList_len (n : Nat) (L : List Int) : (isList n L).length = n := by simp [isList]
theorem isList_get {n : Nat} {L : List Int} {i : Nat} (h : i < n) : (isList n L).getD i false = decide ((i : Int) ∈ L) := by
 simp [isList, h]
theorem soundW_sw {n : Nat} {L : List Int} {w : Int} (hL : ∀ b ∈ L, 0 ≤ b ∧ b < n) : soundW w (isList n L) = true ↔ sw L w := by
 unfold soundW sw
 by_cases h6 : tagW w = 6 ∨ tagW w = 7
 ·rw [if_pos h6]; simp only [Bool.false_eq_true, false_iff]; rintro ⟨a, b, _⟩; omega
 ·rw [if_neg h6]
  by_cases h5 : tagW w = 5
  ·rw [if_pos h5, isList_len]
   simp only [Bool.and_eq_true, decide_eq_true_eq]
   constructor
   ·rintro ⟨⟨h0, h1⟩, h2⟩
    rw [isList_get (by omega)] at h2
    have h3 := of_decide_eq_true h2
    rw [Int.toNat_of_nonneg h0] at h3
    exact ⟨by omega, by omega, fun _ => h3⟩
   ·rintro ⟨_, _, h3⟩
    have h4 := h3 h5
    have h5 := hL _ h4
    refine ⟨⟨h5.1, h5.2⟩, ?_⟩
    rw [isList_get (by omega)]
    exact decide_eq_true (by rw [Int.toNat_of_nonneg h5.1]; exact h4)
  ·rw [if_neg h5]
   simp only [true_iff]
   exact ⟨by omega, by omega, fun h => absurd h h5⟩
structure Snd (ws rs L : List Int) : Prop where
 objs : objs ws = some L
 rows : Rows ws 0 L
 root : ∀ r ∈ rs, sw L r
 fit : ∀ a ∈ L, fieldsH (obj0 ws a) ≤ (obj0 ws a).size
 fld : ∀ a ∈ L, ∀ k : Nat, (k : Int) < fieldsH (obj0 ws a) → sw L (rd0 ws (a + 1 + k))
theorem snd_of {ws rs : List Int} (h : soundB ws rs = true) : ∃ L, Snd ws rs L := by
 unfold soundB at h
 cases ho : objs ws with
 | none => rw [ho] at h; cases h
 | some L =>
  rw [ho] at h
  have hr := rows_of_objs ho
  have hL : ∀ b ∈ L, 0 ≤ b ∧ b < ws.length := fun b hb => by obtain ⟨hd, _, _, h0, h1, _⟩ := hr.obj b hb; exact ⟨h0, h1⟩
  simp only [Bool.and_eq_true, List.all_eq_true] at h
  refine ⟨L, ho, hr, fun r hr => (soundW_sw hL).1 (h.1 r hr), fun a ha => ?_, fun a ha k hk => ?_⟩
  ·have := h.2 a ha
   unfold soundAt at this
   simp only [Bool.and_eq_true, decide_eq_true_eq] at this
   exact this.1
  ·have := h.2 a ha
   unfold soundAt at this
   simp only [Bool.and_eq_true, decide_eq_true_eq, List.all_eq_true] at this
   refine (soundW_sw hL).1 (this.2 _ ?_)
   unfold fieldsAt
   exact List.mem_map.2 ⟨k, List.mem_range.2 (by omega), rfl⟩
theorem Snd.bool {ws rs L : List Int} (h : Snd ws rs L) : soundB ws rs = true := by
 have hL : ∀ b ∈ L, 0 ≤ b ∧ b < ws.length := fun b hb => by obtain ⟨hd, _, _, h0, h1, _⟩ := h.rows.obj b hb; exact ⟨h0, h1⟩
 unfold soundB
 rw [h.objs]
 simp only [Bool.and_eq_true, List.all_eq_true]
 refine ⟨fun r hr => (soundW_sw hL).2 (h.root r hr), fun a ha => ?_⟩
 unfold soundAt
 simp only [Bool.and_eq_true, decide_eq_true_eq, List.all_eq_true]
 refine ⟨h.fit a ha, fun w hw => (soundW_sw hL).2 ?_⟩
 unfold fieldsAt at hw
 obtain ⟨k, hk, rfl⟩ := List.mem_map.1 hw
 exact h.fld a ha k (by have := List.mem_range.1 hk; omega)
def fldB (ws L : List Int) (j : Nat) : Bool := L.any fun a => decide (a < (j : Int)) && decide ((j : Int) ≤ a + fieldsH (obj0 ws a))
theorem fldB_iff {ws L : List Int} {j : Nat} : fldB ws L j = true ↔ ∃ a ∈ L, a < (j : Int) ∧ (j : Int) ≤ a + fieldsH (obj0 ws a) := by
 simp [fldB, List.any_eq_true]
def hdw (L ws : List Int) : Nat → Option Int := fun i => if (i : Int) ∈ L then some (ws.getD i 0) else none
theorem hdw_some {L ws : List Int} {i : Nat} {h : Int} : hdw L ws i = some h ↔ (i : Int) ∈ L ∧ h = ws.getD i 0 := by
 unfold hdw
 split
 ·rename_i h1; simp [h1, eq_comm]
 ·rename_i h1; simp [h1]
theorem nohead_w {L ws : List Int} {i : Nat} : nohead (hdw L ws) (.w i) ↔ (i : Int) ∉ L := by
 show hdw L ws i = none ↔ _
 unfold hdw
 split
 ·rename_i h1; simp [h1]
 ·rename_i h1; simp [h1]
section
variable {ws rs L : List Int}
theorem Rows.one {a b j : Int} (h : Rows ws 0 L) (ha : a ∈ L) (hb : b ∈ L) (h1 : a ≤ j) (h2 : j ≤ a + (obj0 ws a).size) (h3 : b ≤ j) (h4 : j ≤ b + (obj0 ws b).size) : a = b := by
 by_cases e : a = b
 ·exact e
 ·by_cases hlt : a < b
  ·have := h.sep a ha b hb hlt; omega
  ·have := h.sep b hb a ha (by omega); omega
theorem Snd.fld_head (h : Snd ws rs L) {j : Nat} (hf : fldB ws L j = true) : (j : Int) ∉ L := by
 intro hm
 obtain ⟨a, ha, h1, h2⟩ := fldB_iff.1 hf
 have h3 := h.fit a ha
 obtain ⟨hd, _, e, _, _, _, h0, _⟩ := h.rows.obj j hm
 have := h.rows.one ha hm (j := j) (by omega) (by omega) (by omega) (by rw [e]; omega)
 omega
theorem Snd.fld_lt (h : Snd ws rs L) {j : Nat} (hf : fldB ws L j = true) : j < ws.length := by
 obtain ⟨a, ha, h1, h2⟩ := fldB_iff.1 hf
 have h3 := h.fit a ha
 obtain ⟨hd, _, e, _, _, _, _, _, h4⟩ := h.rows.obj a ha
 rw [e] at h3 h2
 omega
theorem fld_of {a : Int} {j : Nat} (ha : a ∈ L) (h1 : a < j) (h2 : (j : Int) ≤ a + fieldsH (obj0 ws a)) : fldB ws L j = true := fldB_iff.2 ⟨a, ha, h1, h2⟩
theorem Snd.fld_not (h : Snd ws rs L) {a : Int} {j : Nat} (ha : a ∈ L) (h1 : a ≤ j) (h2 : (j : Int) ≤ a + (obj0 ws a).size) (h3 : (j : Int) = a ∨ a + fieldsH (obj0 ws a) < j) : fldB ws L j = false := by
 cases hf : fldB ws L j with
 | false => rfl
 | true =>
  obtain ⟨b, hb, h4, h5⟩ := fldB_iff.1 hf
  have h6 := h.fit b hb
  have := h.rows.one ha hb h1 h2 (by omega) (by omega)
  subst this
  omega
theorem Snd.head_tag (h : Snd ws rs L) {j : Nat} (hm : (j : Int) ∈ L) : j < ws.length ∧ tagW (ws.getD j 0) = 6 := by
 obtain ⟨hd, _, _, h0, h1, h2, _⟩ := h.rows.obj j hm
 exact ⟨by omega, (read_some h2).1⟩
end
theorem ptr_of {w : Int} (h : okW w) (ht : tagW w = 5) : w = ptrW (valW w) := by
 have := ofW_tag_val h (by omega)
 rw [ht] at this
 exact this.symm
theorem Jk.start {ws rs ys L : List Int} (h : Snd ws ys L) {st : Loc → Stat} (hst : ∀ m, Loc.ok ⟨ws, rs⟩ m → st m = .plain (St.get ⟨ws, rs⟩ m)) : Jk ⟨ws, rs⟩ 0 st (hdw L ws) (fun _ => []) where
 plain := fun l v a _ _ e => by rw [hst l a] at e; cases e; rfl
 chain := fun p hh hp _ => by
  obtain ⟨hm, rfl⟩ := hdw_some.1 hp
  exact ⟨(h.head_tag hm).1, rfl⟩
 mem := fun p hh hp _ l => by
  constructor
  ·intro hm; cases hm
  ·rintro ⟨a, _, _, e⟩; rw [hst l a] at e; cases e
 nodup := fun _ => List.nodup_nil
 htag := fun p hh hp => by
  obtain ⟨hm, rfl⟩ := hdw_some.1 hp
  rw [(h.head_tag hm).2]; decide
theorem list_ext {xs ys : List Int} (hl : xs.length = ys.length) (h : ∀ j, j < ys.length → xs.getD j 0 = ys.getD j 0) : xs = ys := by
 apply List.ext_getElem hl
 intro i h1 h2
 have := h i h2
 simpa [List.getD, h1, h2] using this
end Go.Proofs.YtjiaaefpepdoeaaDoor.Md
namespace Go.Proofs.YtjiaaefpepdoeaaDoor.Md
set_option linter.unusedVariables false
inductive Lv (ws : List Int) : List Bool → List Int → Option (List Bool) → Prop
 | nil {seen : List Bool} : Lv ws seen [] (some seen)
 | other {seen : List Bool} {rest : List Int} {w : Int} {r : Option (List Bool)} : tagW w ≠ 5 → Lv ws seen rest r → Lv ws seen (rest ++ [w]) r
 | bad {seen : List Bool} {rest : List Int} {w : Int} : tagW w = 5 → objAt ws (valW w) = none → Lv ws seen (rest ++ [w]) none
 | old {seen : List Bool} {rest : List Int} {w : Int} {h : Hdr} {r : Option (List Bool)} : tagW w = 5 → objAt ws (valW w) = some h → seen.getD (valW w).toNat false = true → Lv ws seen rest r → Lv ws seen (rest ++ [w]) r
 | new {seen : List Bool} {rest : List Int} {w : Int} {h : Hdr} {r : Option (List Bool)} : tagW w = 5 → objAt ws (valW w) = some h → seen.getD (valW w).toNat false = false →
  Lv ws (seen.set (valW w).toNat true) (rest ++ fieldsAt ws (valW w) (nFields h)) r → Lv ws seen (rest ++ [w]) r
def Holds (T : Nat → Prop) (todo : List Int) : Prop := ∀ w ∈ todo, tagW w = 5 → T (valW w).toNat
def Closed (ws : List Int) (T : Nat → Prop) : Prop := ∀ x : Nat, T x → ∃ h, objAt ws x = some h ∧ Holds T (fieldsAt ws x (nFields h))
def isIn (s : List Bool) (x : Nat) : Prop := s.getD x false = true
theorem isIn_set {s : List Bool} {k x : Nat} (hk : k < s.length) : isIn (s.set k true) x ↔ x = k ∨ isIn s x := by
 unfold isIn
 by_cases h : x = k
 ·subst h; simp [hk]
 ·simp [List.getD, Ne.symm h, h]
theorem Lv.spec {ws : List Int} {seen : List Bool} {todo : List Int} {r : Option (List Bool)} (h : Lv ws seen todo r) : ∀ s, r = some s → seen.length = ws.length →
  s.length = ws.length ∧ (∀ x, isIn seen x → isIn s x) ∧ Holds (isIn s) todo ∧ (∀ x, isIn s x → isIn seen x ∨ ∃ hd, objAt ws x = some hd ∧ Holds (isIn s) (fieldsAt ws x (nFields hd))) ∧
  (∀ T : Nat → Prop, (∀ x, isIn seen x → T x) → Holds T todo → (∀ x : Nat, T x → ¬ isIn seen x → ∃ hd, objAt ws x = some hd ∧ Holds T (fieldsAt ws x (nFields hd))) → ∀ x, isIn s x → T x) := by
 induction h with
 | nil =>
  intro s e hl
  injection e with e; subst e
  exact ⟨hl, fun _ h => h, fun w hw => absurd hw (by simp), fun x hx => .inl hx, fun T h1 _ _ x hx => h1 x hx⟩
 | other ht _ ih =>
  intro s e hl
  obtain ⟨a, b, c, d, f⟩ := ih s e hl
  refine ⟨a, b, fun w hw h5 => ?_, d, fun T h1 h2 h3 => f T h1 (fun w hw => h2 w (by simp [hw])) h3⟩
  rcases List.mem_append.1 hw with hw | hw
  ·exact c w hw h5
  ·simp only [List.mem_singleton] at hw; subst hw; exact absurd h5 ht
 | bad => intro s e; cases e
 | @old seen rest w hd r ht ho hs _ ih =>
  intro s e hl
  obtain ⟨a, b, c, d, f⟩ := ih s e hl
  refine ⟨a, b, fun w' hw h5 => ?_, d, fun T h1 h2 h3 => f T h1 (fun w hw => h2 w (by simp [hw])) h3⟩
  rcases List.mem_append.1 hw with hw | hw
  ·exact c w' hw h5
  ·simp only [List.mem_singleton] at hw; subst hw; exact b _ hs
 | @new seen rest w hd r ht ho hs _ ih =>
  intro s e hl
  have hf := obj_facts ho
  have hk : (valW w).toNat < seen.length := by omega
  obtain ⟨a, b, c, d, f⟩ := ih s e (by rw [List.length_set]; exact hl)
  have e0 : ((valW w).toNat : Int) = valW w := Int.toNat_of_nonneg hf.1
  have hw : isIn s (valW w).toNat := b _ ((isIn_set hk).2 (.inl rfl))
  refine ⟨a, fun x hx => b x ((isIn_set hk).2 (.inr hx)), fun w' hw' h5 => ?_, fun x hx => ?_, fun T h1 h2 h3 x hx => ?_⟩
  ·rcases List.mem_append.1 hw' with hw' | hw'
   ·exact c w' (by simp [hw']) h5
   ·simp only [List.mem_singleton] at hw'; subst hw'; exact hw
  ·rcases d x hx with h | h
   ·rcases (isIn_set hk).1 h with rfl | h
    ·right
     refine ⟨hd, by rw [e0]; exact ho, fun w' hw' h5 => c w' ?_ h5⟩
     rw [e0] at hw'
     simp [hw']
    ·exact .inl h
   ·exact .inr h
  ·have hT : T (valW w).toNat := h2 w (by simp) ht
   refine f T (fun y hy => ?_) (fun w' hw' h5 => ?_) (fun y hy hny => ?_) x hx
   ·rcases (isIn_set hk).1 hy with rfl | hy
    ·exact hT
    ·exact h1 y hy
   ·rcases List.mem_append.1 hw' with hw' | hw'
    ·exact h2 w' (by simp [hw']) h5
    ·obtain ⟨hd2, ho2, hh⟩ := h3 _ hT (by unfold isIn; rw [hs]; simp)
     rw [e0, ho] at ho2
     injection ho2 with ho2
     subst ho2
     rw [e0] at hh
     exact hh w' hw' h5
   ·exact h3 y hy (fun h => hny ((isIn_set hk).2 (.inr h)))
def Reach (ws rs : List Int) (s : List Bool) : Prop := Lv ws (List.replicate ws.length false) rs (some s)
theorem isIn_none {n x : Nat} : ¬ isIn (List.replicate n false) x := by
 unfold isIn
 by_cases h : x < n
 ·simp [h]
 ·simp [List.getD, h]
section
variable {ws rs : List Int} {s : List Bool}
theorem Reach.len (h : Reach ws rs s) : s.length = ws.length := (Lv.spec h s rfl (by simp)).1
theorem Reach.holds (h : Reach ws rs s) : Holds (isIn s) rs := (Lv.spec h s rfl (by simp)).2.2.1
theorem Reach.closed (h : Reach ws rs s) : Closed ws (isIn s) := fun x hx => ((Lv.spec h s rfl (by simp)).2.2.2.1 x hx).elim (fun h => absurd h isIn_none) id
theorem Reach.least (h : Reach ws rs s) (T : Nat → Prop) (hT : Holds T rs) (hc : Closed ws T) : ∀ x, isIn s x → T x :=
 (Lv.spec h s rfl (by simp)).2.2.2.2 T (fun x hx => absurd hx isIn_none) hT (fun x hx _ => hc x hx)
end
theorem Lv.sound {ws rs L : List Int} (S : Snd ws rs L) {seen : List Bool} {todo : List Int} {r : Option (List Bool)} (h : Lv ws seen todo r) : (∀ w ∈ todo, sw L w) → r ≠ none := by
 induction h with
 | nil => intro _ e; cases e
 | other _ _ ih => intro hs; exact ih (fun w hw => hs w (by simp [hw]))
 | @bad seen rest w ht ho =>
  intro hs
  have := (hs w (by simp)).2.2 ht
  obtain ⟨hd, ho2, _⟩ := S.rows.obj _ this
  rw [ho] at ho2; cases ho2
 | old _ _ _ _ ih => intro hs; exact ih (fun w hw => hs w (by simp [hw]))
 | @new seen rest w hd r ht ho hs0 _ ih =>
  intro hs
  have hm := (hs w (by simp)).2.2 ht
  have h0 := obj0_of ho
  have hf := S.fit _ hm
  rw [h0] at hf
  refine ih (fun w' hw' => ?_)
  rcases List.mem_append.1 hw' with hw' | hw'
  ·exact hs w' (by simp [hw'])
  ·unfold fieldsAt at hw'
   obtain ⟨k, hk, rfl⟩ := List.mem_map.1 hw'
   have hk := List.mem_range.1 hk
   unfold nFields at hk
   exact S.fld _ hm k (by rw [h0]; omega)
theorem Reach.objs {ws rs ys L : List Int} {s : List Bool} (S : Snd ws ys L) (h : Reach ws rs s) (hr : ∀ w ∈ rs, sw L w) : ∀ x : Nat, isIn s x → (x : Int) ∈ L := by
 refine h.least (fun x => (x : Int) ∈ L) (fun w hw h5 => ?_) (fun x hx => ?_)
 ·have := (hr w hw).2.2 h5
  have h0 := S.rows.ge _ this
  show ((valW w).toNat : Int) ∈ L
  rw [Int.toNat_of_nonneg h0]; exact this
 ·obtain ⟨hd, ho, h0, _⟩ := S.rows.obj _ hx
  refine ⟨hd, ho, fun w hw h5 => ?_⟩
  have hf := S.fit _ hx
  rw [h0] at hf
  unfold fieldsAt at hw
  obtain ⟨k, hk, rfl⟩ := List.mem_map.1 hw
  have hk := List.mem_range.1 hk
  unfold nFields at hk
  have h2 := (S.fld _ hx k (by rw [h0]; omega)).2.2 h5
  have h3 := S.rows.ge _ h2
  show ((valW (rd0 ws ((x : Int) + 1 + (k : Int)))).toNat : Int) ∈ L
  rw [Int.toNat_of_nonneg h3]; exact h2
theorem mem_seenList {s : List Bool} {x : Int} : x ∈ seenList s ↔ ∃ k : Nat, x = k ∧ k < s.length ∧ isIn s k := by
 unfold seenList isIn
 simp only [List.mem_map, List.mem_filter, List.mem_range]
 constructor
 ·rintro ⟨k, ⟨h1, h2⟩, rfl⟩; exact ⟨k, rfl, h1, h2⟩
 ·rintro ⟨k, rfl, h1, h2⟩; exact ⟨k, ⟨h1, h2⟩, rfl⟩
theorem seenList_sorted (s : List Bool) : (seenList s).Pairwise (· < ·) := by
 unfold seenList
 rw [List.pairwise_map]
 exact (List.pairwise_lt_range.filter _).imp (fun h => by omega)
theorem Lv.inv {ws : List Int} {seen : List Bool} {todo : List Int} {r : Option (List Bool)} (h : Lv ws seen todo r) :
  (todo = [] ∧ r = some seen) ∨ ∃ rest w, todo = rest ++ [w] ∧ ((tagW w ≠ 5 ∧ Lv ws seen rest r) ∨ (tagW w = 5 ∧ objAt ws (valW w) = none ∧ r = none) ∨
   (∃ hd, tagW w = 5 ∧ objAt ws (valW w) = some hd ∧ seen.getD (valW w).toNat false = true ∧ Lv ws seen rest r) ∨
   (∃ hd, tagW w = 5 ∧ objAt ws (valW w) = some hd ∧ seen.getD (valW w).toNat false = false ∧ Lv ws (seen.set (valW w).toNat true) (rest ++ fieldsAt ws (valW w) (nFields hd)) r)) := by
 cases h with
 | nil => exact .inl ⟨rfl, rfl⟩
 | other ht h => exact .inr ⟨_, _, rfl, .inl ⟨ht, h⟩⟩
 | bad ht ho => exact .inr ⟨_, _, rfl, .inr (.inl ⟨ht, ho, rfl⟩)⟩
 | old ht ho hs h => exact .inr ⟨_, _, rfl, .inr (.inr (.inl ⟨_, ht, ho, hs, h⟩))⟩
 | new ht ho hs h => exact .inr ⟨_, _, rfl, .inr (.inr (.inr ⟨_, ht, ho, hs, h⟩))⟩
theorem snoc_inj {a b : List Int} {x y : Int} (h : a ++ [x] = b ++ [y]) : a = b ∧ x = y := by
 have h1 := congrArg List.reverse h
 simp at h1
 exact ⟨h1.2, h1.1⟩
theorem Lv.det {ws : List Int} {seen : List Bool} {todo : List Int} {r : Option (List Bool)} (h : Lv ws seen todo r) : ∀ r', Lv ws seen todo r' → r = r' := by
 induction h with
 | nil =>
  intro r' k
  rcases k.inv with ⟨_, e⟩ | ⟨rest, w, e, _⟩
  ·exact e.symm
  ·exact absurd e (by simp)
 | other ht _ ih =>
  intro r' k
  rcases k.inv with ⟨e, _⟩ | ⟨rest, w, e, k⟩
  ·exact absurd e (by simp)
  ·obtain ⟨rfl, rfl⟩ := snoc_inj e
   rcases k with ⟨_, k⟩ | ⟨k, _⟩ | ⟨_, k, _⟩ | ⟨_, k, _⟩
   ·exact ih r' k
   ·exact absurd k ht
   ·exact absurd k ht
   ·exact absurd k ht
 | bad ht ho =>
  intro r' k
  rcases k.inv with ⟨e, _⟩ | ⟨rest, w, e, k⟩
  ·exact absurd e (by simp)
  ·obtain ⟨rfl, rfl⟩ := snoc_inj e
   rcases k with ⟨k, _⟩ | ⟨_, _, k⟩ | ⟨_, _, k, _⟩ | ⟨_, _, k, _⟩
   ·exact absurd ht k
   ·exact k.symm
   ·rw [ho] at k; cases k
   ·rw [ho] at k; cases k
 | old ht ho hs _ ih =>
  intro r' k
  rcases k.inv with ⟨e, _⟩ | ⟨rest, w, e, k⟩
  ·exact absurd e (by simp)
  ·obtain ⟨rfl, rfl⟩ := snoc_inj e
   rcases k with ⟨k, _⟩ | ⟨_, k, _⟩ | ⟨_, _, _, _, k⟩ | ⟨_, _, _, k, _⟩
   ·exact absurd ht k
   ·rw [ho] at k; cases k
   ·exact ih r' k
   ·rw [hs] at k; cases k
 | new ht ho hs _ ih =>
  intro r' k
  rcases k.inv with ⟨e, _⟩ | ⟨rest, w, e, k⟩
  ·exact absurd e (by simp)
  ·obtain ⟨rfl, rfl⟩ := snoc_inj e
   rcases k with ⟨k, _⟩ | ⟨_, k, _⟩ | ⟨_, _, _, k, _⟩ | ⟨_, _, ho2, _, k⟩
   ·exact absurd ht k
   ·rw [ho] at k; cases k
   ·rw [hs] at k; cases k
   ·rw [ho] at ho2
    injection ho2 with e2
    subst e2
    exact ih r' k
def lvM (ws : List Int) : Nat → List Bool → List Int → Option (Option (List Bool))
 | 0, _, _ => none
 | k + 1, seen, todo =>
  match todo.getLast? with
  | none => some (some seen)
  | some w =>
   if tagW w = 5 then
    match objAt ws (valW w) with
    | none => some none
    | some h =>
     if seen.getD (valW w).toNat false = true then lvM ws k seen todo.dropLast
     else lvM ws k (seen.set (valW w).toNat true) (todo.dropLast ++ fieldsAt ws (valW w) (nFields h))
   else lvM ws k seen todo.dropLast
theorem lv_of {ws : List Int} : ∀ (k : Nat) (seen : List Bool) (todo : List Int) (r : Option (List Bool)), lvM ws k seen todo = some r → Lv ws seen todo r := by
 intro k
 induction k with
 | zero => intro _ _ _ h; cases h
 | succ k ih =>
  intro seen todo r h
  unfold lvM at h
  cases hl : todo.getLast? with
  | none =>
   rw [hl] at h
   injection h with h
   subst h
   have : todo = [] := List.getLast?_eq_none_iff.1 hl
   subst this
   exact .nil
  | some w =>
   rw [hl] at h
   simp only at h
   have e : todo = todo.dropLast ++ [w] := by
    obtain ⟨ys, rfl⟩ := List.getLast?_eq_some_iff.1 hl
    simp
   rw [e]
   split at h
   ·rename_i ht
    split at h
    ·rename_i ho
     injection h with h
     subst h
     exact .bad ht ho
    ·rename_i hd ho
     split at h
     ·rename_i hs
      exact .old ht ho hs (ih _ _ _ h)
     ·rename_i hs
      exact .new ht ho (by simpa using hs) (ih _ _ _ h)
   ·rename_i ht
    exact .other ht (ih _ _ _ h)
end Go.Proofs.YtjiaaefpepdoeaaDoor.Md
namespace Go.Proofs.YtjiaaefpepdoeaaDoor.Md
set_option linter.unusedVariables false
theorem loose_get {p : Nat} {h to : Int} (ht : tagW h ≠ 7) : ∀ (ls : List Loc) (k : Nat) (s : St), s.small → p < s.ws.length → Ch s (s.get (.w p)) ls h → ls.Nodup → (∀ l ∈ ls, l.ok s ∧ l ≠ .w p) → ls.length ≤ k →
  ∃ s' : St, looseM k s.ws s.rs p to = ⟨ls.length, true, s'.ws, s'.rs⟩ ∧ ∀ m : Loc, m ≠ .w p → m ∉ ls → s'.get m = s.get m
 | [], k, s, hs, hp, hc, _, _, _ => by
  have hg : s.get (.w p) = h := hc
  exact ⟨s, loose_stop k to hp (by rw [hg]; exact ht), fun _ _ _ => rfl⟩
 | l :: ls, k, s, hs, hp, hc, nd, hl, hk => by
  obtain ⟨k, rfl⟩ : ∃ m, k = m + 1 := ⟨k - 1, by simp at hk; omega⟩
  obtain ⟨hn, nd2⟩ := List.nodup_cons.1 nd
  obtain ⟨hlo, hlp⟩ := hl l (by simp)
  have hwp : (Loc.w p).ok s := hp
  have hl' : l.ok (s.put (.w p) (s.get l)) := Loc.ok_put.2 hlo
  have gt : ∀ m : Loc, m ≠ l → m ≠ .w p → ((s.put (.w p) (s.get l)).put l (ptrW to)).get m = s.get m := fun m h1 h2 => by
   rw [St.get_put_ne hl' h1, St.get_put_ne hwp h2]
  have gp : ((s.put (.w p) (s.get l)).put l (ptrW to)).get (.w p) = s.get l := by
   rw [St.get_put_ne hl' (Ne.symm hlp), St.get_put_eq hwp]
  obtain ⟨s', e, hg⟩ := loose_get (to := to) ht ls k ((s.put (.w p) (s.get l)).put l (ptrW to)) (St.small_put (St.small_put hs)) (by rw [St.put_ws, St.put_ws]; exact hp)
   (by rw [gp]; exact Ch.congr (fun m hm => gt m (fun e => hn (e ▸ hm)) (hl m (by simp [hm])).2) hc.2) nd2 (fun m hm => ⟨Loc.ok_put.2 (Loc.ok_put.2 (hl m (by simp [hm])).1), (hl m (by simp [hm])).2⟩) (by simp at hk; omega)
  refine ⟨s', ?_, fun m h1 h2 => ?_⟩
  ·rw [loose_step hs k to hlo hp hc.1]
   simp only [e, List.length_cons]
  ·rw [hg m h1 (fun h => h2 (by simp [h])), gt m (fun e => h2 (by simp [e])) h1]
theorem Jk.loose2 {s : St} {lo : Nat} {st : Loc → Stat} {hw : Nat → Option Int} {ch : Nat → List Loc} (J : Jk s lo st hw ch) (hs : s.small) {p : Nat} {h to : Int} (hp : hw p = some h) (hlo : lo ≤ p) :
  ∃ (n : Nat) (s' : St), looseM (s.ws.length + s.rs.length) s.ws s.rs p to = ⟨n, true, s'.ws, s'.rs⟩ ∧ s'.ws.length = s.ws.length ∧ s'.rs.length = s.rs.length ∧ s'.get (.w p) = h ∧ (∃ ch', Jk s' lo (loosed st p (ptrW to)) hw ch') ∧
   ∀ x : Nat, x < lo → s'.get (.w x) = s.get (.w x) := by
 obtain ⟨s', e, e1, e2, e3, J'⟩ := J.loose (to := to) hs hp hlo
 obtain ⟨hpl, hc⟩ := J.chain p h hp hlo
 have hm := J.mem p h hp hlo
 obtain ⟨s2, f, hg⟩ := loose_get (to := to) (J.htag p h hp) (ch p) (s.ws.length + s.rs.length) s hs hpl hc (J.nodup p) (fun l hl => ⟨((hm l).1 hl).1, ((hm l).1 hl).2.2.1.ne hp⟩) (locs_len (J.nodup p) fun x hx => ((hm x).1 hx).1)
 rw [e] at f
 simp only [Loosed.mk.injEq, true_and] at f
 refine ⟨_, s', e, e1, e2, e3, ⟨_, J'⟩, fun x hx => ?_⟩
 have h2 := hg (.w x) (by intro e; injection e with e; omega) (fun hl => by have := ((hm _).1 hl).2.1; simp [Loc.above] at this; omega)
 cases s' with
 | mk w1 r1 =>
  cases s2 with
  | mk w2 r2 =>
   simp only at f
   obtain ⟨rfl, rfl⟩ := f
   exact h2
theorem Jk.agree {s s' : St} {lo lo' : Nat} {st : Loc → Stat} {hw : Nat → Option Int} {ch : Nat → List Loc} (J : Jk s lo st hw ch) (hll : lo ≤ lo') (h1 : s'.ws.length = s.ws.length) (h2 : s'.rs = s.rs) (hg : ∀ x, lo' ≤ x → s'.get (.w x) = s.get (.w x))
  (hm : ∀ p h, hw p = some h → lo' ≤ p → ∀ l, l ∈ ch p → l.above lo') : Jk s' lo' st hw ch := by
 have okk : ∀ l : Loc, l.ok s' ↔ l.ok s := fun l => by cases l <;> simp [Loc.ok, h1, h2]
 have ab : ∀ l : Loc, l.above lo' → l.above lo := fun l h => by cases l <;> simp [Loc.above] at h ⊢; omega
 have gg : ∀ l : Loc, l.above lo' → s'.get l = s.get l := fun l h => by
  cases l with
  | w x => exact hg x h
  | r x => simp [St.get, h2]
 constructor
 ·intro l v a b c e
  rw [gg l b]
  exact J.plain l v ((okk l).1 a) (ab l b) c e
 ·intro p h hp hlo
  obtain ⟨a, b⟩ := J.chain p h hp (by omega)
  refine ⟨by rw [h1]; exact a, ?_⟩
  rw [gg (.w p) hlo]
  exact Ch.congr (fun l hl => gg l (hm p h hp hlo l hl)) b
 ·intro p h hp hlo l
  rw [J.mem p h hp (by omega) l, okk]
  constructor
  ·rintro ⟨a, b, c, d⟩
   exact ⟨a, hm p h hp hlo l ((J.mem p h hp (by omega) l).2 ⟨a, b, c, d⟩), c, d⟩
  ·rintro ⟨a, b, c, d⟩
   exact ⟨a, ab l b, c, d⟩
 ·exact J.nodup
 ·exact J.htag
def plc (ws M : List Int) (a : Int) : Int := wordsM ws (M.filter fun b => decide (b < a))
def mvW (ws M : List Int) (w : Int) : Int := if tagW w = 5 then ptrW (plc ws M (valW w)) else w
theorem plc_split {ws P Q : List Int} {a : Int} (h : (P ++ a :: Q).Pairwise (· < ·)) : plc ws (P ++ a :: Q) a = wordsM ws P := by
 obtain ⟨h1, h2, h3⟩ := List.pairwise_append.1 h
 have h4 := (List.pairwise_cons.1 h2).1
 unfold plc
 congr 1
 rw [List.filter_append, List.filter_eq_self.2 (fun x hx => decide_eq_true (h3 x hx a (by simp)))]
 rw [List.filter_cons, if_neg (by simp), List.filter_eq_nil_iff.2 (fun x hx => by have := h4 x hx; simp; omega)]
 simp
theorem words_before {ws : List Int} {b : Int} {L : List Int} (h : Rows ws b L) : ∀ a ∈ L, ∀ l : List Int, l.Pairwise (· < ·) → (∀ x ∈ l, x ∈ L ∧ x < a) → b + wordsM ws l ≤ a := by
 induction h with
 | nil => intro a ha; cases ha
 | @cons c hd L ho hr ih =>
  intro a ha l hp hm
  have h3 := obj_facts ho
  cases l with
  | nil =>
   simp only [wordsM, List.map_nil, List.sum_nil]
   rcases List.mem_cons.1 ha with e | e
   ·omega
   ·have := hr.ge a e; omega
  | cons x l =>
   obtain ⟨hx, hp2⟩ := List.pairwise_cons.1 hp
   have e1 : wordsM ws (x :: l) = 1 + (obj0 ws x).size + wordsM ws l := by simp [wordsM]
   have hxa := (hm x (by simp)).2
   rcases List.mem_cons.1 ha with e | e
   ·exfalso
    rcases List.mem_cons.1 (hm x (by simp)).1 with e2 | e2
    ·omega
    ·have := hr.ge x e2; omega
   ·rcases List.mem_cons.1 (hm x (by simp)).1 with e2 | e2
    ·subst e2
     have := ih a e l hp2 (fun y hy => ⟨by
      rcases List.mem_cons.1 (hm y (by simp [hy])).1 with e | e
      ·have := hx y hy; omega
      ·exact e, (hm y (by simp [hy])).2⟩)
     rw [e1, obj0_of ho]
     omega
    ·have := ih a e (x :: l) hp (fun y hy => ⟨by
      rcases List.mem_cons.1 (hm y hy).1 with e3 | e3
      ·have h4 := hr.ge x e2
       rcases List.mem_cons.1 hy with e4 | e4
       ·omega
       ·have := hx y e4; omega
      ·exact e3, (hm y hy).2⟩)
     omega
structure Sc (l rs L M : List Int) : Prop where
 snd : Snd l rs L
 srt : M.Pairwise (· < ·)
 sub : ∀ a ∈ M, a ∈ L
 root : ∀ r ∈ rs, tagW r = 5 → valW r ∈ M
 cls : ∀ x, fldB l M x = true → tagW (l.getD x 0) = 5 → valW (l.getD x 0) ∈ M
 okl : okWs l
 okr : okWs rs
 small : St.small ⟨l, rs⟩
theorem fldB_sub {l L M : List Int} (h : ∀ a ∈ M, a ∈ L) {x : Nat} (hx : fldB l M x = true) : fldB l L x = true := by
 obtain ⟨a, ha, h1, h2⟩ := fldB_iff.1 hx
 exact fldB_iff.2 ⟨a, h a ha, h1, h2⟩
theorem loosed_pend {st : Loc → Stat} {p : Nat} {v : Int} {m : Loc} (h : st m = .pend p) : loosed st p v m = .plain v := by unfold loosed; rw [if_pos h]
theorem loosed_other {st : Loc → Stat} {p : Nat} {v : Int} {m : Loc} (h : st m ≠ .pend p) : loosed st p v m = st m := by unfold loosed; rw [if_neg h]
def upS (l rs M : List Int) (F V C : Nat) : Loc → Stat
 | .w x => if fldB l M x = true ∧ x < F ∧ tagW (l.getD x 0) = 5 then (if valW (l.getD x 0) < V ∧ (x : Int) < valW (l.getD x 0) then .plain (mvW l M (l.getD x 0)) else .pend (valW (l.getD x 0)).toNat) else .plain (l.getD x 0)
 | .r j => if j < C ∧ tagW (rs.getD j 0) = 5 then (if valW (rs.getD j 0) < V then .plain (mvW l M (rs.getD j 0)) else .pend (valW (rs.getD j 0)).toNat) else .plain (rs.getD j 0)
structure Us (l rs L M : List Int) (F V C : Nat) (ws ys : List Int) : Prop where
 jk : ∃ ch, Jk ⟨ws, ys⟩ 0 (upS l rs M F V C) (hdw L l) ch
 l1 : ws.length = l.length
 l2 : ys.length = rs.length
section
variable {l rs L M : List Int} {F V C : Nat} {ws ys : List Int}
theorem getD_mem {xs : List Int} {j : Nat} (h : j < xs.length) : xs.getD j 0 ∈ xs := by
 rw [List.getD_eq_getElem?_getD, List.getElem?_eq_getElem h]; exact List.getElem_mem h
theorem Us.start (S : Sc l rs L M) : Us l rs L M 0 0 0 l rs :=
 ⟨⟨fun _ => [], Jk.start S.snd (fun m _ => by cases m <;> simp [-List.getD_eq_getElem?_getD, upS, St.get])⟩, rfl, rfl⟩
theorem Us.small (h : Us l rs L M F V C ws ys) (S : Sc l rs L M) : St.small ⟨ws, ys⟩ := by
 have := S.small
 unfold St.small at *; simp only at *; rw [h.l1, h.l2]; exact this
theorem Us.same {F' V' C' : Nat} (h : Us l rs L M F V C ws ys) (e : ∀ m : Loc, m.ok ⟨l, rs⟩ → upS l rs M F' V' C' m = upS l rs M F V C m) : Us l rs L M F' V' C' ws ys := by
 obtain ⟨ch, J⟩ := h.jk
 exact ⟨⟨ch, J.congr fun m hm _ _ => e m (by cases m <;> simp [Loc.ok, h.l1, h.l2] at hm ⊢ <;> exact hm)⟩, h.l1, h.l2⟩
theorem Us.root (h : Us l rs L M F V C ws ys) (S : Sc l rs L M) (hC : C < rs.length) (hV : V = 0) :
  (threadM ws ys ⟨true, C⟩ = none ∧ Us l rs L M F V (C + 1) ws ys) ∨ ∃ ws' ys', threadM ws ys ⟨true, C⟩ = some (ws', ys') ∧ Us l rs L M F V (C + 1) ws' ys' := by
 subst hV
 obtain ⟨ch, J⟩ := h.jk
 have hst : upS l rs M F 0 C (.r C) = .plain (rs.getD C 0) := by simp [-List.getD_eq_getElem?_getD, upS]
 have hok : (Loc.r C).ok ⟨ws, ys⟩ := show C < ys.length by rw [h.l2]; exact hC
 by_cases h5 : tagW (rs.getD C 0) = 5
 ·right
  have hm := S.root _ (getD_mem hC) h5
  have hL := S.sub _ hm
  have h0 := S.snd.rows.ge _ hL
  obtain ⟨p, hp⟩ := Int.eq_ofNat_of_zero_le h0
  have hpt := ptr_of (S.okr _ (getD_mem hC)) h5
  rw [hp] at hpt hL
  obtain ⟨s', e, e1, e2, J'⟩ := J.thread (l := .r C) (p := p) (h := l.getD p 0) (h.small S) hok trivial trivial (by rw [hst, hpt]) (hdw_some.2 ⟨hL, rfl⟩) (Nat.zero_le _)
  refine ⟨s'.ws, s'.rs, e, ⟨_, J'.congr fun m hm2 _ _ => ?_⟩, by rw [e1]; exact h.l1, by rw [e2]; exact h.l2⟩
  unfold updS
  by_cases hmC : m = .r C
  ·subst hmC
   simp only [upS, if_true]
   rw [if_pos ⟨by omega, h5⟩, if_neg (by omega), hp]
   rfl
  ·rw [if_neg hmC]
   cases m with
   | w x => rfl
   | r j =>
    have : j ≠ C := fun e => hmC (by rw [e])
    have e2 : j < C + 1 ↔ j < C := by omega
    simp only [upS, e2]
 ·left
  refine ⟨?_, h.same fun m _ => ?_⟩
  ·unfold threadM
   have := fGet_loc (s := ⟨ws, ys⟩) hok
   rw [J.plain (.r C) _ hok trivial trivial hst] at this
   rw [show fGet ws ys ⟨true, C⟩ = some (rs.getD C 0) from this]
   simp only
   rw [if_neg (fun e => h5 e.1)]
  ·cases m with
   | w x => rfl
   | r j =>
    by_cases hj : j = C
    ·subst hj; simp [-List.getD_eq_getElem?_getD, upS, h5]
    ·have e2 : j < C + 1 ↔ j < C := by omega
     simp only [upS, e2]
theorem Us.skip {F' V' : Nat} (h : Us l rs L M F V C ws ys) (S : Sc l rs L M) (hF : F ≤ F') (hV : V ≤ V') (hf : ∀ j, F ≤ j → j < F' → fldB l M j = false) (hv : ∀ a ∈ M, ¬ ((V : Int) ≤ a ∧ a < V')) : Us l rs L M F' V' C ws ys := by
 refine h.same fun m hm => ?_
 cases m with
 | w x =>
  simp only [upS]
  by_cases hb : fldB l M x = true ∧ tagW (l.getD x 0) = 5
  ·have hM := S.cls x hb.1 hb.2
   have e1 : valW (l.getD x 0) < V' ↔ valW (l.getD x 0) < V := by have := hv _ hM; omega
   have e2 : (fldB l M x = true ∧ x < F' ∧ tagW (l.getD x 0) = 5) ↔ (fldB l M x = true ∧ x < F ∧ tagW (l.getD x 0) = 5) := by
    constructor
    ·rintro ⟨a, b, c⟩
     refine ⟨a, ?_, c⟩
     by_cases hx : x < F
     ·exact hx
     ·rw [hf x (by omega) b] at a; cases a
    ·rintro ⟨a, b, c⟩; exact ⟨a, by omega, c⟩
   simp only [e1, e2]
  ·rw [if_neg (fun e => hb ⟨e.1, e.2.2⟩), if_neg (fun e => hb ⟨e.1, e.2.2⟩)]
 | r j =>
  simp only [upS]
  by_cases hb : j < C ∧ tagW (rs.getD j 0) = 5
  ·have hM := S.root _ (getD_mem (show j < rs.length from hm)) hb.2
   have e1 : valW (rs.getD j 0) < V' ↔ valW (rs.getD j 0) < V := by have := hv _ hM; omega
   simp only [e1]
  ·rw [if_neg hb, if_neg hb]
theorem Us.loose {a : Nat} (h : Us l rs L M a a rs.length ws ys) (S : Sc l rs L M) (ha : (a : Int) ∈ M) :
  ∃ (n : Nat) (ws' ys' : List Int), looseM (ws.length + ys.length) ws ys a (plc l M a) = ⟨n, true, ws', ys'⟩ ∧ Us l rs L M a (a + 1) rs.length ws' ys' ∧ objAt ws' a = objAt l a := by
 obtain ⟨ch, J⟩ := h.jk
 have hL := S.sub _ ha
 obtain ⟨n, s', e, e1, e2, e3, ⟨ch', J'⟩, _⟩ := J.loose2 (p := a) (to := plc l M a) (h.small S) (hdw_some.2 ⟨hL, rfl⟩) (Nat.zero_le _)
 have k1 : s'.ws.length = l.length := by rw [e1]; exact h.l1
 have k2 : s'.rs.length = rs.length := by rw [e2]; exact h.l2
 refine ⟨n, s'.ws, s'.rs, e, ⟨⟨ch', J'.congr fun m hm _ _ => ?_⟩, k1, k2⟩, ?_⟩
 ·cases m with
  | w x =>
   by_cases hb : fldB l M x = true ∧ x < a ∧ tagW (l.getD x 0) = 5
   ·have h0 := S.snd.rows.ge _ (S.sub _ (S.cls x hb.1 hb.2.2))
    by_cases hv : valW (l.getD x 0) = a
    ·have e0 : upS l rs M a a rs.length (.w x) = .pend a := by simp only [upS]; rw [if_pos hb, if_neg (by omega), hv]; rfl
     rw [loosed_pend e0]
     simp only [upS]
     rw [if_pos hb, if_pos (by omega)]
     unfold mvW
     rw [if_pos hb.2.2, hv]
    ·have n0 : upS l rs M a a rs.length (.w x) ≠ .pend a := by
      simp only [upS]
      rw [if_pos hb]
      split
      ·intro e; cases e
      ·intro e; injection e with e; omega
     rw [loosed_other n0]
     simp only [upS]
     rw [if_pos hb, if_pos hb]
     by_cases hv2 : valW (l.getD x 0) < (a : Int) ∧ (x : Int) < valW (l.getD x 0)
     ·rw [if_pos (by omega), if_pos hv2]
     ·rw [if_neg (by omega), if_neg hv2]
   ·have e0 : upS l rs M a a rs.length (.w x) = .plain (l.getD x 0) := by simp only [upS]; rw [if_neg hb]
    rw [loosed_other (by rw [e0]; intro e; cases e), e0]
    simp only [upS]
    rw [if_neg hb]
  | r j =>
   have hj : j < rs.length := by rw [← k2]; exact hm
   by_cases hb : j < rs.length ∧ tagW (rs.getD j 0) = 5
   ·have h0 := S.snd.rows.ge _ (S.sub _ (S.root _ (getD_mem hj) hb.2))
    by_cases hv : valW (rs.getD j 0) = a
    ·have e0 : upS l rs M a a rs.length (.r j) = .pend a := by simp only [upS]; rw [if_pos hb, if_neg (by omega), hv]; rfl
     rw [loosed_pend e0]
     simp only [upS]
     rw [if_pos hb, if_pos (by omega)]
     unfold mvW
     rw [if_pos hb.2, hv]
    ·have n0 : upS l rs M a a rs.length (.r j) ≠ .pend a := by
      simp only [upS]
      rw [if_pos hb]
      split
      ·intro e; cases e
      ·intro e; injection e with e; omega
     rw [loosed_other n0]
     simp only [upS]
     rw [if_pos hb, if_pos hb]
     by_cases hv2 : valW (rs.getD j 0) < (a : Int)
     ·rw [if_pos (by omega), if_pos hv2]
     ·rw [if_neg (by omega), if_neg hv2]
   ·have e0 : upS l rs M a a rs.length (.r j) = .plain (rs.getD j 0) := by simp only [upS]; rw [if_neg hb]
    rw [loosed_other (by rw [e0]; intro e; cases e), e0]
    simp only [upS]
    rw [if_neg hb]
 ·obtain ⟨hd, ho, _, h0, h1, hr, hz0, hz1, hz2⟩ := S.snd.rows.obj _ hL
  rw [ho]
  refine objAt_mk h0 (by omega) ?_ (by omega)
  have : s'.ws.getD (a : Int).toNat 0 = l.getD (a : Int).toNat 0 := e3
  rw [this]
  exact hr
theorem Us.fld {x a : Nat} (h : Us l rs L M x (a + 1) rs.length ws ys) (S : Sc l rs L M) (hx : fldB l M x = true) (hax : a < x) :
  (threadM ws ys ⟨false, x⟩ = none ∧ Us l rs L M (x + 1) (a + 1) rs.length ws ys) ∨ ∃ ws' ys', threadM ws ys ⟨false, x⟩ = some (ws', ys') ∧ Us l rs L M (x + 1) (a + 1) rs.length ws' ys' := by
 obtain ⟨ch, J⟩ := h.jk
 have hxL := fldB_sub S.sub hx
 have hxl := S.snd.fld_lt hxL
 have hst : upS l rs M x (a + 1) rs.length (.w x) = .plain (l.getD x 0) := by simp [-List.getD_eq_getElem?_getD, upS]
 have hok : (Loc.w x).ok ⟨ws, ys⟩ := show x < ws.length by rw [h.l1]; exact hxl
 have hnh : nohead (hdw L l) (.w x) := nohead_w.2 (S.snd.fld_head hxL)
 by_cases h5 : tagW (l.getD x 0) = 5
 ·right
  have hm := S.cls x hx h5
  have hL := S.sub _ hm
  have h0 := S.snd.rows.ge _ hL
  obtain ⟨p, hp⟩ := Int.eq_ofNat_of_zero_le h0
  have hpt := ptr_of (S.okl _ (getD_mem hxl)) h5
  rw [hp] at hpt hL
  obtain ⟨s', e, e1, e2, J'⟩ := J.thread (l := .w x) (p := p) (h := l.getD p 0) (h.small S) hok (Nat.zero_le _) hnh (by rw [hst, hpt]) (hdw_some.2 ⟨hL, rfl⟩) (Nat.zero_le _)
  refine ⟨s'.ws, s'.rs, e, ⟨_, J'.congr fun m hm2 _ _ => ?_⟩, by rw [e1]; exact h.l1, by rw [e2]; exact h.l2⟩
  unfold updS
  by_cases hmx : m = .w x
  ·subst hmx
   simp only [upS, if_true]
   rw [if_pos ⟨hx, by omega, h5⟩, if_neg (by omega), hp]
   rfl
  ·rw [if_neg hmx]
   cases m with
   | r j => rfl
   | w y =>
    have : y ≠ x := fun e => hmx (by rw [e])
    have e2 : y < x + 1 ↔ y < x := by omega
    simp only [upS, e2]
 ·left
  refine ⟨?_, h.same fun m _ => ?_⟩
  ·unfold threadM
   have := fGet_loc (s := ⟨ws, ys⟩) hok
   rw [J.plain (.w x) _ hok (Nat.zero_le _) hnh hst] at this
   rw [show fGet ws ys ⟨false, x⟩ = some (l.getD x 0) from this]
   simp only
   rw [if_neg (fun e => h5 e.1)]
  ·cases m with
   | r j => rfl
   | w y =>
    by_cases hy : y = x
    ·subst hy; simp [-List.getD_eq_getElem?_getD, upS, h5]
    ·have e2 : y < x + 1 ↔ y < x := by omega
     simp only [upS, e2]
end
def dnS (l rs M : List Int) (A : Nat) : Loc → Stat
 | .w x => if fldB l M x = true ∧ tagW (l.getD x 0) = 5 then (if (x : Int) < valW (l.getD x 0) ∨ valW (l.getD x 0) < A then .plain (mvW l M (l.getD x 0)) else .pend (valW (l.getD x 0)).toNat) else .plain (l.getD x 0)
 | .r j => .plain (mvW l M (rs.getD j 0))
def img (l M : List Int) (a : Int) : List Int := (List.range (1 + (obj0 l a).size).toNat).map fun (j : Nat) => if 1 ≤ j ∧ (j : Int) ≤ fieldsH (obj0 l a) then mvW l M (l.getD (a.toNat + j) 0) else l.getD (a.toNat + j) 0
def imgs (l M P : List Int) : List Int := P.flatMap (img l M)
def movedW (ws : List Int) (fr to k : Nat) : List Int := (List.range ws.length).map fun (j : Nat) => if to ≤ j ∧ j < to + k then ws.getD (j - to + fr) 0 else ws.getD j 0
theorem getD_take {xs : List Int} {n j : Nat} (h : j < n) : (xs.take n).getD j 0 = xs.getD j 0 := by
 simp only [List.getD_eq_getElem?_getD, List.getElem?_take]; rw [if_pos h]
theorem getD_app {a b : List Int} {j : Nat} : (a ++ b).getD j 0 = if j < a.length then a.getD j 0 else b.getD (j - a.length) 0 := by
 simp only [List.getD_eq_getElem?_getD, List.getElem?_append]
 split <;> rfl
theorem movedW_len (ws : List Int) (fr to k : Nat) : (movedW ws fr to k).length = ws.length := by simp [movedW]
theorem movedW_get {ws : List Int} {fr to k j : Nat} (h : j < ws.length) : (movedW ws fr to k).getD j 0 = if to ≤ j ∧ j < to + k then ws.getD (j - to + fr) 0 else ws.getD j 0 := by
 unfold movedW
 rw [List.getD_eq_getElem?_getD, List.getElem?_map, List.getElem?_range h]
 rfl
theorem img_len {l M : List Int} {a : Int} (h : 0 ≤ (obj0 l a).size) : (img l M a).length = (1 + (obj0 l a).size).toNat := by simp [img]
theorem img_get {l M : List Int} {a : Int} {j : Nat} (h : j < (1 + (obj0 l a).size).toNat) : (img l M a).getD j 0 = if 1 ≤ j ∧ (j : Int) ≤ fieldsH (obj0 l a) then mvW l M (l.getD (a.toNat + j) 0) else l.getD (a.toNat + j) 0 := by
 unfold img
 rw [List.getD_eq_getElem?_getD, List.getElem?_map, List.getElem?_range h]
 rfl
theorem mvW_other {l M : List Int} {w : Int} (h : tagW w ≠ 5) : mvW l M w = w := by unfold mvW; rw [if_neg h]
structure Ds (l rs L M P : List Int) (lo A : Nat) (ws ys : List Int) : Prop where
 jk : ∃ ch, Jk ⟨ws, ys⟩ lo (dnS l rs M A) (hdw L l) ch
 l1 : ws.length = l.length
 l2 : ys.length = rs.length
 pre : ws.take (wordsM l P).toNat = imgs l M P
 low : (wordsM l P).toNat ≤ lo
 nn : 0 ≤ wordsM l P
 ge : ∀ a ∈ M, a ∉ P → (lo : Int) ≤ a ∧ (A : Int) ≤ a
 lt : ∀ a ∈ P, a < A
section
variable {l rs L M P Q : List Int} {lo A : Nat} {ws ys : List Int}
theorem Ds.small (h : Ds l rs L M P lo A ws ys) (S : Sc l rs L M) : St.small ⟨ws, ys⟩ := by
 have := S.small
 unfold St.small at *; simp only at *; rw [h.l1, h.l2]; exact this
theorem dn_above {s : St} {lo A : Nat} {st : Loc → Stat} {ch : Nat → List Loc} (S : Sc l rs L M) (J : Jk s lo (dnS l rs M A) (hdw L l) ch) {p lo' : Nat} {h : Int} (hp : hdw L l p = some h) (h1 : lo ≤ p) (h2 : lo' ≤ p) : ∀ m, m ∈ ch p → m.above lo' := fun m hm => by
 obtain ⟨hok, _, _, hst⟩ := (J.mem p h hp h1 m).1 hm
 cases m with
 | r j => trivial
 | w x =>
  simp only [dnS] at hst
  split at hst
  ·rename_i hb
   split at hst
   ·cases hst
   ·rename_i hv
    injection hst with e
    have h0 := S.snd.rows.ge _ (S.sub _ (S.cls x hb.1 hb.2))
    show lo' ≤ x
    omega
  ·cases hst
theorem Ds.step {a : Nat} (h : Ds l rs L M P lo A ws ys) (S : Sc l rs L M) (hM : M = P ++ (a : Int) :: Q) :
  ∃ (n : Nat) (ws' ys' : List Int), looseM (ws.length + ys.length) ws ys a (wordsM l P) = ⟨n, true, ws', ys'⟩ ∧ ws'.length = l.length ∧ (wordsM l P).toNat ≤ a ∧
   Ds l rs L M (P ++ [(a : Int)]) (a + 1 + (obj0 l a).size.toNat) (a + 1) (movedW ws' a (wordsM l P).toNat (1 + (obj0 l a).size).toNat) ys' := by
 obtain ⟨ch, J⟩ := h.jk
 have haM : (a : Int) ∈ M := by rw [hM]; simp
 have hL := S.sub _ haM
 have hsrt := S.srt
 rw [hM] at hsrt
 obtain ⟨hs1, hs2, hs3⟩ := List.pairwise_append.1 hsrt
 have hs4 := (List.pairwise_cons.1 hs2).1
 have haP : (a : Int) ∉ P := fun hm => by have := hs3 _ hm a (by simp); omega
 have hge := h.ge _ haM haP
 have hT : plc l M a = wordsM l P := by rw [hM]; exact plc_split hsrt
 have hTa : wordsM l P ≤ a := by
  have := words_before S.snd.rows a hL P hs1 (fun x hx => ⟨S.sub x (by rw [hM]; simp [hx]), hs3 x hx a (by simp)⟩)
  omega
 have hnn := h.nn
 -- the state, told from the object's place on
 have J1 : Jk ⟨ws, ys⟩ a (dnS l rs M a) (hdw L l) ch := by
  have J0 := J.agree (s' := ⟨ws, ys⟩) (lo' := a) (by omega) rfl rfl (fun _ _ => rfl) (fun p hh hp hlo m hm => dn_above (st := dnS l rs M A) S J hp (by omega) hlo m hm)
  refine J0.congr fun m _ _ _ => ?_
  cases m with
  | r j => rfl
  | w x =>
   simp only [dnS]
   by_cases hb : fldB l M x = true ∧ tagW (l.getD x 0) = 5
   ·have hv := S.cls x hb.1 hb.2
    have e : valW (l.getD x 0) < (a : Int) ↔ valW (l.getD x 0) < (A : Int) := by
     by_cases hP : valW (l.getD x 0) ∈ P
     ·have h1 := h.lt _ hP
      have h2 := hs3 _ hP a (by simp)
      omega
     ·have h1 := h.ge _ hv hP
      have h2 : (a : Int) ≤ valW (l.getD x 0) := by
       rw [hM] at hv
       rcases List.mem_append.1 hv with hv | hv
       ·exact absurd hv hP
       ·rcases List.mem_cons.1 hv with hv | hv
        ·omega
        ·have := hs4 _ hv; omega
      omega
    rw [if_pos hb, if_pos hb]
    simp only [e]
   ·rw [if_neg hb, if_neg hb]
 obtain ⟨n, s', e, e1, e2, e3, ⟨ch', J2⟩, e4⟩ := J1.loose2 (p := a) (to := wordsM l P) (h.small S) (hdw_some.2 ⟨hL, rfl⟩) (Nat.le_refl _)
 have k1 : s'.ws.length = l.length := by rw [e1]; exact h.l1
 have k2 : s'.rs.length = rs.length := by rw [e2]; exact h.l2
 have J3 : Jk s' a (dnS l rs M (a + 1)) (hdw L l) ch' := by
  refine J2.congr fun m hm hab _ => ?_
  cases m with
  | r j =>
   rw [loosed_other (by simp [dnS])]
   rfl
  | w x =>
   have hxa : a ≤ x := hab
   by_cases hb : fldB l M x = true ∧ tagW (l.getD x 0) = 5
   ·have h0 := S.snd.rows.ge _ (S.sub _ (S.cls x hb.1 hb.2))
    by_cases hv : valW (l.getD x 0) = a
    ·have e0 : dnS l rs M a (.w x) = .pend a := by simp only [dnS]; rw [if_pos hb, if_neg (by omega), hv]; rfl
     rw [loosed_pend e0]
     simp only [dnS]
     rw [if_pos hb, if_pos (by omega)]
     unfold mvW
     rw [if_pos hb.2, hv, hT]
    ·have n0 : dnS l rs M a (.w x) ≠ .pend a := by
      simp only [dnS]
      rw [if_pos hb]
      split
      ·intro e; cases e
      ·intro e; injection e with e; omega
     rw [loosed_other n0]
     simp only [dnS]
     rw [if_pos hb, if_pos hb]
     by_cases hv2 : (x : Int) < valW (l.getD x 0) ∨ valW (l.getD x 0) < (a : Int)
     ·rw [if_pos (by omega), if_pos hv2]
     ·rw [if_neg (by omega), if_neg hv2]
   ·have e0 : dnS l rs M a (.w x) = .plain (l.getD x 0) := by simp only [dnS]; rw [if_neg hb]
    rw [loosed_other (by rw [e0]; intro e; cases e), e0]
    simp only [dnS]
    rw [if_neg hb]
 obtain ⟨hd, ho, ho0, h0, h1, hr, hz0, hz1, hz2⟩ := S.snd.rows.obj _ hL
 have hfit := S.snd.fit _ hL
 -- the object's words are what they are to be
 have hblk : ∀ j : Nat, (j : Int) ≤ (obj0 l a).size → s'.ws.getD (a + j) 0 = (img l M a).getD j 0 := fun j hj => by
  have hjl : j < (1 + (obj0 l a).size).toNat := by omega
  rw [img_get hjl]
  have ea : (a : Int).toNat + j = a + j := by simp
  rw [ea]
  by_cases hj0 : j = 0
  ·subst hj0
   rw [if_neg (by omega)]
   exact e3
  ·have hnL : ((a + j : Nat) : Int) ∉ L := fun hm => by
    have := S.snd.rows.one hL hm (j := ((a + j : Nat) : Int)) (by omega) (by omega) (by omega) (by
     obtain ⟨hd2, _, e9, _, _, _, h9, _⟩ := S.snd.rows.obj _ hm
     rw [e9]; omega)
    omega
   have hpl := fun v => J3.plain (.w (a + j)) v (show a + j < s'.ws.length by rw [k1]; rw [ho0] at hj; omega) (show a ≤ a + j by omega) (nohead_w.2 hnL)
   by_cases hjf : (j : Int) ≤ fieldsH (obj0 l a)
   ·rw [if_pos ⟨by omega, hjf⟩]
    have hfl : fldB l M (a + j) = true := fld_of haM (by omega) (by omega)
    by_cases h5 : tagW (l.getD (a + j) 0) = 5
    ·refine hpl _ ?_
     simp only [dnS]
     rw [if_pos ⟨hfl, h5⟩, if_pos]
     have hv := S.cls _ hfl h5
     have hvL := S.sub _ hv
     by_cases h6 : ((a + j : Nat) : Int) < valW (l.getD (a + j) 0)
     ·exact .inl h6
     ·right
      by_cases h7 : valW (l.getD (a + j) 0) ≤ (a : Int)
      ·omega
      ·exfalso
       have := S.snd.rows.one hL hvL (j := valW (l.getD (a + j) 0)) (by omega) (by omega) (by omega) (by
        obtain ⟨hd2, _, e9, _, _, _, h9, _⟩ := S.snd.rows.obj _ hvL
        rw [e9]; omega)
       omega
    ·rw [mvW_other h5]
     refine hpl _ ?_
     simp only [dnS]
     rw [if_neg (fun e => h5 e.2)]
   ·rw [if_neg (fun e => hjf e.2)]
    refine hpl _ ?_
    have hnf : fldB l M (a + j) = false := by
     cases hf : fldB l M (a + j) with
     | false => rfl
     | true =>
      have h8 := S.snd.fld_not (j := a + j) hL (by omega) (by omega) (.inr (by omega))
      rw [fldB_sub S.sub hf] at h8; cases h8
    simp only [dnS]
    rw [if_neg (fun e => by rw [hnf] at e; cases e.1)]
 rw [ho0] at hblk hfit ⊢
 have hTl : (wordsM l P).toNat ≤ a := by omega
 have hzn : (1 + hd.size).toNat = 1 + hd.size.toNat := by omega
 have hpl : (imgs l M P).length = (wordsM l P).toNat := by rw [← h.pre, List.length_take, h.l1]; omega
 have e5 : wordsM l (P ++ [(a : Int)]) = wordsM l P + (1 + hd.size) := by simp [wordsM, ho0]
 refine ⟨n, s'.ws, s'.rs, e, k1, hTl, ⟨⟨ch', ?_⟩, by rw [movedW_len]; exact k1, k2, ?_, by rw [e5]; omega, by rw [e5]; omega, fun b hb hbP => ?_, fun b hb => ?_⟩⟩
 ·refine J3.agree (s' := ⟨movedW s'.ws a (wordsM l P).toNat (1 + hd.size).toNat, s'.rs⟩) (by omega) (movedW_len _ _ _ _) rfl (fun x hx => ?_) (fun p hh hp hlo m hm => dn_above (st := dnS l rs M (a + 1)) S J3 hp (by omega) hlo m hm)
  show (movedW s'.ws a (wordsM l P).toNat (1 + hd.size).toNat).getD x 0 = s'.ws.getD x 0
  by_cases hxl : x < s'.ws.length
  ·rw [movedW_get hxl, if_neg (by omega)]
  ·rw [List.getD_eq_getElem?_getD, List.getD_eq_getElem?_getD, List.getElem?_eq_none (by rw [movedW_len]; omega), List.getElem?_eq_none (by omega)]
 ·have e6 : imgs l M (P ++ [(a : Int)]) = imgs l M P ++ img l M a := by simp [imgs]
  have hil : (img l M a).length = 1 + hd.size.toNat := by rw [img_len (by rw [ho0]; exact hz0), ho0, hzn]
  rw [e5, e6]
  have e7 : (wordsM l P + (1 + hd.size)).toNat = (wordsM l P).toNat + (1 + hd.size.toNat) := by omega
  rw [e7]
  refine list_ext ?_ fun j hj => ?_
  ·rw [List.length_take, movedW_len, k1, List.length_append, hpl, hil]; omega
  ·rw [List.length_append, hpl, hil] at hj
   rw [getD_take (by omega), getD_app, hpl, movedW_get (by rw [k1]; omega)]
   by_cases hjT : j < (wordsM l P).toNat
   ·rw [if_neg (by omega), if_pos hjT, ← h.pre, getD_take hjT]
    exact e4 j (by omega)
   ·rw [if_pos (by omega), if_neg hjT]
    have := hblk (j - (wordsM l P).toNat) (by omega)
    rw [← this]
    congr 1; omega
 ·have hbP2 : b ∉ P := fun hm => hbP (by simp [hm])
  have hba : b ≠ a := fun e => hbP (by simp [e])
  have hbQ : b ∈ Q := by
   rw [hM] at hb
   rcases List.mem_append.1 hb with hb | hb
   ·exact absurd hb hbP2
   ·rcases List.mem_cons.1 hb with hb | hb
    ·exact absurd hb hba
    ·exact hb
  have h8 := hs4 b hbQ
  have h9 := S.snd.rows.sep _ hL b (S.sub b hb) h8
  rw [ho0] at h9
  omega
 ·rcases List.mem_append.1 hb with hb | hb
  ·have := hs3 b hb a (by simp); omega
  ·simp only [List.mem_singleton] at hb; omega
theorem Ds.fin (h : Ds l rs L M M lo A ws ys) (S : Sc l rs L M) : ws.take (wordsM l M).toNat = imgs l M M ∧ ys = rs.map (mvW l M) := by
 refine ⟨h.pre, list_ext (by rw [h.l2, List.length_map]) fun j hj => ?_⟩
 rw [List.length_map] at hj
 obtain ⟨ch, J⟩ := h.jk
 have := J.plain (.r j) (mvW l M (rs.getD j 0)) (show j < ys.length by rw [h.l2]; exact hj) trivial trivial rfl
 have e : (rs.map (mvW l M)).getD j 0 = mvW l M (rs.getD j 0) := by simp [List.getD, hj]
 rw [e]
 exact this
end
end Go.Proofs.YtjiaaefpepdoeaaDoor.Md
namespace Go.Proofs.YtjiaaefpepdoeaaDoor.Md
set_option linter.unusedVariables false
section
variable {l rs L M N ra : List Int}
end
end Go.Proofs.YtjiaaefpepdoeaaDoor.Md
namespace Go.Proofs.YtjiaaefpepdoeaaDoor.Md
set_option linter.unusedVariables false
inductive Bl (ws : List Int) : List Int → Int → Int → Prop
 | nil (a : Int) : Bl ws [] a a
 | imm {u : Int} {us : List Int} {a b : Int} : tagW u ≠ 5 → tagW u ≠ 6 → tagW u ≠ 7 → Bl ws us a b → Bl ws (u :: us) a b
 | obj {u : Int} {us : List Int} {h : Hdr} {a b c : Int} : Bl ws (fieldsAt ws c (fieldsH h).toNat) a c → objAt ws c = some h → fieldsH h ≤ h.size → tagW u = 5 → valW u = c → Bl ws us (c + 1 + h.size) b → Bl ws (u :: us) a b
section
variable {ws us : List Int} {a b : Int}
theorem Bl.le (h : Bl ws us a b) : a ≤ b := by
 induction h with
 | nil => omega
 | imm _ _ _ _ ih => exact ih
 | obj _ ho _ _ _ _ ih1 ih2 => have := obj_facts ho; omega
theorem Bl.app_us {vs : List Int} {c : Int} (h : Bl ws us a b) (h2 : Bl ws vs b c) : Bl ws (us ++ vs) a c := by
 induction h with
 | nil => exact h2
 | imm h5 h6 h7 _ ih => exact .imm h5 h6 h7 (ih h2)
 | obj hf ho hs ht hv _ _ ih => exact .obj hf ho hs ht hv (ih h2)
theorem rd0_app {ws x : List Int} {i : Int} (h0 : 0 ≤ i) (h1 : i < ws.length) : rd0 (ws ++ x) i = rd0 ws i := by
 unfold rd0 rdAt
 rw [if_pos (show 0 ≤ i ∧ i < ws.length from ⟨h0, h1⟩), if_pos (show 0 ≤ i ∧ i < (ws ++ x).length from ⟨h0, by rw [List.length_append]; omega⟩)]
 simp [List.getD, List.getElem?_append_left (show i.toNat < ws.length by omega)]
theorem objAt_app {ws : List Int} {c : Int} {h : Hdr} (ho : objAt ws c = some h) (x : List Int) : objAt (ws ++ x) c = some h := by
 have f := obj_facts ho
 refine objAt_mk f.1 (by rw [List.length_append]; omega) ?_ (by rw [List.length_append]; omega)
 rw [← f.2.2.1]
 simp [List.getD, List.getElem?_append_left (show c.toNat < ws.length by omega)]
theorem fieldsAt_app {ws : List Int} {c : Int} {n : Nat} (h0 : 0 ≤ c) (h1 : c + 1 + n ≤ ws.length) (x : List Int) : fieldsAt (ws ++ x) c n = fieldsAt ws c n := by
 unfold fieldsAt
 apply List.map_congr_left
 intro k hk
 have := List.mem_range.1 hk
 exact rd0_app (by omega) (by omega)
theorem Bl.app (h : Bl ws us a b) (x : List Int) : Bl (ws ++ x) us a b := by
 induction h with
 | nil => exact .nil _
 | imm h5 h6 h7 _ ih => exact .imm h5 h6 h7 ih
 | @obj u us h a b c hf ho hs ht hv _ ih1 ih2 =>
  have f := obj_facts ho
  have e : fieldsAt (ws ++ x) c (fieldsH h).toNat = fieldsAt ws c (fieldsH h).toNat := fieldsAt_app f.1 (by omega) x
  exact .obj (by rw [e]; exact ih1) (objAt_app ho x) hs ht hv ih2
theorem Bl.row (h : Bl ws us a b) : 0 ≤ a → ∃ L : List Int, (∀ M, Rows ws b M → Rows ws a (L ++ M)) ∧ (∀ x ∈ L, a ≤ x ∧ x < b) ∧ (∀ w ∈ us, sw L w) ∧
  (∀ x ∈ L, fieldsH (obj0 ws x) ≤ (obj0 ws x).size ∧ ∀ k : Nat, (k : Int) < fieldsH (obj0 ws x) → sw L (rd0 ws (x + 1 + k))) ∧
  (∀ T : Nat → Prop, Holds T us → Closed ws T → ∀ x ∈ L, T x.toNat) ∧ wordsM ws L = b - a := by
 induction h with
 | nil a => intro h0; exact ⟨[], fun M hM => hM, by simp, by simp, by simp, by simp, by simp [wordsM]⟩
 | imm h5 h6 h7 _ ih =>
  intro h0
  obtain ⟨L, h1, h2, h3, h4, h5', h6'⟩ := ih h0
  refine ⟨L, h1, h2, fun w hw => ?_, h4, fun T hT hc => h5' T (fun w hw => hT w (by simp [hw])) hc, h6'⟩
  rcases List.mem_cons.1 hw with rfl | hw
  ·exact ⟨h6, h7, fun e => absurd e h5⟩
  ·exact h3 w hw
 | @obj u us h a b c hf ho hs ht hv hr ih1 ih2 =>
  intro h0
  have f := obj_facts ho
  have hl := hf.le
  obtain ⟨L1, r1, m1, s1, g1, t1, w1⟩ := ih1 h0
  obtain ⟨L2, r2, m2, s2, g2, t2, w2⟩ := ih2 (by omega)
  have hl2 := hr.le
  have mono1 : ∀ w, sw L1 w → sw (L1 ++ c :: L2) w := fun w h => ⟨h.1, h.2.1, fun e => List.mem_append.2 (.inl (h.2.2 e))⟩
  have mono2 : ∀ w, sw L2 w → sw (L1 ++ c :: L2) w := fun w h => ⟨h.1, h.2.1, fun e => List.mem_append.2 (.inr (List.mem_cons_of_mem _ (h.2.2 e)))⟩
  have hc0 : ∀ k : Nat, (k : Int) < fieldsH h → rd0 ws (c + 1 + k) ∈ fieldsAt ws c (fieldsH h).toNat := fun k hk => List.mem_map.2 ⟨k, List.mem_range.2 (by omega), rfl⟩
  refine ⟨L1 ++ c :: L2, fun M hM => ?_, fun x hx => ?_, fun w hw => ?_, fun x hx => ?_, fun T hT hcl x hx => ?_, ?_⟩
  ·rw [List.append_assoc]
   exact r1 _ (.cons ho (r2 M hM))
  ·rcases List.mem_append.1 hx with hx | hx
   ·have := m1 x hx; omega
   ·rcases List.mem_cons.1 hx with rfl | hx
    ·omega
    ·have := m2 x hx; omega
  ·rcases List.mem_cons.1 hw with rfl | hw
   ·exact ⟨by omega, by omega, fun _ => by rw [hv]; simp⟩
   ·exact mono2 w (s2 w hw)
  ·rcases List.mem_append.1 hx with hx | hx
   ·exact ⟨(g1 x hx).1, fun k hk => mono1 _ ((g1 x hx).2 k hk)⟩
   ·rcases List.mem_cons.1 hx with e | hx
    ·subst e
     rw [obj0_of ho]
     exact ⟨hs, fun k hk => mono1 _ (s1 _ (hc0 k hk))⟩
    ·exact ⟨(g2 x hx).1, fun k hk => mono2 _ ((g2 x hx).2 k hk)⟩
  ·have hTc : T c.toNat := by
    have := hT u (by simp) ht
    rw [hv] at this; exact this
   rcases List.mem_append.1 hx with hx | hx
   ·refine t1 T (fun w hw h5 => ?_) hcl x hx
    obtain ⟨h', ho', hh'⟩ := hcl _ hTc
    rw [Int.toNat_of_nonneg f.1] at ho' hh'
    rw [ho] at ho'
    injection ho' with e
    subst e
    refine hh' w ?_ h5
    rw [show nFields h = (fieldsH h).toNat by unfold nFields; rw [Int.min_eq_left hs]]
    exact hw
   ·rcases List.mem_cons.1 hx with e | hx
    ·rw [e]; exact hTc
    ·exact t2 T (fun w hw => hT w (by simp [hw])) hcl x hx
  ·unfold wordsM at *
   rw [List.map_append, List.sum_append, List.map_cons, List.sum_cons, w1, w2, obj0_of ho]
   omega
end
theorem sortedExt {s l : List Int} (hs : s.Pairwise (· < ·)) (hl : l.Pairwise (· < ·)) (h : ∀ x, x ∈ s ↔ x ∈ l) : s = l :=
 List.Perm.eq_of_pairwise (le := (· < ·)) (fun a b _ _ h1 h2 => absurd h1 (by omega)) hs hl ((List.perm_ext_iff_of_nodup (hs.imp (fun h => by omega)) (hl.imp (fun h => by omega))).2 h)
theorem Bl.two {ws : List Int} {u v : Int} {m : Int} (hu : Bl ws [u] 0 m) (hv : Bl ws [v] m ws.length) :
  soundB ws [u, v] = true ∧ (∀ s, Reach ws [u] s → wordsM ws (seenList s) = m) ∧ (∀ s, Reach ws [v] s → wordsM ws (seenList s) = ws.length - m) ∧ (∀ s, Reach ws [u, v, u] s → wordsM ws (seenList s) = ws.length) := by
 have hm := hu.le
 obtain ⟨L1, r1, m1, s1, g1, t1, w1⟩ := hu.row (by omega)
 obtain ⟨L2, r2, m2, s2, g2, t2, w2⟩ := hv.row hm
 have R2 : Rows ws m L2 := by have := r2 [] .nil; rwa [List.append_nil] at this
 have R : Rows ws 0 (L1 ++ L2) := r1 _ R2
 have mono1 : ∀ w, sw L1 w → sw (L1 ++ L2) w := fun w h => ⟨h.1, h.2.1, fun e => List.mem_append.2 (.inl (h.2.2 e))⟩
 have mono2 : ∀ w, sw L2 w → sw (L1 ++ L2) w := fun w h => ⟨h.1, h.2.1, fun e => List.mem_append.2 (.inr (h.2.2 e))⟩
 have g : ∀ x ∈ L1 ++ L2, fieldsH (obj0 ws x) ≤ (obj0 ws x).size ∧ ∀ k : Nat, (k : Int) < fieldsH (obj0 ws x) → sw (L1 ++ L2) (rd0 ws (x + 1 + k)) := fun x hx => by
  rcases List.mem_append.1 hx with hx | hx
  ·exact ⟨(g1 x hx).1, fun k hk => mono1 _ ((g1 x hx).2 k hk)⟩
  ·exact ⟨(g2 x hx).1, fun k hk => mono2 _ ((g2 x hx).2 k hk)⟩
 have hu0 : sw L1 u := s1 u (by simp)
 have hv0 : sw L2 v := s2 v (by simp)
 have S : Snd ws [u, v] (L1 ++ L2) := ⟨R.objs, R, fun r hr => by
  simp only [List.mem_cons, List.not_mem_nil, or_false] at hr
  rcases hr with rfl | rfl
  ·exact mono1 _ hu0
  ·exact mono2 _ hv0, fun a ha => (g a ha).1, fun a ha => (g a ha).2⟩
 have P1 := (List.pairwise_append.1 R.sorted).1
 have P2 := (List.pairwise_append.1 R.sorted).2.1
 have nn1 : ∀ x ∈ L1, 0 ≤ x := fun x hx => (m1 x hx).1
 have nn2 : ∀ x ∈ L2, 0 ≤ x := fun x hx => by have := (m2 x hx).1; omega
 -- a set of places that is closed among themselves
 have key : ∀ (M : List Int) (rs : List Int) (s : List Bool), (∀ x ∈ M, 0 ≤ x) → (∀ x ∈ M, x ∈ L1 ++ L2) → M.Pairwise (· < ·) → (∀ w ∈ rs, sw M w) → (∀ x ∈ M, ∀ k : Nat, (k : Int) < fieldsH (obj0 ws x) → sw M (rd0 ws (x + 1 + k))) →
   (∀ T : Nat → Prop, Holds T rs → Closed ws T → ∀ x ∈ M, T x.toNat) → Reach ws rs s → seenList s = M := by
  intro M rs s hn hsub hp hr hfl ht hR
  refine sortedExt (seenList_sorted s) hp (fun x => ?_)
  rw [mem_seenList]
  constructor
  ·rintro ⟨k, rfl, hk, hi⟩
   refine hR.least (fun k => (k : Int) ∈ M) (fun w hw h5 => ?_) (fun y hy => ?_) k hi
   ·have := (hr w hw).2.2 h5
    show ((valW w).toNat : Int) ∈ M
    rw [Int.toNat_of_nonneg (hn _ this)]; exact this
   ·obtain ⟨hd, ho, h0, _⟩ := R.obj _ (hsub _ hy)
    refine ⟨hd, ho, fun w hw h5 => ?_⟩
    unfold fieldsAt at hw
    obtain ⟨j, hj, rfl⟩ := List.mem_map.1 hw
    have hj := List.mem_range.1 hj
    unfold nFields at hj
    have h2 := (hfl _ hy j (by rw [h0]; omega)).2.2 h5
    show ((valW (rd0 ws ((y : Int) + 1 + (j : Int)))).toNat : Int) ∈ M
    rw [Int.toNat_of_nonneg (hn _ h2)]; exact h2
  ·intro hx
   have hi := ht (isIn s) hR.holds hR.closed x hx
   obtain ⟨_, _, _, h0, h1, _⟩ := R.obj _ (hsub _ hx)
   exact ⟨x.toNat, by omega, by rw [hR.len]; omega, hi⟩
 refine ⟨S.bool, fun s hR => ?_, fun s hR => ?_, fun s hR => ?_⟩
 ·rw [key L1 [u] s nn1 (fun x hx => by simp [hx]) P1 s1 (fun x hx => (g1 x hx).2) t1 hR, w1]; omega
 ·rw [key L2 [v] s nn2 (fun x hx => by simp [hx]) P2 s2 (fun x hx => (g2 x hx).2) t2 hR, w2]
 ·rw [key (L1 ++ L2) [u, v, u] s (fun x hx => by rcases List.mem_append.1 hx with h | h; exact nn1 x h; exact nn2 x h) (fun x hx => hx) R.sorted ?_ (fun x hx => (g x hx).2) ?_ hR]
  ·unfold wordsM at *
   rw [List.map_append, List.sum_append, w1, w2]; omega
  ·intro w hw
   simp only [List.mem_cons, List.not_mem_nil, or_false] at hw
   rcases hw with rfl | rfl | rfl
   ·exact mono1 _ hu0
   ·exact mono2 _ hv0
   ·exact mono1 _ hu0
  ·intro T hT hc x hx
   rcases List.mem_append.1 hx with hx | hx
   ·exact t1 T (fun w hw => hT w (by simp at hw; simp [hw])) hc x hx
   ·exact t2 T (fun w hw => hT w (by simp at hw; simp [hw])) hc x hx
end Go.Proofs.YtjiaaefpepdoeaaDoor.Md
namespace Go.Proofs.YtjiaaefpepdoeaaDoor.Md
set_option linter.unusedVariables false
def lvs : List Int → List Int → List Int → Int
 | p :: P, z :: Z, c :: C => (if 0 < c ∧ 0 ≤ p then z else 0) + lvs P Z C
 | _, _, _ => 0
theorem lvs_nn : ∀ {P Z C : List Int}, (∀ z ∈ Z, 0 ≤ z) → 0 ≤ lvs P Z C
 | [], _, _, _ => by simp [lvs]
 | _ :: _, [], _, _ => by simp [lvs]
 | _ :: _, _ :: _, [], _ => by simp [lvs]
 | p :: P, z :: Z, c :: C, h => by
  have h1 := h z (by simp)
  have h2 : 0 ≤ lvs P Z C := lvs_nn (fun x hx => h x (by simp [hx]))
  simp only [lvs]
  split <;> omega
theorem lvs_in : ∀ {P Z C : List Int} {i : Nat}, (∀ z ∈ Z, 0 ≤ z) → i < P.length → P.length = C.length → Z.length = C.length → 0 < C.getD i 0 → 0 ≤ P.getD i 0 → Z.getD i 0 ≤ lvs P Z C
 | [], _, _, _, _, h, _, _, _, _ => absurd h (by simp)
 | p :: P, z :: Z, c :: C, 0, hz, hi, h1, h2, hc, hp => by
  have := lvs_nn (P := P) (Z := Z) (C := C) (fun x hx => hz x (List.mem_cons_of_mem _ hx))
  simp only [lvs]
  simp at hc hp ⊢
  rw [if_pos ⟨hc, hp⟩]; omega
 | p :: P, z :: Z, c :: C, i + 1, hz, hi, h1, h2, hc, hp => by
  have h0 := hz z (by simp)
  have ih := lvs_in (P := P) (Z := Z) (C := C) (i := i) (fun x hx => hz x (by simp [hx])) (by simpa using hi) (by simpa using h1) (by simpa using h2) (by simpa using hc) (by simpa using hp)
  simp only [lvs]
  simp at ih ⊢
  split <;> omega
 | _ :: _, [], [], _, _, _, h1, _, _, _ => absurd h1 (by simp)
 | _ :: _, [], _ :: _, _, _, _, _, h2, _, _ => absurd h2 (by simp)
 | _ :: _, _ :: _, [], _, _, _, h1, _, _, _ => absurd h1 (by simp)
theorem lvs_out : ∀ {P Z C : List Int} {i : Nat} {x : Int}, i < P.length → P.length = C.length → Z.length = C.length → 0 < C.getD i 0 → 0 ≤ P.getD i 0 → x < 0 → lvs (P.set i x) Z C = lvs P Z C - Z.getD i 0
 | [], _, _, _, _, h, _, _, _, _, _ => absurd h (by simp)
 | p :: P, z :: Z, c :: C, 0, x, hi, h1, h2, hc, hp, hx => by
  simp at hc hp ⊢
  simp only [lvs]
  rw [if_neg (by omega), if_pos ⟨hc, hp⟩]; omega
 | p :: P, z :: Z, c :: C, i + 1, x, hi, h1, h2, hc, hp, hx => by
  have ih := lvs_out (P := P) (Z := Z) (C := C) (i := i) (x := x) (by simpa using hi) (by simpa using h1) (by simpa using h2) (by simpa using hc) (by simpa using hp) hx
  simp only [List.set_cons_succ, lvs]
  simp at ih ⊢
  omega
 | _ :: _, [], [], _, _, _, h1, _, _, _, _ => absurd h1 (by simp)
 | _ :: _, [], _ :: _, _, _, _, _, h2, _, _, _ => absurd h2 (by simp)
 | _ :: _, _ :: _, [], _, _, _, h1, _, _, _, _ => absurd h1 (by simp)
theorem lvs_off : ∀ {P Z C : List Int} {i : Nat} {x z : Int}, P.length = C.length → Z.length = C.length → ¬ 0 < C.getD i 0 → lvs (P.set i x) (Z.set i z) C = lvs P Z C
 | [], _, _, _, _, _, _, _, _ => by simp [lvs]
 | p :: P, y :: Z, c :: C, 0, x, z, h1, h2, hc => by
  simp at hc ⊢
  simp only [lvs]
  rw [if_neg (by omega), if_neg (by omega)]
 | p :: P, y :: Z, c :: C, i + 1, x, z, h1, h2, hc => by
  have ih := lvs_off (P := P) (Z := Z) (C := C) (i := i) (x := x) (z := z) (by simpa using h1) (by simpa using h2) (by simpa using hc)
  simp only [List.set_cons_succ, lvs, ih]
 | _ :: _, [], [], _, _, _, h1, _, _ => absurd h1 (by simp)
 | _ :: _, [], _ :: _, _, _, _, _, h2, _ => absurd h2 (by simp)
 | _ :: _, _ :: _, [], _, _, _, h1, _, _ => absurd h1 (by simp)
theorem lvs_take : ∀ {P Z C : List Int} {i : Nat} {c : Int}, i < C.length → P.length = C.length → Z.length = C.length → ¬ 0 < C.getD i 0 → 0 < c → 0 ≤ P.getD i 0 → lvs P Z (C.set i c) = lvs P Z C + Z.getD i 0
 | [], _, _, _, _, h, h1, _, _, _, _ => absurd h (by simp at h1; omega)
 | p :: P, z :: Z, c :: C, 0, x, hi, h1, h2, hc, hx, hp => by
  simp at hc hp ⊢
  simp only [lvs]
  rw [if_pos ⟨hx, hp⟩, if_neg (by omega)]; omega
 | p :: P, z :: Z, c :: C, i + 1, x, hi, h1, h2, hc, hx, hp => by
  have ih := lvs_take (P := P) (Z := Z) (C := C) (i := i) (c := x) (by simpa using hi) (by simpa using h1) (by simpa using h2) (by simpa using hc) hx (by simpa using hp)
  simp only [List.set_cons_succ, lvs]
  simp at ih ⊢
  omega
 | _ :: _, [], [], _, _, _, h1, _, _, _, _ => absurd h1 (by simp)
 | _ :: _, [], _ :: _, _, _, _, _, h2, _, _, _ => absurd h2 (by simp)
 | _ :: _, _ :: _, [], _, _, _, h1, _, _, _, _ => absurd h1 (by simp)
theorem lvs_less : ∀ {P Z C : List Int} {i : Nat} {c : Int}, (∀ z ∈ Z, 0 ≤ z) → c ≤ C.getD i 0 → P.length = C.length → Z.length = C.length → lvs P Z (C.set i c) ≤ lvs P Z C
 | [], _, _, _, _, _, _, _, _ => by simp [lvs]
 | p :: P, z :: Z, c :: C, 0, x, hz, hc, h1, h2 => by
  have h0 := hz z (by simp)
  simp at hc ⊢
  simp only [lvs]
  split <;> split <;> omega
 | p :: P, z :: Z, c :: C, i + 1, x, hz, hc, h1, h2 => by
  have ih := lvs_less (P := P) (Z := Z) (C := C) (i := i) (c := x) (fun x hx => hz x (by simp [hx])) (by simpa using hc) (by simpa using h1) (by simpa using h2)
  simp only [List.set_cons_succ, lvs]
  omega
 | _ :: _, [], [], _, _, _, _, h1, _ => absurd h1 (by simp)
 | _ :: _, [], _ :: _, _, _, _, _, _, h2 => absurd h2 (by simp)
 | _ :: _, _ :: _, [], _, _, _, _, h1, _ => absurd h1 (by simp)
theorem lvs_app : ∀ {P Z C : List Int} {p z c : Int}, P.length = C.length → Z.length = C.length → 0 < c → 0 ≤ p → lvs (P ++ [p]) (Z ++ [z]) (C ++ [c]) = lvs P Z C + z
 | [], [], [], p, z, c, _, _, hc, hp => by simp [lvs, hc, hp]
 | _ :: P, _ :: Z, _ :: C, p, z, c, h1, h2, hc, hp => by
  have ih := lvs_app (P := P) (Z := Z) (C := C) (p := p) (z := z) (c := c) (by simpa using h1) (by simpa using h2) hc hp
  simp only [List.cons_append, lvs, ih]
  omega
 | [], _ :: _, [], _, _, _, _, h2, _, _ => absurd h2 (by simp)
 | [], _, _ :: _, _, _, _, h1, _, _, _ => absurd h1 (by simp)
 | _ :: _, _, [], _, _, _, h1, _, _, _ => absurd h1 (by simp)
 | _ :: _, [], _ :: _, _, _, _, _, h2, _, _ => absurd h2 (by simp)
theorem getDs (l : List Int) (i j : Nat) (x : Int) (hi : i < l.length) : (l.set i x).getD j 0 = if j = i then x else l.getD j 0 := by
 rw [List.getD_eq_getElem?_getD, List.getD_eq_getElem?_getD, List.getElem?_set]
 by_cases h : j = i
 ·subst h; simp [hi]
 ·rw [if_neg (fun e => h e.symm), if_neg h]
structure StO (n : Nat) (B P Z C : List Int) : Prop where
 lp : P.length = C.length
 lz : Z.length = C.length
 ln : C.length ≤ n
 z : ∀ z ∈ Z, 1 ≤ z ∧ z ≤ 4096
 c : ∀ i, i < C.length → 0 ≤ C.getD i 0 ∧ C.getD i 0 ≤ 1
 p : ∀ i, i < C.length → 0 ≤ P.getD i 0 ∧ P.getD i 0 ≤ 16777216
 pz : ∀ i, i < C.length → 0 < C.getD i 0 → P.getD i 0 + Z.getD i 0 ≤ B.length
 sum : lvs P Z C ≤ B.length
 lb : (B.length : Int) ≤ 8388608
theorem StO.nil : StO 0 [] [] [] [] := ⟨rfl, rfl, Nat.le_refl _, by simp, by simp, by simp, by simp, by simp [lvs], by simp⟩
theorem StO.mono {n m : Nat} {B P Z C : List Int} (h : StO n B P Z C) (hm : n ≤ m) : StO m B P Z C := ⟨h.lp, h.lz, Nat.le_trans h.ln hm, h.z, h.c, h.p, h.pz, h.sum, h.lb⟩
theorem StO.drop {n : Nat} {B P Z C : List Int} (h : StO n B P Z C) {i : Nat} {x : Int} (hi : i < C.length) (hx : 0 ≤ x) (hc : x ≤ C.getD i 0) : StO n B P Z (C.set i x) := by
 have e : ∀ j, (C.set i x).getD j 0 = if j = i then x else C.getD j 0 := fun j => getDs C i j x hi
 refine ⟨by rw [List.length_set]; exact h.lp, by rw [List.length_set]; exact h.lz, by rw [List.length_set]; exact h.ln, h.z, fun j hj => ?_, fun j hj => h.p j (by rwa [List.length_set] at hj), fun j hj h0 => ?_, ?_, h.lb⟩
 ·rw [List.length_set] at hj
  have := h.c j hj
  rw [e]; split
  ·next hji => subst hji; omega
  ·exact this
 ·rw [List.length_set] at hj
  rw [e] at h0
  refine h.pz j hj ?_
  split at h0
  ·next hji => subst hji; omega
  ·exact h0
 ·exact Int.le_trans (lvs_less (fun z hz => by have := h.z z hz; omega) hc h.lp h.lz) h.sum
theorem StO.push {n : Nat} {B P Z C b : List Int} (h : StO n B P Z C) (h1 : 1 ≤ b.length) (h2 : b.length ≤ 4096) (hb : (B.length : Int) + b.length ≤ 8388608) : StO (n + 1) (B ++ b) (P ++ [(B.length : Int)]) (Z ++ [(b.length : Int)]) (C ++ [1]) := by
 have lp := h.lp
 have lz := h.lz
 have ln := h.ln
 have g : ∀ (l : List Int) (x : Int) (j : Nat), (l ++ [x]).getD j 0 = if j = l.length then x else l.getD j 0 := fun l x j => by
  rw [List.getD_eq_getElem?_getD, List.getD_eq_getElem?_getD, List.getElem?_append]
  by_cases hj : j < l.length
  ·rw [if_pos hj, if_neg (by omega)]
  ·rw [if_neg hj]
   by_cases e : j = l.length
   ·subst e; simp
   ·rw [if_neg e, List.getElem?_eq_none (by simp; omega), List.getElem?_eq_none (by omega)]
 refine ⟨by simp [lp], by simp [lz], by simp; omega, fun z hz => ?_, fun j hj => ?_, fun j hj => ?_, fun j hj h0 => ?_, ?_, by simp; omega⟩
 ·rcases List.mem_append.1 hz with hz | hz
  ·exact h.z z hz
  ·simp at hz; subst hz; omega
 ·simp at hj
  rw [g]; split
  ·omega
  ·exact h.c j (by omega)
 ·simp at hj
  rw [g, lp]; split
  ·omega
  ·exact h.p j (by omega)
 ·simp at hj
  rw [g] at h0
  rw [g, g, lp, lz, List.length_append]
  split at h0
  ·next e => subst e; simp
  ·next e =>
   have := h.pz j (by omega) h0
   rw [if_neg e, if_neg e]; push_cast; omega
 ·rw [lvs_app lp lz (by omega) (by omega), List.length_append]
  have := h.sum
  push_cast; omega
theorem StO.again {n : Nat} {B P Z C b : List Int} (h : StO n B P Z C) {i : Nat} (hi : i < C.length) (h0 : ¬ 0 < C.getD i 0) (h1 : 1 ≤ b.length) (h2 : b.length ≤ 4096) (hb : (B.length : Int) + b.length ≤ 8388608) : StO n (B ++ b) (P.set i (B.length : Int)) (Z.set i (b.length : Int)) (C.set i 1) := by
 have lp := h.lp
 have lz := h.lz
 have ep : ∀ j, (P.set i (B.length : Int)).getD j 0 = if j = i then (B.length : Int) else P.getD j 0 := fun j => getDs P i j _ (by omega)
 have ez : ∀ j, (Z.set i (b.length : Int)).getD j 0 = if j = i then (b.length : Int) else Z.getD j 0 := fun j => getDs Z i j _ (by omega)
 have ec : ∀ j, (C.set i 1).getD j 0 = if j = i then 1 else C.getD j 0 := fun j => getDs C i j _ hi
 refine ⟨by simp [lp], by simp [lz], by simp; exact h.ln, fun z hz => ?_, fun j hj => ?_, fun j hj => ?_, fun j hj hc => ?_, ?_, by simp; omega⟩
 ·rcases List.mem_or_eq_of_mem_set hz with hz | hz
  ·exact h.z z hz
  ·subst hz; omega
 ·simp at hj
  rw [ec]; split
  ·omega
  ·exact h.c j hj
 ·simp at hj
  rw [ep]; split
  ·omega
  ·exact h.p j hj
 ·simp at hj
  rw [ec] at hc
  rw [ep, ez, List.length_append]
  split at hc
  ·next e => subst e; simp
  ·next e =>
   have := h.pz j hj hc
   rw [if_neg e, if_neg e]; push_cast; omega
 ·rw [lvs_take (by simpa using hi) (by simp [lp]) (by simp [lz]) h0 (by omega) (by rw [ep, if_pos rfl]; omega), lvs_off lp lz h0, ez, if_pos rfl, List.length_append]
  have := h.sum
  push_cast; omega
def tot : List Int → List Int → Int
 | z :: Z, c :: C => (if 0 < c then z else 0) + tot Z C
 | _, _ => 0
theorem lvs_tot : ∀ {P Z C : List Int}, P.length = C.length → (∀ j, j < C.length → 0 < C.getD j 0 → 0 ≤ P.getD j 0) → lvs P Z C = tot Z C
 | [], [], [], _, _ => rfl
 | [], _ :: _, [], _, _ => rfl
 | p :: P, z :: Z, c :: C, h1, h => by
  have ih := lvs_tot (P := P) (Z := Z) (C := C) (by simpa using h1) (fun j hj hc => by have := h (j + 1) (by simp; omega) (by simpa using hc); simpa using this)
  have h0 := h 0 (by simp)
  simp at h0
  simp only [lvs, tot, ih]
  by_cases hc : 0 < c
  ·rw [if_pos hc, if_pos ⟨hc, h0 hc⟩]
  ·rw [if_neg hc, if_neg (fun h => hc h.1)]
 | _ :: _, [], _ :: _, _, _ => rfl
 | [], _, _ :: _, h1, _ => absurd h1 (by simp)
 | _ :: _, _, [], h1, _ => absurd h1 (by simp)
theorem lvs_none : ∀ {P Z C : List Int}, P.length = C.length → (∀ j, j < C.length → 0 < C.getD j 0 → P.getD j 0 < 0) → lvs P Z C = 0
 | [], [], [], _, _ => rfl
 | [], _ :: _, [], _, _ => rfl
 | p :: P, z :: Z, c :: C, h1, h => by
  have ih := lvs_none (P := P) (Z := Z) (C := C) (by simpa using h1) (fun j hj hc => by have := h (j + 1) (by simp; omega) (by simpa using hc); simpa using this)
  have h0 := h 0 (by simp)
  simp at h0
  simp only [lvs, ih]
  rw [if_neg (fun h => by have := h0 h.1; omega)]; rfl
 | _ :: _, [], _ :: _, _, _ => rfl
 | [], _, _ :: _, h1, _ => absurd h1 (by simp)
 | _ :: _, _, [], h1, _ => absurd h1 (by simp)
structure SlO (was : Nat) (Z C : List Int) (b P : List Int) (a : Int) (i : Nat) : Prop where
 lp : P.length = C.length
 p : ∀ j, j < C.length → -16777216 ≤ P.getD j 0 ∧ P.getD j 0 ≤ 16777216
 dead : ∀ j, j < C.length → ¬ 0 < C.getD j 0 → 0 ≤ P.getD j 0
 live : ∀ j, j < C.length → 0 < C.getD j 0 → (0 ≤ P.getD j 0 ∧ a ≤ P.getD j 0 ∧ (j < i → a < P.getD j 0) ∧ P.getD j 0 + Z.getD j 0 ≤ was) ∨ (P.getD j 0 < 0 ∧ 0 ≤ P.getD j 0 + was + 1 ∧ P.getD j 0 + was + 1 + Z.getD j 0 ≤ b.length)
 sum : b.length + lvs P Z C = tot Z C
 le : tot Z C ≤ was
theorem SlO.start {n : Nat} {B P Z C : List Int} (h : StO n B P Z C) : SlO B.length Z C [] P 0 0 := by
 refine ⟨h.lp, fun j hj => by have := h.p j hj; omega, fun j hj _ => (h.p j hj).1, fun j hj hc => .inl ⟨(h.p j hj).1, (h.p j hj).1, fun h => absurd h (by omega), h.pz j hj hc⟩, ?_, ?_⟩
 ·rw [lvs_tot h.lp (fun j hj _ => (h.p j hj).1)]; simp
 ·rw [← lvs_tot (P := P) h.lp (fun j hj _ => (h.p j hj).1)]; exact h.sum
section
variable {was : Nat} {Z C b P : List Int} {a : Int} {i : Nat}
theorem SlO.pass (h : SlO was Z C b P a i) (hn : i < C.length → ¬ (0 < C.getD i 0 ∧ P.getD i 0 = a)) : SlO was Z C b P a (i + 1) := by
 refine ⟨h.lp, h.p, h.dead, fun j hj hc => ?_, h.sum, h.le⟩
 rcases h.live j hj hc with ⟨h0, h1, h2, h3⟩ | h4
 ·refine .inl ⟨h0, h1, fun hl => ?_, h3⟩
  by_cases e : j = i
  ·subst e
   have := hn hj
   have h5 : P.getD j 0 ≠ a := fun e => this ⟨hc, e⟩
   omega
  ·exact h2 (by omega)
 ·exact .inr h4
theorem SlO.bounds (h : SlO was Z C b P a i) (hz : ∀ z ∈ Z, 1 ≤ z ∧ z ≤ 4096) (lz : Z.length = C.length) (hi : i < C.length) (hc : 0 < C.getD i 0) (ha : P.getD i 0 = a) (h0 : 0 ≤ a) : a + Z.getD i 0 ≤ was ∧ (b.length : Int) + Z.getD i 0 ≤ was ∧ 1 ≤ Z.getD i 0 ∧ Z.getD i 0 ≤ 4096 := by
 have hzi : 1 ≤ Z.getD i 0 ∧ Z.getD i 0 ≤ 4096 := by
  refine hz _ ?_
  rw [List.getD_eq_getElem?_getD, List.getElem?_eq_getElem (by omega)]
  exact List.getElem_mem (by omega)
 have hl := h.lp
 have hin := lvs_in (P := P) (Z := Z) (C := C) (i := i) (fun z hz' => by have := hz z hz'; omega) (by omega) hl lz hc (by omega)
 have hs := h.sum
 have hle := h.le
 rcases h.live i hi hc with ⟨_, _, _, h3⟩ | ⟨h4, _⟩
 ·omega
 ·omega
theorem SlO.hit (h : SlO was Z C b P a i) {x : List Int} (hz : ∀ z ∈ Z, 1 ≤ z ∧ z ≤ 4096) (lz : Z.length = C.length) (hw : was ≤ 16000000) (hi : i < C.length) (hc : 0 < C.getD i 0) (ha : P.getD i 0 = a) (h0 : 0 ≤ a) (hx : (x.length : Int) = Z.getD i 0) :
  SlO was Z C (b ++ x) (P.set i ((b.length : Int) - was - 1)) a (i + 1) := by
 have hb := h.bounds hz lz hi hc ha h0
 have hl := h.lp
 have ep : ∀ j, (P.set i ((b.length : Int) - was - 1)).getD j 0 = if j = i then (b.length : Int) - was - 1 else P.getD j 0 := fun j => getDs P i j _ (by omega)
 refine ⟨by simp [hl], fun j hj => ?_, fun j hj hn => ?_, fun j hj hcj => ?_, ?_, h.le⟩
 ·rw [ep]; split
  ·omega
  ·exact h.p j hj
 ·rw [ep]; split
  ·next e => subst e; exact absurd hc hn
  ·exact h.dead j hj hn
 ·rw [ep]; split
  ·next e => subst e; right; rw [List.length_append]; push_cast; omega
  ·next e =>
   rcases h.live j hj hcj with ⟨g0, g1, g2, g3⟩ | ⟨g4, g5, g6⟩
   ·exact .inl ⟨g0, g1, fun hl => g2 (by omega), g3⟩
   ·right; rw [List.length_append]; push_cast; omega
 ·rw [lvs_out (by omega) hl lz hc (by omega) (by omega), List.length_append]
  have := h.sum
  push_cast; omega
theorem SlO.next (h : SlO was Z C b P a i) (hi : C.length ≤ i) : SlO was Z C b P (a + 1) 0 := by
 refine ⟨h.lp, h.p, h.dead, fun j hj hc => ?_, h.sum, h.le⟩
 rcases h.live j hj hc with ⟨h0, h1, h2, h3⟩ | h4
 ·exact .inl ⟨h0, by have := h2 (by omega); omega, fun h => absurd h (by omega), h3⟩
 ·exact .inr h4
end
structure SlE (was : Nat) (Z C b P : List Int) (i : Nat) : Prop where
 lp : P.length = C.length
 lz : Z.length = C.length
 p : ∀ j, j < C.length → -16777216 ≤ P.getD j 0 ∧ P.getD j 0 ≤ 16777216
 dead : ∀ j, j < C.length → ¬ 0 < C.getD j 0 → 0 ≤ P.getD j 0
 live : ∀ j, j < C.length → 0 < C.getD j 0 → if j < i then 0 ≤ P.getD j 0 ∧ P.getD j 0 + Z.getD j 0 ≤ b.length else P.getD j 0 < 0 ∧ 0 ≤ P.getD j 0 + was + 1 ∧ P.getD j 0 + was + 1 + Z.getD j 0 ≤ b.length
 sum : b.length = tot Z C
 le : tot Z C ≤ was
theorem SlO.done {was : Nat} {Z C b P : List Int} {a : Int} (h : SlO was Z C b P a 0) (lz : Z.length = C.length) (hz : ∀ z ∈ Z, 1 ≤ z ∧ z ≤ 4096) (ha : was ≤ a) : SlE was Z C b P 0 := by
 have key : ∀ j, j < C.length → 0 < C.getD j 0 → P.getD j 0 < 0 ∧ 0 ≤ P.getD j 0 + was + 1 ∧ P.getD j 0 + was + 1 + Z.getD j 0 ≤ b.length := fun j hj hc => ?_
 ·refine ⟨h.lp, lz, h.p, h.dead, fun j hj hc => ?_, ?_, h.le⟩
  ·rw [if_neg (by omega)]; exact key j hj hc
  ·have := h.sum
   rw [lvs_none h.lp (fun j hj hc => (key j hj hc).1)] at this
   omega
 rcases h.live j hj hc with ⟨h0, h1, h2, h3⟩ | h4
 ·have : 1 ≤ Z.getD j 0 := by
   refine (hz _ ?_).1
   rw [List.getD_eq_getElem?_getD, List.getElem?_eq_getElem (by omega)]
   exact List.getElem_mem (by omega)
  omega
 ·exact h4
section
variable {was : Nat} {Z C b P : List Int} {i : Nat}
theorem SlE.pass (h : SlE was Z C b P i) (hn : i < C.length → ¬ (0 < C.getD i 0 ∧ P.getD i 0 < 0)) : SlE was Z C b P (i + 1) := by
 refine ⟨h.lp, h.lz, h.p, h.dead, fun j hj hc => ?_, h.sum, h.le⟩
 have h1 := h.live j hj hc
 by_cases e : j = i
 ·subst e
  rw [if_neg (by omega)] at h1
  exact absurd ⟨hc, h1.1⟩ (hn hj)
 ·by_cases hl : j < i
  ·rw [if_pos hl] at h1; rw [if_pos (by omega)]; exact h1
  ·rw [if_neg hl] at h1; rw [if_neg (by omega)]; exact h1
theorem SlE.hit (h : SlE was Z C b P i) (hi : i < C.length) (hc : 0 < C.getD i 0) (hw : was ≤ 16000000) (hp : P.getD i 0 < 0) : SlE was Z C b (P.set i (P.getD i 0 + was + 1)) (i + 1) := by
 have hl := h.lp
 have ep : ∀ j, (P.set i (P.getD i 0 + was + 1)).getD j 0 = if j = i then P.getD i 0 + was + 1 else P.getD j 0 := fun j => getDs P i j _ (by omega)
 refine ⟨by simp [hl], h.lz, fun j hj => ?_, fun j hj hn => ?_, fun j hj hcj => ?_, h.sum, h.le⟩
 ·have := h.p i hi
  have h2 := h.live i hi hc
  rw [if_neg (by omega)] at h2
  rw [ep]; split
  ·omega
  ·exact h.p j hj
 ·rw [ep]; split
  ·next e => subst e; exact absurd hc hn
  ·exact h.dead j hj hn
 ·have h1 := h.live j hj hcj
  rw [ep]
  by_cases e : j = i
  ·subst e
   rw [if_neg (by omega)] at h1
   rw [if_pos (by omega), if_pos rfl]
   omega
  ·rw [if_neg e]
   by_cases hl : j < i
   ·rw [if_pos hl] at h1; rw [if_pos (by omega)]; exact h1
   ·rw [if_neg hl] at h1; rw [if_neg (by omega)]; exact h1
theorem SlE.fin {n : Nat} (h : SlE was Z C b P C.length) (hn : C.length ≤ n) (hw : was ≤ 8388608) (hz : ∀ z ∈ Z, 1 ≤ z ∧ z ≤ 4096) (hc : ∀ i, i < C.length → 0 ≤ C.getD i 0 ∧ C.getD i 0 ≤ 1) : StO n b P Z C := by
 have hp : ∀ j, j < C.length → 0 < C.getD j 0 → 0 ≤ P.getD j 0 ∧ P.getD j 0 + Z.getD j 0 ≤ b.length := fun j hj hcj => by
  have := h.live j hj hcj
  rwa [if_pos hj] at this
 have hs := h.sum
 have hl := h.le
 refine ⟨h.lp, h.lz, hn, hz, hc, fun j hj => ?_, fun j hj hcj => (hp j hj hcj).2, ?_, by omega⟩
 ·have h1 := h.p j hj
  by_cases hcj : 0 < C.getD j 0
  ·have := hp j hj hcj; omega
  ·have := h.dead j hj hcj; omega
 ·rw [lvs_tot h.lp (fun j hj hcj => (hp j hj hcj).1)]; omega
end
end Go.Proofs.YtjiaaefpepdoeaaDoor.Md
