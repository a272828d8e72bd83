/-
  TEXTS JOINED FOR A CLAIM (MarkTerms): Up Liv Gon Lvw Mks Msn Sli Sr Mwd Aw13 Aw12 Rds Rdn Gt Rthr Fl. Conditions: none beyond those that each theorem states.
-/
import Derived.Test.YtjiaaefpepdoeaaDoorZ30MarkTerms
import Derived.Outline
import Derived.Test.YtjiaaefpepdoeaaDoorZ00MarkTerms
import Derived.Deep.LoopGhost
import Derived.Deep.RegionHeld3
import Derived.IntWalk
import Derived.Test.YtjiaaefpepdoeaaDoorZ23MarkTerms
namespace Go.Proofs.YtjiaaefpepdoeaaDoor
open Go.RowKit Md
set_option linter.unusedVariables false
structure UpP (l M P Q : List Int) (b : Nat) : Prop where
 eq : M = P ++ Q
 lo : ∀ a ∈ P, a + 1 + (obj0 l a).size ≤ b
 hi : ∀ a ∈ Q, (b : Int) ≤ a
 le : b ≤ l.length
theorem UpP.next {l rs L M P Q : List Int} {b a zn : Nat} (S : Sc l rs L M) (h : UpP l M P ((a : Int) :: Q) b) (hz : (obj0 l (a : Int)).size = zn) (hl : a + 1 + zn ≤ l.length) : UpP l M (P ++ [(a : Int)]) Q (a + 1 + zn) where
 eq := by rw [h.eq]; simp
 lo := fun c hc => by
  have hb := h.hi a (by simp)
  rcases List.mem_append.1 hc with hc | hc
  ·have := h.lo c hc; omega
  ·simp at hc; rw [hc, hz]; omega
 hi := fun c hc => by
  have hs := S.srt
  rw [h.eq] at hs
  have h4 := (List.pairwise_cons.1 (List.pairwise_append.1 hs).2.1).1 c hc
  have := S.snd.rows.sep a (S.sub _ (by rw [h.eq]; simp)) c (S.sub _ (by rw [h.eq]; simp [hc])) h4
  rw [hz] at this
  omega
 le := hl
theorem UpP.noFld {l rs L M P Q : List Int} {b j : Nat} (S : Sc l rs L M) (h : UpP l M P Q b) (h1 : b ≤ j) (h2 : ∀ a ∈ Q, (j : Int) ≤ a) : fldB l M j = false := by
 cases hf : fldB l M j with
 | false => rfl
 | true =>
  obtain ⟨a, ha, h3, h4⟩ := fldB_iff.1 hf
  have h5 := S.snd.fit a (S.sub a ha)
  rw [h.eq] at ha
  rcases List.mem_append.1 ha with ha | ha
  ·have := h.lo a ha; omega
  ·have := h2 a ha; omega
theorem UpP.fin {l rs L M P : List Int} {b : Nat} {ws ys : List Int} (S : Sc l rs L M) (h : UpP l M P [] b) (U : Us l rs L M b b rs.length ws ys) : Us l rs L M l.length l.length rs.length ws ys :=
 U.skip S h.le h.le (fun j h1 _ => h.noFld S h1 (fun a ha => by simp at ha)) (fun a ha hh => by
  rw [h.eq, List.append_nil] at ha
  have h1 := h.lo a ha
  obtain ⟨_, _, e6, _, _, _, h7, _⟩ := S.snd.rows.obj a (S.sub a (by rw [h.eq, List.append_nil]; exact ha))
  rw [e6] at h1
  omega)
theorem Fr.setCell1 {w w1 : World} {g : Nat} (h : Fr w w1 (fun j => j = g)) (o : Nat) (u : Value) : Fr w (w1.setCell ⟨g, o, none⟩ u) (fun j => j = g) := h.setCell (a := ⟨g, o, none⟩) (fun _ => rfl) u
theorem blk_setX {w : World} {g : Nat} {t : TypeId} {cs : Array Value} (h : w.heap[g]? = some (.cells cs t (0, 0))) (i : Nat) (u : Value) : (w.setCell ⟨g, i, none⟩ u).heap[g]? = some (.cells (cs.setIfInBounds i u) t (0, 0)) := by
 simp [World.setCell, Array.getElem?_modify, h]
theorem setCells_rowX {g : Nat} {e : TypeId} : ∀ (vs : List Value) (o : Nat) (w : World) (cur : Array Value), w.heap[g]? = some (.cells cur e (0, 0)) → o + vs.length ≤ cur.size →
  ∃ cur', (w.setCells g o vs).heap[g]? = some (.cells cur' e (0, 0)) ∧ cur'.size = cur.size ∧ cur'.toList = cur.toList.take o ++ vs ++ cur.toList.drop (o + vs.length) := by
 intro vs
 induction vs with
 | nil => intro o w cur h _; exact ⟨cur, h, rfl, by simp⟩
 | cons v r ih =>
  intro o w cur h hl
  simp only [List.length_cons] at hl
  obtain ⟨c2, h3, h4, h5⟩ := ih (o + 1) _ _ (blk_setX h o v) (by simp; omega)
  refine ⟨c2, h3, by rw [h4]; simp, ?_⟩
  rw [h5, Array.toList_setIfInBounds]
  have hc : cur.toList.length = cur.size := Array.length_toList
  apply List.ext_getElem?
  intro j
  simp only [List.length_cons]
  by_cases h1 : j < o
  ·rw [List.append_assoc, List.append_assoc, List.getElem?_append_left (by rw [List.length_take, List.length_set]; omega), List.getElem?_append_left (by rw [List.length_take]; omega), List.getElem?_take, List.getElem?_take, if_pos (by omega), if_pos h1, List.getElem?_set_ne (by omega)]
  ·by_cases h2 : j = o
   ·subst h2
    rw [List.append_assoc, List.append_assoc, List.getElem?_append_left (by rw [List.length_take, List.length_set]; omega), List.getElem?_append_right (by rw [List.length_take]; omega), List.getElem?_take, if_pos (by omega), List.length_take, List.getElem?_set]
    have : j - min j cur.toList.length = 0 := by omega
    rw [this]
    have h6 : j < cur.toList.length := by omega
    simp [h6]
    omega
   ·rw [List.append_assoc, List.append_assoc, List.getElem?_append_right (l₁ := List.take (o + 1) (cur.toList.set o v)) (by rw [List.length_take, List.length_set]; omega), List.getElem?_append_right (l₁ := List.take o cur.toList) (by rw [List.length_take]; omega), List.length_take, List.length_take, List.length_set]
    obtain ⟨m, hm⟩ : ∃ m, j - min o cur.toList.length = m + 1 := ⟨j - o - 1, by omega⟩
    have hm2 : j - min (o + 1) cur.toList.length = m := by omega
    rw [hm, hm2, List.cons_append, List.getElem?_cons_succ]
    by_cases h7 : m < r.length
    ·rw [List.getElem?_append_left h7, List.getElem?_append_left h7]
    ·rw [List.getElem?_append_right (l₂ := List.drop (o + 1 + r.length) (cur.toList.set o v)) (by omega), List.getElem?_append_right (l₂ := List.drop (o + (r.length + 1)) cur.toList) (by omega), List.getElem?_drop, List.getElem?_drop, List.getElem?_set_ne (by omega)]
     congr 1
     omega
theorem OwnH.store {w w1 : World} {A : Option Addr} {g n cap i : Nat} {hs : List Hdr} {o : Hdr} (h : OwnH w (.slice A n cap) hs) (hA : A = some ⟨g, 0, none⟩) (hi : i < hs.length)
  (e : ((((w.setCell ⟨g, i * 4, none⟩ (.int .i64 o.kind)).setCell ⟨g, i * 4 + 1, none⟩ (.int .i64 o.size)).setCell ⟨g, i * 4 + 2, none⟩ (.int .i64 o.tree)).setCell ⟨g, i * 4 + 3, none⟩ (.bool o.neg)) = w1) :
  OwnH w1 (.slice A n cap) (hs.set i o) ∧ Fr w w1 (fun j => j = g) := by
 subst hA
 rcases h.2 with ⟨_, h1⟩ | ⟨g', cap', cur, e1, hb, hg, hl, hm, hs2, ht⟩
 ·omega
 ·injection e1 with e1 e2 e3
  injection e1 with e1
  injection e1 with e1 _ _
  subst e1
  obtain ⟨cur', h3, h4, h5⟩ := setCells_rowX (hcs o) (i * 4) w cur hg (by rw [hs2]; simp only [hcs, List.length_cons, List.length_nil]; omega)
  have e' : w.setCells g (i * 4) (hcs o) = w1 := by rw [← e]; rfl
  rw [e'] at h3
  refine ⟨⟨by rw [hws_length, List.length_set], .inr ⟨g, cap', cur', ?_, hb, h3, by rw [List.length_set]; exact hl, hm, by rw [h4]; exact hs2, ?_⟩⟩, ?_⟩
  ·rw [List.length_set, e2, e3]
  ·rw [List.length_set, h5]
   have hc : cur.toList.length = cap' * 4 := by rw [Array.length_toList]; exact hs2
   apply List.ext_getElem?
   intro j
   rw [List.getElem?_take]
   have hlc : (hcs o).length = 4 := rfl
   by_cases hj : j < hs.length * 4
   ·rw [if_pos hj]
    have hq : j = j / 4 * 4 + j % 4 := by omega
    have hg1 : (hws (hs.set i o))[j]? = (hcs ((hs.set i o).getD (j / 4) hdr0))[j % 4]? := by
     have := hws_get (hs := hs.set i o) (k := j / 4) (by rw [List.length_set]; omega) (j % 4) (by omega)
     rw [← hq] at this
     exact this
    have hg0 : cur.toList[j]? = (hcs (hs.getD (j / 4) hdr0))[j % 4]? := by
     have := hws_get (hs := hs) (k := j / 4) (by omega) (j % 4) (by omega)
     rw [← hq, ← ht, List.getElem?_take, if_pos hj] at this
     exact this
    rw [hg1]
    by_cases hji : j / 4 = i
    ·have e1 : (hs.set i o).getD (j / 4) hdr0 = o := by rw [hji]; simp [List.getD, hi]
     rw [e1, List.getElem?_append_left (by rw [List.length_append, List.length_take, hlc]; omega), List.getElem?_append_right (by rw [List.length_take]; omega), List.length_take]
     congr 1
     omega
    ·have e1 : (hs.set i o).getD (j / 4) hdr0 = hs.getD (j / 4) hdr0 := by simp [List.getD, List.getElem?_set, Ne.symm hji]
     rw [e1, ← hg0]
     by_cases hlt : j < i * 4
     ·rw [List.getElem?_append_left (by rw [List.length_append, List.length_take]; omega), List.getElem?_append_left (by rw [List.length_take]; omega), List.getElem?_take, if_pos hlt]
     ·rw [List.getElem?_append_right (by rw [List.length_append, List.length_take, hlc]; omega), List.getElem?_drop, List.length_append, List.length_take, hlc]
      congr 1
      omega
   ·rw [if_neg hj, List.getElem?_eq_none]
    rw [hws_length, List.length_set]; omega
  ·subst e
   exact ((((Fr.refl w _).setCell1 _ _).setCell1 _ _).setCell1 _ _).setCell1 _ _
end Go.Proofs.YtjiaaefpepdoeaaDoor
namespace Go.Proofs.YtjiaaefpepdoeaaDoor
open Go.RowKit Md
set_option linter.unusedVariables false
theorem Own.pop {W : World} {e : TypeId} {g n c : Nat} {xs : List Value} {x : Value} (h : Own W e (.slice (some ⟨g, 0, none⟩) (n + 1) c) (xs ++ [x])) (hn : xs.length = n) : Own W e (.slice (some ⟨g, 0, none⟩) n c) xs := by
 rcases h.2 with ⟨hv, _⟩ | ⟨g', cap', cur, hv, hb, hg, hl, hm, hs, ht⟩
 ·cases hv
 ·injection hv with h1 h2 h3
  injection h1 with h1
  injection h1 with h1
  subst h1
  subst h3
  have hl2 : (xs ++ [x]).length = n + 1 := by simp [hn]
  rw [hl2] at hl ht
  refine ⟨by omega, .inr ⟨g, c, cur, by rw [hn], Nat.zero_le _, hg, by omega, hm, hs, ?_⟩⟩
  have h4 := congrArg (List.take n) ht
  rw [List.take_take] at h4
  rw [hn, Nat.mul_one]
  have h5 : min n ((n + 1) * 1) = n := by omega
  rw [h5] at h4
  rw [h4, List.take_append_of_le_length (by omega), ← hn, List.take_length]
def unseen (s : List Bool) : Nat := (s.filter (fun b => !b)).length
theorem unseen_set : ∀ (s : List Bool) (k : Nat), k < s.length → s.getD k false = false → unseen (s.set k true) + 1 = unseen s := by
 intro s
 induction s with
 | nil => intro k h; simp at h
 | cons b s ih =>
  intro k hk hs
  cases k with
  | zero => simp at hs; subst hs; simp [unseen]
  | succ k =>
   have := ih k (by simp at hk; omega) (by simpa using hs)
   unfold unseen at this ⊢
   cases b <;> simp at this ⊢ <;> omega
theorem unseen_new (n : Nat) : unseen (List.replicate n false) = n := by simp [unseen]
def mu (ws : List Int) (seen : List Bool) (todo : List Int) : Nat := todo.length + unseen seen * ws.length
structure LV (w W : World) (p : Nat) (v : Value) (ws rs : List Int) (size : Int) (sv tv : Value) (seen : List Bool) (todo : List Int) : Prop where
 ar : Ar 112 W p v ws size
 fr : Fr w W fun _ => False
 so : Own W 4 sv (bw seen)
 own : Own W 39 tv (uw todo)
 ins : ∀ k, InBlk sv k → w.heap.size ≤ k
 int : ∀ k, InBlk tv k → w.heap.size ≤ k
 vlt : ∀ k, InBlk v k → k < w.heap.size
 plt : p < w.heap.size
 okt : okWs todo
 sl : seen.length = ws.length
 back : ∀ r, Lv ws seen todo r → Lv ws (List.replicate ws.length false) rs r
section
variable {w W W1 : World} {p : Nat} {v : Value} {ws rs : List Int} {size : Int} {sv tv : Value} {seen : List Bool} {todo : List Int}
theorem LV.frm (h : LV w W p v ws rs size sv tv seen todo) (hf : Fr W W1 fun _ => False) : LV w W1 p v ws rs size sv tv seen todo :=
 ⟨h.ar.fr hf, h.fr.trans hf, h.so.keep hf (fun _ _ h => h), h.own.keep hf (fun _ _ h => h), h.ins, h.int, h.vlt, h.plt, h.okt, h.sl, h.back⟩
theorem LV.pop {g c n : Nat} {x : Int} {rest : List Int} (h : LV w W p v ws rs size sv (.slice (some ⟨g, 0, none⟩) (n + 1) c) seen (rest ++ [x])) (hn : rest.length = n) (hb : ∀ r, Lv ws seen rest r → Lv ws seen (rest ++ [x]) r) :
  LV w W p v ws rs size sv (.slice (some ⟨g, 0, none⟩) n c) seen rest :=
 ⟨h.ar, h.fr, h.so, Own.pop (x := .int .u64 x) (by have := h.own; rw [uw_append] at this; exact this) (by rw [uw_length]; exact hn), h.ins, fun k hk => h.int k (by simpa [InBlk, Value.ownBlock] using hk), h.vlt, h.plt, fun y hy => h.okt y (by simp [hy]), h.sl, fun r hr => h.back r (hb r hr)⟩
structure LW (w W : World) (p : Nat) (v : Value) (ws : List Int) (size : Int) (sv tv : Value) (seen : List Bool) (todo : List Int) : Prop where
 ar : Ar 112 W p v ws size
 fr : Fr w W fun _ => False
 so : Own W 4 sv (bw seen)
 own : Own W 39 tv (uw todo)
 ins : ∀ k, InBlk sv k → w.heap.size ≤ k
 int : ∀ k, InBlk tv k → w.heap.size ≤ k
 vlt : ∀ k, InBlk v k → k < w.heap.size
 plt : p < w.heap.size
 okt : okWs todo
 sl : seen.length = ws.length
theorem LV.lw (h : LV w W p v ws rs size sv tv seen todo) : LW w W p v ws size sv tv seen todo := ⟨h.ar, h.fr, h.so, h.own, h.ins, h.int, h.vlt, h.plt, h.okt, h.sl⟩
theorem LW.lv (h : LW w W p v ws size sv tv seen todo) (hb : ∀ r, Lv ws seen todo r → Lv ws (List.replicate ws.length false) rs r) : LV w W p v ws rs size sv tv seen todo := ⟨h.ar, h.fr, h.so, h.own, h.ins, h.int, h.vlt, h.plt, h.okt, h.sl, hb⟩
theorem LW.frm (h : LW w W p v ws size sv tv seen todo) (hf : Fr W W1 fun _ => False) : LW w W1 p v ws size sv tv seen todo :=
 ⟨h.ar.fr hf, h.fr.trans hf, h.so.keep hf (fun _ _ h => h), h.own.keep hf (fun _ _ h => h), h.ins, h.int, h.vlt, h.plt, h.okt, h.sl⟩
theorem LW.see {g k cb nb : Nat} (h : LW w W p v ws size (.slice (some ⟨g, 0, none⟩) nb cb) tv seen todo) (hnb : seen.length = nb) (hk : k < seen.length) :
  LW w (W.setCell ⟨g, k, none⟩ (.bool true)) p v ws size (.slice (some ⟨g, 0, none⟩) nb cb) tv (seen.set k true) todo := by
 subst hnb
 have hin : InBlk (.slice (some ⟨g, 0, none⟩) seen.length cb) g := by simp [InBlk, Value.ownBlock]
 have hs := Own.setAt (cap := cb) (g := g) (k := k) (u := .bool true) (xs := bw seen) (e := 4) (W := W) (by rw [bw_length]; exact h.so) (by rw [bw_length]; exact hk)
 have hf := hs.2
 have hs1 := hs.1
 rw [bw_length] at hs1
 have e1 : (bw seen).set k (.bool true) = bw (seen.set k true) := by unfold bw; rw [List.map_set]
 rw [e1] at hs1
 have hgw := h.ins g hin
 exact ⟨h.ar.keep hf (by have := h.plt; omega) (fun i hi e => by have := h.vlt i hi; omega), h.fr.setCell (S := fun _ => False) (a := ⟨g, k, none⟩) (fun (hlt : g < w.heap.size) => by omega) _, hs1, h.own.keep hf (fun i hi e => h.own.apart h.so (by decide) i hi (by rw [e]; exact hin)), h.ins, h.int, h.vlt, h.plt, h.okt, by rw [List.length_set]; exact h.sl⟩
theorem LW.push (x : Int) (h : LW w W p v ws size sv tv seen todo) (hx : okW x) (hlen : todo.length ≤ 1073741823) :
  ∃ v' w1, (Builtin.append_ #[44, 44] 44 #[tv, .slice (some ⟨W.heap.size, 0, none⟩) 1 1]).run Tryd.prog (W.alloc (.cells #[.int .u64 x] 39)) = .ok v' w1 ∧ LW w w1 p v ws size sv v' seen (todo ++ [x]) ∧ Fr W w1 (fun i => InBlk tv i) := by
 obtain ⟨i0, hi, hz0, hz1, hzb⟩ := info_parts wordInfo
 have hf3 : Fr W (W.alloc (.cells #[.int .u64 x] 39)) (fun _ => False) := (Fr.refl _ _).alloc _
 have hone : Rd (W.alloc (.cells #[.int .u64 x] 39)) (.slice (some ⟨W.heap.size, 0, none⟩) 1 1) (uw [x]) := .inr ⟨W.heap.size, 0, 1, rfl, by simp [uw], by simp [uw], by decide, by simp, fun i hi => by
  have : i = 0 := by simp [uw] at hi; exact hi
  subst this
  simp only [World.cell?, blk_new]; rfl⟩
 obtain ⟨v', w1, hr, ho, hg, hn⟩ := run_append_rd (P := Tryd.prog) _ 44 44 39 i0 (.int .u64 0) Tryd.underlying44 hi hz0 hz1 (by omega) rfl _ _ (uw todo) (uw [x]) (h.own.keep hf3 (fun _ _ h => h)) hone (uw_one [x]) (by rw [uw_length, uw_length]; simp; omega)
 rw [← uw_append] at ho
 have hf4 : Fr W w1 (fun i => InBlk tv i) := (hf3.mono fun _ h _ => h.elim).grown hg (fun k hk _ => hk)
 refine ⟨v', w1, hr, ⟨h.ar.keep hf4 (fun e => by have := h.int p e; have := h.plt; omega) (fun i hi e => by have := h.vlt i hi; have := h.int i e; omega), h.fr.then_ hf4 (fun k hk hlt => by have := h.int k hk; omega), h.so.keep hf4 (fun i hi e => h.so.apart h.own (by decide) i hi e), ho, h.ins, fun k hk => ?_, h.vlt, h.plt, okWs_append h.okt (fun y hy => by simp at hy; rw [hy]; exact hx), h.sl⟩, hf4⟩
 rcases hn k hk with h1 | h1
 ·exact h.int k h1
 ·have h2 := h.fr.size
  have h3 : (W.alloc (.cells #[.int .u64 x] 39)).heap.size = W.heap.size + 1 := Array.size_push _
  omega
end
theorem mu_new {ws : List Int} {seen : List Bool} {rest : List Int} {x : Int} {k n : Nat} (hk : k < seen.length) (hs : seen.getD k false = false) (hn : n < ws.length) : mu ws (seen.set k true) (rest ++ fieldsAt ws x n) < mu ws seen (rest ++ [x]) := by
 have h1 := unseen_set seen k hk hs
 unfold mu
 have h2 : (fieldsAt ws x n).length = n := by simp [fieldsAt]
 rw [← h1, List.length_append, List.length_append, h2, Nat.add_mul]
 simp only [List.length_cons, List.length_nil]
 omega
theorem fieldsAt_succ (ws : List Int) (a : Int) (n : Nat) : fieldsAt ws a (n + 1) = fieldsAt ws a n ++ [rd0 ws (a + 1 + n)] := by simp [fieldsAt, List.range_succ]
theorem ints_push {W : World} {u : Value} {acc : List Int} (x : Int) (h : Own W 3 u (iw acc)) (hlen : acc.length ≤ 1073741823) :
  ∃ v' w1, (Builtin.append_ #[55, 55] 55 #[u, .slice (some ⟨W.heap.size, 0, none⟩) 1 1]).run Tryd.prog (W.alloc (.cells #[.int .i64 x] 3)) = .ok v' w1 ∧ Own w1 3 v' (iw (acc ++ [x])) ∧ Fr W w1 (fun i => InBlk u i) ∧ ∀ k, InBlk v' k → InBlk u k ∨ W.heap.size ≤ k := by
 obtain ⟨i0, hi, hz0, hz1, hzb⟩ := info_parts intInfo
 have hf3 : Fr W (W.alloc (.cells #[.int .i64 x] 3)) (fun _ => False) := (Fr.refl _ _).alloc _
 have hone : Rd (W.alloc (.cells #[.int .i64 x] 3)) (.slice (some ⟨W.heap.size, 0, none⟩) 1 1) (iw [x]) := .inr ⟨W.heap.size, 0, 1, rfl, by simp [iw], by simp [iw], by decide, by simp, fun i hi => by
  have : i = 0 := by simp [iw] at hi; exact hi
  subst this
  simp only [World.cell?, blk_new]; rfl⟩
 obtain ⟨v', w1, hr, ho, hg, hn⟩ := run_append_rd (P := Tryd.prog) _ 55 55 3 i0 (.int .i64 0) Tryd.underlying55 hi hz0 hz1 (by omega) rfl _ _ (iw acc) (iw [x]) (h.keep hf3 (fun _ _ h => h)) hone (oneCell_all [x]) (by rw [iw_length, iw_length]; simp; omega)
 rw [← iw_append] at ho
 have hf4 : Fr W w1 (fun i => InBlk u i) := (hf3.mono fun _ h _ => h.elim).grown hg (fun k hk _ => hk)
 refine ⟨v', w1, hr, ho, hf4, fun k hk => ?_⟩
 rcases hn k hk with h1 | h1
 ·exact .inl h1
 ·right
  have h3 : (W.alloc (.cells #[.int .i64 x] 3)).heap.size = W.heap.size + 1 := Array.size_push _
  omega
def upTo (s : List Bool) (i : Nat) : List Int := ((List.range i).filter fun (j : Nat) => s.getD j false).map fun (j : Nat) => (j : Int)
theorem upTo_succ (s : List Bool) (i : Nat) : upTo s (i + 1) = if s.getD i false = true then upTo s i ++ [(i : Int)] else upTo s i := by
 unfold upTo
 rw [List.range_succ, List.filter_append]
 split
 ·rename_i h; simp [-List.getD_eq_getElem?_getD, h]
 ·rename_i h; simp [-List.getD_eq_getElem?_getD, h]
theorem upTo_len (s : List Bool) (i : Nat) : (upTo s i).length ≤ i := by
 unfold upTo
 rw [List.length_map]
 exact Nat.le_trans (List.length_filter_le _ _) (by simp)
theorem upTo_all (s : List Bool) : upTo s s.length = seenList s := rfl
def LvA (w w' : World) (ws rs : List Int) (e : Ending) : Prop :=
 ∃ (r : Option (List Bool)) (u : Value), Lv ws (List.replicate ws.length false) rs r ∧ e = .returned (.tuple #[u, .bool r.isSome]) ∧ New w w' 3 u (iw ((r.map seenList).getD []))
end Go.Proofs.YtjiaaefpepdoeaaDoor
namespace Go.Proofs.YtjiaaefpepdoeaaDoor
open Go.RowKit Md
set_option linter.unusedVariables false
structure GP (l L M acc M1 M2 P Q : List Int) (k i : Nat) : Prop where
 eq : L = P ++ Q
 pl : P.length = i
 me : M = M1 ++ M2
 ml : M1.length = k
 ge : acc ++ goneM l M2 Q = goneM l M L
 al : acc.length ≤ i
section
variable {l L M acc M1 M2 P Q2 : List Int} {k i : Nat} {a x y : Int} {o : Hdr}
end
structure GW (w W : World) (av gv : Value) (L acc : List Int) : Prop where
 fr : Fr w W (fun _ => False)
 own : Own W 3 gv (iw acc)
 new : ∀ k, InBlk gv k → w.heap.size ≤ k
 all : Own W 3 av (iw L)
 ap : ∀ k, InBlk av k → ¬ InBlk gv k
section
variable {w W W1 : World} {av gv u : Value} {L acc acc2 : List Int}
theorem GW.frm (h : GW w W av gv L acc) (hf : Fr W W1 (fun _ => False)) : GW w W1 av gv L acc :=
 ⟨h.fr.trans hf, h.own.keep hf (fun _ _ h => h), h.new, h.all.keep hf (fun _ _ h => h), h.ap⟩
theorem GW.push (h : GW w W av gv L acc) (ho : Own W1 3 u (iw acc2)) (hf : Fr W W1 (fun i => InBlk gv i)) (hn : ∀ k, InBlk u k → InBlk gv k ∨ W.heap.size ≤ k) : GW w W1 av u L acc2 :=
 ⟨h.fr.then_ hf (fun k hk hlt => by have := h.new k hk; omega), ho, fun k hk => (hn k hk).elim (h.new k) (fun e => Nat.le_trans h.fr.size e), h.all.keep hf h.ap, fun k hk e => (hn k e).elim (h.ap k hk) (fun e => by have := h.all.lt k hk; omega)⟩
end
end Go.Proofs.YtjiaaefpepdoeaaDoor
namespace Go.Proofs.YtjiaaefpepdoeaaDoor
open Go.RowKit Md
set_option linter.unusedVariables false
set_option maxRecDepth 100000 in
set_option maxHeartbeats 4000000 in
theorem live_c (p : Nat) (v r : Value) (ws rs : List Int) (size : Int) (w : World) (h : Ar 112 w p v ws size) (hr : Rd w r (uw rs)) (hok : okWs rs) (hl : ws.length ≤ 4000) (hlr : rs.length ≤ 4000) :
    Calls Tryd.prog 28 #[.pointer (some ⟨p, 0, none⟩), r] w fun e w' => LvA w w' ws rs e := by
  have HL : Hid (ws.length ≤ 4000 ∧ rs.length ≤ 4000) := Lib.hid ⟨hl, hlr⟩
  have HM : Hid (rs.length + ws.length * ws.length ≤ 16004000) := Lib.hid (by
    have : ws.length * ws.length ≤ 4000 * 4000 := Nat.mul_le_mul hl hl
    omega)
  have HLR : Hid (rs.length ≤ 1073741824) := Lib.hid (by omega)
  have H := Lib.hid h
  have HR := Lib.hid hr
  have HOK := Lib.hid hok
  have q1 : (ws.length : Int) ≤ 4000 := by omega
  clear h hr hok hl hlr
  go_enter Tryd.func28, Tryd.ntmps28
  obtain ⟨w1, hmk, hbo, hfm⟩ := mk_bools ws.length w (by have := HL.out; omega)
  have HA1 := Lib.hid (H.out.fr hfm)
  have HR1 := Lib.hid (HR.out.keep hfm (fun _ _ h => h))
  have HB1 := Lib.hid hbo
  have HF1 := Lib.hid hfm
  clear hbo hfm
  go_upto_region 5 with (first
    | (go_at_call 21; (with_reducible refine (used_c p v ws size _ H.out).mono ?_); rintro e wu ⟨rfl, rfl⟩)
    | (go_at_call 56; (with_reducible refine (clone_c _ rs _ HR1.out HLR.out).mono ?_); rintro e w2 ⟨tv, rfl, hn⟩; have HC2 := Lib.hid hn; have HA2 := Lib.hid (HA1.out.fr hn.2.1); have HB2 := Lib.hid (HB1.out.keep hn.2.1 (fun _ _ h => h)); have HF2 := Lib.hid (HF1.out.trans hn.2.1); clear hn))
  have H0 : Hid (LV w w2 p v ws rs size (.slice (some ⟨w.heap.size, 0, none⟩) ws.length ws.length) tv (List.replicate ws.length false) rs) := Lib.hid ⟨HA2.out, HF2.out, HB2.out, HC2.out.1, (fun k hk => by simp [InBlk, Value.ownBlock] at hk; omega), (fun k hk => Nat.le_trans HF1.out.size (HC2.out.2.2 k hk)), H.out.own.lt, H.out.lt, HOK.out, by simp, fun r h => h⟩
  have HMU : Hid (mu ws (List.replicate ws.length false) rs ≤ rs.length + ws.length * ws.length) := Lib.hid (by unfold mu; rw [unseen_new]; exact Nat.le_refl _)
  obtain ⟨gs, hgs⟩ : ∃ gs, w.heap.size = gs := ⟨_, rfl⟩
  have HGS := Lib.hid hgs
  rw [hgs] at H0 ⊢
  clear HA1 HR1 HB1 HF1 HA2 HB2 HF2 HC2 hgs hmk
  go_loopg [7] (rs.length + ws.length * ws.length) (fun g a7 wr => ∃ (tv : Value) (seen : List Bool) (todo : List Int), tv = a7 ∧ Hid (mu ws seen todo ≤ g ∧ g ≤ rs.length + ws.length * ws.length) ∧ Hid (LV w wr p v ws rs size (.slice (some ⟨gs, 0, none⟩) ws.length ws.length) tv seen todo))
  case atStart => exact ⟨tv, _, _, rfl, Lib.hid ⟨HMU.out, Nat.le_refl _⟩, H0⟩
  case round =>
    clear H0 HMU
    obtain ⟨tv, seen, todo, rfl, HG, HI⟩ := hrel
    obtain ⟨G, rfl⟩ : ∃ G, G = gk := ⟨_, rfl⟩
    by_cases h0 : todo = []
    · subst h0
      obtain ⟨At, ct, rfl⟩ := HI.out.own.rd.len
      have e0 : (uw []).length = 0 := rfl
      rw [e0] at HI ⊢
      clear e0
      go_wp2
      have HSL : Hid (seen.length = ws.length) := Lib.hid HI.out.sl
      have HBK := Lib.hid (HI.out.back (some seen) .nil)
      have HSO := Lib.hid HI.out.so
      have HFW := Lib.hid HI.out.fr
      have HNS := Lib.hid HI.out.ins
      clear HI
      obtain ⟨W0, hW0⟩ : ∃ W0, W0 = wr := ⟨_, rfl⟩
      subst hW0
      go_loopg [15, 83] ws.length (fun g a15 a83 wr => ∃ (lv : Value) (i : Nat), lv = a15 ∧ a83 = .int .i64 i ∧ g + i = ws.length ∧ Hid (Fr w wr (fun _ => False) ∧ Own wr 4 (.slice (some ⟨gs, 0, none⟩) ws.length ws.length) (bw seen) ∧ Own wr 3 lv (iw (upTo seen i)) ∧ ∀ k, InBlk lv k → w.heap.size ≤ k))
      case atStart => exact ⟨_, 0, rfl, rfl, rfl, Lib.hid ⟨HFW.out, HSO.out, Own.nil _ _, fun k hk => by simp [InBlk, Value.ownBlock] at hk⟩⟩
      case round =>
        obtain ⟨lv, i, rfl, rfl, hgi, HI⟩ := hrel
        have HGI := Lib.hid hgi
        clear hgi
        by_cases hi : i < ws.length
        · have HIL := Lib.hid hi
          have qi : (i : Int) < ws.length := by omega
          obtain ⟨b, hb⟩ : ∃ b, seen.getD i false = b := ⟨_, rfl⟩
          have HB := Lib.hid hb
          have cb : wr.cell? ⟨gs, i, none⟩ = some (.bool b) := by
            obtain ⟨b2, e, _, hc⟩ := HI.out.2.1.cellAt (by rw [bw_length, HSL.out]; omega)
            injection e with e
            injection e with e
            subst e
            have h1 := (hc i (by rw [bw_length, HSL.out]; exact hi)).1
            rw [bw_get (by rw [HSL.out]; exact hi), hb] at h1
            exact h1
          clear hi hb
          cases b with
          | true =>
            obtain ⟨v', w1, hrun, ho, hf, hn⟩ := ints_push (i : Int) HI.out.2.2.1 (by have := upTo_len seen i; have := HIL.out; have := HL.out; omega)
            have HRUN := Lib.hid hrun
            have HF := Lib.hid hf
            have HO := Lib.hid ho
            have HN := Lib.hid hn
            clear hrun ho hf hn
            go_wp2_with (at_builtin; refine Lib.wpList_append_run _ rfl _ _ _ _ rfl _ _ rfl rfl _ w1 HRUN.out ?_)
            go_roundg (gk - 1)
            case measure => have := HGI.out; have := HIL.out; omega
            case rel =>
              have e1 : upTo seen (i + 1) = upTo seen i ++ [(i : Int)] := by rw [upTo_succ, if_pos HB.out]
              refine ⟨_, i + 1, rfl, by first | rfl | go_num, by have := HGI.out; have := HIL.out; omega, Lib.hid ⟨HI.out.1.then_ HF.out (fun k hk hlt => by have := HI.out.2.2.2 k hk; omega), HI.out.2.1.keep HF.out (fun k hk e => HI.out.2.1.apart HI.out.2.2.1 (by decide) k hk e), by rw [e1]; exact HO.out, fun k hk => ?_⟩⟩
              rcases HN.out k hk with h1 | h1
              · exact HI.out.2.2.2 k h1
              · exact Nat.le_trans HI.out.1.size h1
          | false =>
            go_wp2
            go_roundg (gk - 1)
            case measure => have := HGI.out; have := HIL.out; omega
            case rel =>
              have e1 : upTo seen (i + 1) = upTo seen i := by rw [upTo_succ, if_neg (by rw [HB.out]; decide)]
              exact ⟨_, i + 1, rfl, by first | rfl | go_num, by have := HGI.out; have := HIL.out; omega, Lib.hid ⟨HI.out.1, HI.out.2.1, by rw [e1]; exact HI.out.2.2.1, HI.out.2.2.2⟩⟩
        · have hie : i = ws.length := by have := HGI.out; omega
          have b3 : decide (i < ws.length) = false := decide_eq_false hi
          have HO : Hid (Own wr 3 lv (iw (seenList seen))) := Lib.hid (by have := HI.out.2.2.1; rw [hie, ← HSL.out] at this; exact this)
          clear hi hie
          go_wp2
          go_ret2
          exact ⟨some seen, _, HBK.out, rfl, HO.out, HI.out.1, HI.out.2.2.2⟩
    · obtain ⟨rest, x, rfl⟩ : ∃ rest x, todo = rest ++ [x] := ⟨todo.dropLast, todo.getLast h0, (List.dropLast_concat_getLast h0).symm⟩
      obtain ⟨n, hn⟩ : ∃ n, rest.length = n := ⟨_, rfl⟩
      have HN := Lib.hid hn
      have hlt : (rest ++ [x]).length = n + 1 := by simp [hn]
      obtain ⟨At, ct, rfl⟩ := HI.out.own.rd.len
      rw [uw_length, hlt] at HI ⊢
      obtain ⟨gt, rfl, _, hct⟩ := HI.out.own.cellAt (by rw [uw_length]; omega)
      have cx := (hct n (by rw [uw_length]; omega)).1
      rw [uw_get (by omega)] at cx
      have hxg : (rest ++ [x]).getD n 0 = x := by rw [← hn]; simp [List.getD]
      rw [hxg] at cx
      have HX : Hid (okW x) := Lib.hid (HI.out.okt x (by simp))
      have hcap : n + 1 ≤ ct := by
        rcases HI.out.own.form with ⟨e, _⟩ | ⟨g', cap', e, hl, _⟩
        · cases e
        · injection e with e1 e2 e3; rw [uw_length] at hl; omega
      have qn : (n : Int) ≤ 16004000 := by have := HG.out; have := HM.out; unfold mu at *; omega
      have qc : (n : Int) < ct := by omega
      have hmn : ((n + 1 : Nat) : Int) - 1 = n := by omega
      clear h0 hn hlt hct hxg hcap
      go_upto_region 8 with (fail)
      obtain ⟨t, ht⟩ : ∃ t, tagW x = t := ⟨_, rfl⟩
      have HT := Lib.hid ht
      clear ht cx hmn qc
      by_cases h5 : t = 5
      · subst h5
        obtain ⟨nv, hnv⟩ : ∃ n, valW x = n := ⟨_, rfl⟩
        have HV := Lib.hid hnv
        cases hob : objAt ws nv with
        | none =>
          have HOB := Lib.hid hob
          have HLW := Lib.hid (HI.out.lw)
          have HBK := Lib.hid (HI.out.back none (.bad HT.out (by rw [hnv]; exact hob)))
          clear hnv hob HI
          go_wp2_with (first | (go_at_call 60; (with_reducible refine (Wd.tag_c x 5 _ HX.out HT.out).mono ?_); rintro e wt ⟨rfl, nt, rfl⟩) | (go_at_call 61; (with_reducible refine (Wd.val_c x nv _ HX.out HV.out).mono ?_); rintro e wv ⟨rfl, n3, rfl⟩; have HL3 := Lib.hid (HLW.out.frm ((Fr.refl _ _).drewN (nt + n3)))) | (go_at_call 39; (with_reducible refine (obj_none p v ws size nv _ HL3.out.ar HOB.out).mono ?_); rintro e wo ⟨rfl, hfo⟩; have HL4 := Lib.hid (HL3.out.frm hfo); clear hfo))
          go_ret2
          exact ⟨none, _, HBK.out, rfl, Own.nil _ _, HL4.out.fr.alloc _, fun k hk => by simp [InBlk, Value.ownBlock] at hk⟩
        | some hd =>
          have HOB := Lib.hid hob
          obtain ⟨hb0, hb1, hrd, hz0, hz1, hz2⟩ := obj_facts hob
          obtain ⟨k, rfl⟩ := Int.eq_ofNat_of_zero_le hb0
          obtain ⟨kd, z, th, nn⟩ := hd
          simp only at hz0 hz1 hz2
          have HZ : Hid (0 ≤ z ∧ z < 1048576 ∧ (k : Int) + 1 + z ≤ ws.length) := Lib.hid ⟨hz0, hz1, hz2⟩
          have qk : (k : Int) < ws.length := hb1
          have HK : Hid (k < ws.length) := Lib.hid (by omega)
          have HKS : Hid (k < seen.length) := Lib.hid (by rw [HI.out.sl]; omega)
          obtain ⟨f, hfd⟩ : ∃ f, fieldsH ⟨kd, z, th, nn⟩ = f := ⟨_, rfl⟩
          have HFD := Lib.hid hfd
          obtain ⟨bs, hbs⟩ : ∃ bs, seen.getD k false = bs := ⟨_, rfl⟩
          have HBS := Lib.hid hbs
          clear hnv hob hb0 hb1 hrd hz0 hz1 hz2 hfd hbs
          go_upto_region 11 with (first | (go_at_call 60; (with_reducible refine (Wd.tag_c x 5 _ HX.out HT.out).mono ?_); rintro e wt ⟨rfl, nt, rfl⟩) | (go_at_call 61; (with_reducible refine (Wd.val_c x (k : Int) _ HX.out HV.out).mono ?_); rintro e wv ⟨rfl, n3, rfl⟩; have HL3 := Lib.hid (HI.out.frm ((Fr.refl _ _).drewN (nt + n3)))) | (go_at_call 39; (with_reducible refine (obj_some p v ws size k _ _ HL3.out.ar HOB.out).mono ?_); rintro e wo ⟨rfl, hfo⟩))
          obtain ⟨W2, hW2⟩ : ∃ W2, wo.alloc (.cells #[.int .i64 kd, .int .i64 z, .int .i64 th, .bool nn] 88) = W2 := ⟨_, rfl⟩
          obtain ⟨D, hD⟩ : ∃ D, wo.heap.size = D := ⟨_, rfl⟩
          have hf2 : Fr (wr.drewN (nt + n3)) W2 (fun _ => False) := by rw [← hW2]; exact hfo.alloc _
          have hdb : W2.heap[D]? = some (.cells #[.int .i64 kd, .int .i64 z, .int .i64 th, .bool nn] 88 (0, 0)) := by rw [← hW2, ← hD]; exact blk_new _ _ _
          have HL4 := Lib.hid (HL3.out.frm hf2)
          have HDB := Lib.hid hdb
          simp only [hW2, hD]
          obtain ⟨cb, fb⟩ : W2.cell? ⟨gs, k, none⟩ = some (.bool bs) ∧ W2.frozen? ⟨gs, k, none⟩ = false := by
            obtain ⟨b, e, _, hc⟩ := HL4.out.so.cellAt (by rw [bw_length]; have := HKS.out; omega)
            injection e with e
            injection e with e
            subst e
            have h1 := hc k (by rw [bw_length]; exact HKS.out)
            rw [bw_get HKS.out, HBS.out] at h1
            exact h1
          have HBK := Lib.hid HI.out.back
          clear hW2 hD hfo hf2 hdb HI HL3
          cases bs with
          | true =>
            have HLP := Lib.hid (HL4.out.pop HN.out (fun r hr => .old HT.out (by rw [HV.out]; exact HOB.out) (by rw [HV.out]; exact HBS.out) hr))
            go_wp2
            go_roundg (G - 1)
            case measure => have := HG.out; unfold mu at this; simp at this; omega
            case rel => exact ⟨_, seen, rest, rfl, Lib.hid ⟨by have := HG.out; unfold mu at this ⊢; simp at this; omega, by have := HG.out; omega⟩, HLP⟩
          | false =>
            go_upto_region 15 with (fail)
            have hlw := HL4.out.lw
            have hpop : LW w W2 p v ws size (.slice (some ⟨gs, 0, none⟩) ws.length ws.length) (.slice (some ⟨gt, 0, none⟩) n ct) seen rest := ⟨hlw.ar, hlw.fr, hlw.so, Own.pop (x := .int .u64 x) (by have := hlw.own; rw [uw_append] at this; exact this) (by rw [uw_length]; exact HN.out), hlw.ins, fun k hk => hlw.int k (by simpa [InBlk, Value.ownBlock] using hk), hlw.vlt, hlw.plt, fun y hy => hlw.okt y (by simp [hy]), hlw.sl⟩
            have HL5 := Lib.hid (hpop.see hlw.sl HKS.out)
            have hD5 := (Fr.setCell (S := fun i => i = gs) (a := ⟨gs, k, none⟩) (Fr.refl W2 _) (fun _ => rfl) (.bool true)).blk HDB.out (fun e => hlw.so.not_box HDB.out (by decide) (by rw [e]; simp [InBlk, Value.ownBlock]))
            obtain ⟨W3, hW3⟩ : ∃ W3, W2.setCell ⟨gs, k, none⟩ (.bool true) = W3 := ⟨_, rfl⟩
            rw [hW3] at HL5 hD5 ⊢
            have HD5 := Lib.hid hD5
            have d0 : W3.cell? ⟨D, 0, none⟩ = some (.int .i64 kd) := by simp [World.cell?, hD5]
            have d1 : W3.cell? ⟨D, 1, none⟩ = some (.int .i64 z) := by simp [World.cell?, hD5]
            have d2 : W3.cell? ⟨D, 2, none⟩ = some (.int .i64 th) := by simp [World.cell?, hD5]
            have d3 : W3.cell? ⟨D, 3, none⟩ = some (.bool nn) := by simp [World.cell?, hD5]
            clear hlw hpop hW3 hD5 cb fb HL4
            by_cases hfz : f < z
            · obtain ⟨fm, rfl⟩ := Int.eq_ofNat_of_zero_le (show 0 ≤ f by rw [← HFD.out]; exact fieldsH_nonneg HZ.out.1)
              have HFM : Hid ((k : Int) + 1 + fm ≤ ws.length) := Lib.hid (by have := HZ.out; omega)
              have HNF : Hid (nFields ⟨kd, z, th, nn⟩ = fm) := Lib.hid (by unfold nFields; rw [HFD.out]; simp only; omega)
              go_region_held3 (fun w' => w'.cell? ⟨D, 0, none⟩ = some (.int .i64 kd) ∧ w'.cell? ⟨D, 1, none⟩ = some (.int .i64 z) ∧ w'.cell? ⟨D, 2, none⟩ = some (.int .i64 th) ∧ w'.cell? ⟨D, 3, none⟩ = some (.bool nn))
                (first | exact ⟨g0, g1, g2, g3⟩ | exact ⟨d0, d1, d2, d3⟩)
                (first
                  | (go_at_call 42; (with_reducible refine (Wd.fields_c kd z th nn (fm : Int) _ HFD.out).mono ?_); rintro e wa ⟨rfl, hb⟩; have hfb := (Fr.of_below hb (fun _ => False)); have g0 := hfb.cell (a := ⟨D, 0, none⟩) d0 (fun h => h); have g1 := hfb.cell (a := ⟨D, 1, none⟩) d1 (fun h => h); have g2 := hfb.cell (a := ⟨D, 2, none⟩) d2 (fun h => h); have g3 := hfb.cell (a := ⟨D, 3, none⟩) d3 (fun h => h); have HL6 := Lib.hid ((HL5.out.frm ((Fr.refl W3 (fun _ => False)).drew)).frm hfb); clear hb hfb))
              clear g0 g1 g2 g3 d0 d1 d2 d3
              go_wp2
              go_loopg [7, 64] fm (fun g a7 a64 wr => ∃ (tv : Value) (i : Nat), tv = a7 ∧ a64 = .int .i64 i ∧ g + i = fm ∧ Hid (LW w wr p v ws size (.slice (some ⟨gs, 0, none⟩) ws.length ws.length) tv (seen.set k true) (rest ++ fieldsAt ws k i)))
              case atStart => exact ⟨_, 0, rfl, rfl, rfl, Lib.hid (by have := HL6.out; simpa [fieldsAt] using this)⟩
              case round =>
                clear HL6
                obtain ⟨tv, i, rfl, rfl, hgi, HI⟩ := hrel
                have HGI := Lib.hid hgi
                clear hgi
                by_cases hi : i < fm
                · have HIL := Lib.hid hi
                  have qi : (i : Int) < fm := by omega
                  have qf : (fm : Int) ≤ 4000 := by have := HFM.out; have := HL.out; omega
                  obtain ⟨y, hy⟩ : ∃ y, rdAt ws ((k : Int) + 1 + i) = some y := by
                    have := HFM.out
                    unfold rdAt
                    rw [if_pos (by omega)]
                    exact ⟨_, rfl⟩
                  have HY := Lib.hid hy
                  have hoy : okW y := by obtain ⟨j, _, hj, rfl⟩ := rdAt_some hy; exact okWs_getD HI.out.ar.ok j hj
                  obtain ⟨v', w1, hrun, hLp, _⟩ := HI.out.push y hoy (by rw [List.length_append, HN.out]; have := HFM.out; have := HL.out; have : (fieldsAt ws k i).length = i := by simp [fieldsAt]
                                                                         omega)
                  have HRUN := Lib.hid hrun
                  have HLp := Lib.hid hLp
                  clear hi hy hoy hrun hLp
                  go_wp2_with (first
                    | (go_at_call 43; (with_reducible refine (get_c p v ws size _ y _ HI.out.ar HY.out).mono ?_); rintro e w5 ⟨rfl, rfl⟩)
                    | (at_builtin; refine Lib.wpList_append_run _ rfl _ _ _ _ rfl _ _ rfl rfl _ w1 HRUN.out ?_))
                  go_roundg (gk - 1)
                  case measure => have := HGI.out; have := HIL.out; omega
                  case rel =>
                    refine ⟨_, i + 1, rfl, by first | rfl | go_num, by have := HGI.out; have := HIL.out; omega, Lib.hid ?_⟩
                    have e1 : rest ++ fieldsAt ws k (i + 1) = (rest ++ fieldsAt ws k i) ++ [y] := by
                      rw [fieldsAt_succ, ← List.append_assoc]
                      congr 2
                      unfold rd0
                      rw [HY.out]; rfl
                    rw [e1]
                    exact HLp.out
                · have HIE : Hid (i = fm) := Lib.hid (by have := HGI.out; omega)
                  have b7 : decide (i < fm) = false := decide_eq_false hi
                  clear hi
                  go_wp2
                  go_roundg (G - 1)
                  case measure =>
                    have := HG.out
                    have h2 : mu ws seen (rest ++ [x]) = mu ws seen (rest ++ [x]) := rfl
                    unfold mu at this; simp at this; omega
                  case rel =>
                    refine ⟨_, seen.set k true, rest ++ fieldsAt ws k fm, rfl, Lib.hid ⟨?_, by have := HG.out; omega⟩, Lib.hid ?_⟩
                    · have h1 := mu_new (ws := ws) (rest := rest) (x := k) (n := fm) HKS.out HBS.out (by have := HFM.out; omega)
                      have h2 := HG.out
                      have h3 : mu ws seen (rest ++ [(k : Int)]) = mu ws seen (rest ++ [x]) := by unfold mu; simp
                      omega
                    · have h1 := HI.out
                      rw [HIE.out] at h1
                      refine h1.lv (fun r hr => HBK.out r (.new HT.out (by rw [HV.out]; exact HOB.out) (by rw [HV.out]; exact HBS.out) ?_))
                      rw [HV.out, HNF.out]
                      exact hr
            · by_cases hzf : z < f
              · obtain ⟨fm, rfl⟩ := Int.eq_ofNat_of_zero_le (show 0 ≤ z from HZ.out.1)
                have HFM : Hid ((k : Int) + 1 + fm ≤ ws.length) := Lib.hid (by have := HZ.out; omega)
                have HNF : Hid (nFields ⟨kd, fm, th, nn⟩ = fm) := Lib.hid (by unfold nFields; rw [HFD.out]; simp only; omega)
                go_region_held3 (fun w' => w'.cell? ⟨D, 0, none⟩ = some (.int .i64 kd) ∧ w'.cell? ⟨D, 1, none⟩ = some (.int .i64 (fm : Int)) ∧ w'.cell? ⟨D, 2, none⟩ = some (.int .i64 th) ∧ w'.cell? ⟨D, 3, none⟩ = some (.bool nn))
                  (first | exact ⟨g0, g1, g2, g3⟩ | exact ⟨d0, d1, d2, d3⟩)
                  (first
                    | (go_at_call 42; (with_reducible refine (Wd.fields_c kd (fm : Int) th nn f _ HFD.out).mono ?_); rintro e wa ⟨rfl, hb⟩; have hfb := (Fr.of_below hb (fun _ => False)); have g0 := hfb.cell (a := ⟨D, 0, none⟩) d0 (fun h => h); have g1 := hfb.cell (a := ⟨D, 1, none⟩) d1 (fun h => h); have g2 := hfb.cell (a := ⟨D, 2, none⟩) d2 (fun h => h); have g3 := hfb.cell (a := ⟨D, 3, none⟩) d3 (fun h => h); have HL6 := Lib.hid ((HL5.out.frm ((Fr.refl W3 (fun _ => False)).drew)).frm hfb); clear hb hfb))
                clear g0 g1 g2 g3 d0 d1 d2 d3
                go_wp2
                go_loopg [7, 64] fm (fun g a7 a64 wr => ∃ (tv : Value) (i : Nat), tv = a7 ∧ a64 = .int .i64 i ∧ g + i = fm ∧ Hid (LW w wr p v ws size (.slice (some ⟨gs, 0, none⟩) ws.length ws.length) tv (seen.set k true) (rest ++ fieldsAt ws k i)))
                case atStart => exact ⟨_, 0, rfl, rfl, rfl, Lib.hid (by have := HL6.out; simpa [fieldsAt] using this)⟩
                case round =>
                  clear HL6
                  obtain ⟨tv, i, rfl, rfl, hgi, HI⟩ := hrel
                  have HGI := Lib.hid hgi
                  clear hgi
                  by_cases hi : i < fm
                  · have HIL := Lib.hid hi
                    have qi : (i : Int) < fm := by omega
                    have qf : (fm : Int) ≤ 4000 := by have := HFM.out; have := HL.out; omega
                    obtain ⟨y, hy⟩ : ∃ y, rdAt ws ((k : Int) + 1 + i) = some y := by
                      have := HFM.out
                      unfold rdAt
                      rw [if_pos (by omega)]
                      exact ⟨_, rfl⟩
                    have HY := Lib.hid hy
                    have hoy : okW y := by obtain ⟨j, _, hj, rfl⟩ := rdAt_some hy; exact okWs_getD HI.out.ar.ok j hj
                    obtain ⟨v', w1, hrun, hLp, _⟩ := HI.out.push y hoy (by rw [List.length_append, HN.out]; have := HFM.out; have := HL.out; have : (fieldsAt ws k i).length = i := by simp [fieldsAt]
                                                                           omega)
                    have HRUN := Lib.hid hrun
                    have HLp := Lib.hid hLp
                    clear hi hy hoy hrun hLp
                    go_wp2_with (first
                      | (go_at_call 43; (with_reducible refine (get_c p v ws size _ y _ HI.out.ar HY.out).mono ?_); rintro e w5 ⟨rfl, rfl⟩)
                      | (at_builtin; refine Lib.wpList_append_run _ rfl _ _ _ _ rfl _ _ rfl rfl _ w1 HRUN.out ?_))
                    go_roundg (gk - 1)
                    case measure => have := HGI.out; have := HIL.out; omega
                    case rel =>
                      refine ⟨_, i + 1, rfl, by first | rfl | go_num, by have := HGI.out; have := HIL.out; omega, Lib.hid ?_⟩
                      have e1 : rest ++ fieldsAt ws k (i + 1) = (rest ++ fieldsAt ws k i) ++ [y] := by
                        rw [fieldsAt_succ, ← List.append_assoc]
                        congr 2
                        unfold rd0
                        rw [HY.out]; rfl
                      rw [e1]
                      exact HLp.out
                  · have HIE : Hid (i = fm) := Lib.hid (by have := HGI.out; omega)
                    have b7 : decide (i < fm) = false := decide_eq_false hi
                    clear hi
                    go_wp2
                    go_roundg (G - 1)
                    case measure =>
                      have := HG.out
                      have h2 : mu ws seen (rest ++ [x]) = mu ws seen (rest ++ [x]) := rfl
                      unfold mu at this; simp at this; omega
                    case rel =>
                      refine ⟨_, seen.set k true, rest ++ fieldsAt ws k fm, rfl, Lib.hid ⟨?_, by have := HG.out; omega⟩, Lib.hid ?_⟩
                      · have h1 := mu_new (ws := ws) (rest := rest) (x := k) (n := fm) HKS.out HBS.out (by have := HFM.out; omega)
                        have h2 := HG.out
                        have h3 : mu ws seen (rest ++ [(k : Int)]) = mu ws seen (rest ++ [x]) := by unfold mu; simp
                        omega
                      · have h1 := HI.out
                        rw [HIE.out] at h1
                        refine h1.lv (fun r hr => HBK.out r (.new HT.out (by rw [HV.out]; exact HOB.out) (by rw [HV.out]; exact HBS.out) ?_))
                        rw [HV.out, HNF.out]
                        exact hr
              · obtain rfl : z = f := by omega
                obtain ⟨fm, rfl⟩ := Int.eq_ofNat_of_zero_le (show 0 ≤ z from HZ.out.1)
                have HFM : Hid ((k : Int) + 1 + fm ≤ ws.length) := Lib.hid (by have := HZ.out; omega)
                have HNF : Hid (nFields ⟨kd, fm, th, nn⟩ = fm) := Lib.hid (by unfold nFields; rw [HFD.out]; simp only; omega)
                go_region_held3 (fun w' => w'.cell? ⟨D, 0, none⟩ = some (.int .i64 kd) ∧ w'.cell? ⟨D, 1, none⟩ = some (.int .i64 (fm : Int)) ∧ w'.cell? ⟨D, 2, none⟩ = some (.int .i64 th) ∧ w'.cell? ⟨D, 3, none⟩ = some (.bool nn))
                  (first | exact ⟨g0, g1, g2, g3⟩ | exact ⟨d0, d1, d2, d3⟩)
                  (first
                    | (go_at_call 42; (with_reducible refine (Wd.fields_c kd (fm : Int) th nn (fm : Int) _ HFD.out).mono ?_); rintro e wa ⟨rfl, hb⟩; have hfb := (Fr.of_below hb (fun _ => False)); have g0 := hfb.cell (a := ⟨D, 0, none⟩) d0 (fun h => h); have g1 := hfb.cell (a := ⟨D, 1, none⟩) d1 (fun h => h); have g2 := hfb.cell (a := ⟨D, 2, none⟩) d2 (fun h => h); have g3 := hfb.cell (a := ⟨D, 3, none⟩) d3 (fun h => h); have HL6 := Lib.hid ((HL5.out.frm ((Fr.refl W3 (fun _ => False)).drew)).frm hfb); clear hb hfb))
                clear g0 g1 g2 g3 d0 d1 d2 d3
                go_wp2
                go_loopg [7, 64] fm (fun g a7 a64 wr => ∃ (tv : Value) (i : Nat), tv = a7 ∧ a64 = .int .i64 i ∧ g + i = fm ∧ Hid (LW w wr p v ws size (.slice (some ⟨gs, 0, none⟩) ws.length ws.length) tv (seen.set k true) (rest ++ fieldsAt ws k i)))
                case atStart => exact ⟨_, 0, rfl, rfl, rfl, Lib.hid (by have := HL6.out; simpa [fieldsAt] using this)⟩
                case round =>
                  clear HL6
                  obtain ⟨tv, i, rfl, rfl, hgi, HI⟩ := hrel
                  have HGI := Lib.hid hgi
                  clear hgi
                  by_cases hi : i < fm
                  · have HIL := Lib.hid hi
                    have qi : (i : Int) < fm := by omega
                    have qf : (fm : Int) ≤ 4000 := by have := HFM.out; have := HL.out; omega
                    obtain ⟨y, hy⟩ : ∃ y, rdAt ws ((k : Int) + 1 + i) = some y := by
                      have := HFM.out
                      unfold rdAt
                      rw [if_pos (by omega)]
                      exact ⟨_, rfl⟩
                    have HY := Lib.hid hy
                    have hoy : okW y := by obtain ⟨j, _, hj, rfl⟩ := rdAt_some hy; exact okWs_getD HI.out.ar.ok j hj
                    obtain ⟨v', w1, hrun, hLp, _⟩ := HI.out.push y hoy (by rw [List.length_append, HN.out]; have := HFM.out; have := HL.out; have : (fieldsAt ws k i).length = i := by simp [fieldsAt]
                                                                           omega)
                    have HRUN := Lib.hid hrun
                    have HLp := Lib.hid hLp
                    clear hi hy hoy hrun hLp
                    go_wp2_with (first
                      | (go_at_call 43; (with_reducible refine (get_c p v ws size _ y _ HI.out.ar HY.out).mono ?_); rintro e w5 ⟨rfl, rfl⟩)
                      | (at_builtin; refine Lib.wpList_append_run _ rfl _ _ _ _ rfl _ _ rfl rfl _ w1 HRUN.out ?_))
                    go_roundg (gk - 1)
                    case measure => have := HGI.out; have := HIL.out; omega
                    case rel =>
                      refine ⟨_, i + 1, rfl, by first | rfl | go_num, by have := HGI.out; have := HIL.out; omega, Lib.hid ?_⟩
                      have e1 : rest ++ fieldsAt ws k (i + 1) = (rest ++ fieldsAt ws k i) ++ [y] := by
                        rw [fieldsAt_succ, ← List.append_assoc]
                        congr 2
                        unfold rd0
                        rw [HY.out]; rfl
                      rw [e1]
                      exact HLp.out
                  · have HIE : Hid (i = fm) := Lib.hid (by have := HGI.out; omega)
                    have b7 : decide (i < fm) = false := decide_eq_false hi
                    clear hi
                    go_wp2
                    go_roundg (G - 1)
                    case measure =>
                      have := HG.out
                      have h2 : mu ws seen (rest ++ [x]) = mu ws seen (rest ++ [x]) := rfl
                      unfold mu at this; simp at this; omega
                    case rel =>
                      refine ⟨_, seen.set k true, rest ++ fieldsAt ws k fm, rfl, Lib.hid ⟨?_, by have := HG.out; omega⟩, Lib.hid ?_⟩
                      · have h1 := mu_new (ws := ws) (rest := rest) (x := k) (n := fm) HKS.out HBS.out (by have := HFM.out; omega)
                        have h2 := HG.out
                        have h3 : mu ws seen (rest ++ [(k : Int)]) = mu ws seen (rest ++ [x]) := by unfold mu; simp
                        omega
                      · have h1 := HI.out
                        rw [HIE.out] at h1
                        refine h1.lv (fun r hr => HBK.out r (.new HT.out (by rw [HV.out]; exact HOB.out) (by rw [HV.out]; exact HBS.out) ?_))
                        rw [HV.out, HNF.out]
                        exact hr
      · have b5 : (t == 5) = false := by simpa using h5
        have b5n : (t != 5) = true := by simpa using h5
        have HLP := Lib.hid (HI.out.pop HN.out (fun r hr => .other (by rw [HT.out]; exact h5) hr))
        clear HI
        go_wp2_with (first | (go_at_call 60; (with_reducible refine (Wd.tag_c x t _ HX.out HT.out).mono ?_); rintro e wt ⟨rfl, nt, rfl⟩))
        go_roundg (G - 1)
        case measure => have := HG.out; unfold mu at this; simp at this; omega
        case rel => exact ⟨_, seen, rest, rfl, Lib.hid ⟨by have := HG.out; unfold mu at this ⊢; simp at this; omega, by have := HG.out; omega⟩, Lib.hid (HLP.out.frm ((Fr.refl _ _).drewN nt))⟩
end Go.Proofs.YtjiaaefpepdoeaaDoor
namespace Go.Proofs.YtjiaaefpepdoeaaDoor
open Go.RowKit Md
set_option linter.unusedVariables false
set_option maxRecDepth 100000 in
set_option maxHeartbeats 4000000 in
theorem msound_c (x : Int) (sv : Value) (isl : List Bool) (w : World) (h : Own w 4 sv (bw isl)) (hx : okW x) :
  Calls Tryd.prog 41 #[.int .u64 x, sv] w fun e w' => e = .returned (.bool (soundW x isl)) ∧ Drawn w w' := by
 obtain ⟨t, ht⟩ : ∃ t, tagW x = t := ⟨_, rfl⟩
 obtain ⟨n, hn⟩ : ∃ n, valW x = n := ⟨_, rfl⟩
 have HX := Lib.hid hx
 have HT := Lib.hid ht
 have HN := Lib.hid hn
 obtain ⟨A, cb, rfl⟩ := h.rd.len
 have H := Lib.hid h
 rw [bw_length] at *
 have hsw : soundW x isl = if t = 6 ∨ t = 7 then false else if t = 5 then (decide (0 ≤ n) && decide (n < isl.length) && isl.getD n.toNat false) else true := by unfold soundW; rw [ht, hn]
 rw [hsw]
 clear hx ht hn hsw h
 by_cases h6 : t = 6
 ·subst h6
  rw [if_pos (.inl rfl)]
  go_enter Tryd.func41, Tryd.ntmps41
  go_wp2_with (first | (go_at_call 60; (with_reducible refine (Wd.tag_c x 6 _ HX.out HT.out).mono ?_); rintro e wt ⟨rfl, nt, rfl⟩))
  go_ret
  exact ⟨rfl, nt, rfl⟩
 ·have b6 : (t == 6) = false := by simpa using h6
  by_cases h7 : t = 7
  ·subst h7
   rw [if_pos (.inr rfl)]
   clear b6 h6
   go_enter Tryd.func41, Tryd.ntmps41
   go_wp2_with (first | (go_at_call 60; (with_reducible refine (Wd.tag_c x 7 _ HX.out HT.out).mono ?_); rintro e wt ⟨rfl, nt, rfl⟩))
   go_ret
   exact ⟨rfl, nt, rfl⟩
  ·have b7 : (t == 7) = false := by simpa using h7
   rw [if_neg (by omega)]
   by_cases h5 : t = 5
   ·subst h5
    rw [if_pos rfl]
    clear b6 h6 b7 h7
    by_cases hn0 : n < 0
    ·have b1 : decide (0 ≤ n) = false := decide_eq_false (by omega)
     rw [b1]
     clear hn0
     go_enter Tryd.func41, Tryd.ntmps41
     go_wp2_with (first | (go_at_call 60; (with_reducible refine (Wd.tag_c x 5 _ HX.out HT.out).mono ?_); rintro e wt ⟨rfl, nt, rfl⟩) | (go_at_call 61; (with_reducible refine (Wd.val_c x n _ HX.out HN.out).mono ?_); rintro e wv ⟨rfl, nv, rfl⟩))
     go_ret
     exact ⟨rfl, _, rfl⟩
    ·obtain ⟨m, rfl⟩ := Int.eq_ofNat_of_zero_le (show 0 ≤ n by omega)
     have b1 : decide ((0 : Int) ≤ m) = true := decide_eq_true (by omega)
     rw [b1]
     by_cases hm : m < isl.length
     ·have b2 : decide ((m : Int) < isl.length) = true := decide_eq_true (by omega)
      have b3 : decide (m < isl.length) = true := decide_eq_true hm
      have qm : (m : Int) < isl.length := by omega
      rw [b2]
      obtain ⟨gb, rfl, hc⟩ : ∃ gb, A = some ⟨gb, 0, none⟩ ∧ ∀ W : World, Fr w W (fun _ => False) → W.cell? ⟨gb, m, none⟩ = some (.bool (isl.getD m false)) := by
       rcases H.out.form with ⟨e, h0⟩ | ⟨g', cap', e, hl, hm2, hg, hcb, hfb⟩
       ·injection e with e1 e2 e3; omega
       ·injection e with e1 e2 e3
        refine ⟨g', e1, fun W hf => hf.cell ?_ (fun h => h)⟩
        have := hcb m (by rw [bw_length]; exact hm)
        rw [bw_get hm] at this
        exact this
      have HC := Lib.hid hc
      have e1 : (m : Int).toNat = m := rfl
      rw [e1]
      obtain ⟨bb, hbb⟩ : ∃ bb, isl.getD m false = bb := ⟨_, rfl⟩
      rw [hbb] at HC ⊢
      clear hbb hc hn0 hm e1
      go_enter Tryd.func41, Tryd.ntmps41
      go_upto_region 7 with (first | (go_at_call 60; (with_reducible refine (Wd.tag_c x 5 _ HX.out HT.out).mono ?_); rintro e wt ⟨rfl, nt, rfl⟩) | (go_at_call 61; (with_reducible refine (Wd.val_c x (m : Int) _ HX.out HN.out).mono ?_); rintro e wv ⟨rfl, nv, rfl⟩))
      have k0 := HC.out _ ((Fr.refl w _).drewN (nt + nv))
      go_wp2
      go_ret
      exact ⟨by simp, _, rfl⟩
     ·have b2 : decide ((m : Int) < isl.length) = false := decide_eq_false (by omega)
      have b3 : decide (m < isl.length) = false := decide_eq_false hm
      rw [b2]
      clear hn0 hm
      go_enter Tryd.func41, Tryd.ntmps41
      go_wp2_with (first | (go_at_call 60; (with_reducible refine (Wd.tag_c x 5 _ HX.out HT.out).mono ?_); rintro e wt ⟨rfl, nt, rfl⟩) | (go_at_call 61; (with_reducible refine (Wd.val_c x (m : Int) _ HX.out HN.out).mono ?_); rintro e wv ⟨rfl, nv, rfl⟩))
      go_ret
      exact ⟨rfl, _, rfl⟩
   ·rw [if_neg h5]
    have b5 : (t == 5) = false := by simpa using h5
    clear h5 h6 h7
    go_enter Tryd.func41, Tryd.ntmps41
    go_wp2_with (first | (go_at_call 60; (with_reducible refine (Wd.tag_c x t _ HX.out HT.out).mono ?_); rintro e wt ⟨rfl, nt, rfl⟩))
    go_ret
    exact ⟨rfl, nt, rfl⟩
end Go.Proofs.YtjiaaefpepdoeaaDoor
namespace Go.Proofs.YtjiaaefpepdoeaaDoor
open Go.RowKit Md
set_option linter.unusedVariables false
structure MS (w W : World) (p : Nat) (v r : Value) (ws rs : List Int) (size : Int) (L : List Int) (lv bv : Value) (i : Nat) : Prop where
 ar : Ar 112 W p v ws size
 fr : Fr w W fun _ => False
 lo : Own W 3 lv (iw L)
 bo : Own W 4 bv (bw (isList ws.length (L.take i)))
 rd : Rd W r (uw rs)
 inb : ∀ k, InBlk bv k → w.heap.size ≤ k
 vlt : ∀ k, InBlk v k → k < w.heap.size
 plt : p < w.heap.size
 rlt : 0 < rs.length → ∀ k, InBlk r k → k < w.heap.size
section
variable {w W W1 : World} {p : Nat} {v r : Value} {ws rs : List Int} {size : Int} {L : List Int} {lv bv : Value} {i : Nat}
theorem MS.frm (h : MS w W p v r ws rs size L lv bv i) (hf : Fr W W1 fun _ => False) : MS w W1 p v r ws rs size L lv bv i :=
 ⟨h.ar.fr hf, h.fr.trans hf, h.lo.keep hf (fun _ _ h => h), h.bo.keep hf (fun _ _ h => h), h.rd.keep hf (fun _ _ h => h), h.inb, h.vlt, h.plt, h.rlt⟩
theorem take_snoc1 {L : List Int} {i : Nat} (hi : i < L.length) {b : Int} (hb : L.getD i 0 = b) : L.take (i + 1) = L.take i ++ [b] := by
 rw [List.take_succ_eq_append_getElem hi, ← hb]
 simp [List.getD, hi]
theorem MS.bset {gb k cb : Nat} (h : MS w W p v r ws rs size L lv (.slice (some ⟨gb, 0, none⟩) ws.length cb) i) (hi : i < L.length) (hb : L.getD i 0 = k) (hk : k < ws.length) :
  MS w (W.setCell ⟨gb, k, none⟩ (.bool true)) p v r ws rs size L lv (.slice (some ⟨gb, 0, none⟩) ws.length cb) (i + 1) := by
 have hbl : (bw (isList ws.length (L.take i))).length = ws.length := by rw [bw_length, isList_len]
 have hgb := h.inb gb (by simp [InBlk, Value.ownBlock])
 have hin : InBlk (.slice (some ⟨gb, 0, none⟩) ws.length cb) gb := by simp [InBlk, Value.ownBlock]
 have hs : Own (W.setCell ⟨gb, k, none⟩ (.bool true)) 4 (.slice (some ⟨gb, 0, none⟩) ws.length cb) ((bw (isList ws.length (L.take i))).set k (.bool true)) ∧ Fr W (W.setCell ⟨gb, k, none⟩ (.bool true)) (fun i => i = gb) := by
  have := Own.setAt (cap := cb) (g := gb) (k := k) (u := .bool true) (xs := bw (isList ws.length (L.take i))) (e := 4) (W := W) (by rw [hbl]; exact h.bo) (by rw [hbl]; exact hk)
  rw [hbl] at this
  exact this
 have hf := hs.2
 have e1 : (bw (isList ws.length (L.take i))).set k (.bool true) = bw (isList ws.length (L.take (i + 1))) := by
  unfold bw
  rw [take_snoc1 hi hb, ← isList_snoc hk, List.map_set]
 rw [e1] at hs
 exact ⟨h.ar.keep hf (by have := h.plt; omega) (fun i hi e => by have := h.vlt i hi; omega), h.fr.setCell (S := fun _ => False) (a := ⟨gb, k, none⟩) (fun (hlt : gb < w.heap.size) => by omega) _, h.lo.keep hf (fun i hi e => h.lo.apart h.bo (by decide) i hi (by rw [e]; exact hin)), hs.1, h.rd.keep2 hf (fun h0 i hi e => by have := h.rlt (by rw [uw_length] at h0; exact h0) i hi; omega), h.inb, h.vlt, h.plt, h.rlt⟩
end
theorem soundB_root {ws rs L : List Int} (h : objs ws = some L) {x : Int} (hx : x ∈ rs) (hs : soundW x (isList ws.length L) = false) : soundB ws rs = false := by
 unfold soundB
 rw [h]
 simp only [Bool.and_eq_false_iff, List.all_eq_false]
 left
 exact ⟨x, hx, by rw [hs]; decide⟩
theorem soundB_at {ws rs L : List Int} (h : objs ws = some L) {a : Int} (ha : a ∈ L) (hs : soundAt ws (isList ws.length L) a = false) : soundB ws rs = false := by
 unfold soundB
 rw [h]
 simp only [Bool.and_eq_false_iff, List.all_eq_false]
 right
 exact ⟨a, ha, by rw [hs]; decide⟩
theorem soundB_yes {ws rs L : List Int} (h : objs ws = some L) (hr : ∀ x ∈ rs, soundW x (isList ws.length L) = true) (ha : ∀ a ∈ L, soundAt ws (isList ws.length L) a = true) : soundB ws rs = true := by
 unfold soundB
 rw [h]
 simp only [Bool.and_eq_true, List.all_eq_true]
 exact ⟨hr, ha⟩
set_option maxRecDepth 100000 in
set_option maxHeartbeats 4000000 in
theorem msnd_none (p : Nat) (v r : Value) (ws rs : List Int) (size : Int) (w : World) (h : Ar 112 w p v ws size) (ho : objs ws = none) :
  Calls Tryd.prog 13 #[.pointer (some ⟨p, 0, none⟩), r] w fun e w' => e = .returned (.bool (soundB ws rs)) ∧ Fr w w' (fun _ => False) := by
 rw [soundB_none ho]
 have H := Lib.hid h
 have HO : Hid ((objs ws).isSome = false) := Lib.hid (by rw [ho]; rfl)
 clear h ho
 go_enter Tryd.func13, Tryd.ntmps13
 go_wp2_with (first | (go_at_call 40; (with_reducible refine (objects_c p v ws size _ H.out).mono ?_); rintro e w1 ⟨u, rfl, hn⟩; rw [HO.out]; have HF := Lib.hid hn.2.1; clear hn))
 go_ret
 exact ⟨rfl, HF.out⟩
set_option maxRecDepth 100000 in
set_option maxHeartbeats 4000000 in
theorem msnd_some (p : Nat) (v r : Value) (ws rs L : List Int) (size : Int) (w : World) (h : Ar 112 w p v ws size) (hr : Rd w r (uw rs)) (hok : okWs rs) (hl : rs.length ≤ 1048576) (ho : objs ws = some L) :
  Calls Tryd.prog 13 #[.pointer (some ⟨p, 0, none⟩), r] w fun e w' => e = .returned (.bool (soundB ws rs)) ∧ Fr w w' (fun _ => False) := by
 have hle := h.le
 have hmx := h.mx
 have HLB : Hid (ws.length ≤ 1048576 ∧ rs.length ≤ 1048576) := Lib.hid (by omega)
 have H := Lib.hid h
 have HR := Lib.hid hr
 have HOK := Lib.hid hok
 have HO : Hid ((objs ws).isSome = true) := Lib.hid (by rw [ho]; rfl)
 have HOL : Hid ((objs ws).getD [] = L) := Lib.hid (by rw [ho]; rfl)
 have HO2 := Lib.hid ho
 have HROW := Lib.hid (rows_of_objs ho)
 obtain ⟨SB, hsb⟩ : ∃ b, soundB ws rs = b := ⟨_, rfl⟩
 rw [hsb]
 have HSB := Lib.hid hsb
 have q0 : 0 ≤ (ws.length : Int) := by omega
 have q1 : (ws.length : Int) ≤ 1048576 := by omega
 have q2 : (rs.length : Int) ≤ 1048576 := by omega
 have qL : (L.length : Int) ≤ 1048576 := by have := HROW.out.len; omega
 have HRT : Hid (0 < rs.length → ∀ k, InBlk r k → k < w.heap.size) := Lib.hid (fun h0 => hr.lt (by rw [uw_length]; exact h0))
 clear h hr hok ho hsb hle hmx hl
 go_enter Tryd.func13, Tryd.ntmps13
 go_upto_region 4 with (first
  | (go_at_call 40; (with_reducible refine (objects_c p v ws size _ H.out).mono ?_); rintro e w1 ⟨lv, rfl, hn⟩; rw [HO.out]; rw [HOL.out] at hn; have HN1 := Lib.hid hn.1; have HF1 := Lib.hid hn.2.1; have HA1 := Lib.hid (H.out.fr hn.2.1); have HR1 := Lib.hid (HR.out.keep hn.2.1 (fun _ _ h => h)); clear hn))
 obtain ⟨w3, hmk, hbo, hfm⟩ := mk_bools ws.length w1 HLB.out.1
 have H0 : Hid (MS w w3 p v r ws rs size L lv (.slice (some ⟨w1.heap.size, 0, none⟩) ws.length ws.length) 0) := Lib.hid ⟨HA1.out.fr hfm, HF1.out.trans hfm, HN1.out.keep hfm (fun _ _ h => h), by simpa [isList_nil] using hbo, HR1.out.keep hfm (fun _ _ h => h), (fun k hk => by have := HF1.out.size; simp [InBlk, Value.ownBlock] at hk; omega), H.out.own.lt, H.out.lt, HRT.out⟩
 obtain ⟨gb, hgb⟩ : ∃ gb, w1.heap.size = gb := ⟨_, rfl⟩
 rw [hgb] at hmk H0
 obtain ⟨Al, cl, rfl⟩ := HN1.out.rd.len
 obtain ⟨Ar, cr, rfl⟩ := HR1.out.len
 rw [iw_length, uw_length] at *
 clear hbo hfm hgb
 go_wp2_with (first
  | (go_at_call 21; (with_reducible refine (used_c p v ws size _ HA1.out).mono ?_); rintro e wu ⟨rfl, rfl⟩))
 clear hmk HN1 HA1 HR1
 go_loopg [31] L.length (fun g a31 wr => ∃ (i : Nat), a31 = .int .i64 i ∧ g + i = L.length ∧ Hid (MS w wr p v (.slice Ar rs.length cr) ws rs size L (.slice Al L.length cl) (.slice (some ⟨gb, 0, none⟩) ws.length ws.length) i))
 case atStart => exact ⟨0, rfl, rfl, H0⟩
 case round =>
  clear H0
  obtain ⟨i, rfl, hgi, HI⟩ := hrel
  have HGI := Lib.hid hgi
  clear hgi
  by_cases hi : i < L.length
  ·have HIL := Lib.hid hi
   have qi : (i : Int) < L.length := by omega
   obtain ⟨b, hb⟩ : ∃ b, L.getD i 0 = b := ⟨_, rfl⟩
   have hbm : b ∈ L := by rw [← hb, List.getD_eq_getElem?_getD, List.getElem?_eq_getElem hi]; exact List.getElem_mem hi
   obtain ⟨_, _, _, hb0, hb1, _⟩ := HROW.out.obj b hbm
   obtain ⟨k, rfl⟩ := Int.eq_ofNat_of_zero_le hb0
   have qk : (k : Int) < ws.length := hb1
   have hkl : k < ws.length := by omega
   obtain ⟨gl, rfl, _, hcl⟩ := HI.out.lo.cellAt (by rw [iw_length]; omega)
   have cl0 := (hcl i (by rw [iw_length]; exact hi)).1
   rw [iw_get hi, hb] at cl0
   obtain ⟨cb, fb⟩ : wr.cell? ⟨gb, k, none⟩ = some (.bool ((isList ws.length (L.take i)).getD k false)) ∧ wr.frozen? ⟨gb, k, none⟩ = false := by
    obtain ⟨b2, e, _, hc⟩ := HI.out.bo.cellAt (by rw [bw_length, isList_len]; omega)
    injection e with e
    injection e with e
    subst e
    have h1 := hc k (by rw [bw_length, isList_len]; exact hkl)
    rw [bw_get (by rw [isList_len]; exact hkl)] at h1
    exact h1
   have HI3 := Lib.hid (HI.out.bset (k := k) hi hb hkl)
   clear hi hb hbm hb0 hb1 hkl hcl HI
   go_wp2
   go_roundg (gk - 1)
   case measure => have := HGI.out; have := HIL.out; omega
   case rel => exact ⟨i + 1, by first | rfl | go_num, by have := HGI.out; have := HIL.out; omega, HI3⟩
  ·have hie : i = L.length := by have := HGI.out; omega
   have b2 : decide (i < L.length) = false := decide_eq_false hi
   have HI1 : Hid (MS w wr p v (.slice Ar rs.length cr) ws rs size L (.slice Al L.length cl) (.slice (some ⟨gb, 0, none⟩) ws.length ws.length) L.length) := Lib.hid (by have := HI.out; rw [hie] at this; exact this)
   clear hi hie HI
   obtain ⟨W0, hW0⟩ : ∃ W0, W0 = wr := ⟨_, rfl⟩
   subst hW0
   obtain ⟨isl, hisl⟩ : ∃ isl, isList ws.length L = isl := ⟨_, rfl⟩
   have HISL := Lib.hid hisl
   have HBO : Hid (Own W0 4 (.slice (some ⟨gb, 0, none⟩) ws.length ws.length) (bw isl)) := Lib.hid (by have := HI1.out.bo; rw [List.take_length, hisl] at this; exact this)
   clear hisl
   go_wp2
   go_loopg [41] rs.length (fun g a41 wr => ∃ (i : Nat), a41 = .int .i64 i ∧ g + i = rs.length ∧ Hid (Fr W0 wr (fun _ => False) ∧ ∀ j, j < i → soundW (rs.getD j 0) isl = true))
   case atStart => exact ⟨0, rfl, rfl, Lib.hid ⟨Fr.refl _ _, fun j hj => by omega⟩⟩
   case round =>
    obtain ⟨i, rfl, hgi, HI⟩ := hrel
    have HGI := Lib.hid hgi
    clear hgi
    by_cases hi : i < rs.length
    ·have HIL := Lib.hid hi
     have qi : (i : Int) < rs.length := by omega
     have hx : okW (rs.getD i 0) := okWs_getD HOK.out i hi
     obtain ⟨x, hxe⟩ : ∃ x, rs.getD i 0 = x := ⟨_, rfl⟩
     rw [hxe] at hx
     have HX := Lib.hid hx
     have HXE := Lib.hid hxe
     have HR2 := Lib.hid (HI1.out.rd.keep HI.out.1 (fun _ _ h => h))
     obtain ⟨br, oR, rfl, hcr⟩ := HR2.out.cellAt (by rw [uw_length]; omega)
     have cr0 := hcr i (by rw [uw_length]; exact hi)
     rw [uw_get hi, hxe] at cr0
     obtain ⟨bs, hbs⟩ : ∃ bs, soundW x isl = bs := ⟨_, rfl⟩
     have HBS := Lib.hid hbs
     have HNO : Hid (bs = false → SB = false) := Lib.hid (fun e => by rw [← HSB.out]; exact soundB_root HO2.out (x := x) (by rw [← hxe, List.getD_eq_getElem?_getD, List.getElem?_eq_getElem hi]; exact List.getElem_mem hi) (by rw [HISL.out, hbs, e]))
     clear hi hx hxe hcr hbs
     cases bs with
     | false =>
      have HS0 := Lib.hid (HNO.out rfl)
      go_wp2_with (first | (go_at_call 41; (with_reducible refine (msound_c x _ isl _ (HBO.out.keep HI.out.1 (fun _ _ h => h)) HX.out).mono ?_); rintro e w5 ⟨rfl, hd⟩; rw [HBS.out]; have HF5 := Lib.hid (hd.fr (fun _ => False)); clear hd))
      go_ret
      exact ⟨by rw [HS0.out]; rfl, HI1.out.fr.trans (HI.out.1.trans HF5.out)⟩
     | true =>
      go_wp2_with (first | (go_at_call 41; (with_reducible refine (msound_c x _ isl _ (HBO.out.keep HI.out.1 (fun _ _ h => h)) HX.out).mono ?_); rintro e w5 ⟨rfl, hd⟩; rw [HBS.out]; have HF5 := Lib.hid (hd.fr (fun _ => False)); clear hd))
      go_roundg (gk - 1)
      case measure => have := HGI.out; have := HIL.out; omega
      case rel => exact ⟨i + 1, by first | rfl | go_num, by have := HGI.out; have := HIL.out; omega, Lib.hid ⟨HI.out.1.trans HF5.out, fun j hj => by
       by_cases hj2 : j < i
       ·exact HI.out.2 j hj2
       ·have : j = i := by omega
        subst this
        rw [HXE.out]; exact HBS.out⟩⟩
    ·have hie : i = rs.length := by have := HGI.out; omega
     have b3 : decide (i < rs.length) = false := decide_eq_false hi
     have HRS : Hid (∀ x ∈ rs, soundW x isl = true) := Lib.hid (fun x hx => by
      obtain ⟨j, hj, rfl⟩ := List.getElem_of_mem hx
      have := HI.out.2 j (by omega)
      rw [List.getD_eq_getElem?_getD, List.getElem?_eq_getElem hj] at this
      exact this)
     have HI2 := Lib.hid (HI1.out.frm HI.out.1)
     have HBO2 := Lib.hid (HBO.out.keep HI.out.1 (fun _ _ h => h))
     clear hi hie HI HI1 HBO
     obtain ⟨W1, hW1⟩ : ∃ W1, W1 = wr := ⟨_, rfl⟩
     subst hW1
     go_wp2
     go_loopg [52] L.length (fun g a52 wr => ∃ (i : Nat), a52 = .int .i64 i ∧ g + i = L.length ∧ Hid (Fr W1 wr (fun _ => False) ∧ ∀ j, j < i → soundAt ws isl (L.getD j 0) = true))
     case atStart => exact ⟨0, rfl, rfl, Lib.hid ⟨Fr.refl _ _, fun j hj => by omega⟩⟩
     case round =>
      obtain ⟨i, rfl, hgi, HI⟩ := hrel
      obtain ⟨G, rfl⟩ : ∃ G, G = gk := ⟨_, rfl⟩
      have HGI := Lib.hid hgi
      clear hgi
      by_cases hi : i < L.length
      ·have HIL := Lib.hid hi
       have qi : (i : Int) < L.length := by omega
       obtain ⟨b, hb⟩ : ∃ b, L.getD i 0 = b := ⟨_, rfl⟩
       have hbm : b ∈ L := by rw [← hb, List.getD_eq_getElem?_getD, List.getElem?_eq_getElem hi]; exact List.getElem_mem hi
       obtain ⟨hd, hob, ho0, hb0, hb1, hrd, hz0, hz1, hz2⟩ := HROW.out.obj b hbm
       obtain ⟨k, rfl⟩ := Int.eq_ofNat_of_zero_le hb0
       obtain ⟨kd, z, t, nn⟩ := hd
       simp only at hz0 hz1 hz2
       have HOB := Lib.hid hob
       have HO0 := Lib.hid ho0
       have HMEM := Lib.hid hbm
       have HB := Lib.hid hb
       have HZ : Hid (0 ≤ z ∧ (k : Int) + 1 + z ≤ ws.length) := Lib.hid ⟨hz0, hz2⟩
       obtain ⟨f, hfd⟩ : ∃ f, fieldsH ⟨kd, z, t, nn⟩ = f := ⟨_, rfl⟩
       have HFD := Lib.hid hfd
       have HIw := Lib.hid (HI2.out.frm HI.out.1)
       obtain ⟨gl, rfl, _, hcl⟩ := HIw.out.lo.cellAt (by rw [iw_length]; omega)
       have cl0 := (hcl i (by rw [iw_length]; exact hi)).1
       rw [iw_get hi, hb] at cl0
       have qk : (k : Int) < ws.length := hb1
       clear hi hb hbm hob ho0 hb0 hb1 hrd hz0 hz1 hz2 hfd hcl
       go_upto_region 20 with (first | (go_at_call 39; (with_reducible refine (obj_some p v ws size k _ _ HIw.out.ar HOB.out).mono ?_); rintro e wo ⟨rfl, hfo⟩))
       obtain ⟨W2, hW2⟩ : ∃ W2, wo.alloc (.cells #[.int .i64 kd, .int .i64 z, .int .i64 t, .bool nn] 88) = W2 := ⟨_, rfl⟩
       obtain ⟨D, hD⟩ : ∃ D, wo.heap.size = D := ⟨_, rfl⟩
       have hf2 : Fr wr W2 (fun _ => False) := by rw [← hW2]; exact hfo.alloc _
       have hdb : W2.heap[D]? = some (.cells #[.int .i64 kd, .int .i64 z, .int .i64 t, .bool nn] 88 (0, 0)) := by rw [← hW2, ← hD]; exact blk_new _ _ _
       have HF2 := Lib.hid (HI.out.1.trans hf2)
       simp only [hW2, hD]
       have d0 : W2.cell? ⟨D, 0, none⟩ = some (.int .i64 kd) := by simp [World.cell?, hdb]
       have d1 : W2.cell? ⟨D, 1, none⟩ = some (.int .i64 z) := by simp [World.cell?, hdb]
       have d2 : W2.cell? ⟨D, 2, none⟩ = some (.int .i64 t) := by simp [World.cell?, hdb]
       have d3 : W2.cell? ⟨D, 3, none⟩ = some (.bool nn) := by simp [World.cell?, hdb]
       have HDB := Lib.hid hdb
       clear hW2 hD hfo hf2 hdb cl0 HIw
       refine wp_region_cls (S := fun w' => Fr W2 w' (fun _ => False)) (by kernel_rfl) (by kernel_rfl) ((Fr.refl W2 _).drew) (fun ne => ?_)
       generalize hS : (fun w' : World => Fr W2 w' (fun _ => False)) = S
       replace ne : Nonempty (Cw S) := by subst hS; exact ne
       have f0 : ∀ x : Cw S, x.val.cell? ⟨D, 0, none⟩ = some (.int .i64 kd) := by subst hS; exact fun x => x.prop.cell d0 (fun h => h)
       have f1 : ∀ x : Cw S, x.val.cell? ⟨D, 1, none⟩ = some (.int .i64 z) := by subst hS; exact fun x => x.prop.cell d1 (fun h => h)
       have f2 : ∀ x : Cw S, x.val.cell? ⟨D, 2, none⟩ = some (.int .i64 t) := by subst hS; exact fun x => x.prop.cell d2 (fun h => h)
       have f3 : ∀ x : Cw S, x.val.cell? ⟨D, 3, none⟩ = some (.bool nn) := by subst hS; exact fun x => x.prop.cell d3 (fun h => h)
       have HX : Hid (∀ w', S w' → Fr W2 w' (fun _ => False)) := Lib.hid (by subst hS; exact fun w' h => h)
       have HK2 : Hid (∀ w1 w2, S w1 → Below w1.heap.size w1 w2 → S w2) := Lib.hid (by subst hS; exact fun w1 w2 h hb => h.trans (Fr.of_below hb _))
       clear hS d0 d1 d2 d3
       repeat (any_goals (first | go_big_quiet_step ((go_at_call 42; exact Cw.call (Wd.fields_c kd z t nn f _ HFD.out) (fun w' h => HK2.out _ _ (Cw.prop _) h))) | quiet_step ((go_at_call 42; exact Cw.call (Wd.fields_c kd z t nn f _ HFD.out) (fun w' h => HK2.out _ _ (Cw.prop _) h)))))
       refine wpQuiet_nil ?_
       intro w9 hw9
       obtain ⟨⟨w9, hS9⟩, rfl⟩ := hw9
       have h9 := HX.out _ hS9
       have HF9 := Lib.hid (HF2.out.trans h9)
       have hdb := h9.blk HDB.out (fun h => h)
       have d0 : w9.cell? ⟨D, 0, none⟩ = some (.int .i64 kd) := by simp [World.cell?, hdb]
       have d1 : w9.cell? ⟨D, 1, none⟩ = some (.int .i64 z) := by simp [World.cell?, hdb]
       have d2 : w9.cell? ⟨D, 2, none⟩ = some (.int .i64 t) := by simp [World.cell?, hdb]
       have d3 : w9.cell? ⟨D, 3, none⟩ = some (.bool nn) := by simp [World.cell?, hdb]
       have HDB9 := Lib.hid hdb
       clear hS9 HX HK2 ne f0 f1 f2 f3 h9 hdb
       by_cases hfz : z < f
       ·have hff : decide (z < f) = true := decide_eq_true hfz
        go_wp2
        go_ret
        have hfa : fitA ws k = false := by unfold fitA; rw [HO0.out, HFD.out]; exact decide_eq_false (by simp only; omega)
        rw [← HSB.out, soundB_far HO2.out HMEM.out hfa]
        exact ⟨rfl, HI2.out.fr.trans HF9.out⟩
       ·have hff : decide (z < f) = false := decide_eq_false hfz
        have hf0 : 0 ≤ f := by rw [← HFD.out]; exact fieldsH_nonneg HZ.out.1
        obtain ⟨fn, rfl⟩ := Int.eq_ofNat_of_zero_le hf0
        have HFZ : Hid ((fn : Int) ≤ z) := Lib.hid (by omega)
        have HSA : Hid (soundAt ws isl k = (fieldsAt ws k fn).all fun w => soundW w isl) := Lib.hid (by
         have e : soundAt ws isl k = (decide (fieldsH (obj0 ws k) ≤ (obj0 ws k).size) && (fieldsAt ws k (fieldsH (obj0 ws k)).toNat).all fun w => soundW w isl) := rfl
         rw [e, HO0.out, HFD.out, decide_eq_true (show (fn : Int) ≤ (Hdr.mk kd z t nn).size by simp only; omega)]
         rfl)
        have qfz : (fn : Int) ≤ z := by omega
        have qf : (fn : Int) ≤ 1048576 := by have := HZ.out; omega
        clear hfz hf0
        go_wp2_with (first | (go_at_call 42; (with_reducible refine (Wd.fields_c kd z t nn fn _ HFD.out).mono ?_); rintro e wa ⟨rfl, hb⟩; have HF10 := Lib.hid (HF9.out.trans (Fr.of_below hb (fun _ => False))); clear hb))
        go_loopg [69] fn (fun g a69 wr => ∃ (j : Nat), a69 = .int .i64 j ∧ g + j = fn ∧ Hid (Fr W1 wr (fun _ => False) ∧ ∀ i, i < j → soundW (rd0 ws ((k : Int) + 1 + i)) isl = true))
        case atStart => exact ⟨0, rfl, rfl, Lib.hid ⟨HF10.out, fun j hj => by omega⟩⟩
        case round =>
         obtain ⟨j, rfl, hgj, HJ⟩ := hrel
         have HGJ := Lib.hid hgj
         clear hgj
         by_cases hj : j < fn
         ·have HJL := Lib.hid hj
          have qj : (j : Int) < fn := by omega
          have HIj := Lib.hid (HI2.out.frm HJ.out.1)
          obtain ⟨y, hy⟩ : ∃ y, rdAt ws ((k : Int) + 1 + j) = some y := by
           have := HZ.out
           unfold rdAt
           rw [if_pos (by omega)]
           exact ⟨_, rfl⟩
          have HY := Lib.hid hy
          have hoy : okW y := by obtain ⟨m, _, hm, rfl⟩ := rdAt_some hy; exact okWs_getD HIj.out.ar.ok m hm
          have HOY := Lib.hid hoy
          have hry : rd0 ws ((k : Int) + 1 + j) = y := by unfold rd0; rw [hy]; rfl
          have HRY := Lib.hid hry
          obtain ⟨bs, hbs⟩ : ∃ bs, soundW y isl = bs := ⟨_, rfl⟩
          have HBS := Lib.hid hbs
          have HNO : Hid (bs = false → SB = false) := Lib.hid (fun e => by
           rw [← HSB.out]
           refine soundB_at HO2.out HMEM.out ?_
           rw [HISL.out, HSA.out]
           refine List.all_eq_false.2 ⟨y, ?_, by rw [hbs, e]; decide⟩
           unfold fieldsAt
           exact List.mem_map.2 ⟨j, List.mem_range.2 hj, hry⟩)
          clear hj hy hoy hry hbs
          cases bs with
          | false =>
           have HS0 := Lib.hid (HNO.out rfl)
           go_wp2_with (first
            | (go_at_call 43; (with_reducible refine (get_c p v ws size _ y _ HIj.out.ar HY.out).mono ?_); rintro e w4 ⟨rfl, rfl⟩)
            | (go_at_call 41; (with_reducible refine (msound_c y _ isl _ (HBO2.out.keep HJ.out.1 (fun _ _ h => h)) HOY.out).mono ?_); rintro e w5 ⟨rfl, hd⟩; rw [HBS.out]; have HF5 := Lib.hid (hd.fr (fun _ => False)); clear hd))
           go_ret
           exact ⟨by rw [HS0.out]; rfl, HI2.out.fr.trans (HJ.out.1.trans HF5.out)⟩
          | true =>
           go_wp2_with (first
            | (go_at_call 43; (with_reducible refine (get_c p v ws size _ y _ HIj.out.ar HY.out).mono ?_); rintro e w4 ⟨rfl, rfl⟩)
            | (go_at_call 41; (with_reducible refine (msound_c y _ isl _ (HBO2.out.keep HJ.out.1 (fun _ _ h => h)) HOY.out).mono ?_); rintro e w5 ⟨rfl, hd⟩; rw [HBS.out]; have HF5 := Lib.hid (hd.fr (fun _ => False)); clear hd))
           go_roundg (gk - 1)
           case measure => have := HGJ.out; have := HJL.out; omega
           case rel => exact ⟨j + 1, by first | rfl | go_num, by have := HGJ.out; have := HJL.out; omega, Lib.hid ⟨HJ.out.1.trans HF5.out, fun i hi => by
            by_cases hi2 : i < j
            ·exact HJ.out.2 i hi2
            ·have : i = j := by omega
             subst this
             rw [HRY.out]; exact HBS.out⟩⟩
         ·have b7 : decide (j < fn) = false := decide_eq_false hj
          have HJE : Hid (j = fn) := Lib.hid (by have := HGJ.out; omega)
          clear hj
          go_wp2
          go_roundg (G - 1)
          case measure => have := HGI.out; have := HIL.out; omega
          case rel => exact ⟨i + 1, by first | rfl | go_num, by have := HGI.out; have := HIL.out; omega, Lib.hid ⟨HJ.out.1, fun m hm => by
           by_cases hm2 : m < i
           ·exact HI.out.2 m hm2
           ·have : m = i := by omega
            subst this
            rw [HB.out, HSA.out]
            refine List.all_eq_true.2 fun x hx => ?_
            unfold fieldsAt at hx
            obtain ⟨q, hq, rfl⟩ := List.mem_map.1 hx
            exact HJ.out.2 q (by have := List.mem_range.1 hq; have := HJE.out; omega)⟩⟩
      ·have hie : i = L.length := by have := HGI.out; omega
       have b4 : decide (i < L.length) = false := decide_eq_false hi
       have hy : SB = true := by
        rw [← HSB.out]
        refine soundB_yes HO2.out (fun x hx => by rw [HISL.out]; exact HRS.out x hx) (fun a ha => ?_)
        obtain ⟨j, hj, rfl⟩ := List.getElem_of_mem ha
        have := HI.out.2 j (by omega)
        rw [List.getD_eq_getElem?_getD, List.getElem?_eq_getElem hj] at this
        rw [HISL.out]
        exact this
       have HY := Lib.hid hy
       clear hi hie hy
       go_wp2
       go_ret
       exact ⟨by rw [HY.out]; rfl, HI2.out.fr.trans HI.out.1⟩
theorem msnd_c (p : Nat) (v r : Value) (ws rs : List Int) (size : Int) (w : World) (h : Ar 112 w p v ws size) (hr : Rd w r (uw rs)) (hok : okWs rs) (hl : rs.length ≤ 1048576) :
  Calls Tryd.prog 13 #[.pointer (some ⟨p, 0, none⟩), r] w fun e w' => e = .returned (.bool (soundB ws rs)) ∧ Fr w w' (fun _ => False) := by
 cases ho : objs ws with
 | none => exact msnd_none p v r ws rs size w h ho
 | some L => exact msnd_some p v r ws rs L size w h hr hok hl ho
end Go.Proofs.YtjiaaefpepdoeaaDoor
namespace Go.Proofs.YtjiaaefpepdoeaaDoor
open Go.RowKit Md Go.Proofs.YtjiaaefpepdoeaaDoorW.PrintWords
set_option linter.unusedVariables false
end Go.Proofs.YtjiaaefpepdoeaaDoor
namespace Go.Proofs.YtjiaaefpepdoeaaDoor
open Go.RowKit Md
set_option linter.unusedVariables false
end Go.Proofs.YtjiaaefpepdoeaaDoor
namespace Go.Proofs.YtjiaaefpepdoeaaDoor
open Go.RowKit Md
set_option linter.unusedVariables false
def WdA (w w' : World) (ws rs : List Int) (e : Ending) : Prop :=
 ∃ rr, Lv ws (List.replicate ws.length false) rs rr ∧ e = .returned (.int .i64 (wordsM ws ((rr.map seenList).getD []))) ∧ Fr w w' fun _ => False
theorem live_objs {ws rs : List Int} {rr : Option (List Bool)} (h : Lv ws (List.replicate ws.length false) rs rr) : (∀ a ∈ (rr.map seenList).getD [], ∃ hd, objAt ws a = some hd) ∧ ((rr.map seenList).getD []).length ≤ ws.length := by
 cases rr with
 | none => exact ⟨fun a ha => absurd ha (by simp), by simp⟩
 | some s =>
  have hr : Md.Reach ws rs s := h
  refine ⟨fun a ha => ?_, ?_⟩
  ·obtain ⟨k, rfl, _, hk⟩ := mem_seenList.1 ha
   obtain ⟨hd, ho, _⟩ := hr.closed k hk
   exact ⟨hd, ho⟩
  ·have := upTo_len s s.length
   rw [hr.len] at this
   rw [← hr.len] at this
   simp only [Option.map_some, Option.getD_some, ← upTo_all]
   rw [hr.len] at this ⊢
   exact this
theorem wordsM_snoc (ws M : List Int) (a : Int) : wordsM ws (M ++ [a]) = wordsM ws M + (1 + (obj0 ws a).size) := by simp [wordsM]
set_option maxRecDepth 100000 in
set_option maxHeartbeats 4000000 in
theorem mwords_c (p : Nat) (v r : Value) (ws rs : List Int) (size : Int) (w : World) (h : Ar 112 w p v ws size) (hr : Rd w r (uw rs)) (hok : okWs rs) (hl : ws.length ≤ 4000) (hlr : rs.length ≤ 4000) :
  Calls Tryd.prog 12 #[.pointer (some ⟨p, 0, none⟩), r] w fun e w' => WdA w w' ws rs e := by
 have H := Lib.hid h
 have HR := Lib.hid hr
 have HOK := Lib.hid hok
 have HL := Lib.hid hl
 have HLR := Lib.hid hlr
 have q1 : (ws.length : Int) ≤ 4000 := by omega
 clear h hr hok hl hlr
 go_enter Tryd.func12, Tryd.ntmps12
 go_upto_region 3 with (first
  | (go_at_call 28; (with_reducible refine (live_c p v _ ws rs size _ H.out HR.out HOK.out HL.out HLR.out).mono ?_); rintro e w1 ⟨rr, u, hlv, rfl, hn⟩; have HLV := Lib.hid hlv; have HO1 := Lib.hid hn.1; have HF1 := Lib.hid hn.2.1; have HA1 := Lib.hid (H.out.fr hn.2.1); clear hlv hn))
 obtain ⟨M, hM⟩ : ∃ M, (rr.map seenList).getD [] = M := ⟨_, rfl⟩
 have hlo := live_objs HLV.out
 rw [hM] at HO1 hlo
 have HMM := Lib.hid hM
 have HLO := Lib.hid hlo.1
 have HML := Lib.hid hlo.2
 have qM : (M.length : Int) ≤ 4000 := by have := HML.out; omega
 obtain ⟨Au, cu, rfl⟩ := HO1.out.rd.len
 rw [iw_length] at *
 try simp only [iw_length]
 clear hM hlo
 go_wp2
 go_loopg [7, 20] M.length (fun g a7 a20 wr => ∃ (n : Int) (i : Nat), a7 = .int .i64 n ∧ a20 = .int .i64 i ∧ g + i = M.length ∧ Hid (Fr w1 wr (fun _ => False) ∧ n = wordsM ws (M.take i) ∧ 0 ≤ n ∧ n ≤ i * 4001))
 case atStart => exact ⟨0, 0, rfl, rfl, rfl, Lib.hid ⟨Fr.refl _ _, by simp [wordsM], by omega, by omega⟩⟩
 case round =>
  obtain ⟨n, i, rfl, rfl, hgi, HI⟩ := hrel
  have HGI := Lib.hid hgi
  clear hgi
  by_cases hi : i < M.length
  ·have HIL := Lib.hid hi
   have qi : (i : Int) < M.length := by omega
   obtain ⟨a, ha⟩ : ∃ a, M.getD i 0 = a := ⟨_, rfl⟩
   have haM : a ∈ M := by rw [← ha, List.getD_eq_getElem?_getD, List.getElem?_eq_getElem hi]; exact List.getElem_mem hi
   obtain ⟨hd, hob⟩ := HLO.out a haM
   obtain ⟨hb0, hb1, hrd, hz0, hz1, hz2⟩ := obj_facts hob
   obtain ⟨kd, z, t, nn⟩ := hd
   simp only at hz0 hz1 hz2
   have HOB := Lib.hid hob
   have HA := Lib.hid ha
   have HZ : Hid (0 ≤ z ∧ a + 1 + z ≤ ws.length ∧ 0 ≤ a) := Lib.hid ⟨hz0, hz2, hb0⟩
   have HO2 := Lib.hid (HO1.out.keep HI.out.1 (fun _ _ h => h))
   obtain ⟨gu, rfl, _, hcu⟩ := HO2.out.cellAt (by rw [iw_length]; omega)
   have ck := (hcu i (by rw [iw_length]; exact hi)).1
   rw [iw_get hi, ha] at ck
   have qn0 : 0 ≤ n := HI.out.2.2.1
   have qn1 : n ≤ 16008001 := by have := HI.out.2.2.2; have := HML.out; have := HL.out; omega
   have qz0 : 0 ≤ z := hz0
   have qz1 : z ≤ 4000 := by omega
   clear hi ha haM hob hb0 hb1 hrd hz0 hz1 hz2 hcu
   go_upto_region 7 with (first | (go_at_call 39; (with_reducible refine (obj_some p v ws size a _ _ (HA1.out.fr HI.out.1) HOB.out).mono ?_); rintro e wo ⟨rfl, hfo⟩))
   obtain ⟨W2, hW2⟩ : ∃ W2, wo.alloc (.cells #[.int .i64 kd, .int .i64 z, .int .i64 t, .bool nn] 88) = W2 := ⟨_, rfl⟩
   obtain ⟨D, hD⟩ : ∃ D, wo.heap.size = D := ⟨_, rfl⟩
   have hf2 : Fr wr W2 (fun _ => False) := by rw [← hW2]; exact hfo.alloc _
   have hdb : W2.heap[D]? = some (.cells #[.int .i64 kd, .int .i64 z, .int .i64 t, .bool nn] 88 (0, 0)) := by rw [← hW2, ← hD]; exact blk_new _ _ _
   have d1 : W2.cell? ⟨D, 1, none⟩ = some (.int .i64 z) := by simp [World.cell?, hdb]
   have HF2 := Lib.hid (HI.out.1.trans hf2)
   simp only [hW2, hD]
   clear hW2 hD hfo hf2 hdb ck
   go_wp2
   go_roundg (gk - 1)
   case measure => have := HGI.out; have := HIL.out; omega
   case rel =>
    refine ⟨n + (1 + z), i + 1, by first | rfl | go_num, by first | rfl | go_num, by have := HGI.out; have := HIL.out; omega, Lib.hid ⟨HF2.out, ?_, by have := HI.out; have := HZ.out; omega, ?_⟩⟩
    ·have e1 : M.take (i + 1) = M.take i ++ [a] := by
      rw [List.take_succ_eq_append_getElem HIL.out, ← HA.out]
      simp [List.getD, HIL.out]
     rw [e1, wordsM_snoc, ← HI.out.2.1, obj0_of HOB.out]
    ·have := HI.out.2.2.2; have := HZ.out; have := HL.out; push_cast; omega
  ·have hie : i = M.length := by have := HGI.out; omega
   have b2 : decide (i < M.length) = false := decide_eq_false hi
   have HW : Hid (n = wordsM ws M) := Lib.hid (by have := HI.out.2.1; rw [hie, List.take_length] at this; exact this)
   clear hi hie
   go_wp2
   go_ret
   exact ⟨rr, HLV.out, by rw [HMM.out, ← HW.out]; rfl, HF1.out.trans HI.out.1⟩
end Go.Proofs.YtjiaaefpepdoeaaDoor
namespace Go.Proofs.YtjiaaefpepdoeaaDoor
open Go.RowKit Md
set_option linter.unusedVariables false
theorem TA.root {T : TypeId} {W : World} {p : Nat} {v : Value} {ws rs : List Int} {size : Int} {g cap : Nat} (h : TA T W p v ws size (.slice (some ⟨g, 0, none⟩) rs.length cap) rs) (k : Nat) (hk : k < rs.length) :
  W.cell? ⟨g, k, none⟩ = some (.int .u64 (rs.getD k 0)) := by
 rcases h.own.form with ⟨e, h0⟩ | ⟨g', cap', e, hl, hm, hg, hc, hf⟩
 ·cases e
 ·injection e with e1 e2 e3
  injection e1 with e1
  injection e1 with e1
  subst e1
  rw [hc k (by rw [uw_length]; exact hk), uw_get hk]
end Go.Proofs.YtjiaaefpepdoeaaDoor
namespace Go.Proofs.YtjiaaefpepdoeaaDoor
open Go.RowKit Md
set_option linter.unusedVariables false
theorem rd_blk {W : World} {g : Nat} {T : TypeId} {l : List Value} (h : W.heap[g]? = some (.cells l.toArray T (0, 0))) (h0 : 0 < l.length) (hm : l.length ≤ 1000) : Rd W (.slice (some ⟨g, 0, none⟩) l.length l.length) l :=
 .inr ⟨g, 0, l.length, rfl, h0, Nat.le_refl _, by simp only [maxLen]; omega, (Array.getElem?_eq_some_iff.1 h).1, fun i hi => by
  rw [Nat.zero_add]
  simp only [World.cell?, h]
  simp⟩
theorem blk_drew (w : World) (n : Nat) (c : Array Value) (T : TypeId) : ((w.drewN n).alloc (.cells c T)).heap[w.heap.size]? = some (.cells c T (0, 0)) := blk_new (w.drewN n) c T
set_option maxRecDepth 100000 in
set_option maxHeartbeats 4000000 in
theorem awake12_c (w : World) : Calls Tryd.prog 5 #[] w fun e w' => e = .returned (.bool true) ∧ Fr w w' (fun _ => False) := by
 obtain ⟨H, T, hH, hT, okH, okT, hl3, hl0, hw0⟩ : ∃ H T, makeH ⟨0, 2, 3, false⟩ = H ∧ makeH ⟨1, 1, 4, false⟩ = T ∧ okW H ∧ okW T ∧ lvM [H, 0, 4, T, 5] 10 [false, false, false, false, false] [53] = some (some [true, false, false, true, false]) ∧
   lvM [H, 0, 4, T, 5] 10 [false, false, false, false, false] [5] = some (some [true, false, false, false, false]) ∧ wordsM [H, 0, 4, T, 5] [0] = 3 :=
  ⟨402653446, 536871062, by decide +kernel, by decide +kernel, by unfold okW; omega, by unfold okW; omega, by decide +kernel, by decide +kernel, by decide +kernel⟩
 have HH := Lib.hid hH
 have HT := Lib.hid hT
 have HL3 := Lib.hid (lv_of _ _ _ _ hl3)
 have HL0 := Lib.hid (lv_of _ _ _ _ hl0)
 have HW0 := Lib.hid hw0
 have P40 : Hid (ofW 4 0 = 4) := Lib.hid (by decide +kernel)
 have P50 : Hid (ofW 5 0 = 5) := Lib.hid (by decide +kernel)
 have P53 : Hid (ofW 5 3 = 53) := Lib.hid (by decide +kernel)
 have K5 : Hid (okWs [H, 0, 4, T, 5]) := Lib.hid (fun x hx => by simp at hx; rcases hx with rfl | rfl | rfl | rfl | rfl <;> first | assumption | (unfold okW; omega))
 have K53 : Hid (okWs [53]) := Lib.hid (fun x hx => by simp at hx; subst hx; unfold okW; omega)
 have K1 : Hid (okWs [5]) := Lib.hid (fun x hx => by simp at hx; subst hx; unfold okW; omega)
 have Z0 : Hid ((0 : Int) ≤ 0) := Lib.hid (Int.le_refl 0)
 have L5 : Hid ((([H, 0, 4, T, 5] : List Int).length : Int) + 0 ≤ 1048576) := Lib.hid (by simp only [List.length_cons, List.length_nil]; omega)
 have M5 : Hid (([H, 0, 4, T, 5] : List Int).length ≤ 4000) := Lib.hid (by simp only [List.length_cons, List.length_nil]; omega)
 have M53 : Hid (([53] : List Int).length ≤ 4000) := Lib.hid (by simp only [List.length_cons, List.length_nil]; omega)
 have M1 : Hid (([5] : List Int).length ≤ 4000) := Lib.hid (by simp only [List.length_cons, List.length_nil]; omega)
 have R53 : Hid (∀ (w : World) (n : Nat), Rd ((w.drewN n).alloc (.cells #[.int .u64 53] 39)) (.slice (some ⟨w.heap.size, 0, none⟩) 1 1) (uw [53])) := Lib.hid (fun w n => rd_blk (l := uw [53]) (blk_drew w n _ _) (by simp [uw]) (by simp [uw]))
 have R05 : Hid (∀ (w : World) (n : Nat), Rd ((w.drewN n).alloc (.cells #[.int .u64 5] 39)) (.slice (some ⟨w.heap.size, 0, none⟩) 1 1) (uw [5])) := Lib.hid (fun w n => rd_blk (l := uw [5]) (blk_drew w n _ _) (by simp [uw]) (by simp [uw]))
 have RI : Hid (∀ (w : World), Rd (w.alloc (.cells #[.int .i64 0, .int .i64 3] 3)) (.slice (some ⟨w.heap.size, 0, none⟩) 2 2) (iw [0, 3])) := Lib.hid (fun w => rd_blk (l := iw [0, 3]) (blk_new w _ _) (by simp [iw]) (by simp [iw]))
 clear hH hT okH okT hl3 hl0 hw0
 go_enter Tryd.func5, Tryd.ntmps5
 go_upto_region 2 with (first
  | (go_at_call 26; (with_reducible refine (Wd.rmake_c 0 2 3 false H _ HH.out).mono ?_); rintro e w1 ⟨rfl, hb⟩; have HF1 := Lib.hid (Fr.of_below hb (fun _ => False)); clear hb)
  | (go_at_call 26; (with_reducible refine (Wd.rmake_c 1 1 4 false T _ HT.out).mono ?_); rintro e w2 ⟨rfl, hb⟩; have HB2 := Lib.hid hb; clear hb)
  | (go_at_call 27; (with_reducible refine (Wd.rof_c 4 0 4 _ P40.out).mono ?_); rintro e w3 ⟨rfl, n4, rfl⟩)
  | (go_at_call 27; (with_reducible refine (Wd.rof_c 5 0 5 _ P50.out).mono ?_); rintro e w3 ⟨rfl, n5, rfl⟩))
 have hr3 : Rd ((w2.drewN n5).alloc (.cells #[.int .u64 H, .int .u64 0, .int .u64 4, .int .u64 T, .int .u64 5] 39)) (.slice (some ⟨w2.heap.size, 0, none⟩) 5 5) (uw [H, 0, 4, T, 5]) := rd_blk (l := uw [H, 0, 4, T, 5]) (blk_drew w2 n5 _ _) (by simp [uw]) (by simp [uw])
 have hf3 : Fr w ((w2.drewN n5).alloc (.cells #[.int .u64 H, .int .u64 0, .int .u64 4, .int .u64 T, .int .u64 5] 39)) (fun _ => False) := ((HF1.out.drewN n4).trans ((Fr.of_below HB2.out _).drewN n5)).alloc _
 obtain ⟨W3, hW3⟩ : ∃ W3, (w2.drewN n5).alloc (.cells #[.int .u64 H, .int .u64 0, .int .u64 4, .int .u64 T, .int .u64 5] 39) = W3 := ⟨_, rfl⟩
 obtain ⟨g, hg⟩ : ∃ g, w2.heap.size = g := ⟨_, rfl⟩
 rw [hW3] at hr3 hf3 ⊢
 rw [hg] at hr3 ⊢
 have HR3 := Lib.hid hr3
 have HF3 := Lib.hid hf3
 clear hr3 hf3 hW3 hg
 go_upto_region 6 with (first
  | (go_at_call 11; (with_reducible refine (fill_c _ [H, 0, 4, T, 5] 0 _ HR3.out K5.out Z0.out L5.out).mono ?_); rintro e w4 ⟨p, v4, rfl, hn⟩; have HA4 := Lib.hid hn.1; have HF4 := Lib.hid (HF3.out.trans hn.2.1); clear hn)
  | (go_at_call 27; (with_reducible refine (Wd.rof_c 5 3 53 _ P53.out).mono ?_); rintro e w3 ⟨rfl, n6, rfl⟩; have HR5 := Lib.hid (R53.out w4 n6); have HF5 := Lib.hid ((HF4.out.drewN n6).alloc (.cells #[.int .u64 53] 39)); have HA5 := Lib.hid (HA4.out.fr (((Fr.refl w4 (fun _ => False)).drewN n6).alloc (.cells #[.int .u64 53] 39))))
  | (go_at_call 28; (with_reducible refine (live_c p v4 _ [H, 0, 4, T, 5] [53] _ _ HA5.out HR5.out K53.out M5.out M53.out).mono ?_); rintro e w6 ⟨rr, u, hlv, rfl, hn⟩; obtain rfl := Lv.det hlv _ HL3.out; have HN6 := Lib.hid hn.1; have HF6 := Lib.hid (HF5.out.trans hn.2.1); have HA6 := Lib.hid (HA5.out.fr hn.2.1); clear hlv hn))
 have hx6 : Own w6 3 u (iw [0, 3]) := HN6.out
 have HX6 := Lib.hid hx6
 have HRI := Lib.hid (RI.out w6)
 have HF7 := Lib.hid (HF6.out.alloc (.cells #[.int .i64 0, .int .i64 3] 3))
 have HX7 := Lib.hid (hx6.keep ((Fr.refl w6 (fun _ => False)).alloc (.cells #[.int .i64 0, .int .i64 3] 3)) (fun _ _ h => h))
 have HA7 := Lib.hid (HA6.out.fr ((Fr.refl w6 (fun _ => False)).alloc (.cells #[.int .i64 0, .int .i64 3] 3)))
 have L2 : Hid (([0, 3] : List Int).length ≤ 1073741824) := Lib.hid (by simp only [List.length_cons, List.length_nil]; omega)
 clear hx6
 go_wp2_with (first
  | (go_at_call 29; (with_reducible refine (ints_c u _ [0, 3] [0, 3] _ HX7.out.rd HRI.out L2.out).mono ?_); rintro e w8 ⟨rfl, hd⟩; have HF8 := Lib.hid (HF7.out.trans (hd.fr (fun _ => False))); have HA8 := Lib.hid (HA7.out.fr (hd.fr (fun _ => False))); clear hd)
  | (go_at_call 27; (with_reducible refine (Wd.rof_c 5 0 5 _ P50.out).mono ?_); rintro e w9 ⟨rfl, n9, rfl⟩; have HR9 := Lib.hid (R05.out w8 n9); have HF9 := Lib.hid ((HF8.out.drewN n9).alloc (.cells #[.int .u64 5] 39)); have HA9 := Lib.hid (HA8.out.fr (((Fr.refl w8 (fun _ => False)).drewN n9).alloc (.cells #[.int .u64 5] 39))))
  | (go_at_call 12; (with_reducible refine (mwords_c p v4 _ [H, 0, 4, T, 5] [5] _ _ HA9.out HR9.out K1.out M5.out M1.out).mono ?_); rintro e w10 ⟨rr, hlv, rfl, hf⟩; obtain rfl := Lv.det hlv _ HL0.out; have hwz : wordsM [H, 0, 4, T, 5] (((some [true, false, false, false, false]).map seenList).getD []) = 3 := HW0.out; rw [hwz]; have HF10 := Lib.hid (HF9.out.trans hf); clear hlv hf hwz))
 go_ret
 exact ⟨by simp, HF10.out⟩
end Go.Proofs.YtjiaaefpepdoeaaDoor
namespace Go.Proofs.YtjiaaefpepdoeaaDoor
open Go.RowKit Md
set_option linter.unusedVariables false
end Go.Proofs.YtjiaaefpepdoeaaDoor
namespace Go.Proofs.YtjiaaefpepdoeaaDoor
open Go.RowKit Md
set_option linter.unusedVariables false
def nw (K : IntKind) (l : List Int) : List Value := l.map (Value.int K)
section
variable {K : IntKind} {W : World} {l : List Int} {A : Option Addr} {cap : Nat} {t e : TypeId}
theorem nw_length (K : IntKind) (l : List Int) : (nw K l).length = l.length := by simp [nw]
theorem nw_one (K : IntKind) (l : List Int) : ∀ u ∈ nw K l, u.oneCell' = true := ints_oneCell K l
theorem nw_get {k : Nat} (h : k < l.length) : (nw K l)[k]? = some (.int K (l.getD k 0)) := by simp [nw, List.getD, h]
theorem rn_split (h : Rd W (.slice A l.length cap) (nw K l)) :
  l.length ≤ cap ∧ ∀ lo hi, lo ≤ hi → hi ≤ l.length → Rd W (sliced A lo hi cap 1) (nw K ((l.drop lo).take (hi - lo))) := by
 rcases h with ⟨h0, A', cap', e, hA⟩ | ⟨b, off, cap', e, h0, hl, hm, hb, hc⟩
 ·have hws : l = [] := by unfold nw at h0; exact List.map_eq_nil_iff.1 h0
  subst hws
  injection e with e1 e2 e3
  subst e1; subst e3
  refine ⟨Nat.zero_le _, fun lo hi h1 h2 => ?_⟩
  simp only [List.length_nil] at h2
  have hlo : lo = 0 := by omega
  have hhi : hi = 0 := by omega
  subst hlo; subst hhi
  refine .inl ⟨by simp [nw], (if cap = 0 then A else A.map (·.add (0 * 1))), cap - 0, rfl, fun hn => ?_⟩
  split at hn
  ·rename_i hc; omega
  ·have : A = none := by cases A with
    | none => rfl
    | some a => cases hn
   have := hA this
   omega
 ·injection e with e1 e2 e3
  subst e1; subst e3
  rw [nw_length] at *
  refine ⟨hl, fun lo hi h1 h2 => ?_⟩
  have hlen : ((l.drop lo).take (hi - lo)).length = hi - lo := by simp; omega
  by_cases hz : hi - lo = 0
  ·have e : (l.drop lo).take (hi - lo) = [] := List.eq_nil_of_length_eq_zero (by omega)
   rw [e]
   refine .inl ⟨rfl, (if cap = lo then some ⟨b, off, none⟩ else (some (⟨b, off, none⟩ : Addr)).map (·.add (lo * 1))), cap - lo, ?_, ?_⟩
   ·unfold sliced; rw [hz]
   ·intro hn
    split at hn
    ·cases hn
    ·simp at hn
  ·have hne : ¬ cap = lo := by omega
   refine .inr ⟨b, off + lo, cap - lo, ?_, by rw [nw_length]; omega, by rw [nw_length]; omega, by omega, hb, fun i hi => ?_⟩
   ·unfold sliced
    rw [if_neg hne, nw_length, hlen]
    simp [Addr.add_lit]
   ·rw [nw_length] at hi
    have h3 := hc (lo + i) (by omega)
    rw [Nat.add_assoc, h3, nw_get (by omega), nw_get hi]
    simp only [List.getD_eq_getElem?_getD, List.getElem?_take, List.getElem?_drop]
    rw [if_pos (by omega)]
theorem rn_to (hu : Tryd.prog.underlying t = some (.slice (Tryd.prog.elem t))) (hs : ∀ w : World, (Go.sizeOf (Tryd.prog.elem t)).run Tryd.prog w = .ok 1 w) (h : Rd W (.slice A l.length cap) (nw K l)) (k : Nat) (hk : k ≤ l.length) :
  ∃ u, (∀ W : World, (Instr.slice t (.slice A l.length cap) none (some (.int .i64 (k : Int))) none).run Tryd.prog W = .ok u W) ∧ Rd W u (nw K (l.take k)) := by
 have h1 := (rn_split h).1
 refine ⟨sliced A 0 k cap 1, fun W => ?_, ?_⟩
 ·rw [run_slice_h W _ _ _ _ hu .i64 _ (by omega) (by omega), hs]
  rfl
 ·have := (rn_split h).2 0 k (Nat.zero_le _) hk
  simpa using this
theorem rn_lh (hu : Tryd.prog.underlying t = some (.slice (Tryd.prog.elem t))) (hs : ∀ w : World, (Go.sizeOf (Tryd.prog.elem t)).run Tryd.prog w = .ok 1 w) (h : Rd W (.slice A l.length cap) (nw K l)) (lo hi : Nat) (h1 : lo ≤ hi) (h2 : hi ≤ l.length) :
  ∃ u, (∀ W : World, (Instr.slice t (.slice A l.length cap) (some (.int .i64 (lo : Int))) (some (.int .i64 (hi : Int))) none).run Tryd.prog W = .ok u W) ∧ Rd W u (nw K ((l.drop lo).take (hi - lo))) := by
 have h3 := (rn_split h).1
 refine ⟨sliced A lo hi cap 1, fun W => ?_, (rn_split h).2 lo hi h1 h2⟩
 rw [run_slice_lh W _ _ _ _ hu .i64 .i64 _ _ (by omega) (by omega) (by omega), hs]
 rfl
theorem rn_copy {n : Nat} (ht : Tryd.prog.underlying t = some (.slice e)) (hinf : (Tryd.prog.info? e).map (fun i => (i.zero, i.size, i.bytes)) = some (some (.int K 0), 1, n)) (hn : n ≤ 64) {u : Value} (h : Rd W u (nw K l)) (hl : l.length ≤ 1073741824) :
  ∃ v' w', (Builtin.append_ #[t, t] t #[.slice none 0 0, u]).run Tryd.prog W = .ok v' w' ∧ Own w' e v' (nw K l) ∧ Fr W w' (fun _ => False) ∧ ∀ k, InBlk v' k → W.heap.size ≤ k := by
 obtain ⟨i0, hi, hz0, hz1, hz2⟩ := info_parts hinf
 obtain ⟨v', w1, hr, ho, hg, hn⟩ := run_append_rd (P := Tryd.prog) W t t e i0 (.int K 0) ht hi hz0 hz1 (by omega) rfl (.slice none 0 0) u [] (nw K l) (Own.nil W _) h (nw_one K l) (by rw [nw_length]; simp; omega)
 exact ⟨v', w1, hr, ho, (Fr.refl W _).grown hg (fun k hk hlt => by simp [Value.ownBlock] at hk), fun k hk => (hn k hk).elim (fun h => by simp [InBlk, Value.ownBlock] at h) id⟩
theorem rn_cell (h : Rd W (.slice A l.length cap) (nw K l)) (h0 : 0 < l.length) : ∃ b off, A = some ⟨b, off, none⟩ ∧ ∀ i, i < l.length → W.cell? ⟨b, off + i, none⟩ = some (.int K (l.getD i 0)) := by
 rcases h with ⟨h1, _⟩ | ⟨b, off, cap', e, h1, hl, hm, hb, hc⟩
 ·unfold nw at h1; rw [List.map_eq_nil_iff.1 h1] at h0; simp at h0
 ·injection e with e1 e2 e3
  exact ⟨b, off, e1, fun i hi => by rw [hc i (by rw [nw_length]; exact hi), nw_get hi]⟩
end
theorem infoU32 : (Tryd.prog.info? 123).map (fun i => (i.zero, i.size, i.bytes)) = some (some (.int .u32 0), 1, 4) := by kernel_rfl
theorem infoU8 : (Tryd.prog.info? 5).map (fun i => (i.zero, i.size, i.bytes)) = some (some (.int .u8 0), 1, 1) := by kernel_rfl
theorem elemU32 : Tryd.prog.elem 22 = 123 := by kernel_rfl
theorem undU32 : Tryd.prog.underlying 22 = some (.slice (Tryd.prog.elem 22)) := by kernel_rfl
theorem sizeU32 (w : World) : (Go.sizeOf (Tryd.prog.elem 22)).run Tryd.prog w = .ok 1 w := by
 obtain ⟨i0, hi, hz0, hz1, hz2⟩ := info_parts infoU32
 rw [elemU32]
 simp [Go.sizeOf, Go.typeInfo, hi, hz1]
theorem elemU8 : Tryd.prog.elem 24 = 5 := by kernel_rfl
theorem undU8 : Tryd.prog.underlying 24 = some (.slice (Tryd.prog.elem 24)) := by kernel_rfl
theorem sizeU8 (w : World) : (Go.sizeOf (Tryd.prog.elem 24)).run Tryd.prog w = .ok 1 w := by
 obtain ⟨i0, hi, hz0, hz1, hz2⟩ := info_parts infoU8
 rw [elemU8]
 simp [Go.sizeOf, Go.typeInfo, hi, hz1]
end Go.Proofs.YtjiaaefpepdoeaaDoor
namespace Go.Proofs.YtjiaaefpepdoeaaDoor.Md
open Go.Proofs.YtjiaaefpepdoeaaDoor.PSlideMeans (S26 z26)
set_option linter.unusedVariables false
def normN (l : List Int) : Nat → Nat
 | 0 => 0
 | n + 1 => if l.getD n 0 = 0 then normN l n else n + 1
def normD (l : List Int) : List Int := l.take (normN l l.length)
def normB (b : Bool) (l : List Int) : Bool := b && decide (0 < (normD l).length)
def eStr : ByteArray := ⟨#[]⟩
def termNum (b : Bool) (l : List Int) : S26 := ⟨0, normB b l, normD l, eStr, 0, [], []⟩
def ofInt (v : Int) : Bool × List Int := (normB (decide (v < 0)) [v.natAbs % 4294967296, v.natAbs / 4294967296], normD [v.natAbs % 4294967296, v.natAbs / 4294967296])
def termInt (v : Int) : S26 := termNum (ofInt v).1 (ofInt v).2
def smallV (l : List Int) : Int := l.getD 0 0 + l.getD 1 0 * 4294967296
def smallB (b : Bool) (l : List Int) : Bool := decide ((normD l).length ≤ 2) && !(decide (576460752303423488 < smallV (normD l)) || (smallV (normD l) == 576460752303423488 && !(normB b l)))
def termLeaf (k n : Int) : S26 := ⟨k, false, [], eStr, n, [], []⟩
section
variable (ws : List Int) (nm : List ByteArray) (lk : Int → Int → Int → Option (List Int)) (tr : S26 → Int)
def bigM (h : Hdr) (ds : List Int) : Option S26 :=
 if ds.any (fun x => decide (4294967295 < x)) then none
 else if smallB h.neg ds = true ∨ 64 < h.size ∨ ¬ (h.neg = normB h.neg ds ∧ ds = normD ds) ∨ h.tree ≠ 1 then none
 else some (termNum h.neg ds)
def binM (h : Hdr) (ds : List Int) : Option S26 :=
 if h.neg = true ∨ h.size ≠ 3 ∨ h.tree ≠ 1 then none
 else if 2147483648 < ds.getD 0 0 ∨ 2147483648 < ds.getD 1 0 ∨ 4096 < ds.getD 2 0 then none
 else if ds.getD 2 0 = 0 then some (termLeaf 7 0)
 else (lk (ds.getD 0 0) (ds.getD 1 0) (ds.getD 2 0)).map fun b => ⟨7, false, [], eStr, 0, [], b⟩
def getsM (g : Nat → Int → Nat × Option S26) : Nat → List Int → Nat × Option (List S26)
 | n, [] => (n, some [])
 | n, w :: r =>
  match g n w with
  | (n1, none) => (n1, none)
  | (n1, some t) => ((getsM g n1 r).1, (getsM g n1 r).2.map (t :: ·))
def rowM (g : Nat → Int → Nat × Option S26) (n : Nat) (h : Hdr) (fs : List Int) : Nat × Option S26 :=
 if h.neg = true ∨ (h.kind = 0 ∧ h.size ≠ 2) ∨ 255 < h.size then (n, none)
 else ((getsM g n fs).1, (getsM g n fs).2.bind fun ts => if 1 + (ts.map tr).sum = h.tree then some ⟨if h.kind = 0 then 6 else 4, false, [], eStr, 0, ts, []⟩ else none)
def objM (g : Nat → Int → Nat × Option S26) (n : Nat) (h : Hdr) (fs : List Int) : Nat × Option S26 :=
 if h.kind = 2 then (n, bigM h fs) else if h.kind = 3 then (n, binM lk h fs) else rowM tr g n h fs
def leafM (w : Int) : Option S26 :=
 if tagW w = 0 then some (termInt (valW w))
 else if tagW w = 1 then (if 0 ≤ valW w ∧ valW w < nm.length then some ⟨1, false, [], nm.getD (valW w).toNat eStr, 0, [], []⟩ else none)
 else if tagW w = 2 ∨ tagW w = 3 then (if 0 ≤ valW w ∧ valW w ≤ 1073741824 then some (termLeaf (if tagW w = 2 then 3 else 2) (valW w)) else none)
 else if tagW w = 4 then (if valW w = 0 then some (termLeaf 5 0) else none)
 else none
def getM : Nat → Nat → Int → Nat × Option S26
 | 0, n, _ => (n + 1, none)
 | f + 1, n, w =>
  if 65536 ≤ n then (n + 1, none)
  else if tagW w = 5 then
   match objAt ws (valW w) with
   | none => (n + 1, none)
   | some h => objM lk tr (getM f) (n + 1) h (fieldsAt ws (valW w) h.size.toNat)
  else (n + 1, leafM nm w)
end
section
variable {l rs L M : List Int} {nm : List ByteArray} {lk : Int → Int → Int → Option (List Int)} {tr : S26 → Int}
end
end Go.Proofs.YtjiaaefpepdoeaaDoor.Md
namespace Go.Proofs.YtjiaaefpepdoeaaDoor
open Go.RowKit Md
set_option linter.unusedVariables false
end Go.Proofs.YtjiaaefpepdoeaaDoor
namespace Go.Proofs.YtjiaaefpepdoeaaDoor
open Go.RowKit Md
set_option linter.unusedVariables false
def fw (l : List Fld) : List Value := l.flatMap fun f => [.bool f.root, .int .i64 f.at_]
theorem fw_append (a b : List Fld) : fw (a ++ b) = fw a ++ fw b := by simp [fw]
theorem fw_get : ∀ {l : List Fld} {k : Nat} (h : k < l.length), (fw l)[k * 2]? = some (.bool (l.getD k ⟨false, 0⟩).root) ∧ (fw l)[k * 2 + 1]? = some (.int .i64 (l.getD k ⟨false, 0⟩).at_) := by
 intro l
 induction l with
 | nil => intro k h; simp at h
 | cons f l ih =>
  intro k h
  have e : fw (f :: l) = .bool f.root :: .int .i64 f.at_ :: fw l := by simp [fw]
  rw [e]
  cases k with
  | zero => simp [List.getD]
  | succ k =>
   have h2 := ih (k := k) (by simp at h; omega)
   have e1 : (k + 1) * 2 = k * 2 + 1 + 1 := by omega
   have e2 : (k + 1) * 2 + 1 = (k * 2 + 1) + 1 + 1 := by omega
   rw [e1]
   simp only [List.getElem?_cons_succ, List.getD_cons_succ]
   exact h2
def Own2 (B : Nat) (w : World) (e : TypeId) (v : Value) (l : List Fld) : Prop := w.ownsRow B e 2 v l.length (fw l)
section
variable {B : Nat} {w w1 W : World} {e : TypeId} {v u : Value} {l : List Fld} {S : Nat → Prop} {T : TypeId} {p : Nat} {ws : List Int} {size : Int} {xs : List Value}
theorem Own2.nil (B : Nat) (w : World) (e : TypeId) : Own2 B w e (.slice none 0 0) [] := World.ownsRow_nil w B e 2
theorem Own2.keep (h : Own2 B w e v l) (hf : Fr w w1 S) (hn : ∀ i, InBlk v i → ¬ S i) : Own2 B w1 e v l := by
 refine ⟨h.1, ?_⟩
 rcases h.2 with h0 | ⟨g, cap, cur, rfl, hb, hg, rest⟩
 ·exact .inl h0
 ·exact .inr ⟨g, cap, cur, rfl, hb, hf.blk hg (hn g (by simp [InBlk, Value.ownBlock])), rest⟩
theorem Own2.lt (h : Own2 B w e v l) : ∀ i, InBlk v i → B ≤ i ∧ i < w.heap.size := fun i hi => World.ownsRow.lt h i hi
theorem Own2.elem (h : Own2 B w e v l) : ∀ i, InBlk v i → ∃ cur, w.heap[i]? = some (.cells cur e (0, 0)) := by
 intro i hi
 rcases h.2 with ⟨rfl, _⟩ | ⟨g, cap, cur, rfl, hb, hg, _⟩
 ·simp [InBlk, Value.ownBlock] at hi
 ·simp [InBlk, Value.ownBlock] at hi; subst hi; exact ⟨cur, hg⟩
theorem Own2.len (h : Own2 B w e v l) : ∃ A cap, v = .slice A l.length cap := by
 rcases h.2 with ⟨rfl, h0⟩ | ⟨g, cap, cur, rfl, _⟩
 ·exact ⟨none, 0, by rw [h0]⟩
 ·exact ⟨_, cap, rfl⟩
theorem Own2.cellAt {A : Option Addr} {n cap : Nat} (h : Own2 B w e (.slice A n cap) l) (h0 : 0 < l.length) : ∃ b, A = some ⟨b, 0, none⟩ ∧ b < w.heap.size ∧ ∀ i, i < l.length → w.cell? ⟨b, i * 2, none⟩ = some (.bool (l.getD i ⟨false, 0⟩).root) ∧ w.cell? ⟨b, i * 2 + 1, none⟩ = some (.int .i64 (l.getD i ⟨false, 0⟩).at_) := by
 rcases h.2 with ⟨_, h1⟩ | ⟨g, cap', cur, e1, hb, hg, hl, hm, hs, ht⟩
 ·omega
 ·injection e1 with e1 e2 e3
  refine ⟨g, e1, (Array.getElem?_eq_some_iff.1 hg).1, fun i hi => ?_⟩
  have h2 := fw_get hi
  have hc : ∀ j, j < l.length * 2 → w.cell? ⟨g, j, none⟩ = (fw l)[j]? := fun j hj => by
   rw [cell_of_row w g j cur e (0, 0) hg, ← ht, List.getElem?_take, if_pos hj]
   simp
  rw [hc _ (by omega), hc _ (by omega)]
  exact h2
theorem Own2.not_ptr (h : Own2 B w e u l) (ha : Ar T w p v ws size) (ne : T ≠ e) : ∀ i, InBlk u i → i ≠ p := fun i hi ei => by
 obtain ⟨c, b⟩ := h.elem i hi
 rw [ei, ha.blk] at b
 simp at b
 exact ne b.2
theorem Own2.not_box {D : Nat} {c : Array Value} {T2 : TypeId} (h : Own2 B w e u l) (hb : w.heap[D]? = some (.cells c T2 (0, 0))) (ne : T2 ≠ e) : ¬ InBlk u D := fun hi => by
 obtain ⟨c2, b⟩ := h.elem D hi
 rw [hb] at b
 simp at b
 exact ne b.2
theorem Own2.apart {e2 : TypeId} {ys : List Value} (h : Own2 B w e v l) (k : Own w e2 u ys) (ne : e ≠ e2) : Apt v u := fun i h1 h2 => by
 obtain ⟨c1, b1⟩ := h.elem i h1
 obtain ⟨c2, b2⟩ := k.elem i h2
 rw [b1] at b2
 simp at b2
 exact ne b2.2
theorem run_append_fld (t e : TypeId) (ht : Tryd.prog.underlying t = some (.slice e)) (hinf : (Tryd.prog.info? e).map (fun i => (i.zero, i.size, i.bytes)) = some (some (.agg #[.bool false, .int .i64 0]), 2, 16))
  (f : Fld) (h : Own2 B W e u l) (hB : B ≤ W.heap.size) (hl : l.length ≤ 16777216) :
  ∃ v' w1, (Builtin.append_ #[t, t] t #[u, .slice (some ⟨W.heap.size, 0, none⟩) 1 1]).run Tryd.prog (W.alloc (.cells #[.bool f.root, .int .i64 f.at_] e)) = .ok v' w1 ∧ Own2 B w1 e v' (l ++ [f]) ∧ Fr W w1 (fun i => InBlk u i) := by
 obtain ⟨i0, hi, hz0, hz1, hzb⟩ := info_parts hinf
 have hb : (W.alloc (.cells #[.bool f.root, .int .i64 f.at_] e)).heap[W.heap.size]? = some (.cells #[.bool f.root, .int .i64 f.at_] e (0, 0)) := blk_new _ _ _
 have hnews : ∀ j x, [Value.bool f.root, Value.int .i64 f.at_][j]? = some x → (W.alloc (.cells #[.bool f.root, .int .i64 f.at_] e)).cell? ((⟨W.heap.size, 0, none⟩ : Addr).add j) = some x := fun j x hj => by
  rw [Addr.add_lit, Nat.zero_add, cell_of_row _ _ j _ _ _ hb]
  simpa using hj
 obtain ⟨v', w1, hr, ho, hg, _⟩ := run_append_own (P := Tryd.prog) (W.alloc (.cells #[.bool f.root, .int .i64 f.at_] e)) B t t e i0 (.agg #[.bool false, .int .i64 0]) 2 16 ht hi hz0 hz1 hzb rfl (by decide) u l.length (fw l) (World.ownsRow.alloc h _) ⟨W.heap.size, 0, none⟩ 1 1 [.bool f.root, .int .i64 f.at_] rfl hnews (by simp [Value.oneCell']) (by unfold maxLen; omega) (by omega) (by simp; omega)
 refine ⟨v', w1, hr, ?_, ((Fr.refl W _).alloc _).grown hg (fun k hk _ => hk)⟩
 unfold Own2
 rw [List.length_append, fw_append]
 exact ho
end
end Go.Proofs.YtjiaaefpepdoeaaDoor
