/-
  CONTRACT: Objects of the arena. No condition but that the arena stands.
-/
import Derived.Test.YtjiaaefpepdoeaaObj
import Derived.Deep.DeepCutAuto
import Derived.Deep.LoopGhost
namespace Go.Proofs.Ytjiaaefpepdoeaa
open Go.RowKit Md Go.Proofs.YtjiaaefpepdoeaaW.PrintWords
set_option linter.unusedVariables false
theorem blk_new (w : World) (c : Array Value) (T : TypeId) : (w.alloc (.cells c T)).heap[w.heap.size]? = some (.cells c T (0, 0)) := by
  show (w.heap.push _)[w.heap.size]? = _
  exact Array.getElem?_push_size
def iw (l : List Int) : List Value := l.map (Value.int .i64)
theorem intInfo : (Try.prog.info? 3).map (fun i => (i.zero, i.size, i.bytes)) = some (some (.int .i64 0), 1, 8) := by kernel_rfl
/-- The state of the rounds: what was found, where to go on. -/
structure OI (T : TypeId) (w W : World) (p : Nat) (v : Value) (ws : List Int) (size : Int) (g : Nat) (u : Value) (acc : List Int) (a : Int) : Prop where
  ar : Ar T W p v ws size
  fr : Fr w W (fun _ => False)
  own : Own W 3 u (iw acc)
  inn : ∀ k, InBlk u k → w.heap.size ≤ k
  eq : objs ws = (objsFrom ws g a).map (acc ++ ·)
  le : 0 ≤ a
  le2 : a ≤ ws.length
  ac : (acc.length : Int) ≤ a
  ag : (ws.length : Int) ≤ a + g
theorem objsFrom_end {ws : List Int} {g : Nat} {a : Int} (h : ¬ a < ws.length) : objsFrom ws g a = some [] := by
  cases g <;> simp [objsFrom, h]
theorem objsFrom_none {ws : List Int} {g : Nat} {a : Int} (h : a < ws.length) (ho : objAt ws a = none) : objsFrom ws g a = none := by
  cases g <;> simp [objsFrom, h, ho]
theorem objsFrom_step {ws : List Int} {g : Nat} {a : Int} {h : Hdr} (hl : a < ws.length) (ho : objAt ws a = some h) : objsFrom ws (g + 1) a = (objsFrom ws g (a + 1 + h.size)).map (a :: ·) := by
  simp [objsFrom, hl, ho]
theorem objsFrom_step2 {ws : List Int} {g : Nat} {a k z t : Int} {n : Bool} (hl : a < ws.length) (ho : objAt ws a = some ⟨k, z, t, n⟩) (acc : List Int) : (objsFrom ws (g + 1) a).map (acc ++ ·) = (objsFrom ws g (a + (1 + z))).map ((acc ++ [a]) ++ ·) := by
  rw [objsFrom_step hl ho, Option.map_map, ← Int.add_assoc]
  congr 1
  funext x
  simp
theorem iw_append (a b : List Int) : iw (a ++ b) = iw a ++ iw b := by simp [iw]
theorem OI.frm {T : TypeId} {w W W1 : World} {p : Nat} {v : Value} {ws : List Int} {size : Int} {g : Nat} {u : Value} {acc : List Int} {a : Int} (h : OI T w W p v ws size g u acc a) (hf : Fr W W1 fun _ => False) : OI T w W1 p v ws size g u acc a :=
  ⟨h.ar.fr hf, h.fr.trans hf, h.own.keep hf (fun _ _ h => h), h.inn, h.eq, h.le, h.le2, h.ac, h.ag⟩
theorem OI.step {T TH : TypeId} {w W2 : World} {p D gk : Nat} {v u : Value} {ws acc : List Int} {size a kd z t : Int} {n : Bool} (hI2 : OI T w W2 p v ws size gk u acc a) (hT : T ≠ 3) (hTH : TH ≠ 3)
    (hal : a < ws.length) (hob : objAt ws a = some ⟨kd, z, t, n⟩)
    (hdb : W2.heap[D]? = some (.cells #[.int .i64 kd, .int .i64 z, .int .i64 t, .bool n] TH (0, 0))) :
    ∃ v' w1, (Builtin.append_ #[51, 51] 51 #[u, .slice (some ⟨W2.heap.size, 0, none⟩) 1 1]).run Try.prog (W2.alloc (.cells #[.int .i64 a] 3)) = .ok v' w1 ∧
      OI T w w1 p v ws size (gk - 1) v' (acc ++ [a]) (a + (1 + z)) ∧ w1.cell? ⟨D, 1, none⟩ = some (.int .i64 z) ∧ gk - 1 < gk := by
  have hmx := hI2.ar.mx
  have hle := hI2.ar.le
  have h2z : 0 ≤ z ∧ a + 1 + z ≤ ws.length := by
    obtain ⟨k, rfl, hk, hr, hz⟩ := objAt_some hob
    have := readH_size hr
    simp only at this hz
    omega
  obtain ⟨i0, hi, hz0, hz1, hzb⟩ := info_parts intInfo
  have hf3 : Fr W2 (W2.alloc (.cells #[.int .i64 a] 3)) (fun _ => False) := (Fr.refl _ _).alloc _
  have hone : Rd (W2.alloc (.cells #[.int .i64 a] 3)) (.slice (some ⟨W2.heap.size, 0, none⟩) 1 1) (iw [a]) := .inr ⟨W2.heap.size, 0, 1, rfl, by simp [iw], by simp [iw], by decide, by simp, fun i hi => by
    have : i = 0 := by simp [iw] at hi; exact hi
    subst this
    simp only [World.cell?, blk_new]; rfl⟩
  have h2a := hI2.ac
  obtain ⟨v', w1, hr, ho, hg, hn⟩ := run_append_rd (P := Try.prog) _ 51 51 3 i0 (.int .i64 0) Try.underlying51 hi hz0 hz1 (by omega) rfl _ _ (iw acc) (iw [a]) (hI2.own.keep hf3 (fun _ _ h => h)) hone (oneCell_all [a]) (by simp [iw]; omega)
  rw [← iw_append] at ho
  have hne : some D ≠ u.ownBlock := fun e => by
    obtain ⟨cur, hc⟩ := hI2.own.elem D e.symm
    rw [hdb] at hc
    simp at hc
    exact hTH hc.2
  have hfw : Fr w w1 (fun _ => False) := (hI2.fr.trans hf3).grown hg (fun k hk hlt => by have := hI2.inn k hk; omega)
  have hf4 : Fr W2 w1 (fun i => InBlk u i) := (hf3.mono fun _ h _ => h.elim).grown hg (fun k hk _ => hk)
  have hne2 : ∀ k, InBlk u k → ¬ (InBlk v k) ∧ k ≠ p := fun k hk => by
    obtain ⟨cur, hc⟩ := hI2.own.elem k hk
    refine ⟨fun e => ?_, fun e => ?_⟩
    · obtain ⟨cur2, hc2⟩ := hI2.ar.own.elem k e
      rw [hc] at hc2; simp at hc2
    · rw [e, hI2.ar.blk] at hc; simp at hc; exact hT hc.2
  have hdb1 := hf4.blk hdb (fun e => hne e.symm)
  obtain ⟨g', rfl⟩ : ∃ g', gk = g' + 1 := ⟨gk - 1, by have := hI2.ag; omega⟩
  refine ⟨v', w1, hr, ⟨hI2.ar.keep hf4 (fun e => (hne2 p e).2 rfl) (fun i hi e => (hne2 i e).1 hi), hfw, ho, fun k hk => ?_, ?_, by have := hI2.le; omega, by omega, by simp; omega, by have := hI2.ag; omega⟩, by simp only [World.cell?, hdb1]; rfl, by have := hI2.ag; omega⟩
  · rcases hn k hk with h1 | h1
    · exact hI2.inn k h1
    · have h2 := hI2.fr.size
      have h3 : (W2.alloc (.cells #[.int .i64 a] 3)).heap.size = W2.heap.size + 1 := Array.size_push _
      omega
  · rw [hI2.eq, Nat.add_sub_cancel]
    exact objsFrom_step2 hal hob acc
set_option maxRecDepth 100000 in
set_option maxHeartbeats 4000000 in
theorem objects_c (p : Nat) (v : Value) (ws : List Int) (size : Int) (w : World) (h : Ar 101 w p v ws size) :
    Calls Try.prog 33 #[.pointer (some ⟨p, 0, none⟩)] w fun e w' => ∃ u, e = .returned (.tuple #[u, .bool (objs ws).isSome]) ∧ New w w' 3 u (iw ((objs ws).getD [])) := by
  have hmx := h.mx
  have hle := h.le
  have HL : Hid ((ws.length : Int) ≤ 1048576) := Lib.hid (by omega)
  have H0 : Hid (OI 101 w w p v ws size ws.length (.slice none 0 0) [] 0) := Lib.hid ⟨h, Fr.refl _ _, Own.nil _ _, (fun k hk => by simp [InBlk, Value.ownBlock] at hk), by simp [objs], Int.le_refl 0, by omega, by simp, by omega⟩
  clear h hmx hle
  go_enter Try.func33, Try.ntmps33
  go_wp2
  go_loopg [4, 5] ws.length (fun g lv av wr => ∃ (u : Value) (acc : List Int) (a : Int), lv = u ∧ av = .int .i64 a ∧ Hid (OI 101 w wr p v ws size g u acc a))
  case atStart => exact ⟨_, [], 0, rfl, rfl, H0⟩
  case round =>
    clear H0
    obtain ⟨u, acc, a, rfl, rfl, HI⟩ := hrel
    by_cases hal : a < ws.length
    · have hle := HI.out.le
      have HA : Hid (a < ws.length) := Lib.hid hal
      cases hob : objAt ws a with
      | none =>
        have HO := Lib.hid hob
        clear hob hle
        go_wp2_with (first | (go_at_call 27; (with_reducible refine (used_c p v ws size _ HI.out.ar).mono ?_); rintro e wa ⟨rfl, rfl⟩) | (go_at_call 62; (with_reducible refine (obj_none p v ws size a _ HI.out.ar HO.out).mono ?_); rintro e wb ⟨rfl, hf⟩; have HF := Lib.hid hf; clear hf))
        go_ret2
        have hn : objs ws = none := by rw [HI.out.eq, objsFrom_none HA.out HO.out]; rfl
        rw [hn]
        exact ⟨_, rfl, Own.nil _ _, (HI.out.fr.trans HF.out).alloc _, (fun k hk => by simp [InBlk, Value.ownBlock] at hk)⟩
      | some hd =>
        have HO := Lib.hid hob
        have hs := objAt_some hob
        have HZ : Hid (0 ≤ hd.size ∧ a + 1 + hd.size ≤ ws.length ∧ 0 ≤ a) := by
          obtain ⟨k, rfl, hk, hr, hz⟩ := hs
          have := readH_size hr
          exact Lib.hid (by omega)
        obtain ⟨kd, z, t, n⟩ := hd
        have hz2 := HZ.out
        have hl2 := HL.out
        simp only at hz2
        have hw1 : wrap64 (1 + z) = 1 + z := by unfold wrap64; omega
        have hw2 : wrap64 (a + (1 + z)) = a + (1 + z) := by clear hw1; unfold wrap64; omega
        have HW2 := Lib.hid hw2
        clear hob hs hz2 hl2 hle hw2
        go_upto_region 5 with (first | (go_at_call 27; (with_reducible refine (used_c p v ws size _ HI.out.ar).mono ?_); rintro e wa ⟨rfl, rfl⟩) | (go_at_call 62; (with_reducible refine (obj_some p v ws size a _ _ HI.out.ar HO.out).mono ?_); rintro e wo ⟨rfl, hf⟩))
        obtain ⟨W2, hW2⟩ : ∃ W2, wo.alloc (.cells #[.int .i64 kd, .int .i64 z, .int .i64 t, .bool n] 104) = W2 := ⟨_, rfl⟩
        obtain ⟨D, hD⟩ : ∃ D, wo.heap.size = D := ⟨_, rfl⟩
        have hf2 : Fr wr W2 (fun _ => False) := by rw [← hW2]; exact hf.alloc _
        have hdb : W2.heap[D]? = some (.cells #[.int .i64 kd, .int .i64 z, .int .i64 t, .bool n] 104 (0, 0)) := by rw [← hW2, ← hD]; exact blk_new _ _ _
        have hI2 := HI.out.frm hf2
        rw [hW2, hD]
        clear hW2 hD hf hf2 HI
        obtain ⟨v', w1, hr, hI3, kz, hgk⟩ := hI2.step (by decide) (by decide) HA.out HO.out hdb
        have HI3 := Lib.hid hI3
        have HR := Lib.hid hr
        have HGK := Lib.hid hgk
        clear hdb hI2 hr hI3 hgk
        go_wp2_with (at_builtin; refine Lib.wpList_append_run _ rfl _ _ _ _ rfl _ _ rfl rfl _ w1 HR.out ?_)
        go_roundg (gk - 1)
        case measure => exact HGK.out
        case rel => exact ⟨_, acc ++ [a], a + (1 + z), rfl, by rw [HW2.out], HI3⟩
    · have HA : Hid (¬ a < ws.length) := Lib.hid hal
      go_wp2_with (first | (go_at_call 27; (with_reducible refine (used_c p v ws size _ HI.out.ar).mono ?_); rintro e wa ⟨rfl, rfl⟩))
      go_ret2
      have hn : objs ws = some acc := by rw [HI.out.eq, objsFrom_end (by have := HA.out; omega)]; simp
      rw [hn]
      exact ⟨_, rfl, HI.out.own, HI.out.fr, HI.out.inn⟩
set_option maxRecDepth 100000 in
set_option maxHeartbeats 4000000 in
theorem mobjects_c (p : Nat) (v : Value) (ws : List Int) (size : Int) (w : World) (h : Ar 41 w p v ws size) :
    Calls Try.prog 36 #[.pointer (some ⟨p, 0, none⟩)] w fun e w' => ∃ u, e = .returned (.tuple #[u, .bool (objs ws).isSome]) ∧ New w w' 3 u (iw ((objs ws).getD [])) := by
  have hmx := h.mx
  have hle := h.le
  obtain ⟨A, cap, rfl⟩ := h.val
  have HL : Hid ((ws.length : Int) ≤ 1048576) := Lib.hid (by omega)
  have H0 : Hid (OI 41 w w p (.slice A ws.length cap) ws size ws.length (.slice none 0 0) [] 0) := Lib.hid ⟨h, Fr.refl _ _, Own.nil _ _, (fun k hk => by simp [InBlk, Value.ownBlock] at hk), by simp [objs], Int.le_refl 0, by omega, by simp, by omega⟩
  clear h hmx hle
  go_enter Try.func36, Try.ntmps36
  go_wp2
  go_loopg [4, 5] ws.length (fun g lv av wr => ∃ (u : Value) (acc : List Int) (a : Int), lv = u ∧ av = .int .i64 a ∧ Hid (OI 41 w wr p (.slice A ws.length cap) ws size g u acc a))
  case atStart => exact ⟨_, [], 0, rfl, rfl, H0⟩
  case round =>
    clear H0
    obtain ⟨u, acc, a, rfl, rfl, HI⟩ := hrel
    have kp := HI.out.ar.c0
    by_cases hal : a < ws.length
    · have hle := HI.out.le
      have HA : Hid (a < ws.length) := Lib.hid hal
      obtain ⟨k, rfl⟩ := Int.eq_ofNat_of_zero_le hle
      have hk : k < ws.length := by omega
      rcases HI.out.ar.form with ⟨e, e0⟩ | ⟨g, cap', e, hl, hm, hg, hgp, hc, hf⟩
      · subst e0; simp at hk
      injection e with e1 e2 e3
      subst e1 e3
      have ck := hc k hk
      have hx := okWs_getD HI.out.ar.ok k hk
      obtain ⟨x, hxe⟩ : ∃ x, ws.getD k 0 = x := ⟨_, rfl⟩
      rw [hxe] at ck hx
      have HX := Lib.hid hx
      have HXE := Lib.hid hxe
      have hpw := HI.out.ar.lt
      obtain ⟨kd, z, t, n, ok, hrp, hcase⟩ : ∃ kd z t n ok, Wd.readP x = (kd, z, t, n, ok) ∧ ((ok = false ∧ objAt ws k = none) ∨ (ok = true ∧ 0 ≤ z ∧ z < 1048576 ∧ ((objAt ws k = some ⟨kd, z, t, n⟩ ∧ z < ws.length - k) ∨ (objAt ws k = none ∧ ws.length - k ≤ z)))) := by
        cases hr : readH x with
        | none => exact ⟨0, 0, 0, false, false, by unfold Wd.readP; rw [hr], .inl ⟨rfl, by unfold objAt; rw [rdAt_of hk, hxe]; simp only [hr]⟩⟩
        | some hh =>
          obtain ⟨kd, z, t, n⟩ := hh
          have h1 := readH_size hr
          refine ⟨kd, z, t, n, true, by unfold Wd.readP; rw [hr], .inr ⟨rfl, h1.1, h1.2, ?_⟩⟩
          by_cases hs : z < (ws.length : Int) - k
          · exact .inl ⟨objAt_of hk (by rw [hxe]; exact hr) hs, hs⟩
          · refine .inr ⟨?_, by omega⟩
            unfold objAt; rw [rdAt_of hk, hxe]; simp only [hr]; rw [if_neg hs]
      have HRP := Lib.hid hrp
      have HCS := Lib.hid hcase
      clear hcase hrp hx hxe hc hf hm hgp e2
      go_upto_region 5 with (first | (go_at_call 63; (with_reducible refine (Wd.rread_c x kd z t n ok _ HX.out HRP.out).mono ?_); rintro e wo ⟨rfl, hb⟩))
      obtain ⟨W2, hW2⟩ : ∃ W2, wo.alloc (.cells #[.int .i64 kd, .int .i64 z, .int .i64 t, .bool n] 50) = W2 := ⟨_, rfl⟩
      obtain ⟨D, hD⟩ : ∃ D, wo.heap.size = D := ⟨_, rfl⟩
      have hf2 : Fr wr W2 (fun _ => False) := by rw [← hW2]; exact (Fr.of_below hb _).alloc _
      have hdb : W2.heap[D]? = some (.cells #[.int .i64 kd, .int .i64 z, .int .i64 t, .bool n] 50 (0, 0)) := by rw [← hW2, ← hD]; exact blk_new _ _ _
      have HI2 := Lib.hid (HI.out.frm hf2)
      have kz0 : W2.cell? ⟨D, 1, none⟩ = some (.int .i64 z) := by simp [World.cell?, hdb]
      have kp2 := HI2.out.ar.c0
      have HDB := Lib.hid hdb
      rw [hW2, hD]
      clear hW2 hD hb hf2 HI hdb kp ck hpw hg
      have hl2 := HL.out
      rcases HCS.out with ⟨rfl, ho⟩ | ⟨rfl, z0, z1, ⟨ho, hs⟩ | ⟨ho, hs⟩⟩
      · have HO := Lib.hid ho
        clear ho HCS
        go_quiet (fail)
        go_wp2
        go_ret2
        have hn : objs ws = none := by rw [HI2.out.eq, objsFrom_none HA.out HO.out]; rfl
        rw [hn]
        exact ⟨_, rfl, Own.nil _ _, HI2.out.fr.drewN _, (fun k hk => by simp [InBlk, Value.ownBlock] at hk)⟩
      · have HO := Lib.hid ho
        have d1 : decide ((ws.length : Int) - k - 1 < z) = false := decide_eq_false (by omega)
        have hw2 : wrap64 ((ws.length : Int) - k - 1) = ws.length - k - 1 := by unfold wrap64; omega
        have hw1 : wrap64 ((ws.length : Int) - k) = ws.length - k := by clear hw2; unfold wrap64; omega
        have hw3 : wrap64 ((k : Int) + 1) = k + 1 := by clear hw1 hw2; unfold wrap64; omega
        have HW4 : Hid (wrap64 ((k : Int) + 1 + z) = k + (1 + z)) := Lib.hid (by clear hw1 hw2 hw3; unfold wrap64; omega)
        clear ho HCS hs
        go_quiet (fail)
        obtain ⟨W3, hW3⟩ : ∃ W3, W2.drewN nq = W3 := ⟨_, rfl⟩
        have hdb3 : W3.heap[D]? = some (.cells #[.int .i64 kd, .int .i64 z, .int .i64 t, .bool n] 50 (0, 0)) := by rw [← hW3]; exact HDB.out
        have hI3 := HI2.out.frm (W1 := W3) (by rw [← hW3]; exact (Fr.refl _ _).drewN _)
        rw [hW3]
        clear hW3 HI2 HDB kz0 kp2
        obtain ⟨v', w1, hr, hI4, kz, hgk⟩ := hI3.step (by decide) (by decide) HA.out HO.out hdb3
        have HI3 := Lib.hid hI4
        have HR := Lib.hid hr
        have HGK := Lib.hid hgk
        clear hdb3 hI3 hr hI4 hgk hw1 hw2 d1
        go_wp2_with (at_builtin; refine Lib.wpList_append_run _ rfl _ _ _ _ rfl _ _ rfl rfl _ w1 HR.out ?_)
        go_roundg (gk - 1)
        case measure => exact HGK.out
        case rel => exact ⟨_, acc ++ [(k : Int)], k + (1 + z), rfl, by first | (rw [HW4.out]; done) | exact congrArg (Value.int .i64) (by omega), HI3⟩
      · have HO := Lib.hid ho
        have d1 : decide ((ws.length : Int) - k - 1 < z) = true := decide_eq_true (by omega)
        have hw2 : wrap64 ((ws.length : Int) - k - 1) = ws.length - k - 1 := by unfold wrap64; omega
        have hw1 : wrap64 ((ws.length : Int) - k) = ws.length - k := by clear hw2; unfold wrap64; omega
        clear ho HCS hs
        go_quiet (fail)
        go_wp2
        go_ret2
        have hn : objs ws = none := by rw [HI2.out.eq, objsFrom_none HA.out HO.out]; rfl
        rw [hn]
        exact ⟨_, rfl, Own.nil _ _, HI2.out.fr.drewN _, (fun k hk => by simp [InBlk, Value.ownBlock] at hk)⟩
    · have HA : Hid (¬ a < ws.length) := Lib.hid hal
      go_wp2
      go_ret2
      have hn : objs ws = some acc := by rw [HI.out.eq, objsFrom_end (by have := HA.out; omega)]; simp
      rw [hn]
      exact ⟨_, rfl, HI.out.own, HI.out.fr, HI.out.inn⟩
end Go.Proofs.Ytjiaaefpepdoeaa
