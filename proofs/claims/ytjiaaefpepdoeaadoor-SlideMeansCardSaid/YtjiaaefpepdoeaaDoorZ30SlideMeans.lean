/-
  TEXTS JOINED FOR A CLAIM (SlideMeans): Gon Lvw Mks Msn Sli Sr Slno Mwd Aw13 Aw12 Aw14 Snd More Rds Srw Src Stw Gt Mnp Rdn Rthr Fl Chn No Tnu Ofi Sma Ge Gb Trp. Conditions: none beyond those that each theorem states.
-/
import Derived.Test.YtjiaaefpepdoeaaDoorZ29SlideMeans
import Derived.IntWalk
import Derived.Deep.LoopGhost
import Derived.Deep.RegionHeld3
import Derived.Outline
import Derived.Test.YtjiaaefpepdoeaaDoorZ00SlideMeans
import Derived.Test.YtjiaaefpepdoeaaDoorZ22SlideMeans
import Derived.Test.YtjiaaefpepdoeaaDoorZ28SlideMeans
import Derived.Deep.RegionLaw
import Derived.Lib.AppendZeros
import Derived.BigRegion
import Derived.WalkSpells
namespace Go.Proofs.YtjiaaefpepdoeaaDoor
open Go.RowKit Md
set_option linter.unusedVariables false
theorem objects_some (p : Nat) (v : Value) (ws L : List Int) (size : Int) (w : World) (h : Ar 112 w p v ws size) (ho : objs ws = some L) :
  Calls Tryd.prog 40 #[.pointer (some ⟨p, 0, none⟩)] w fun e w' => ∃ u, e = .returned (.tuple #[u, .bool true]) ∧ New w w' 3 u (iw L) := by
 have := objects_c p v ws size w h
 rw [ho] at this
 exact this
structure GP (l L M acc M1 M2 P Q : List Int) (k i : Nat) : Prop where
 eq : L = P ++ Q
 pl : P.length = i
 me : M = M1 ++ M2
 ml : M1.length = k
 ge : acc ++ goneM l M2 Q = goneM l M L
 al : acc.length ≤ i
section
variable {l L M acc M1 M2 P Q2 : List Int} {k i : Nat} {a x y : Int} {o : Hdr}
theorem gone_head (h : GP l L M acc M1 (a :: M2) P (a :: Q2) k i) : GP l L M acc (M1 ++ [a]) M2 (P ++ [a]) Q2 (k + 1) (i + 1) := by
 refine ⟨by rw [h.eq]; simp, by rw [List.length_append, h.pl]; rfl, by rw [h.me]; simp, by rw [List.length_append, h.ml]; rfl, ?_, by have := h.al; omega⟩
 rw [← h.ge, goneM, if_pos (by rfl)]
 rfl
theorem gone_none (h : GP l L M acc M1 M2 P (a :: Q2) k i) (hn : M2.head? ≠ some a) (hx : rdAt l (a + 1) = none) : GP l L M acc M1 M2 (P ++ [a]) Q2 k (i + 1) := by
 refine ⟨by rw [h.eq]; simp, by rw [List.length_append, h.pl]; rfl, h.me, h.ml, ?_, by have := h.al; omega⟩
 rw [← h.ge, goneM, if_neg hn]
 simp only [hx]
theorem gone_some (h : GP l L M acc M1 M2 P (a :: Q2) k i) (hn : M2.head? ≠ some a) (hx : rdAt l (a + 1) = some x) (ho : obj0 l a = o) (hc : o.kind = 3 ∧ 0 < o.size ∧ x ≠ 0) (hy : (if x < 9223372036854775808 then x else x - 18446744073709551616) = y) : GP l L M (acc ++ [y]) M1 M2 (P ++ [a]) Q2 k (i + 1) := by
 refine ⟨by rw [h.eq]; simp, by rw [List.length_append, h.pl]; rfl, h.me, h.ml, ?_, by have := h.al; rw [List.length_append]; simp only [List.length_cons, List.length_nil]; omega⟩
 rw [← h.ge]
 conv => rhs; rw [goneM, if_neg hn]
 simp only [hx, ho]
 rw [if_pos hc, hy]
 simp
theorem gone_not (h : GP l L M acc M1 M2 P (a :: Q2) k i) (hn : M2.head? ≠ some a) (hx : rdAt l (a + 1) = some x) (ho : obj0 l a = o) (hc : ¬ (o.kind = 3 ∧ 0 < o.size ∧ x ≠ 0)) : GP l L M acc M1 M2 (P ++ [a]) Q2 k (i + 1) := by
 refine ⟨by rw [h.eq]; simp, by rw [List.length_append, h.pl]; rfl, h.me, h.ml, ?_, by have := h.al; omega⟩
 rw [← h.ge]
 conv => rhs; rw [goneM, if_neg hn]
 simp only [hx, ho]
 rw [if_neg hc]
end
structure GW (w W : World) (av gv : Value) (L acc : List Int) : Prop where
 fr : Fr w W (fun _ => False)
 own : Own W 3 gv (iw acc)
 new : ∀ k, InBlk gv k → w.heap.size ≤ k
 all : Own W 3 av (iw L)
 ap : ∀ k, InBlk av k → ¬ InBlk gv k
section
variable {w W W1 : World} {av gv u : Value} {L acc acc2 : List Int}
theorem GW.frm (h : GW w W av gv L acc) (hf : Fr W W1 (fun _ => False)) : GW w W1 av gv L acc :=
 ⟨h.fr.trans hf, h.own.keep hf (fun _ _ h => h), h.new, h.all.keep hf (fun _ _ h => h), h.ap⟩
theorem GW.push (h : GW w W av gv L acc) (ho : Own W1 3 u (iw acc2)) (hf : Fr W W1 (fun i => InBlk gv i)) (hn : ∀ k, InBlk u k → InBlk gv k ∨ W.heap.size ≤ k) : GW w W1 av u L acc2 :=
 ⟨h.fr.then_ hf (fun k hk hlt => by have := h.new k hk; omega), ho, fun k hk => (hn k hk).elim (h.new k) (fun e => Nat.le_trans h.fr.size e), h.all.keep hf h.ap, fun k hk e => (hn k e).elim (h.ap k hk) (fun e => by have := h.all.lt k hk; omega)⟩
end
set_option maxRecDepth 100000 in
set_option maxHeartbeats 4000000 in
theorem gone_c (sp p : Nat) (va xv lv hv : Value) (l rs L M ys : List Int) (size : Int) (w : World) (h : TA 112 w p va l size xv ys) (hs : Sld w sp p xv lv hv) (hlv : Own w 3 lv (iw M)) (S : Sc l rs L M) (hl : l.length ≤ 4000) :
  Calls Tryd.prog 51 #[.pointer (some ⟨sp, 0, none⟩)] w fun e w' => ∃ gv, e = .returned gv ∧ Own w' 3 gv (iw (goneM l M L)) ∧ Fr w w' (fun _ => False) ∧ ∀ k, InBlk gv k → w.heap.size ≤ k := by
 have hLl : L.length ≤ l.length := by have := S.snd.rows.len; omega
 have hMl : M.length ≤ l.length := by have := (words_le S.snd.rows M S.srt S.sub).2; omega
 have HLL : Hid (L.length ≤ 4000) := Lib.hid (by omega)
 have HL := Lib.hid hl
 have HSC := Lib.hid S
 have HS := Lib.hid hs
 have HLV := Lib.hid hlv
 have HT := Lib.hid h
 have HOBS : Hid (objs l = some L) := Lib.hid S.snd.rows.objs
 have q1 : (M.length : Int) ≤ 4000 := by omega
 have q2 : (L.length : Int) ≤ 4000 := by omega
 have c0 := hs.c0
 obtain ⟨Al, cl, rfl⟩ := hlv.rd.len
 rw [iw_length] at *
 clear h hs hlv S hl hLl hMl
 go_enter Tryd.func51, Tryd.ntmps51
 go_upto_region 4 with (first
  | (go_at_call 40; (with_reducible refine (objects_some p va l L size _ HT.out.ar HOBS.out).mono ?_); rintro e w1 ⟨u, rfl, hn⟩; have HN := Lib.hid hn; clear hn))
 obtain ⟨Aa, ca, rfl⟩ := HN.out.1.rd.len
 rw [iw_length] at HN ⊢
 have H0 : Hid (GW w w1 (.slice Aa L.length ca) (.slice none 0 0) L []) := Lib.hid ⟨HN.out.2.1, Own.nil _ _, (fun k hk => by simp [InBlk, Value.ownBlock] at hk), HN.out.1, fun k _ e => by simp [InBlk, Value.ownBlock] at e⟩
 clear c0 HN
 go_wp2
 go_loopg [3, 4, 23] L.length (fun g a3 a4 a23 wr => ∃ (gv : Value) (k i : Nat) (acc M1 M2 P Q : List Int), gv = a3 ∧ a4 = .int .i64 k ∧ a23 = .int .i64 i ∧ g + i = L.length ∧ Hid (GW w wr (.slice Aa L.length ca) gv L acc) ∧ Hid (GP l L M acc M1 M2 P Q k i))
 case atStart => exact ⟨_, 0, 0, [], [], M, [], L, rfl, rfl, rfl, rfl, H0, Lib.hid ⟨rfl, rfl, rfl, rfl, rfl, Nat.le_refl _⟩⟩
 case round =>
  clear H0
  obtain ⟨gv, k, i, acc, M1, M2, P, Q, rfl, rfl, rfl, hgi, HI, HP⟩ := hrel
  have HGI := Lib.hid hgi
  clear hgi
  have HSw := Lib.hid (HS.out.keep HI.out.fr (fun h => h))
  have HTw := Lib.hid (HT.out.fr HI.out.fr)
  have HLw := Lib.hid (HLV.out.keep HI.out.fr (fun _ _ h => h))
  have hkM : k ≤ M.length := by have h1 := HP.out.me; have h2 := HP.out.ml; rw [h1, List.length_append]; omega
  have qk : (k : Int) ≤ M.length := by omega
  by_cases hi : i < L.length
  ·have HIL := Lib.hid hi
   obtain ⟨a0, Q2, rfl⟩ : ∃ a0 Q2, Q = a0 :: Q2 := by
    cases Q with
    | nil => have h1 := HP.out.eq; have h2 := HP.out.pl; rw [List.append_nil] at h1; rw [h1] at hi; omega
    | cons a0 Q2 => exact ⟨a0, Q2, rfl⟩
   have haL : a0 ∈ L := by rw [HP.out.eq]; simp
   obtain ⟨hd, hob, ho0, hb0, hb1, hrd, hz0, hz1, hz2⟩ := HSC.out.snd.rows.obj _ haL
   obtain ⟨a, rfl⟩ := Int.eq_ofNat_of_zero_le hb0
   obtain ⟨kd, z, tr, nn⟩ := hd
   simp only at hz0 hz1 hz2
   obtain ⟨zn, rfl⟩ := Int.eq_ofNat_of_zero_le hz0
   have hga : L.getD i 0 = a := by
    have h1 := HP.out.eq
    have h2 := HP.out.pl
    rw [h1, ← h2]
    simp [List.getD]
   obtain ⟨ga, rfl, _, hca⟩ := HI.out.all.cellAt (by rw [iw_length]; omega)
   have ca0 := (hca i (by rw [iw_length]; exact hi)).1
   rw [iw_get hi, hga] at ca0
   have qi : (i : Int) < L.length := by omega
   have qa : (a : Int) ≤ 4000 := by have := HL.out; omega
   have HOB := Lib.hid hob
   have HO0 := Lib.hid ho0
   have c0 := HSw.out.c0
   have c2 := HSw.out.c2
   clear haL hob ho0 hb0 hb1 hrd hz0 hz1 hz2 hga hca hi
   by_cases hk : k < M.length
   ·obtain ⟨m, M3, rfl⟩ : ∃ m M3, M2 = m :: M3 := by
     cases M2 with
     | nil => have h1 := HP.out.me; have h2 := HP.out.ml; rw [List.append_nil] at h1; rw [h1] at hk; omega
     | cons m M3 => exact ⟨m, M3, rfl⟩
    have hgm : M.getD k 0 = m := by
     have h1 := HP.out.me
     have h2 := HP.out.ml
     rw [h1, ← h2]
     simp [List.getD]
    obtain ⟨gl, rfl, _, hcl⟩ := HLw.out.cellAt (by rw [iw_length]; omega)
    have cl0 := (hcl k (by rw [iw_length]; exact hk)).1
    rw [iw_get hk, hgm] at cl0
    have qkl : (k : Int) < M.length := by omega
    clear hgm hcl hkM
    by_cases hma : m = a
    ·subst hma
     have HQ := Lib.hid (gone_head HP.out)
     clear hk
     go_wp2
     go_roundg (gk - 1)
     case measure => have := HGI.out; have := HIL.out; omega
     case rel => exact ⟨_, k + 1, i + 1, acc, M1 ++ [(a : Int)], M3, P ++ [(a : Int)], Q2, rfl, by first | rfl | go_num, by first | rfl | go_num, by have := HGI.out; have := HIL.out; omega, HI, HQ⟩
    ·obtain ⟨M2, hM2⟩ : ∃ M2, m :: M3 = M2 := ⟨_, rfl⟩
     have HNE : Hid (M2.head? ≠ some (a : Int)) := Lib.hid (by rw [← hM2]; simpa using hma)
     have bma : (m == (a : Int)) = false := by simpa using hma
     rw [hM2] at HP
     clear hM2 hma hk
     go_upto_region 9 with (fail)
     clear cl0 c2 ca0 bma
     go_upto_region 10 with (first | (go_at_call 39; (with_reducible refine (obj_some p va l size a _ _ HTw.out.ar HOB.out).mono ?_); rintro e wo ⟨rfl, hfo⟩))
     obtain ⟨W2, hW2⟩ : ∃ W2, wo.alloc (.cells #[.int .i64 kd, .int .i64 zn, .int .i64 tr, .bool nn] 88) = W2 := ⟨_, rfl⟩
     obtain ⟨D, hD⟩ : ∃ D, wo.heap.size = D := ⟨_, rfl⟩
     have hf2 : Fr wr W2 (fun _ => False) := by rw [← hW2]; exact hfo.alloc _
     have hdb : W2.heap[D]? = some (.cells #[.int .i64 kd, .int .i64 zn, .int .i64 tr, .bool nn] 88 (0, 0)) := by rw [← hW2, ← hD]; exact blk_new _ _ _
     have d0 : W2.cell? ⟨D, 0, none⟩ = some (.int .i64 kd) := by simp [World.cell?, hdb]
     have d1 : W2.cell? ⟨D, 1, none⟩ = some (.int .i64 zn) := by simp [World.cell?, hdb]
     have HT2 := Lib.hid (HTw.out.fr hf2)
     have HI2 := Lib.hid (HI.out.frm hf2)
     have c0' := (HSw.out.keep hf2 (fun h => h)).c0
     simp only [hW2, hD]
     clear hW2 hD hfo hf2 hdb HTw HSw c0
     have hwa : IntKind.i64.wrap ((a : Int) + 1) = a + 1 := IntWalk.i64_in _ (by omega)
     cases hx : rdAt l ((a : Int) + 1) with
     | none =>
      have HX := Lib.hid hx
      have HQ := Lib.hid (gone_none HP.out HNE.out hx)
      clear hx
      go_wp2_with (first | (go_at_call 43; (with_reducible refine (get_no p va l size _ _ HT2.out.ar HX.out).mono ?_); rintro e w4 ⟨rfl, rfl⟩))
      go_roundg (gk - 1)
      case measure => have := HGI.out; have := HIL.out; omega
      case rel => exact ⟨_, k, i + 1, acc, M1, M2, P ++ [(a : Int)], Q2, rfl, rfl, by first | rfl | go_num, by have := HGI.out; have := HIL.out; omega, HI2, HQ⟩
     | some x =>
      have HX := Lib.hid hx
      have hox : okW x := by obtain ⟨j, _, hj, rfl⟩ := rdAt_some hx; exact okWs_getD HT2.out.ar.ok j hj
      by_cases hc : kd = 3 ∧ 0 < (zn : Int) ∧ x ≠ 0
      ·obtain ⟨rfl, h2, h3⟩ := hc
       have b1 : decide (0 < zn) = true := decide_eq_true (by omega)
       have b2 : (x != 0) = true := by simpa using h3
       obtain ⟨y, hy⟩ : ∃ y, (if x < 9223372036854775808 then x else x - 18446744073709551616) = y := ⟨_, rfl⟩
       have hwy : IntKind.i64.wrap x = y := by rw [IntKind.wrap_i64, ← hy]; unfold okW at hox; split <;> omega
       have HQ := Lib.hid (gone_some HP.out HNE.out hx HO0.out ⟨rfl, h2, h3⟩ hy)
       obtain ⟨v', w1, hrun, hown, hfp, hnew⟩ := ints_push y HI2.out.own (by have := HP.out.al; have := HIL.out; have := HLL.out; omega)
       have HRUN := Lib.hid hrun
       have HI3 := Lib.hid (HI2.out.push hown hfp hnew)
       clear hrun hown hfp hnew hx hox hy h2 h3
       go_wp2_with (first | (go_at_call 43; (with_reducible refine (get_c p va l size _ x _ HT2.out.ar HX.out).mono ?_); rintro e w4 ⟨rfl, rfl⟩) | (at_builtin; refine Lib.wpList_append_run _ rfl _ _ _ _ rfl _ _ rfl rfl _ w1 HRUN.out ?_))
       go_roundg (gk - 1)
       case measure => have := HGI.out; have := HIL.out; omega
       case rel => exact ⟨_, k, i + 1, acc ++ [y], M1, M2, P ++ [(a : Int)], Q2, rfl, rfl, by first | rfl | go_num, by have := HGI.out; have := HIL.out; omega, HI3, HQ⟩
      ·have HQ := Lib.hid (gone_not HP.out HNE.out hx HO0.out hc)
       clear hx hox
       by_cases h1 : kd = 3
       ·by_cases h2 : 0 < (zn : Int)
        ·have h3 : x = 0 := by
          by_cases h3 : x = 0
          ·exact h3
          ·exact absurd ⟨h1, h2, h3⟩ hc
         subst h1
         subst h3
         have b1 : decide (0 < zn) = true := decide_eq_true (by omega)
         clear hc h2
         go_wp2_with (first | (go_at_call 43; (with_reducible refine (get_c p va l size _ 0 _ HT2.out.ar HX.out).mono ?_); rintro e w4 ⟨rfl, rfl⟩))
         go_roundg (gk - 1)
         case measure => have := HGI.out; have := HIL.out; omega
         case rel => exact ⟨_, k, i + 1, acc, M1, M2, P ++ [(a : Int)], Q2, rfl, rfl, by first | rfl | go_num, by have := HGI.out; have := HIL.out; omega, HI2, HQ⟩
        ·have b1 : decide (0 < zn) = false := decide_eq_false (by omega)
         subst h1
         clear hc h2
         go_wp2_with (first | (go_at_call 43; (with_reducible refine (get_c p va l size _ x _ HT2.out.ar HX.out).mono ?_); rintro e w4 ⟨rfl, rfl⟩))
         go_roundg (gk - 1)
         case measure => have := HGI.out; have := HIL.out; omega
         case rel => exact ⟨_, k, i + 1, acc, M1, M2, P ++ [(a : Int)], Q2, rfl, rfl, by first | rfl | go_num, by have := HGI.out; have := HIL.out; omega, HI2, HQ⟩
       ·have b1 : (kd == 3) = false := by simpa using h1
        clear hc h1
        go_wp2_with (first | (go_at_call 43; (with_reducible refine (get_c p va l size _ x _ HT2.out.ar HX.out).mono ?_); rintro e w4 ⟨rfl, rfl⟩))
        go_roundg (gk - 1)
        case measure => have := HGI.out; have := HIL.out; omega
        case rel => exact ⟨_, k, i + 1, acc, M1, M2, P ++ [(a : Int)], Q2, rfl, rfl, by first | rfl | go_num, by have := HGI.out; have := HIL.out; omega, HI2, HQ⟩
   ·have hke : k = M.length := by omega
    have HNE : Hid (M2.head? ≠ some (a : Int)) := Lib.hid (by
     have h1 := HP.out.me
     have h2 := HP.out.ml
     have h3 := congrArg List.length h1
     rw [List.length_append] at h3
     have h4 : M2 = [] := List.eq_nil_of_length_eq_zero (by omega)
     rw [h4]; simp)
    have bk : decide (k < M.length) = false := decide_eq_false hk
    clear hk hke hkM
    go_upto_region 9 with (fail)
    clear c2 ca0 bk
    go_upto_region 10 with (first | (go_at_call 39; (with_reducible refine (obj_some p va l size a _ _ HTw.out.ar HOB.out).mono ?_); rintro e wo ⟨rfl, hfo⟩))
    obtain ⟨W2, hW2⟩ : ∃ W2, wo.alloc (.cells #[.int .i64 kd, .int .i64 zn, .int .i64 tr, .bool nn] 88) = W2 := ⟨_, rfl⟩
    obtain ⟨D, hD⟩ : ∃ D, wo.heap.size = D := ⟨_, rfl⟩
    have hf2 : Fr wr W2 (fun _ => False) := by rw [← hW2]; exact hfo.alloc _
    have hdb : W2.heap[D]? = some (.cells #[.int .i64 kd, .int .i64 zn, .int .i64 tr, .bool nn] 88 (0, 0)) := by rw [← hW2, ← hD]; exact blk_new _ _ _
    have d0 : W2.cell? ⟨D, 0, none⟩ = some (.int .i64 kd) := by simp [World.cell?, hdb]
    have d1 : W2.cell? ⟨D, 1, none⟩ = some (.int .i64 zn) := by simp [World.cell?, hdb]
    have HT2 := Lib.hid (HTw.out.fr hf2)
    have HI2 := Lib.hid (HI.out.frm hf2)
    have c0' := (HSw.out.keep hf2 (fun h => h)).c0
    simp only [hW2, hD]
    clear hW2 hD hfo hf2 hdb HTw HSw c0
    have hwa : IntKind.i64.wrap ((a : Int) + 1) = a + 1 := IntWalk.i64_in _ (by omega)
    cases hx : rdAt l ((a : Int) + 1) with
    | none =>
     have HX := Lib.hid hx
     have HQ := Lib.hid (gone_none HP.out HNE.out hx)
     clear hx
     go_wp2_with (first | (go_at_call 43; (with_reducible refine (get_no p va l size _ _ HT2.out.ar HX.out).mono ?_); rintro e w4 ⟨rfl, rfl⟩))
     go_roundg (gk - 1)
     case measure => have := HGI.out; have := HIL.out; omega
     case rel => exact ⟨_, k, i + 1, acc, M1, M2, P ++ [(a : Int)], Q2, rfl, rfl, by first | rfl | go_num, by have := HGI.out; have := HIL.out; omega, HI2, HQ⟩
    | some x =>
     have HX := Lib.hid hx
     have hox : okW x := by obtain ⟨j, _, hj, rfl⟩ := rdAt_some hx; exact okWs_getD HT2.out.ar.ok j hj
     by_cases hc : kd = 3 ∧ 0 < (zn : Int) ∧ x ≠ 0
     ·obtain ⟨rfl, h2, h3⟩ := hc
      have b1 : decide (0 < zn) = true := decide_eq_true (by omega)
      have b2 : (x != 0) = true := by simpa using h3
      obtain ⟨y, hy⟩ : ∃ y, (if x < 9223372036854775808 then x else x - 18446744073709551616) = y := ⟨_, rfl⟩
      have hwy : IntKind.i64.wrap x = y := by rw [IntKind.wrap_i64, ← hy]; unfold okW at hox; split <;> omega
      have HQ := Lib.hid (gone_some HP.out HNE.out hx HO0.out ⟨rfl, h2, h3⟩ hy)
      obtain ⟨v', w1, hrun, hown, hfp, hnew⟩ := ints_push y HI2.out.own (by have := HP.out.al; have := HIL.out; have := HLL.out; omega)
      have HRUN := Lib.hid hrun
      have HI3 := Lib.hid (HI2.out.push hown hfp hnew)
      clear hrun hown hfp hnew hx hox hy h2 h3
      go_wp2_with (first | (go_at_call 43; (with_reducible refine (get_c p va l size _ x _ HT2.out.ar HX.out).mono ?_); rintro e w4 ⟨rfl, rfl⟩) | (at_builtin; refine Lib.wpList_append_run _ rfl _ _ _ _ rfl _ _ rfl rfl _ w1 HRUN.out ?_))
      go_roundg (gk - 1)
      case measure => have := HGI.out; have := HIL.out; omega
      case rel => exact ⟨_, k, i + 1, acc ++ [y], M1, M2, P ++ [(a : Int)], Q2, rfl, rfl, by first | rfl | go_num, by have := HGI.out; have := HIL.out; omega, HI3, HQ⟩
     ·have HQ := Lib.hid (gone_not HP.out HNE.out hx HO0.out hc)
      clear hx hox
      by_cases h1 : kd = 3
      ·by_cases h2 : 0 < (zn : Int)
       ·have h3 : x = 0 := by
         by_cases h3 : x = 0
         ·exact h3
         ·exact absurd ⟨h1, h2, h3⟩ hc
        subst h1
        subst h3
        have b1 : decide (0 < zn) = true := decide_eq_true (by omega)
        clear hc h2
        go_wp2_with (first | (go_at_call 43; (with_reducible refine (get_c p va l size _ 0 _ HT2.out.ar HX.out).mono ?_); rintro e w4 ⟨rfl, rfl⟩))
        go_roundg (gk - 1)
        case measure => have := HGI.out; have := HIL.out; omega
        case rel => exact ⟨_, k, i + 1, acc, M1, M2, P ++ [(a : Int)], Q2, rfl, rfl, by first | rfl | go_num, by have := HGI.out; have := HIL.out; omega, HI2, HQ⟩
       ·have b1 : decide (0 < zn) = false := decide_eq_false (by omega)
        subst h1
        clear hc h2
        go_wp2_with (first | (go_at_call 43; (with_reducible refine (get_c p va l size _ x _ HT2.out.ar HX.out).mono ?_); rintro e w4 ⟨rfl, rfl⟩))
        go_roundg (gk - 1)
        case measure => have := HGI.out; have := HIL.out; omega
        case rel => exact ⟨_, k, i + 1, acc, M1, M2, P ++ [(a : Int)], Q2, rfl, rfl, by first | rfl | go_num, by have := HGI.out; have := HIL.out; omega, HI2, HQ⟩
      ·have b1 : (kd == 3) = false := by simpa using h1
       clear hc h1
       go_wp2_with (first | (go_at_call 43; (with_reducible refine (get_c p va l size _ x _ HT2.out.ar HX.out).mono ?_); rintro e w4 ⟨rfl, rfl⟩))
       go_roundg (gk - 1)
       case measure => have := HGI.out; have := HIL.out; omega
       case rel => exact ⟨_, k, i + 1, acc, M1, M2, P ++ [(a : Int)], Q2, rfl, rfl, by first | rfl | go_num, by have := HGI.out; have := HIL.out; omega, HI2, HQ⟩
  ·have hPQ : Q = [] := by
    have h3 := congrArg List.length HP.out.eq
    rw [List.length_append, HP.out.pl] at h3
    exact List.eq_nil_of_length_eq_zero (by omega)
   have HE : Hid (acc = goneM l M L) := Lib.hid (by have h1 := HP.out.ge; rw [hPQ, goneM, List.append_nil] at h1; exact h1)
   have b2 : decide (i < L.length) = false := decide_eq_false hi
   clear hi hPQ
   go_wp2
   go_ret
   have h1 := HI.out.own
   rw [HE.out] at h1
   exact ⟨_, rfl, h1, HI.out.fr, HI.out.new⟩
end Go.Proofs.YtjiaaefpepdoeaaDoor
namespace Go.Proofs.YtjiaaefpepdoeaaDoor
open Go.RowKit Md
set_option linter.unusedVariables false
set_option maxRecDepth 100000 in
set_option maxHeartbeats 4000000 in
theorem live_c (p : Nat) (v r : Value) (ws rs : List Int) (size : Int) (w : World) (h : Ar 112 w p v ws size) (hr : Rd w r (uw rs)) (hok : okWs rs) (hl : ws.length ≤ 4000) (hlr : rs.length ≤ 4000) :
    Calls Tryd.prog 28 #[.pointer (some ⟨p, 0, none⟩), r] w fun e w' => LvA w w' ws rs e := by
  have HL : Hid (ws.length ≤ 4000 ∧ rs.length ≤ 4000) := Lib.hid ⟨hl, hlr⟩
  have HM : Hid (rs.length + ws.length * ws.length ≤ 16004000) := Lib.hid (by
    have : ws.length * ws.length ≤ 4000 * 4000 := Nat.mul_le_mul hl hl
    omega)
  have HLR : Hid (rs.length ≤ 1073741824) := Lib.hid (by omega)
  have H := Lib.hid h
  have HR := Lib.hid hr
  have HOK := Lib.hid hok
  have q1 : (ws.length : Int) ≤ 4000 := by omega
  clear h hr hok hl hlr
  go_enter Tryd.func28, Tryd.ntmps28
  obtain ⟨w1, hmk, hbo, hfm⟩ := mk_bools ws.length w (by have := HL.out; omega)
  have HA1 := Lib.hid (H.out.fr hfm)
  have HR1 := Lib.hid (HR.out.keep hfm (fun _ _ h => h))
  have HB1 := Lib.hid hbo
  have HF1 := Lib.hid hfm
  clear hbo hfm
  go_upto_region 5 with (first
    | (go_at_call 21; (with_reducible refine (used_c p v ws size _ H.out).mono ?_); rintro e wu ⟨rfl, rfl⟩)
    | (go_at_call 56; (with_reducible refine (clone_c _ rs _ HR1.out HLR.out).mono ?_); rintro e w2 ⟨tv, rfl, hn⟩; have HC2 := Lib.hid hn; have HA2 := Lib.hid (HA1.out.fr hn.2.1); have HB2 := Lib.hid (HB1.out.keep hn.2.1 (fun _ _ h => h)); have HF2 := Lib.hid (HF1.out.trans hn.2.1); clear hn))
  have H0 : Hid (LV w w2 p v ws rs size (.slice (some ⟨w.heap.size, 0, none⟩) ws.length ws.length) tv (List.replicate ws.length false) rs) := Lib.hid ⟨HA2.out, HF2.out, HB2.out, HC2.out.1, (fun k hk => by simp [InBlk, Value.ownBlock] at hk; omega), (fun k hk => Nat.le_trans HF1.out.size (HC2.out.2.2 k hk)), H.out.own.lt, H.out.lt, HOK.out, by simp, fun r h => h⟩
  have HMU : Hid (mu ws (List.replicate ws.length false) rs ≤ rs.length + ws.length * ws.length) := Lib.hid (by unfold mu; rw [unseen_new]; exact Nat.le_refl _)
  obtain ⟨gs, hgs⟩ : ∃ gs, w.heap.size = gs := ⟨_, rfl⟩
  have HGS := Lib.hid hgs
  rw [hgs] at H0 ⊢
  clear HA1 HR1 HB1 HF1 HA2 HB2 HF2 HC2 hgs hmk
  go_loopg [7] (rs.length + ws.length * ws.length) (fun g a7 wr => ∃ (tv : Value) (seen : List Bool) (todo : List Int), tv = a7 ∧ Hid (mu ws seen todo ≤ g ∧ g ≤ rs.length + ws.length * ws.length) ∧ Hid (LV w wr p v ws rs size (.slice (some ⟨gs, 0, none⟩) ws.length ws.length) tv seen todo))
  case atStart => exact ⟨tv, _, _, rfl, Lib.hid ⟨HMU.out, Nat.le_refl _⟩, H0⟩
  case round =>
    clear H0 HMU
    obtain ⟨tv, seen, todo, rfl, HG, HI⟩ := hrel
    obtain ⟨G, rfl⟩ : ∃ G, G = gk := ⟨_, rfl⟩
    by_cases h0 : todo = []
    · subst h0
      obtain ⟨At, ct, rfl⟩ := HI.out.own.rd.len
      have e0 : (uw []).length = 0 := rfl
      rw [e0] at HI ⊢
      clear e0
      go_wp2
      have HSL : Hid (seen.length = ws.length) := Lib.hid HI.out.sl
      have HBK := Lib.hid (HI.out.back (some seen) .nil)
      have HSO := Lib.hid HI.out.so
      have HFW := Lib.hid HI.out.fr
      have HNS := Lib.hid HI.out.ins
      clear HI
      obtain ⟨W0, hW0⟩ : ∃ W0, W0 = wr := ⟨_, rfl⟩
      subst hW0
      go_loopg [15, 83] ws.length (fun g a15 a83 wr => ∃ (lv : Value) (i : Nat), lv = a15 ∧ a83 = .int .i64 i ∧ g + i = ws.length ∧ Hid (Fr w wr (fun _ => False) ∧ Own wr 4 (.slice (some ⟨gs, 0, none⟩) ws.length ws.length) (bw seen) ∧ Own wr 3 lv (iw (upTo seen i)) ∧ ∀ k, InBlk lv k → w.heap.size ≤ k))
      case atStart => exact ⟨_, 0, rfl, rfl, rfl, Lib.hid ⟨HFW.out, HSO.out, Own.nil _ _, fun k hk => by simp [InBlk, Value.ownBlock] at hk⟩⟩
      case round =>
        obtain ⟨lv, i, rfl, rfl, hgi, HI⟩ := hrel
        have HGI := Lib.hid hgi
        clear hgi
        by_cases hi : i < ws.length
        · have HIL := Lib.hid hi
          have qi : (i : Int) < ws.length := by omega
          obtain ⟨b, hb⟩ : ∃ b, seen.getD i false = b := ⟨_, rfl⟩
          have HB := Lib.hid hb
          have cb : wr.cell? ⟨gs, i, none⟩ = some (.bool b) := by
            obtain ⟨b2, e, _, hc⟩ := HI.out.2.1.cellAt (by rw [bw_length, HSL.out]; omega)
            injection e with e
            injection e with e
            subst e
            have h1 := (hc i (by rw [bw_length, HSL.out]; exact hi)).1
            rw [bw_get (by rw [HSL.out]; exact hi), hb] at h1
            exact h1
          clear hi hb
          cases b with
          | true =>
            obtain ⟨v', w1, hrun, ho, hf, hn⟩ := ints_push (i : Int) HI.out.2.2.1 (by have := upTo_len seen i; have := HIL.out; have := HL.out; omega)
            have HRUN := Lib.hid hrun
            have HF := Lib.hid hf
            have HO := Lib.hid ho
            have HN := Lib.hid hn
            clear hrun ho hf hn
            go_wp2_with (at_builtin; refine Lib.wpList_append_run _ rfl _ _ _ _ rfl _ _ rfl rfl _ w1 HRUN.out ?_)
            go_roundg (gk - 1)
            case measure => have := HGI.out; have := HIL.out; omega
            case rel =>
              have e1 : upTo seen (i + 1) = upTo seen i ++ [(i : Int)] := by rw [upTo_succ, if_pos HB.out]
              refine ⟨_, i + 1, rfl, by first | rfl | go_num, by have := HGI.out; have := HIL.out; omega, Lib.hid ⟨HI.out.1.then_ HF.out (fun k hk hlt => by have := HI.out.2.2.2 k hk; omega), HI.out.2.1.keep HF.out (fun k hk e => HI.out.2.1.apart HI.out.2.2.1 (by decide) k hk e), by rw [e1]; exact HO.out, fun k hk => ?_⟩⟩
              rcases HN.out k hk with h1 | h1
              · exact HI.out.2.2.2 k h1
              · exact Nat.le_trans HI.out.1.size h1
          | false =>
            go_wp2
            go_roundg (gk - 1)
            case measure => have := HGI.out; have := HIL.out; omega
            case rel =>
              have e1 : upTo seen (i + 1) = upTo seen i := by rw [upTo_succ, if_neg (by rw [HB.out]; decide)]
              exact ⟨_, i + 1, rfl, by first | rfl | go_num, by have := HGI.out; have := HIL.out; omega, Lib.hid ⟨HI.out.1, HI.out.2.1, by rw [e1]; exact HI.out.2.2.1, HI.out.2.2.2⟩⟩
        · have hie : i = ws.length := by have := HGI.out; omega
          have b3 : decide (i < ws.length) = false := decide_eq_false hi
          have HO : Hid (Own wr 3 lv (iw (seenList seen))) := Lib.hid (by have := HI.out.2.2.1; rw [hie, ← HSL.out] at this; exact this)
          clear hi hie
          go_wp2
          go_ret2
          exact ⟨some seen, _, HBK.out, rfl, HO.out, HI.out.1, HI.out.2.2.2⟩
    · obtain ⟨rest, x, rfl⟩ : ∃ rest x, todo = rest ++ [x] := ⟨todo.dropLast, todo.getLast h0, (List.dropLast_concat_getLast h0).symm⟩
      obtain ⟨n, hn⟩ : ∃ n, rest.length = n := ⟨_, rfl⟩
      have HN := Lib.hid hn
      have hlt : (rest ++ [x]).length = n + 1 := by simp [hn]
      obtain ⟨At, ct, rfl⟩ := HI.out.own.rd.len
      rw [uw_length, hlt] at HI ⊢
      obtain ⟨gt, rfl, _, hct⟩ := HI.out.own.cellAt (by rw [uw_length]; omega)
      have cx := (hct n (by rw [uw_length]; omega)).1
      rw [uw_get (by omega)] at cx
      have hxg : (rest ++ [x]).getD n 0 = x := by rw [← hn]; simp [List.getD]
      rw [hxg] at cx
      have HX : Hid (okW x) := Lib.hid (HI.out.okt x (by simp))
      have hcap : n + 1 ≤ ct := by
        rcases HI.out.own.form with ⟨e, _⟩ | ⟨g', cap', e, hl, _⟩
        · cases e
        · injection e with e1 e2 e3; rw [uw_length] at hl; omega
      have qn : (n : Int) ≤ 16004000 := by have := HG.out; have := HM.out; unfold mu at *; omega
      have qc : (n : Int) < ct := by omega
      have hmn : ((n + 1 : Nat) : Int) - 1 = n := by omega
      clear h0 hn hlt hct hxg hcap
      go_upto_region 8 with (fail)
      obtain ⟨t, ht⟩ : ∃ t, tagW x = t := ⟨_, rfl⟩
      have HT := Lib.hid ht
      clear ht cx hmn qc
      by_cases h5 : t = 5
      · subst h5
        obtain ⟨nv, hnv⟩ : ∃ n, valW x = n := ⟨_, rfl⟩
        have HV := Lib.hid hnv
        cases hob : objAt ws nv with
        | none =>
          have HOB := Lib.hid hob
          have HLW := Lib.hid (HI.out.lw)
          have HBK := Lib.hid (HI.out.back none (.bad HT.out (by rw [hnv]; exact hob)))
          clear hnv hob HI
          go_wp2_with (first | (go_at_call 60; (with_reducible refine (Wd.tag_c x 5 _ HX.out HT.out).mono ?_); rintro e wt ⟨rfl, nt, rfl⟩) | (go_at_call 61; (with_reducible refine (Wd.val_c x nv _ HX.out HV.out).mono ?_); rintro e wv ⟨rfl, n3, rfl⟩; have HL3 := Lib.hid (HLW.out.frm ((Fr.refl _ _).drewN (nt + n3)))) | (go_at_call 39; (with_reducible refine (obj_none p v ws size nv _ HL3.out.ar HOB.out).mono ?_); rintro e wo ⟨rfl, hfo⟩; have HL4 := Lib.hid (HL3.out.frm hfo); clear hfo))
          go_ret2
          exact ⟨none, _, HBK.out, rfl, Own.nil _ _, HL4.out.fr.alloc _, fun k hk => by simp [InBlk, Value.ownBlock] at hk⟩
        | some hd =>
          have HOB := Lib.hid hob
          obtain ⟨hb0, hb1, hrd, hz0, hz1, hz2⟩ := obj_facts hob
          obtain ⟨k, rfl⟩ := Int.eq_ofNat_of_zero_le hb0
          obtain ⟨kd, z, th, nn⟩ := hd
          simp only at hz0 hz1 hz2
          have HZ : Hid (0 ≤ z ∧ z < 1048576 ∧ (k : Int) + 1 + z ≤ ws.length) := Lib.hid ⟨hz0, hz1, hz2⟩
          have qk : (k : Int) < ws.length := hb1
          have HK : Hid (k < ws.length) := Lib.hid (by omega)
          have HKS : Hid (k < seen.length) := Lib.hid (by rw [HI.out.sl]; omega)
          obtain ⟨f, hfd⟩ : ∃ f, fieldsH ⟨kd, z, th, nn⟩ = f := ⟨_, rfl⟩
          have HFD := Lib.hid hfd
          obtain ⟨bs, hbs⟩ : ∃ bs, seen.getD k false = bs := ⟨_, rfl⟩
          have HBS := Lib.hid hbs
          clear hnv hob hb0 hb1 hrd hz0 hz1 hz2 hfd hbs
          go_upto_region 11 with (first | (go_at_call 60; (with_reducible refine (Wd.tag_c x 5 _ HX.out HT.out).mono ?_); rintro e wt ⟨rfl, nt, rfl⟩) | (go_at_call 61; (with_reducible refine (Wd.val_c x (k : Int) _ HX.out HV.out).mono ?_); rintro e wv ⟨rfl, n3, rfl⟩; have HL3 := Lib.hid (HI.out.frm ((Fr.refl _ _).drewN (nt + n3)))) | (go_at_call 39; (with_reducible refine (obj_some p v ws size k _ _ HL3.out.ar HOB.out).mono ?_); rintro e wo ⟨rfl, hfo⟩))
          obtain ⟨W2, hW2⟩ : ∃ W2, wo.alloc (.cells #[.int .i64 kd, .int .i64 z, .int .i64 th, .bool nn] 88) = W2 := ⟨_, rfl⟩
          obtain ⟨D, hD⟩ : ∃ D, wo.heap.size = D := ⟨_, rfl⟩
          have hf2 : Fr (wr.drewN (nt + n3)) W2 (fun _ => False) := by rw [← hW2]; exact hfo.alloc _
          have hdb : W2.heap[D]? = some (.cells #[.int .i64 kd, .int .i64 z, .int .i64 th, .bool nn] 88 (0, 0)) := by rw [← hW2, ← hD]; exact blk_new _ _ _
          have HL4 := Lib.hid (HL3.out.frm hf2)
          have HDB := Lib.hid hdb
          simp only [hW2, hD]
          obtain ⟨cb, fb⟩ : W2.cell? ⟨gs, k, none⟩ = some (.bool bs) ∧ W2.frozen? ⟨gs, k, none⟩ = false := by
            obtain ⟨b, e, _, hc⟩ := HL4.out.so.cellAt (by rw [bw_length]; have := HKS.out; omega)
            injection e with e
            injection e with e
            subst e
            have h1 := hc k (by rw [bw_length]; exact HKS.out)
            rw [bw_get HKS.out, HBS.out] at h1
            exact h1
          have HBK := Lib.hid HI.out.back
          clear hW2 hD hfo hf2 hdb HI HL3
          cases bs with
          | true =>
            have HLP := Lib.hid (HL4.out.pop HN.out (fun r hr => .old HT.out (by rw [HV.out]; exact HOB.out) (by rw [HV.out]; exact HBS.out) hr))
            go_wp2
            go_roundg (G - 1)
            case measure => have := HG.out; unfold mu at this; simp at this; omega
            case rel => exact ⟨_, seen, rest, rfl, Lib.hid ⟨by have := HG.out; unfold mu at this ⊢; simp at this; omega, by have := HG.out; omega⟩, HLP⟩
          | false =>
            go_upto_region 15 with (fail)
            have hlw := HL4.out.lw
            have hpop : LW w W2 p v ws size (.slice (some ⟨gs, 0, none⟩) ws.length ws.length) (.slice (some ⟨gt, 0, none⟩) n ct) seen rest := ⟨hlw.ar, hlw.fr, hlw.so, Own.pop (x := .int .u64 x) (by have := hlw.own; rw [uw_append] at this; exact this) (by rw [uw_length]; exact HN.out), hlw.ins, fun k hk => hlw.int k (by simpa [InBlk, Value.ownBlock] using hk), hlw.vlt, hlw.plt, fun y hy => hlw.okt y (by simp [hy]), hlw.sl⟩
            have HL5 := Lib.hid (hpop.see hlw.sl HKS.out)
            have hD5 := (Fr.setCell (S := fun i => i = gs) (a := ⟨gs, k, none⟩) (Fr.refl W2 _) (fun _ => rfl) (.bool true)).blk HDB.out (fun e => hlw.so.not_box HDB.out (by decide) (by rw [e]; simp [InBlk, Value.ownBlock]))
            obtain ⟨W3, hW3⟩ : ∃ W3, W2.setCell ⟨gs, k, none⟩ (.bool true) = W3 := ⟨_, rfl⟩
            rw [hW3] at HL5 hD5 ⊢
            have HD5 := Lib.hid hD5
            have d0 : W3.cell? ⟨D, 0, none⟩ = some (.int .i64 kd) := by simp [World.cell?, hD5]
            have d1 : W3.cell? ⟨D, 1, none⟩ = some (.int .i64 z) := by simp [World.cell?, hD5]
            have d2 : W3.cell? ⟨D, 2, none⟩ = some (.int .i64 th) := by simp [World.cell?, hD5]
            have d3 : W3.cell? ⟨D, 3, none⟩ = some (.bool nn) := by simp [World.cell?, hD5]
            clear hlw hpop hW3 hD5 cb fb HL4
            by_cases hfz : f < z
            · obtain ⟨fm, rfl⟩ := Int.eq_ofNat_of_zero_le (show 0 ≤ f by rw [← HFD.out]; exact fieldsH_nonneg HZ.out.1)
              have HFM : Hid ((k : Int) + 1 + fm ≤ ws.length) := Lib.hid (by have := HZ.out; omega)
              have HNF : Hid (nFields ⟨kd, z, th, nn⟩ = fm) := Lib.hid (by unfold nFields; rw [HFD.out]; simp only; omega)
              go_region_held3 (fun w' => w'.cell? ⟨D, 0, none⟩ = some (.int .i64 kd) ∧ w'.cell? ⟨D, 1, none⟩ = some (.int .i64 z) ∧ w'.cell? ⟨D, 2, none⟩ = some (.int .i64 th) ∧ w'.cell? ⟨D, 3, none⟩ = some (.bool nn))
                (first | exact ⟨g0, g1, g2, g3⟩ | exact ⟨d0, d1, d2, d3⟩)
                (first
                  | (go_at_call 42; (with_reducible refine (Wd.fields_c kd z th nn (fm : Int) _ HFD.out).mono ?_); rintro e wa ⟨rfl, hb⟩; have hfb := (Fr.of_below hb (fun _ => False)); have g0 := hfb.cell (a := ⟨D, 0, none⟩) d0 (fun h => h); have g1 := hfb.cell (a := ⟨D, 1, none⟩) d1 (fun h => h); have g2 := hfb.cell (a := ⟨D, 2, none⟩) d2 (fun h => h); have g3 := hfb.cell (a := ⟨D, 3, none⟩) d3 (fun h => h); have HL6 := Lib.hid ((HL5.out.frm ((Fr.refl W3 (fun _ => False)).drew)).frm hfb); clear hb hfb))
              clear g0 g1 g2 g3 d0 d1 d2 d3
              go_wp2
              go_loopg [7, 64] fm (fun g a7 a64 wr => ∃ (tv : Value) (i : Nat), tv = a7 ∧ a64 = .int .i64 i ∧ g + i = fm ∧ Hid (LW w wr p v ws size (.slice (some ⟨gs, 0, none⟩) ws.length ws.length) tv (seen.set k true) (rest ++ fieldsAt ws k i)))
              case atStart => exact ⟨_, 0, rfl, rfl, rfl, Lib.hid (by have := HL6.out; simpa [fieldsAt] using this)⟩
              case round =>
                clear HL6
                obtain ⟨tv, i, rfl, rfl, hgi, HI⟩ := hrel
                have HGI := Lib.hid hgi
                clear hgi
                by_cases hi : i < fm
                · have HIL := Lib.hid hi
                  have qi : (i : Int) < fm := by omega
                  have qf : (fm : Int) ≤ 4000 := by have := HFM.out; have := HL.out; omega
                  obtain ⟨y, hy⟩ : ∃ y, rdAt ws ((k : Int) + 1 + i) = some y := by
                    have := HFM.out
                    unfold rdAt
                    rw [if_pos (by omega)]
                    exact ⟨_, rfl⟩
                  have HY := Lib.hid hy
                  have hoy : okW y := by obtain ⟨j, _, hj, rfl⟩ := rdAt_some hy; exact okWs_getD HI.out.ar.ok j hj
                  obtain ⟨v', w1, hrun, hLp, _⟩ := HI.out.push y hoy (by rw [List.length_append, HN.out]; have := HFM.out; have := HL.out; have : (fieldsAt ws k i).length = i := by simp [fieldsAt]
                                                                         omega)
                  have HRUN := Lib.hid hrun
                  have HLp := Lib.hid hLp
                  clear hi hy hoy hrun hLp
                  go_wp2_with (first
                    | (go_at_call 43; (with_reducible refine (get_c p v ws size _ y _ HI.out.ar HY.out).mono ?_); rintro e w5 ⟨rfl, rfl⟩)
                    | (at_builtin; refine Lib.wpList_append_run _ rfl _ _ _ _ rfl _ _ rfl rfl _ w1 HRUN.out ?_))
                  go_roundg (gk - 1)
                  case measure => have := HGI.out; have := HIL.out; omega
                  case rel =>
                    refine ⟨_, i + 1, rfl, by first | rfl | go_num, by have := HGI.out; have := HIL.out; omega, Lib.hid ?_⟩
                    have e1 : rest ++ fieldsAt ws k (i + 1) = (rest ++ fieldsAt ws k i) ++ [y] := by
                      rw [fieldsAt_succ, ← List.append_assoc]
                      congr 2
                      unfold rd0
                      rw [HY.out]; rfl
                    rw [e1]
                    exact HLp.out
                · have HIE : Hid (i = fm) := Lib.hid (by have := HGI.out; omega)
                  have b7 : decide (i < fm) = false := decide_eq_false hi
                  clear hi
                  go_wp2
                  go_roundg (G - 1)
                  case measure =>
                    have := HG.out
                    have h2 : mu ws seen (rest ++ [x]) = mu ws seen (rest ++ [x]) := rfl
                    unfold mu at this; simp at this; omega
                  case rel =>
                    refine ⟨_, seen.set k true, rest ++ fieldsAt ws k fm, rfl, Lib.hid ⟨?_, by have := HG.out; omega⟩, Lib.hid ?_⟩
                    · have h1 := mu_new (ws := ws) (rest := rest) (x := k) (n := fm) HKS.out HBS.out (by have := HFM.out; omega)
                      have h2 := HG.out
                      have h3 : mu ws seen (rest ++ [(k : Int)]) = mu ws seen (rest ++ [x]) := by unfold mu; simp
                      omega
                    · have h1 := HI.out
                      rw [HIE.out] at h1
                      refine h1.lv (fun r hr => HBK.out r (.new HT.out (by rw [HV.out]; exact HOB.out) (by rw [HV.out]; exact HBS.out) ?_))
                      rw [HV.out, HNF.out]
                      exact hr
            · by_cases hzf : z < f
              · obtain ⟨fm, rfl⟩ := Int.eq_ofNat_of_zero_le (show 0 ≤ z from HZ.out.1)
                have HFM : Hid ((k : Int) + 1 + fm ≤ ws.length) := Lib.hid (by have := HZ.out; omega)
                have HNF : Hid (nFields ⟨kd, fm, th, nn⟩ = fm) := Lib.hid (by unfold nFields; rw [HFD.out]; simp only; omega)
                go_region_held3 (fun w' => w'.cell? ⟨D, 0, none⟩ = some (.int .i64 kd) ∧ w'.cell? ⟨D, 1, none⟩ = some (.int .i64 (fm : Int)) ∧ w'.cell? ⟨D, 2, none⟩ = some (.int .i64 th) ∧ w'.cell? ⟨D, 3, none⟩ = some (.bool nn))
                  (first | exact ⟨g0, g1, g2, g3⟩ | exact ⟨d0, d1, d2, d3⟩)
                  (first
                    | (go_at_call 42; (with_reducible refine (Wd.fields_c kd (fm : Int) th nn f _ HFD.out).mono ?_); rintro e wa ⟨rfl, hb⟩; have hfb := (Fr.of_below hb (fun _ => False)); have g0 := hfb.cell (a := ⟨D, 0, none⟩) d0 (fun h => h); have g1 := hfb.cell (a := ⟨D, 1, none⟩) d1 (fun h => h); have g2 := hfb.cell (a := ⟨D, 2, none⟩) d2 (fun h => h); have g3 := hfb.cell (a := ⟨D, 3, none⟩) d3 (fun h => h); have HL6 := Lib.hid ((HL5.out.frm ((Fr.refl W3 (fun _ => False)).drew)).frm hfb); clear hb hfb))
                clear g0 g1 g2 g3 d0 d1 d2 d3
                go_wp2
                go_loopg [7, 64] fm (fun g a7 a64 wr => ∃ (tv : Value) (i : Nat), tv = a7 ∧ a64 = .int .i64 i ∧ g + i = fm ∧ Hid (LW w wr p v ws size (.slice (some ⟨gs, 0, none⟩) ws.length ws.length) tv (seen.set k true) (rest ++ fieldsAt ws k i)))
                case atStart => exact ⟨_, 0, rfl, rfl, rfl, Lib.hid (by have := HL6.out; simpa [fieldsAt] using this)⟩
                case round =>
                  clear HL6
                  obtain ⟨tv, i, rfl, rfl, hgi, HI⟩ := hrel
                  have HGI := Lib.hid hgi
                  clear hgi
                  by_cases hi : i < fm
                  · have HIL := Lib.hid hi
                    have qi : (i : Int) < fm := by omega
                    have qf : (fm : Int) ≤ 4000 := by have := HFM.out; have := HL.out; omega
                    obtain ⟨y, hy⟩ : ∃ y, rdAt ws ((k : Int) + 1 + i) = some y := by
                      have := HFM.out
                      unfold rdAt
                      rw [if_pos (by omega)]
                      exact ⟨_, rfl⟩
                    have HY := Lib.hid hy
                    have hoy : okW y := by obtain ⟨j, _, hj, rfl⟩ := rdAt_some hy; exact okWs_getD HI.out.ar.ok j hj
                    obtain ⟨v', w1, hrun, hLp, _⟩ := HI.out.push y hoy (by rw [List.length_append, HN.out]; have := HFM.out; have := HL.out; have : (fieldsAt ws k i).length = i := by simp [fieldsAt]
                                                                           omega)
                    have HRUN := Lib.hid hrun
                    have HLp := Lib.hid hLp
                    clear hi hy hoy hrun hLp
                    go_wp2_with (first
                      | (go_at_call 43; (with_reducible refine (get_c p v ws size _ y _ HI.out.ar HY.out).mono ?_); rintro e w5 ⟨rfl, rfl⟩)
                      | (at_builtin; refine Lib.wpList_append_run _ rfl _ _ _ _ rfl _ _ rfl rfl _ w1 HRUN.out ?_))
                    go_roundg (gk - 1)
                    case measure => have := HGI.out; have := HIL.out; omega
                    case rel =>
                      refine ⟨_, i + 1, rfl, by first | rfl | go_num, by have := HGI.out; have := HIL.out; omega, Lib.hid ?_⟩
                      have e1 : rest ++ fieldsAt ws k (i + 1) = (rest ++ fieldsAt ws k i) ++ [y] := by
                        rw [fieldsAt_succ, ← List.append_assoc]
                        congr 2
                        unfold rd0
                        rw [HY.out]; rfl
                      rw [e1]
                      exact HLp.out
                  · have HIE : Hid (i = fm) := Lib.hid (by have := HGI.out; omega)
                    have b7 : decide (i < fm) = false := decide_eq_false hi
                    clear hi
                    go_wp2
                    go_roundg (G - 1)
                    case measure =>
                      have := HG.out
                      have h2 : mu ws seen (rest ++ [x]) = mu ws seen (rest ++ [x]) := rfl
                      unfold mu at this; simp at this; omega
                    case rel =>
                      refine ⟨_, seen.set k true, rest ++ fieldsAt ws k fm, rfl, Lib.hid ⟨?_, by have := HG.out; omega⟩, Lib.hid ?_⟩
                      · have h1 := mu_new (ws := ws) (rest := rest) (x := k) (n := fm) HKS.out HBS.out (by have := HFM.out; omega)
                        have h2 := HG.out
                        have h3 : mu ws seen (rest ++ [(k : Int)]) = mu ws seen (rest ++ [x]) := by unfold mu; simp
                        omega
                      · have h1 := HI.out
                        rw [HIE.out] at h1
                        refine h1.lv (fun r hr => HBK.out r (.new HT.out (by rw [HV.out]; exact HOB.out) (by rw [HV.out]; exact HBS.out) ?_))
                        rw [HV.out, HNF.out]
                        exact hr
              · obtain rfl : z = f := by omega
                obtain ⟨fm, rfl⟩ := Int.eq_ofNat_of_zero_le (show 0 ≤ z from HZ.out.1)
                have HFM : Hid ((k : Int) + 1 + fm ≤ ws.length) := Lib.hid (by have := HZ.out; omega)
                have HNF : Hid (nFields ⟨kd, fm, th, nn⟩ = fm) := Lib.hid (by unfold nFields; rw [HFD.out]; simp only; omega)
                go_region_held3 (fun w' => w'.cell? ⟨D, 0, none⟩ = some (.int .i64 kd) ∧ w'.cell? ⟨D, 1, none⟩ = some (.int .i64 (fm : Int)) ∧ w'.cell? ⟨D, 2, none⟩ = some (.int .i64 th) ∧ w'.cell? ⟨D, 3, none⟩ = some (.bool nn))
                  (first | exact ⟨g0, g1, g2, g3⟩ | exact ⟨d0, d1, d2, d3⟩)
                  (first
                    | (go_at_call 42; (with_reducible refine (Wd.fields_c kd (fm : Int) th nn (fm : Int) _ HFD.out).mono ?_); rintro e wa ⟨rfl, hb⟩; have hfb := (Fr.of_below hb (fun _ => False)); have g0 := hfb.cell (a := ⟨D, 0, none⟩) d0 (fun h => h); have g1 := hfb.cell (a := ⟨D, 1, none⟩) d1 (fun h => h); have g2 := hfb.cell (a := ⟨D, 2, none⟩) d2 (fun h => h); have g3 := hfb.cell (a := ⟨D, 3, none⟩) d3 (fun h => h); have HL6 := Lib.hid ((HL5.out.frm ((Fr.refl W3 (fun _ => False)).drew)).frm hfb); clear hb hfb))
                clear g0 g1 g2 g3 d0 d1 d2 d3
                go_wp2
                go_loopg [7, 64] fm (fun g a7 a64 wr => ∃ (tv : Value) (i : Nat), tv = a7 ∧ a64 = .int .i64 i ∧ g + i = fm ∧ Hid (LW w wr p v ws size (.slice (some ⟨gs, 0, none⟩) ws.length ws.length) tv (seen.set k true) (rest ++ fieldsAt ws k i)))
                case atStart => exact ⟨_, 0, rfl, rfl, rfl, Lib.hid (by have := HL6.out; simpa [fieldsAt] using this)⟩
                case round =>
                  clear HL6
                  obtain ⟨tv, i, rfl, rfl, hgi, HI⟩ := hrel
                  have HGI := Lib.hid hgi
                  clear hgi
                  by_cases hi : i < fm
                  · have HIL := Lib.hid hi
                    have qi : (i : Int) < fm := by omega
                    have qf : (fm : Int) ≤ 4000 := by have := HFM.out; have := HL.out; omega
                    obtain ⟨y, hy⟩ : ∃ y, rdAt ws ((k : Int) + 1 + i) = some y := by
                      have := HFM.out
                      unfold rdAt
                      rw [if_pos (by omega)]
                      exact ⟨_, rfl⟩
                    have HY := Lib.hid hy
                    have hoy : okW y := by obtain ⟨j, _, hj, rfl⟩ := rdAt_some hy; exact okWs_getD HI.out.ar.ok j hj
                    obtain ⟨v', w1, hrun, hLp, _⟩ := HI.out.push y hoy (by rw [List.length_append, HN.out]; have := HFM.out; have := HL.out; have : (fieldsAt ws k i).length = i := by simp [fieldsAt]
                                                                           omega)
                    have HRUN := Lib.hid hrun
                    have HLp := Lib.hid hLp
                    clear hi hy hoy hrun hLp
                    go_wp2_with (first
                      | (go_at_call 43; (with_reducible refine (get_c p v ws size _ y _ HI.out.ar HY.out).mono ?_); rintro e w5 ⟨rfl, rfl⟩)
                      | (at_builtin; refine Lib.wpList_append_run _ rfl _ _ _ _ rfl _ _ rfl rfl _ w1 HRUN.out ?_))
                    go_roundg (gk - 1)
                    case measure => have := HGI.out; have := HIL.out; omega
                    case rel =>
                      refine ⟨_, i + 1, rfl, by first | rfl | go_num, by have := HGI.out; have := HIL.out; omega, Lib.hid ?_⟩
                      have e1 : rest ++ fieldsAt ws k (i + 1) = (rest ++ fieldsAt ws k i) ++ [y] := by
                        rw [fieldsAt_succ, ← List.append_assoc]
                        congr 2
                        unfold rd0
                        rw [HY.out]; rfl
                      rw [e1]
                      exact HLp.out
                  · have HIE : Hid (i = fm) := Lib.hid (by have := HGI.out; omega)
                    have b7 : decide (i < fm) = false := decide_eq_false hi
                    clear hi
                    go_wp2
                    go_roundg (G - 1)
                    case measure =>
                      have := HG.out
                      have h2 : mu ws seen (rest ++ [x]) = mu ws seen (rest ++ [x]) := rfl
                      unfold mu at this; simp at this; omega
                    case rel =>
                      refine ⟨_, seen.set k true, rest ++ fieldsAt ws k fm, rfl, Lib.hid ⟨?_, by have := HG.out; omega⟩, Lib.hid ?_⟩
                      · have h1 := mu_new (ws := ws) (rest := rest) (x := k) (n := fm) HKS.out HBS.out (by have := HFM.out; omega)
                        have h2 := HG.out
                        have h3 : mu ws seen (rest ++ [(k : Int)]) = mu ws seen (rest ++ [x]) := by unfold mu; simp
                        omega
                      · have h1 := HI.out
                        rw [HIE.out] at h1
                        refine h1.lv (fun r hr => HBK.out r (.new HT.out (by rw [HV.out]; exact HOB.out) (by rw [HV.out]; exact HBS.out) ?_))
                        rw [HV.out, HNF.out]
                        exact hr
      · have b5 : (t == 5) = false := by simpa using h5
        have b5n : (t != 5) = true := by simpa using h5
        have HLP := Lib.hid (HI.out.pop HN.out (fun r hr => .other (by rw [HT.out]; exact h5) hr))
        clear HI
        go_wp2_with (first | (go_at_call 60; (with_reducible refine (Wd.tag_c x t _ HX.out HT.out).mono ?_); rintro e wt ⟨rfl, nt, rfl⟩))
        go_roundg (G - 1)
        case measure => have := HG.out; unfold mu at this; simp at this; omega
        case rel => exact ⟨_, seen, rest, rfl, Lib.hid ⟨by have := HG.out; unfold mu at this ⊢; simp at this; omega, by have := HG.out; omega⟩, Lib.hid (HLP.out.frm ((Fr.refl _ _).drewN nt))⟩
end Go.Proofs.YtjiaaefpepdoeaaDoor
namespace Go.Proofs.YtjiaaefpepdoeaaDoor
open Go.RowKit Md
set_option linter.unusedVariables false
set_option maxRecDepth 100000 in
set_option maxHeartbeats 4000000 in
theorem msound_c (x : Int) (sv : Value) (isl : List Bool) (w : World) (h : Own w 4 sv (bw isl)) (hx : okW x) :
  Calls Tryd.prog 41 #[.int .u64 x, sv] w fun e w' => e = .returned (.bool (soundW x isl)) ∧ Drawn w w' := by
 obtain ⟨t, ht⟩ : ∃ t, tagW x = t := ⟨_, rfl⟩
 obtain ⟨n, hn⟩ : ∃ n, valW x = n := ⟨_, rfl⟩
 have HX := Lib.hid hx
 have HT := Lib.hid ht
 have HN := Lib.hid hn
 obtain ⟨A, cb, rfl⟩ := h.rd.len
 have H := Lib.hid h
 rw [bw_length] at *
 have hsw : soundW x isl = if t = 6 ∨ t = 7 then false else if t = 5 then (decide (0 ≤ n) && decide (n < isl.length) && isl.getD n.toNat false) else true := by unfold soundW; rw [ht, hn]
 rw [hsw]
 clear hx ht hn hsw h
 by_cases h6 : t = 6
 ·subst h6
  rw [if_pos (.inl rfl)]
  go_enter Tryd.func41, Tryd.ntmps41
  go_wp2_with (first | (go_at_call 60; (with_reducible refine (Wd.tag_c x 6 _ HX.out HT.out).mono ?_); rintro e wt ⟨rfl, nt, rfl⟩))
  go_ret
  exact ⟨rfl, nt, rfl⟩
 ·have b6 : (t == 6) = false := by simpa using h6
  by_cases h7 : t = 7
  ·subst h7
   rw [if_pos (.inr rfl)]
   clear b6 h6
   go_enter Tryd.func41, Tryd.ntmps41
   go_wp2_with (first | (go_at_call 60; (with_reducible refine (Wd.tag_c x 7 _ HX.out HT.out).mono ?_); rintro e wt ⟨rfl, nt, rfl⟩))
   go_ret
   exact ⟨rfl, nt, rfl⟩
  ·have b7 : (t == 7) = false := by simpa using h7
   rw [if_neg (by omega)]
   by_cases h5 : t = 5
   ·subst h5
    rw [if_pos rfl]
    clear b6 h6 b7 h7
    by_cases hn0 : n < 0
    ·have b1 : decide (0 ≤ n) = false := decide_eq_false (by omega)
     rw [b1]
     clear hn0
     go_enter Tryd.func41, Tryd.ntmps41
     go_wp2_with (first | (go_at_call 60; (with_reducible refine (Wd.tag_c x 5 _ HX.out HT.out).mono ?_); rintro e wt ⟨rfl, nt, rfl⟩) | (go_at_call 61; (with_reducible refine (Wd.val_c x n _ HX.out HN.out).mono ?_); rintro e wv ⟨rfl, nv, rfl⟩))
     go_ret
     exact ⟨rfl, _, rfl⟩
    ·obtain ⟨m, rfl⟩ := Int.eq_ofNat_of_zero_le (show 0 ≤ n by omega)
     have b1 : decide ((0 : Int) ≤ m) = true := decide_eq_true (by omega)
     rw [b1]
     by_cases hm : m < isl.length
     ·have b2 : decide ((m : Int) < isl.length) = true := decide_eq_true (by omega)
      have b3 : decide (m < isl.length) = true := decide_eq_true hm
      have qm : (m : Int) < isl.length := by omega
      rw [b2]
      obtain ⟨gb, rfl, hc⟩ : ∃ gb, A = some ⟨gb, 0, none⟩ ∧ ∀ W : World, Fr w W (fun _ => False) → W.cell? ⟨gb, m, none⟩ = some (.bool (isl.getD m false)) := by
       rcases H.out.form with ⟨e, h0⟩ | ⟨g', cap', e, hl, hm2, hg, hcb, hfb⟩
       ·injection e with e1 e2 e3; omega
       ·injection e with e1 e2 e3
        refine ⟨g', e1, fun W hf => hf.cell ?_ (fun h => h)⟩
        have := hcb m (by rw [bw_length]; exact hm)
        rw [bw_get hm] at this
        exact this
      have HC := Lib.hid hc
      have e1 : (m : Int).toNat = m := rfl
      rw [e1]
      obtain ⟨bb, hbb⟩ : ∃ bb, isl.getD m false = bb := ⟨_, rfl⟩
      rw [hbb] at HC ⊢
      clear hbb hc hn0 hm e1
      go_enter Tryd.func41, Tryd.ntmps41
      go_upto_region 7 with (first | (go_at_call 60; (with_reducible refine (Wd.tag_c x 5 _ HX.out HT.out).mono ?_); rintro e wt ⟨rfl, nt, rfl⟩) | (go_at_call 61; (with_reducible refine (Wd.val_c x (m : Int) _ HX.out HN.out).mono ?_); rintro e wv ⟨rfl, nv, rfl⟩))
      have k0 := HC.out _ ((Fr.refl w _).drewN (nt + nv))
      go_wp2
      go_ret
      exact ⟨by simp, _, rfl⟩
     ·have b2 : decide ((m : Int) < isl.length) = false := decide_eq_false (by omega)
      have b3 : decide (m < isl.length) = false := decide_eq_false hm
      rw [b2]
      clear hn0 hm
      go_enter Tryd.func41, Tryd.ntmps41
      go_wp2_with (first | (go_at_call 60; (with_reducible refine (Wd.tag_c x 5 _ HX.out HT.out).mono ?_); rintro e wt ⟨rfl, nt, rfl⟩) | (go_at_call 61; (with_reducible refine (Wd.val_c x (m : Int) _ HX.out HN.out).mono ?_); rintro e wv ⟨rfl, nv, rfl⟩))
      go_ret
      exact ⟨rfl, _, rfl⟩
   ·rw [if_neg h5]
    have b5 : (t == 5) = false := by simpa using h5
    clear h5 h6 h7
    go_enter Tryd.func41, Tryd.ntmps41
    go_wp2_with (first | (go_at_call 60; (with_reducible refine (Wd.tag_c x t _ HX.out HT.out).mono ?_); rintro e wt ⟨rfl, nt, rfl⟩))
    go_ret
    exact ⟨rfl, nt, rfl⟩
end Go.Proofs.YtjiaaefpepdoeaaDoor
namespace Go.Proofs.YtjiaaefpepdoeaaDoor
open Go.RowKit Md
set_option linter.unusedVariables false
structure MS (w W : World) (p : Nat) (v r : Value) (ws rs : List Int) (size : Int) (L : List Int) (lv bv : Value) (i : Nat) : Prop where
 ar : Ar 112 W p v ws size
 fr : Fr w W fun _ => False
 lo : Own W 3 lv (iw L)
 bo : Own W 4 bv (bw (isList ws.length (L.take i)))
 rd : Rd W r (uw rs)
 inb : ∀ k, InBlk bv k → w.heap.size ≤ k
 vlt : ∀ k, InBlk v k → k < w.heap.size
 plt : p < w.heap.size
 rlt : 0 < rs.length → ∀ k, InBlk r k → k < w.heap.size
section
variable {w W W1 : World} {p : Nat} {v r : Value} {ws rs : List Int} {size : Int} {L : List Int} {lv bv : Value} {i : Nat}
theorem MS.frm (h : MS w W p v r ws rs size L lv bv i) (hf : Fr W W1 fun _ => False) : MS w W1 p v r ws rs size L lv bv i :=
 ⟨h.ar.fr hf, h.fr.trans hf, h.lo.keep hf (fun _ _ h => h), h.bo.keep hf (fun _ _ h => h), h.rd.keep hf (fun _ _ h => h), h.inb, h.vlt, h.plt, h.rlt⟩
theorem take_snoc1 {L : List Int} {i : Nat} (hi : i < L.length) {b : Int} (hb : L.getD i 0 = b) : L.take (i + 1) = L.take i ++ [b] := by
 rw [List.take_succ_eq_append_getElem hi, ← hb]
 simp [List.getD, hi]
theorem MS.bset {gb k cb : Nat} (h : MS w W p v r ws rs size L lv (.slice (some ⟨gb, 0, none⟩) ws.length cb) i) (hi : i < L.length) (hb : L.getD i 0 = k) (hk : k < ws.length) :
  MS w (W.setCell ⟨gb, k, none⟩ (.bool true)) p v r ws rs size L lv (.slice (some ⟨gb, 0, none⟩) ws.length cb) (i + 1) := by
 have hbl : (bw (isList ws.length (L.take i))).length = ws.length := by rw [bw_length, isList_len]
 have hgb := h.inb gb (by simp [InBlk, Value.ownBlock])
 have hin : InBlk (.slice (some ⟨gb, 0, none⟩) ws.length cb) gb := by simp [InBlk, Value.ownBlock]
 have hs : Own (W.setCell ⟨gb, k, none⟩ (.bool true)) 4 (.slice (some ⟨gb, 0, none⟩) ws.length cb) ((bw (isList ws.length (L.take i))).set k (.bool true)) ∧ Fr W (W.setCell ⟨gb, k, none⟩ (.bool true)) (fun i => i = gb) := by
  have := Own.setAt (cap := cb) (g := gb) (k := k) (u := .bool true) (xs := bw (isList ws.length (L.take i))) (e := 4) (W := W) (by rw [hbl]; exact h.bo) (by rw [hbl]; exact hk)
  rw [hbl] at this
  exact this
 have hf := hs.2
 have e1 : (bw (isList ws.length (L.take i))).set k (.bool true) = bw (isList ws.length (L.take (i + 1))) := by
  unfold bw
  rw [take_snoc1 hi hb, ← isList_snoc hk, List.map_set]
 rw [e1] at hs
 exact ⟨h.ar.keep hf (by have := h.plt; omega) (fun i hi e => by have := h.vlt i hi; omega), h.fr.setCell (S := fun _ => False) (a := ⟨gb, k, none⟩) (fun (hlt : gb < w.heap.size) => by omega) _, h.lo.keep hf (fun i hi e => h.lo.apart h.bo (by decide) i hi (by rw [e]; exact hin)), hs.1, h.rd.keep2 hf (fun h0 i hi e => by have := h.rlt (by rw [uw_length] at h0; exact h0) i hi; omega), h.inb, h.vlt, h.plt, h.rlt⟩
end
theorem soundB_root {ws rs L : List Int} (h : objs ws = some L) {x : Int} (hx : x ∈ rs) (hs : soundW x (isList ws.length L) = false) : soundB ws rs = false := by
 unfold soundB
 rw [h]
 simp only [Bool.and_eq_false_iff, List.all_eq_false]
 left
 exact ⟨x, hx, by rw [hs]; decide⟩
theorem soundB_at {ws rs L : List Int} (h : objs ws = some L) {a : Int} (ha : a ∈ L) (hs : soundAt ws (isList ws.length L) a = false) : soundB ws rs = false := by
 unfold soundB
 rw [h]
 simp only [Bool.and_eq_false_iff, List.all_eq_false]
 right
 exact ⟨a, ha, by rw [hs]; decide⟩
theorem soundB_yes {ws rs L : List Int} (h : objs ws = some L) (hr : ∀ x ∈ rs, soundW x (isList ws.length L) = true) (ha : ∀ a ∈ L, soundAt ws (isList ws.length L) a = true) : soundB ws rs = true := by
 unfold soundB
 rw [h]
 simp only [Bool.and_eq_true, List.all_eq_true]
 exact ⟨hr, ha⟩
set_option maxRecDepth 100000 in
set_option maxHeartbeats 4000000 in
theorem msnd_none (p : Nat) (v r : Value) (ws rs : List Int) (size : Int) (w : World) (h : Ar 112 w p v ws size) (ho : objs ws = none) :
  Calls Tryd.prog 13 #[.pointer (some ⟨p, 0, none⟩), r] w fun e w' => e = .returned (.bool (soundB ws rs)) ∧ Fr w w' (fun _ => False) := by
 rw [soundB_none ho]
 have H := Lib.hid h
 have HO : Hid ((objs ws).isSome = false) := Lib.hid (by rw [ho]; rfl)
 clear h ho
 go_enter Tryd.func13, Tryd.ntmps13
 go_wp2_with (first | (go_at_call 40; (with_reducible refine (objects_c p v ws size _ H.out).mono ?_); rintro e w1 ⟨u, rfl, hn⟩; rw [HO.out]; have HF := Lib.hid hn.2.1; clear hn))
 go_ret
 exact ⟨rfl, HF.out⟩
set_option maxRecDepth 100000 in
set_option maxHeartbeats 4000000 in
theorem msnd_some (p : Nat) (v r : Value) (ws rs L : List Int) (size : Int) (w : World) (h : Ar 112 w p v ws size) (hr : Rd w r (uw rs)) (hok : okWs rs) (hl : rs.length ≤ 1048576) (ho : objs ws = some L) :
  Calls Tryd.prog 13 #[.pointer (some ⟨p, 0, none⟩), r] w fun e w' => e = .returned (.bool (soundB ws rs)) ∧ Fr w w' (fun _ => False) := by
 have hle := h.le
 have hmx := h.mx
 have HLB : Hid (ws.length ≤ 1048576 ∧ rs.length ≤ 1048576) := Lib.hid (by omega)
 have H := Lib.hid h
 have HR := Lib.hid hr
 have HOK := Lib.hid hok
 have HO : Hid ((objs ws).isSome = true) := Lib.hid (by rw [ho]; rfl)
 have HOL : Hid ((objs ws).getD [] = L) := Lib.hid (by rw [ho]; rfl)
 have HO2 := Lib.hid ho
 have HROW := Lib.hid (rows_of_objs ho)
 obtain ⟨SB, hsb⟩ : ∃ b, soundB ws rs = b := ⟨_, rfl⟩
 rw [hsb]
 have HSB := Lib.hid hsb
 have q0 : 0 ≤ (ws.length : Int) := by omega
 have q1 : (ws.length : Int) ≤ 1048576 := by omega
 have q2 : (rs.length : Int) ≤ 1048576 := by omega
 have qL : (L.length : Int) ≤ 1048576 := by have := HROW.out.len; omega
 have HRT : Hid (0 < rs.length → ∀ k, InBlk r k → k < w.heap.size) := Lib.hid (fun h0 => hr.lt (by rw [uw_length]; exact h0))
 clear h hr hok ho hsb hle hmx hl
 go_enter Tryd.func13, Tryd.ntmps13
 go_upto_region 4 with (first
  | (go_at_call 40; (with_reducible refine (objects_c p v ws size _ H.out).mono ?_); rintro e w1 ⟨lv, rfl, hn⟩; rw [HO.out]; rw [HOL.out] at hn; have HN1 := Lib.hid hn.1; have HF1 := Lib.hid hn.2.1; have HA1 := Lib.hid (H.out.fr hn.2.1); have HR1 := Lib.hid (HR.out.keep hn.2.1 (fun _ _ h => h)); clear hn))
 obtain ⟨w3, hmk, hbo, hfm⟩ := mk_bools ws.length w1 HLB.out.1
 have H0 : Hid (MS w w3 p v r ws rs size L lv (.slice (some ⟨w1.heap.size, 0, none⟩) ws.length ws.length) 0) := Lib.hid ⟨HA1.out.fr hfm, HF1.out.trans hfm, HN1.out.keep hfm (fun _ _ h => h), by simpa [isList_nil] using hbo, HR1.out.keep hfm (fun _ _ h => h), (fun k hk => by have := HF1.out.size; simp [InBlk, Value.ownBlock] at hk; omega), H.out.own.lt, H.out.lt, HRT.out⟩
 obtain ⟨gb, hgb⟩ : ∃ gb, w1.heap.size = gb := ⟨_, rfl⟩
 rw [hgb] at hmk H0
 obtain ⟨Al, cl, rfl⟩ := HN1.out.rd.len
 obtain ⟨Ar, cr, rfl⟩ := HR1.out.len
 rw [iw_length, uw_length] at *
 clear hbo hfm hgb
 go_wp2_with (first
  | (go_at_call 21; (with_reducible refine (used_c p v ws size _ HA1.out).mono ?_); rintro e wu ⟨rfl, rfl⟩))
 clear hmk HN1 HA1 HR1
 go_loopg [31] L.length (fun g a31 wr => ∃ (i : Nat), a31 = .int .i64 i ∧ g + i = L.length ∧ Hid (MS w wr p v (.slice Ar rs.length cr) ws rs size L (.slice Al L.length cl) (.slice (some ⟨gb, 0, none⟩) ws.length ws.length) i))
 case atStart => exact ⟨0, rfl, rfl, H0⟩
 case round =>
  clear H0
  obtain ⟨i, rfl, hgi, HI⟩ := hrel
  have HGI := Lib.hid hgi
  clear hgi
  by_cases hi : i < L.length
  ·have HIL := Lib.hid hi
   have qi : (i : Int) < L.length := by omega
   obtain ⟨b, hb⟩ : ∃ b, L.getD i 0 = b := ⟨_, rfl⟩
   have hbm : b ∈ L := by rw [← hb, List.getD_eq_getElem?_getD, List.getElem?_eq_getElem hi]; exact List.getElem_mem hi
   obtain ⟨_, _, _, hb0, hb1, _⟩ := HROW.out.obj b hbm
   obtain ⟨k, rfl⟩ := Int.eq_ofNat_of_zero_le hb0
   have qk : (k : Int) < ws.length := hb1
   have hkl : k < ws.length := by omega
   obtain ⟨gl, rfl, _, hcl⟩ := HI.out.lo.cellAt (by rw [iw_length]; omega)
   have cl0 := (hcl i (by rw [iw_length]; exact hi)).1
   rw [iw_get hi, hb] at cl0
   obtain ⟨cb, fb⟩ : wr.cell? ⟨gb, k, none⟩ = some (.bool ((isList ws.length (L.take i)).getD k false)) ∧ wr.frozen? ⟨gb, k, none⟩ = false := by
    obtain ⟨b2, e, _, hc⟩ := HI.out.bo.cellAt (by rw [bw_length, isList_len]; omega)
    injection e with e
    injection e with e
    subst e
    have h1 := hc k (by rw [bw_length, isList_len]; exact hkl)
    rw [bw_get (by rw [isList_len]; exact hkl)] at h1
    exact h1
   have HI3 := Lib.hid (HI.out.bset (k := k) hi hb hkl)
   clear hi hb hbm hb0 hb1 hkl hcl HI
   go_wp2
   go_roundg (gk - 1)
   case measure => have := HGI.out; have := HIL.out; omega
   case rel => exact ⟨i + 1, by first | rfl | go_num, by have := HGI.out; have := HIL.out; omega, HI3⟩
  ·have hie : i = L.length := by have := HGI.out; omega
   have b2 : decide (i < L.length) = false := decide_eq_false hi
   have HI1 : Hid (MS w wr p v (.slice Ar rs.length cr) ws rs size L (.slice Al L.length cl) (.slice (some ⟨gb, 0, none⟩) ws.length ws.length) L.length) := Lib.hid (by have := HI.out; rw [hie] at this; exact this)
   clear hi hie HI
   obtain ⟨W0, hW0⟩ : ∃ W0, W0 = wr := ⟨_, rfl⟩
   subst hW0
   obtain ⟨isl, hisl⟩ : ∃ isl, isList ws.length L = isl := ⟨_, rfl⟩
   have HISL := Lib.hid hisl
   have HBO : Hid (Own W0 4 (.slice (some ⟨gb, 0, none⟩) ws.length ws.length) (bw isl)) := Lib.hid (by have := HI1.out.bo; rw [List.take_length, hisl] at this; exact this)
   clear hisl
   go_wp2
   go_loopg [41] rs.length (fun g a41 wr => ∃ (i : Nat), a41 = .int .i64 i ∧ g + i = rs.length ∧ Hid (Fr W0 wr (fun _ => False) ∧ ∀ j, j < i → soundW (rs.getD j 0) isl = true))
   case atStart => exact ⟨0, rfl, rfl, Lib.hid ⟨Fr.refl _ _, fun j hj => by omega⟩⟩
   case round =>
    obtain ⟨i, rfl, hgi, HI⟩ := hrel
    have HGI := Lib.hid hgi
    clear hgi
    by_cases hi : i < rs.length
    ·have HIL := Lib.hid hi
     have qi : (i : Int) < rs.length := by omega
     have hx : okW (rs.getD i 0) := okWs_getD HOK.out i hi
     obtain ⟨x, hxe⟩ : ∃ x, rs.getD i 0 = x := ⟨_, rfl⟩
     rw [hxe] at hx
     have HX := Lib.hid hx
     have HXE := Lib.hid hxe
     have HR2 := Lib.hid (HI1.out.rd.keep HI.out.1 (fun _ _ h => h))
     obtain ⟨br, oR, rfl, hcr⟩ := HR2.out.cellAt (by rw [uw_length]; omega)
     have cr0 := hcr i (by rw [uw_length]; exact hi)
     rw [uw_get hi, hxe] at cr0
     obtain ⟨bs, hbs⟩ : ∃ bs, soundW x isl = bs := ⟨_, rfl⟩
     have HBS := Lib.hid hbs
     have HNO : Hid (bs = false → SB = false) := Lib.hid (fun e => by rw [← HSB.out]; exact soundB_root HO2.out (x := x) (by rw [← hxe, List.getD_eq_getElem?_getD, List.getElem?_eq_getElem hi]; exact List.getElem_mem hi) (by rw [HISL.out, hbs, e]))
     clear hi hx hxe hcr hbs
     cases bs with
     | false =>
      have HS0 := Lib.hid (HNO.out rfl)
      go_wp2_with (first | (go_at_call 41; (with_reducible refine (msound_c x _ isl _ (HBO.out.keep HI.out.1 (fun _ _ h => h)) HX.out).mono ?_); rintro e w5 ⟨rfl, hd⟩; rw [HBS.out]; have HF5 := Lib.hid (hd.fr (fun _ => False)); clear hd))
      go_ret
      exact ⟨by rw [HS0.out]; rfl, HI1.out.fr.trans (HI.out.1.trans HF5.out)⟩
     | true =>
      go_wp2_with (first | (go_at_call 41; (with_reducible refine (msound_c x _ isl _ (HBO.out.keep HI.out.1 (fun _ _ h => h)) HX.out).mono ?_); rintro e w5 ⟨rfl, hd⟩; rw [HBS.out]; have HF5 := Lib.hid (hd.fr (fun _ => False)); clear hd))
      go_roundg (gk - 1)
      case measure => have := HGI.out; have := HIL.out; omega
      case rel => exact ⟨i + 1, by first | rfl | go_num, by have := HGI.out; have := HIL.out; omega, Lib.hid ⟨HI.out.1.trans HF5.out, fun j hj => by
       by_cases hj2 : j < i
       ·exact HI.out.2 j hj2
       ·have : j = i := by omega
        subst this
        rw [HXE.out]; exact HBS.out⟩⟩
    ·have hie : i = rs.length := by have := HGI.out; omega
     have b3 : decide (i < rs.length) = false := decide_eq_false hi
     have HRS : Hid (∀ x ∈ rs, soundW x isl = true) := Lib.hid (fun x hx => by
      obtain ⟨j, hj, rfl⟩ := List.getElem_of_mem hx
      have := HI.out.2 j (by omega)
      rw [List.getD_eq_getElem?_getD, List.getElem?_eq_getElem hj] at this
      exact this)
     have HI2 := Lib.hid (HI1.out.frm HI.out.1)
     have HBO2 := Lib.hid (HBO.out.keep HI.out.1 (fun _ _ h => h))
     clear hi hie HI HI1 HBO
     obtain ⟨W1, hW1⟩ : ∃ W1, W1 = wr := ⟨_, rfl⟩
     subst hW1
     go_wp2
     go_loopg [52] L.length (fun g a52 wr => ∃ (i : Nat), a52 = .int .i64 i ∧ g + i = L.length ∧ Hid (Fr W1 wr (fun _ => False) ∧ ∀ j, j < i → soundAt ws isl (L.getD j 0) = true))
     case atStart => exact ⟨0, rfl, rfl, Lib.hid ⟨Fr.refl _ _, fun j hj => by omega⟩⟩
     case round =>
      obtain ⟨i, rfl, hgi, HI⟩ := hrel
      obtain ⟨G, rfl⟩ : ∃ G, G = gk := ⟨_, rfl⟩
      have HGI := Lib.hid hgi
      clear hgi
      by_cases hi : i < L.length
      ·have HIL := Lib.hid hi
       have qi : (i : Int) < L.length := by omega
       obtain ⟨b, hb⟩ : ∃ b, L.getD i 0 = b := ⟨_, rfl⟩
       have hbm : b ∈ L := by rw [← hb, List.getD_eq_getElem?_getD, List.getElem?_eq_getElem hi]; exact List.getElem_mem hi
       obtain ⟨hd, hob, ho0, hb0, hb1, hrd, hz0, hz1, hz2⟩ := HROW.out.obj b hbm
       obtain ⟨k, rfl⟩ := Int.eq_ofNat_of_zero_le hb0
       obtain ⟨kd, z, t, nn⟩ := hd
       simp only at hz0 hz1 hz2
       have HOB := Lib.hid hob
       have HO0 := Lib.hid ho0
       have HMEM := Lib.hid hbm
       have HB := Lib.hid hb
       have HZ : Hid (0 ≤ z ∧ (k : Int) + 1 + z ≤ ws.length) := Lib.hid ⟨hz0, hz2⟩
       obtain ⟨f, hfd⟩ : ∃ f, fieldsH ⟨kd, z, t, nn⟩ = f := ⟨_, rfl⟩
       have HFD := Lib.hid hfd
       have HIw := Lib.hid (HI2.out.frm HI.out.1)
       obtain ⟨gl, rfl, _, hcl⟩ := HIw.out.lo.cellAt (by rw [iw_length]; omega)
       have cl0 := (hcl i (by rw [iw_length]; exact hi)).1
       rw [iw_get hi, hb] at cl0
       have qk : (k : Int) < ws.length := hb1
       clear hi hb hbm hob ho0 hb0 hb1 hrd hz0 hz1 hz2 hfd hcl
       go_upto_region 20 with (first | (go_at_call 39; (with_reducible refine (obj_some p v ws size k _ _ HIw.out.ar HOB.out).mono ?_); rintro e wo ⟨rfl, hfo⟩))
       obtain ⟨W2, hW2⟩ : ∃ W2, wo.alloc (.cells #[.int .i64 kd, .int .i64 z, .int .i64 t, .bool nn] 88) = W2 := ⟨_, rfl⟩
       obtain ⟨D, hD⟩ : ∃ D, wo.heap.size = D := ⟨_, rfl⟩
       have hf2 : Fr wr W2 (fun _ => False) := by rw [← hW2]; exact hfo.alloc _
       have hdb : W2.heap[D]? = some (.cells #[.int .i64 kd, .int .i64 z, .int .i64 t, .bool nn] 88 (0, 0)) := by rw [← hW2, ← hD]; exact blk_new _ _ _
       have HF2 := Lib.hid (HI.out.1.trans hf2)
       simp only [hW2, hD]
       have d0 : W2.cell? ⟨D, 0, none⟩ = some (.int .i64 kd) := by simp [World.cell?, hdb]
       have d1 : W2.cell? ⟨D, 1, none⟩ = some (.int .i64 z) := by simp [World.cell?, hdb]
       have d2 : W2.cell? ⟨D, 2, none⟩ = some (.int .i64 t) := by simp [World.cell?, hdb]
       have d3 : W2.cell? ⟨D, 3, none⟩ = some (.bool nn) := by simp [World.cell?, hdb]
       have HDB := Lib.hid hdb
       clear hW2 hD hfo hf2 hdb cl0 HIw
       refine wp_region_cls (S := fun w' => Fr W2 w' (fun _ => False)) (by kernel_rfl) (by kernel_rfl) ((Fr.refl W2 _).drew) (fun ne => ?_)
       generalize hS : (fun w' : World => Fr W2 w' (fun _ => False)) = S
       replace ne : Nonempty (Cw S) := by subst hS; exact ne
       have f0 : ∀ x : Cw S, x.val.cell? ⟨D, 0, none⟩ = some (.int .i64 kd) := by subst hS; exact fun x => x.prop.cell d0 (fun h => h)
       have f1 : ∀ x : Cw S, x.val.cell? ⟨D, 1, none⟩ = some (.int .i64 z) := by subst hS; exact fun x => x.prop.cell d1 (fun h => h)
       have f2 : ∀ x : Cw S, x.val.cell? ⟨D, 2, none⟩ = some (.int .i64 t) := by subst hS; exact fun x => x.prop.cell d2 (fun h => h)
       have f3 : ∀ x : Cw S, x.val.cell? ⟨D, 3, none⟩ = some (.bool nn) := by subst hS; exact fun x => x.prop.cell d3 (fun h => h)
       have HX : Hid (∀ w', S w' → Fr W2 w' (fun _ => False)) := Lib.hid (by subst hS; exact fun w' h => h)
       have HK2 : Hid (∀ w1 w2, S w1 → Below w1.heap.size w1 w2 → S w2) := Lib.hid (by subst hS; exact fun w1 w2 h hb => h.trans (Fr.of_below hb _))
       clear hS d0 d1 d2 d3
       repeat (any_goals (first | go_big_quiet_step ((go_at_call 42; exact Cw.call (Wd.fields_c kd z t nn f _ HFD.out) (fun w' h => HK2.out _ _ (Cw.prop _) h))) | quiet_step ((go_at_call 42; exact Cw.call (Wd.fields_c kd z t nn f _ HFD.out) (fun w' h => HK2.out _ _ (Cw.prop _) h)))))
       refine wpQuiet_nil ?_
       intro w9 hw9
       obtain ⟨⟨w9, hS9⟩, rfl⟩ := hw9
       have h9 := HX.out _ hS9
       have HF9 := Lib.hid (HF2.out.trans h9)
       have hdb := h9.blk HDB.out (fun h => h)
       have d0 : w9.cell? ⟨D, 0, none⟩ = some (.int .i64 kd) := by simp [World.cell?, hdb]
       have d1 : w9.cell? ⟨D, 1, none⟩ = some (.int .i64 z) := by simp [World.cell?, hdb]
       have d2 : w9.cell? ⟨D, 2, none⟩ = some (.int .i64 t) := by simp [World.cell?, hdb]
       have d3 : w9.cell? ⟨D, 3, none⟩ = some (.bool nn) := by simp [World.cell?, hdb]
       have HDB9 := Lib.hid hdb
       clear hS9 HX HK2 ne f0 f1 f2 f3 h9 hdb
       by_cases hfz : z < f
       ·have hff : decide (z < f) = true := decide_eq_true hfz
        go_wp2
        go_ret
        have hfa : fitA ws k = false := by unfold fitA; rw [HO0.out, HFD.out]; exact decide_eq_false (by simp only; omega)
        rw [← HSB.out, soundB_far HO2.out HMEM.out hfa]
        exact ⟨rfl, HI2.out.fr.trans HF9.out⟩
       ·have hff : decide (z < f) = false := decide_eq_false hfz
        have hf0 : 0 ≤ f := by rw [← HFD.out]; exact fieldsH_nonneg HZ.out.1
        obtain ⟨fn, rfl⟩ := Int.eq_ofNat_of_zero_le hf0
        have HFZ : Hid ((fn : Int) ≤ z) := Lib.hid (by omega)
        have HSA : Hid (soundAt ws isl k = (fieldsAt ws k fn).all fun w => soundW w isl) := Lib.hid (by
         have e : soundAt ws isl k = (decide (fieldsH (obj0 ws k) ≤ (obj0 ws k).size) && (fieldsAt ws k (fieldsH (obj0 ws k)).toNat).all fun w => soundW w isl) := rfl
         rw [e, HO0.out, HFD.out, decide_eq_true (show (fn : Int) ≤ (Hdr.mk kd z t nn).size by simp only; omega)]
         rfl)
        have qfz : (fn : Int) ≤ z := by omega
        have qf : (fn : Int) ≤ 1048576 := by have := HZ.out; omega
        clear hfz hf0
        go_wp2_with (first | (go_at_call 42; (with_reducible refine (Wd.fields_c kd z t nn fn _ HFD.out).mono ?_); rintro e wa ⟨rfl, hb⟩; have HF10 := Lib.hid (HF9.out.trans (Fr.of_below hb (fun _ => False))); clear hb))
        go_loopg [69] fn (fun g a69 wr => ∃ (j : Nat), a69 = .int .i64 j ∧ g + j = fn ∧ Hid (Fr W1 wr (fun _ => False) ∧ ∀ i, i < j → soundW (rd0 ws ((k : Int) + 1 + i)) isl = true))
        case atStart => exact ⟨0, rfl, rfl, Lib.hid ⟨HF10.out, fun j hj => by omega⟩⟩
        case round =>
         obtain ⟨j, rfl, hgj, HJ⟩ := hrel
         have HGJ := Lib.hid hgj
         clear hgj
         by_cases hj : j < fn
         ·have HJL := Lib.hid hj
          have qj : (j : Int) < fn := by omega
          have HIj := Lib.hid (HI2.out.frm HJ.out.1)
          obtain ⟨y, hy⟩ : ∃ y, rdAt ws ((k : Int) + 1 + j) = some y := by
           have := HZ.out
           unfold rdAt
           rw [if_pos (by omega)]
           exact ⟨_, rfl⟩
          have HY := Lib.hid hy
          have hoy : okW y := by obtain ⟨m, _, hm, rfl⟩ := rdAt_some hy; exact okWs_getD HIj.out.ar.ok m hm
          have HOY := Lib.hid hoy
          have hry : rd0 ws ((k : Int) + 1 + j) = y := by unfold rd0; rw [hy]; rfl
          have HRY := Lib.hid hry
          obtain ⟨bs, hbs⟩ : ∃ bs, soundW y isl = bs := ⟨_, rfl⟩
          have HBS := Lib.hid hbs
          have HNO : Hid (bs = false → SB = false) := Lib.hid (fun e => by
           rw [← HSB.out]
           refine soundB_at HO2.out HMEM.out ?_
           rw [HISL.out, HSA.out]
           refine List.all_eq_false.2 ⟨y, ?_, by rw [hbs, e]; decide⟩
           unfold fieldsAt
           exact List.mem_map.2 ⟨j, List.mem_range.2 hj, hry⟩)
          clear hj hy hoy hry hbs
          cases bs with
          | false =>
           have HS0 := Lib.hid (HNO.out rfl)
           go_wp2_with (first
            | (go_at_call 43; (with_reducible refine (get_c p v ws size _ y _ HIj.out.ar HY.out).mono ?_); rintro e w4 ⟨rfl, rfl⟩)
            | (go_at_call 41; (with_reducible refine (msound_c y _ isl _ (HBO2.out.keep HJ.out.1 (fun _ _ h => h)) HOY.out).mono ?_); rintro e w5 ⟨rfl, hd⟩; rw [HBS.out]; have HF5 := Lib.hid (hd.fr (fun _ => False)); clear hd))
           go_ret
           exact ⟨by rw [HS0.out]; rfl, HI2.out.fr.trans (HJ.out.1.trans HF5.out)⟩
          | true =>
           go_wp2_with (first
            | (go_at_call 43; (with_reducible refine (get_c p v ws size _ y _ HIj.out.ar HY.out).mono ?_); rintro e w4 ⟨rfl, rfl⟩)
            | (go_at_call 41; (with_reducible refine (msound_c y _ isl _ (HBO2.out.keep HJ.out.1 (fun _ _ h => h)) HOY.out).mono ?_); rintro e w5 ⟨rfl, hd⟩; rw [HBS.out]; have HF5 := Lib.hid (hd.fr (fun _ => False)); clear hd))
           go_roundg (gk - 1)
           case measure => have := HGJ.out; have := HJL.out; omega
           case rel => exact ⟨j + 1, by first | rfl | go_num, by have := HGJ.out; have := HJL.out; omega, Lib.hid ⟨HJ.out.1.trans HF5.out, fun i hi => by
            by_cases hi2 : i < j
            ·exact HJ.out.2 i hi2
            ·have : i = j := by omega
             subst this
             rw [HRY.out]; exact HBS.out⟩⟩
         ·have b7 : decide (j < fn) = false := decide_eq_false hj
          have HJE : Hid (j = fn) := Lib.hid (by have := HGJ.out; omega)
          clear hj
          go_wp2
          go_roundg (G - 1)
          case measure => have := HGI.out; have := HIL.out; omega
          case rel => exact ⟨i + 1, by first | rfl | go_num, by have := HGI.out; have := HIL.out; omega, Lib.hid ⟨HJ.out.1, fun m hm => by
           by_cases hm2 : m < i
           ·exact HI.out.2 m hm2
           ·have : m = i := by omega
            subst this
            rw [HB.out, HSA.out]
            refine List.all_eq_true.2 fun x hx => ?_
            unfold fieldsAt at hx
            obtain ⟨q, hq, rfl⟩ := List.mem_map.1 hx
            exact HJ.out.2 q (by have := List.mem_range.1 hq; have := HJE.out; omega)⟩⟩
      ·have hie : i = L.length := by have := HGI.out; omega
       have b4 : decide (i < L.length) = false := decide_eq_false hi
       have hy : SB = true := by
        rw [← HSB.out]
        refine soundB_yes HO2.out (fun x hx => by rw [HISL.out]; exact HRS.out x hx) (fun a ha => ?_)
        obtain ⟨j, hj, rfl⟩ := List.getElem_of_mem ha
        have := HI.out.2 j (by omega)
        rw [List.getD_eq_getElem?_getD, List.getElem?_eq_getElem hj] at this
        rw [HISL.out]
        exact this
       have HY := Lib.hid hy
       clear hi hie hy
       go_wp2
       go_ret
       exact ⟨by rw [HY.out]; rfl, HI2.out.fr.trans HI.out.1⟩
theorem msnd_c (p : Nat) (v r : Value) (ws rs : List Int) (size : Int) (w : World) (h : Ar 112 w p v ws size) (hr : Rd w r (uw rs)) (hok : okWs rs) (hl : rs.length ≤ 1048576) :
  Calls Tryd.prog 13 #[.pointer (some ⟨p, 0, none⟩), r] w fun e w' => e = .returned (.bool (soundB ws rs)) ∧ Fr w w' (fun _ => False) := by
 cases ho : objs ws with
 | none => exact msnd_none p v r ws rs size w h ho
 | some L => exact msnd_some p v r ws rs L size w h hr hok hl ho
end Go.Proofs.YtjiaaefpepdoeaaDoor
namespace Go.Proofs.YtjiaaefpepdoeaaDoor
open Go.RowKit Md Go.Proofs.YtjiaaefpepdoeaaDoorW.PrintWords
set_option linter.unusedVariables false
theorem headerInfo : (Tryd.prog.info? 88).map (fun i => (i.zero, i.size, i.bytes)) = some (some (.agg #[.int .i64 0, .int .i64 0, .int .i64 0, .bool false]), 4, 32) := by kernel_rfl
theorem hdr0_cells : hcs hdr0 = [.int .i64 0, .int .i64 0, .int .i64 0, .bool false] := rfl
theorem mk_hdrs (n : Nat) (w : World) (hn : n ≤ 1048576) : ∃ w', (Instr.makeSlice 103 (.int .i64 (n : Int)) (.int .i64 (n : Int))).run Tryd.prog w = .ok (.slice (some ⟨w.heap.size, 0, none⟩) n n) w' ∧ OwnH w' (.slice (some ⟨w.heap.size, 0, none⟩) n n) (List.replicate n hdr0) ∧ Fr w w' (fun _ => False) := by
 obtain ⟨i0, hi, hz0, hz1, hz2⟩ := info_parts headerInfo
 obtain ⟨w', hr, ho, hg⟩ := run_make_full (P := Tryd.prog) w 0 103 88 i0 (.agg #[.int .i64 0, .int .i64 0, .int .i64 0, .bool false]) 4 Tryd.underlying103 hi hz0 hz1 .i64 .i64 n (by rw [hz2]; omega) (by unfold maxLen; omega) (Nat.zero_le _)
 refine ⟨w', hr, ?_, (Fr.refl w _).grown hg (fun k hk => by cases hk)⟩
 have e : (madeCells (Value.cells (.agg #[.int .i64 0, .int .i64 0, .int .i64 0, .bool false])) (n * 4)).toList = hws (List.replicate n hdr0) := by
  apply List.ext_getElem?
  intro j
  by_cases hj : j < n * 4
  ·have hq : j = j / 4 * 4 + j % 4 := by omega
   have hg1 := hws_get (hs := List.replicate n hdr0) (k := j / 4) (by rw [List.length_replicate]; omega) (j % 4) (by omega)
   rw [← hq] at hg1
   rw [hg1]
   have e0 : (List.replicate n hdr0).getD (j / 4) hdr0 = hdr0 := by
    have : j / 4 < n := by omega
    simp [List.getD, List.getElem?_replicate, this]
   rw [e0, hdr0_cells]
   have hm : j % 4 = 0 ∨ j % 4 = 1 ∨ j % 4 = 2 ∨ j % 4 = 3 := by omega
   have hl : (madeCells (Value.cells (.agg #[.int .i64 0, .int .i64 0, .int .i64 0, .bool false])) (n * 4)).toList[j]? = some ((#[.int .i64 0, .int .i64 0, .int .i64 0, .bool false] : Array Value)[j % 4]!) := by
    simp [madeCells, Value.cells, hj]
   rw [hl]
   rcases hm with h | h | h | h <;> rw [h] <;> rfl
  ·rw [List.getElem?_eq_none (by rw [Array.length_toList, size_madeCells]; omega), List.getElem?_eq_none (by rw [hws_length, List.length_replicate]; omega)]
 rw [e] at ho
 unfold OwnH
 rw [List.length_replicate]
 exact ho
theorem msnd_yes (p : Nat) (v r : Value) (ws rs : List Int) (size : Int) (w : World) (h : Ar 112 w p v ws size) (hr : Rd w r (uw rs)) (hok : okWs rs) (hl : rs.length ≤ 1048576) (hb : soundB ws rs = true) :
  Calls Tryd.prog 13 #[.pointer (some ⟨p, 0, none⟩), r] w fun e w' => e = .returned (.bool true) ∧ Fr w w' (fun _ => False) := by
 have := msnd_c p v r ws rs size w h hr hok hl
 rw [hb] at this
 exact this
theorem live_yes (p : Nat) (v r : Value) (ws rs : List Int) (s : List Bool) (size : Int) (w : World) (h : Ar 112 w p v ws size) (hr : Rd w r (uw rs)) (hok : okWs rs) (hl : ws.length ≤ 4000) (hlr : rs.length ≤ 4000) (hs : Lv ws (List.replicate ws.length false) rs (some s)) :
  Calls Tryd.prog 28 #[.pointer (some ⟨p, 0, none⟩), r] w fun e w' => ∃ u, e = .returned (.tuple #[u, .bool true]) ∧ New w w' 3 u (iw (seenList s)) := by
 refine (live_c p v r ws rs size w h hr hok hl hlr).mono ?_
 rintro e w' ⟨q, u, hq, he, hn⟩
 have := Lv.det hq _ hs
 subst this
 exact ⟨u, he, hn⟩
set_option maxRecDepth 100000 in
set_option maxHeartbeats 4000000 in
theorem slide_c (p : Nat) (va xv : Value) (l rs L M : List Int) (s : List Bool) (size : Int) (w : World) (h : TA 112 w p va l size xv rs) (hM : M = seenList s) (S : Sc l rs L M) (hb : soundB l rs = true)
  (hsn : Lv l (List.replicate l.length false) rs (some s)) (hl : l.length ≤ 4000) (hlr : rs.length ≤ 4000) :
  Calls Tryd.prog 19 #[.pointer (some ⟨p, 0, none⟩), xv] w fun e w' => ∃ va' gv, e = .returned (.tuple #[.agg #[.int .i64 (imgs l M M).length, gv, .int .i64 (cntM l M M)], .bool true]) ∧ TA 112 w' p va' (imgs l M M) size xv (rs.map (mvW l M)) ∧ Own w' 3 gv (iw (goneM l M L)) ∧ Fr w w' (fun i => i = p ∨ UO va xv i) ∧ (∀ k, InBlk va' k → InBlk va k) ∧ ∀ k, InBlk gv k → w.heap.size ≤ k := by
 have hMl : M.length ≤ l.length := by have := (words_le S.snd.rows M S.srt S.sub).2; have := S.snd.rows.len; omega
 have HML : Hid (M.length ≤ 4000) := Lib.hid (by omega)
 have HL := Lib.hid hl
 have HLR := Lib.hid hlr
 have HSC := Lib.hid S
 have HB := Lib.hid hb
 have HSN := Lib.hid hsn
 have HM := Lib.hid hM
 have H := Lib.hid h
 have HX := Lib.hid h.own.rd
 have HNR : Hid (∀ i, w.heap.size ≤ i → ¬ (i = p ∨ UO va xv i)) := Lib.hid (fun i hi e => by
  rcases e with e | e | e
  ·have := h.ar.lt; omega
  ·have := h.ar.own.lt i e; omega
  ·have := h.own.lt i e; omega)
 have q0 : (rs.length : Int) ≤ 4000 := by omega
 have q1 : (M.length : Int) ≤ 4000 := by omega
 obtain ⟨Ax, cx, rfl⟩ := h.own.rd.len
 rw [uw_length] at *
 obtain ⟨R, hR⟩ : ∃ R, w.heap.size = R := ⟨_, rfl⟩
 have HR := Lib.hid hR
 obtain ⟨wA, hwA⟩ : ∃ wA, w.alloc (.cells #[.int .i64 0, .slice none 0 0, .int .i64 0] 57) = wA := ⟨_, rfl⟩
 have HFA : Hid (Fr w wA (fun _ => False)) := Lib.hid (by rw [← hwA]; exact (Fr.refl _ _).alloc _)
 have HRB : Hid (wA.heap[R]? = some (.cells #[.int .i64 0, .slice none 0 0, .int .i64 0] 57 (0, 0))) := Lib.hid (by rw [← hwA, ← hR]; exact blk_new _ _ _)
 clear h S hb hsn hl hlr hMl hM
 go_enter Tryd.func19, Tryd.ntmps19
 go_upto_region 1 with (fail)
 clear hwA hR
 have HT1 := Lib.hid (H.out.fr HFA.out)
 go_upto_region 4 with (first
  | (go_at_call 13; (with_reducible refine (msnd_yes p va _ l rs size _ HT1.out.ar (by have := HT1.out.own.rd; exact this) HT1.out.okr HT1.out.lenr HB.out).mono ?_); rintro e w2 ⟨rfl, hf⟩; have HT2 := Lib.hid (HT1.out.fr hf); have HF2 := Lib.hid (HFA.out.trans hf); have HR2 := Lib.hid (hf.blk HRB.out (fun h => h)); clear hf)
  | (go_at_call 28; (with_reducible refine (live_yes p va _ l rs s size _ HT2.out.ar (by have := HT2.out.own.rd; exact this) HT2.out.okr HL.out HLR.out HSN.out).mono ?_); rintro e w3 ⟨lv, rfl, hn⟩; rw [← HM.out] at hn; have HN := Lib.hid hn; clear hn))
 obtain ⟨Al, cl, rfl⟩ := HN.out.1.rd.len
 rw [iw_length] at HN ⊢
 have HF3 := Lib.hid (HF2.out.trans HN.out.2.1)
 have HT3 := Lib.hid (HT2.out.fr HN.out.2.1)
 have HR3 := Lib.hid (HN.out.2.1.blk HR2.out (fun h => h))
 obtain ⟨w4, hmk, hoh, hfm⟩ := mk_hdrs M.length w3 (by have := HML.out; omega)
 have hgh : ∀ k, InBlk (.slice (some ⟨w3.heap.size, 0, none⟩) M.length M.length) k → w3.heap.size ≤ k := fun k hk => by simp [InBlk, Value.ownBlock] at hk; omega
 obtain ⟨G3, hG3⟩ : ∃ G3, w3.heap.size = G3 := ⟨_, rfl⟩
 rw [hG3] at hmk hoh hgh
 have HF4 := Lib.hid (HF3.out.trans hfm)
 have HT4 := Lib.hid (HT3.out.fr hfm)
 have HR4 := Lib.hid (hfm.blk HR3.out (fun h => h))
 have HL4 := Lib.hid (HN.out.1.keep hfm (fun _ _ h => h))
 have HH4 := Lib.hid hoh
 have HGH := Lib.hid hgh
 have HRG : Hid (R < G3) := Lib.hid (by rw [← hG3]; exact (Array.getElem?_eq_some_iff.1 HR3.out).1)
 have HWG : Hid (w.heap.size ≤ G3) := Lib.hid (by rw [← hG3]; exact HF3.out.size)
 have HLW : Hid (∀ i, InBlk (.slice Al M.length cl) i → w2.heap.size ≤ i) := Lib.hid HN.out.2.2
 have HLT : Hid (∀ i, InBlk (.slice Al M.length cl) i → i < G3) := Lib.hid (fun i hi => by have := HN.out.1.lt i hi; omega)
 clear hoh hfm hgh HN
 obtain ⟨W5, hW5⟩ : ∃ W5, w4.alloc (.cells #[.pointer (some ⟨p, 0, none⟩), .slice Ax rs.length cx, .slice Al M.length cl, .slice (some ⟨G3, 0, none⟩) M.length M.length] 105) = W5 := ⟨_, rfl⟩
 obtain ⟨SP, hSP⟩ : ∃ SP, w4.heap.size = SP := ⟨_, rfl⟩
 have hf5 : Fr w4 W5 (fun _ => False) := by rw [← hW5]; exact (Fr.refl _ _).alloc _
 have HS5 : Hid (Sld W5 SP p (.slice Ax rs.length cx) (.slice Al M.length cl) (.slice (some ⟨G3, 0, none⟩) M.length M.length)) := Lib.hid (by unfold Sld; rw [← hW5, ← hSP]; exact blk_new _ _ _)
 have HF5 := Lib.hid (HF4.out.trans hf5)
 have HT5 := Lib.hid (HT4.out.fr hf5)
 have HR5 := Lib.hid (hf5.blk HR4.out (fun h => h))
 have HL5 := Lib.hid (HL4.out.keep hf5 (fun _ _ h => h))
 have HH5 := Lib.hid (HH4.out.keep hf5 (fun _ _ h => h))
 clear hf5
 have HLG : Hid (∀ i, InBlk (.slice Al M.length cl) i → w.heap.size ≤ i) := Lib.hid (fun i hi => Nat.le_trans HF2.out.size (HLW.out i hi))
 have HLH : Hid (∀ i, InBlk (.slice Al M.length cl) i → ¬ InBlk (.slice (some ⟨G3, 0, none⟩) M.length M.length) i) := Lib.hid (fun i hi e => by
  have h1 := HGH.out i e
  have h2 := HLT.out i hi
  omega)
 have HSG : Hid (¬ InBlk (.slice (some ⟨G3, 0, none⟩) M.length M.length) SP) := Lib.hid (fun e => by
  have h1 := HH4.out.elem SP e
  obtain ⟨_, h1⟩ := h1
  have h2 := (Array.getElem?_eq_some_iff.1 h1).1
  omega)
 have HGW : Hid (G3 < W5.heap.size ∧ w.heap.size ≤ W5.heap.size) := Lib.hid ⟨by obtain ⟨_, h1⟩ := HH5.out.elem G3 (by simp [InBlk, Value.ownBlock]); exact (Array.getElem?_eq_some_iff.1 h1).1, HF5.out.size⟩
 have HSPW : Hid (w.heap.size ≤ SP ∧ R < SP) := Lib.hid (by have h1 := HF4.out.size; have h2 := (Array.getElem?_eq_some_iff.1 HR4.out).1; omega)
 go_upto_region 5 with (fail)
 clear hmk hW5 hSP hG3
 go_upto_region 7 with (first
  | (go_at_call 51; (with_reducible refine (gone_c SP p va _ _ _ l rs L M rs size _ HT5.out HS5.out HL5.out HSC.out HL.out).mono ?_); rintro e w6 ⟨gv, rfl, hg, hf, hn⟩; have HG6 := Lib.hid hg; have HF6 := Lib.hid hf; have HN6 := Lib.hid hn; clear hg hf hn))
 obtain ⟨Ag, cg, hgv⟩ := HG6.out.rd.len
 obtain ⟨ng, hng⟩ : ∃ ng, (iw (goneM l M L)).length = ng := ⟨_, rfl⟩
 rw [hng] at hgv
 subst hgv
 clear hng
 have HT6 := Lib.hid (HT5.out.fr HF6.out)
 have HS6 := Lib.hid (HS5.out.keep HF6.out (fun h => h))
 have HR6 := Lib.hid (HF6.out.blk HR5.out (fun h => h))
 have HL6 := Lib.hid (HL5.out.keep HF6.out (fun _ _ h => h))
 have HH6 := Lib.hid (HH5.out.keep HF6.out (fun _ _ h => h))
 have HFW := Lib.hid (HF5.out.trans HF6.out)
 have HNH : Hid (∀ i, w.heap.size ≤ i → ¬ UO va (.slice Ax rs.length cx) i) := Lib.hid (fun i hi e => HNR.out i hi (.inr e))
 have HSP : Hid (w.heap.size ≤ SP) := Lib.hid HSPW.out.1
 have HLN : Hid (∀ i, InBlk (.slice Al M.length cl) i → ¬ UO va (.slice Ax rs.length cx) i) := Lib.hid (fun i hi => HNH.out i (HLG.out i hi))
 have HUS : Hid (Us l rs L M 0 0 0 l rs) := Lib.hid (Us.start HSC.out)
 obtain ⟨W6, hW6⟩ : ∃ W6, W6 = w6 := ⟨_, rfl⟩
 subst hW6
 clear HT1 HT2 HF2 HR2 HF3 HT3 HR3 HF4 HT4 HR4 HL4 HH4 HF5 HT5 HR5 HL5 HH5 HF6
 go_loopg [10, 35] rs.length (fun g a10 a35 wr => ∃ (C : Nat) (ws ys : List Int), a35 = .int .i64 C ∧ g + C = rs.length ∧ Hid (TA 112 wr p va ws size (.slice Ax rs.length cx) ys ∧ Fr W6 wr (UO va (.slice Ax rs.length cx)) ∧ Us l rs L M 0 0 C ws ys))
 case atStart => exact ⟨0, _, _, rfl, rfl, Lib.hid ⟨HT6.out, Fr.refl _ _, HUS.out⟩⟩
 case round =>
  clear HT6 HUS
  obtain ⟨C, ws, ys, rfl, hgi, HI⟩ := hrel
  have HGI := Lib.hid hgi
  clear hgi
  by_cases hi : C < rs.length
  ·have HIL := Lib.hid hi
   have qi : (C : Int) < rs.length := by omega
   have hcs := HI.out.2.2.root HSC.out hi rfl
   clear hi
   rcases hcs with ⟨hn, hu⟩ | ⟨ws3, ys3, hn, hu⟩
   ·have HNO := Lib.hid hn
    have HU3 := Lib.hid hu
    clear hn hu
    go_wp2_with (first
     | (go_at_call 52; (with_reducible refine (thread_no p va _ ws ys size _ true _ HI.out.1 HNO.out).mono ?_); rintro e w8 ⟨rfl, hf8⟩; have HF8 := Lib.hid hf8; clear hf8))
    go_roundg (gk - 1)
    case measure => have := HGI.out; have := HIL.out; omega
    case rel => exact ⟨C + 1, ws, ys, by first | rfl | go_num, by have := HGI.out; have := HIL.out; omega, Lib.hid ⟨HI.out.1.fr HF8.out, HI.out.2.1.trans (HF8.out.mono (fun _ h _ => h.elim)), HU3.out⟩⟩
   ·have HYE := Lib.hid hn
    have HU3 := Lib.hid hu
    clear hn hu
    go_wp2_with (first
     | (go_at_call 52; (with_reducible refine (thread_yes p va _ ws ys ws3 ys3 size _ true _ HI.out.1 HYE.out).mono ?_); rintro e w8 ⟨rfl, ht8, hf8⟩; have HF8 := Lib.hid hf8; have HT8 := Lib.hid ht8; clear hf8 ht8))
    go_roundg (gk - 1)
    case measure => have := HGI.out; have := HIL.out; omega
    case rel => exact ⟨C + 1, ws3, ys3, by first | rfl | go_num, by have := HGI.out; have := HIL.out; omega, Lib.hid ⟨HT8.out, HI.out.2.1.trans HF8.out, HU3.out⟩⟩
  ·have b2 : decide (C < rs.length) = false := decide_eq_false hi
   have HUZ : Hid (Us l rs L M 0 0 rs.length ws ys) := Lib.hid (by
    have h1 := HI.out.2.2
    have h2 : C = rs.length := by have := HGI.out; omega
    rw [h2] at h1
    exact h1)
   have HS7 := Lib.hid (HS6.out.keep HI.out.2.1 (HNH.out SP HSP.out))
   have HL7 := Lib.hid (HL6.out.keep HI.out.2.1 HLN.out)
   have HH7 := Lib.hid (HH6.out.keep HI.out.2.1 (fun i hi => HNH.out i (Nat.le_trans HWG.out (HGH.out i hi))))
   clear hi
   go_upto_region 13 with (first
    | (go_at_call 53; (with_reducible refine (up_c SP p va _ _ _ l rs L M ws ys _ size _ HI.out.1 HS7.out HL7.out HH7.out (by rw [List.length_replicate]) HSC.out HUZ.out HL.out).mono ?_); rintro e w8 ⟨rfl, ws8, ys8, ht, hu, hh, hf⟩; have HT8 := Lib.hid ht; have HU8 := Lib.hid hu; have HH8 := Lib.hid hh; have HF8 := Lib.hid hf; have HS8 := Lib.hid (HS7.out.keep hf (fun e => e.elim (HNH.out SP HSP.out) (HSG.out))); have HL8 := Lib.hid (HL7.out.keep hf (fun i hi e => e.elim (HLN.out i hi) (HLH.out i hi))); clear ht hu hh hf)
    | (go_at_call 54; (with_reducible refine (down_c SP p va _ _ _ l rs L M ws8 ys8 size _ HT8.out HS8.out HL8.out HH8.out HSC.out (HU8.out.down HSC.out) HL.out).mono ?_); rintro e w9 ⟨rfl, va9, ht, hf, hv⟩; have HT9 := Lib.hid ht; have HF9 := Lib.hid hf; have HV9 := Lib.hid hv; clear ht hf hv))
   have HRN : Hid (¬ (R = p ∨ UO va (.slice Ax rs.length cx) R)) := Lib.hid (HNR.out R (by rw [HR.out]; exact Nat.le_refl _))
   have HRH : Hid (¬ InBlk (.slice (some ⟨G3, 0, none⟩) M.length M.length) R) := Lib.hid (fun e => by have h1 := HGH.out R e; have h2 := HRG.out; omega)
   have hrb : w9.heap[R]? = some (.cells #[.int .i64 0, .slice none 0 0, .int .i64 0] 57 (0, 0)) := HF9.out.blk (HF8.out.blk (HI.out.2.1.blk HR6.out (fun e => HRN.out (.inr e))) (fun e => e.elim (fun e => HRN.out (.inr e)) HRH.out)) HRN.out
   have e0 : w9.cell? ⟨R, 0, none⟩ = some (.int .i64 0) := by simp [World.cell?, hrb]
   have e1 : w9.cell? ⟨R, 1, none⟩ = some (.slice none 0 0) := by simp [World.cell?, hrb]
   have e2 : w9.cell? ⟨R, 2, none⟩ = some (.int .i64 0) := by simp [World.cell?, hrb]
   have fz : ∀ i, w9.frozen? ⟨R, i, none⟩ = false := fun i => by simp [World.frozen?, hrb]
   have HRB9 := Lib.hid hrb
   have HGB : Hid (∀ k, InBlk (.slice Ag ng cg) k → w.heap.size ≤ k ∧ G3 < k) := Lib.hid (fun k hk => by have h1 := HN6.out k hk; have h2 := HGW.out; omega)
   have HG9 : Hid (Own w9 3 (.slice Ag ng cg) (iw (goneM l M L))) := Lib.hid (((HG6.out.keep HI.out.2.1 (fun k hk => HNH.out k (HGB.out k hk).1)).keep HF8.out (fun k hk e => e.elim (HNH.out k (HGB.out k hk).1) (fun e => by simp [InBlk, Value.ownBlock] at e; have := (HGB.out k hk).2; omega))).keep HF9.out (fun k hk => HNR.out k (HGB.out k hk).1))
   have HF : Hid (Fr w w9 (fun i => i = p ∨ UO va (.slice Ax rs.length cx) i)) := Lib.hid ((((HFW.out.mono (S1 := fun i => i = p ∨ UO va (.slice Ax rs.length cx) i) (fun _ h _ => h.elim)).then_ HI.out.2.1 (fun i hi _ => .inr hi)).then_ HF8.out (fun i hi hlt => hi.elim (fun e => .inr e) (fun e => by have h1 := HGH.out i e; have h2 := HWG.out; omega))).trans HF9.out)
   clear hrb
   go_wp2_with (first | (go_at_call 21; (with_reducible refine (used_c p va9 (imgs l M M) size _ HT9.out.ar).mono ?_); rintro e w5 ⟨rfl, rfl⟩))
   refine bodyPost_ret (results_ct rfl _ _ R 57 #[.int .i64 (imgs l M M).length, .slice Ag ng cg, .int .i64 (cntM l M M)] (0, 0) _ rfl (by
    refine blk_put (cs := #[.int .i64 (imgs l M M).length, .slice Ag ng cg, .int .i64 0]) ?_ 2 _ rfl
    refine blk_put (cs := #[.int .i64 (imgs l M M).length, .slice none 0 0, .int .i64 0]) ?_ 1 _ rfl
    refine blk_put (cs := #[.int .i64 0, .slice none 0 0, .int .i64 0]) ?_ 0 _ rfl
    exact HRB9.out) Tryd.underlying57 rfl (by kernel_rfl)) rfl ?_
   have hz := (((Fr.refl w9 (fun j => j = R)).setCell1 0 (.int .i64 (imgs l M M).length)).setCell1 1 (.slice Ag ng cg)).setCell1 2 (.int .i64 (cntM l M M))
   have hne : R ≠ p := fun e => HRN.out (.inl e)
   refine ⟨va9, .slice Ag ng cg, rfl, ⟨HT9.out.ar.keep hz (fun e => hne e.symm) (fun k hk e => HRN.out (.inr (.inl (HV9.out R (by rw [← e]; exact hk))))), HT9.out.own.keep hz (fun k hk e => HRN.out (.inr (.inr (by rw [← e]; exact hk)))), HT9.out.ap, HT9.out.okr, HT9.out.lenr⟩, HG9.out.keep hz (fun k hk e => by have h1 := (HGB.out k hk).2; have h2 := HRG.out; omega), ?_, HV9.out, fun k hk => (HGB.out k hk).1⟩
   exact HF.out.then_ hz (fun i hi hlt => by have h1 := HR.out; omega)
end Go.Proofs.YtjiaaefpepdoeaaDoor
namespace Go.Proofs.YtjiaaefpepdoeaaDoor
open Go.RowKit Md
set_option linter.unusedVariables false
theorem Lv.total {ws : List Int} : ∀ (n : Nat) (seen : List Bool) (todo : List Int), mu ws seen todo ≤ n → seen.length = ws.length → ∃ r, Lv ws seen todo r := by
 intro n
 induction n with
 | zero =>
  intro seen todo h hs
  have : todo = [] := List.eq_nil_of_length_eq_zero (by unfold mu at h; omega)
  subst this
  exact ⟨_, .nil⟩
 | succ n ih =>
  intro seen todo h hs
  rcases List.eq_nil_or_concat todo with rfl | ⟨rest, w, rfl⟩
  ·exact ⟨_, .nil⟩
  ·rw [List.concat_eq_append] at h ⊢
   have h1 : mu ws seen rest ≤ n := by unfold mu at h ⊢; rw [List.length_append] at h; simp only [List.length_cons, List.length_nil] at h; omega
   by_cases ht : tagW w = 5
   ·cases ho : objAt ws (valW w) with
    | none => exact ⟨_, .bad ht ho⟩
    | some hd =>
     obtain ⟨a0, a1, _, a3, _, a5⟩ := obj_facts ho
     cases hb : seen.getD (valW w).toNat false with
     | true => obtain ⟨r, hr⟩ := ih seen rest h1 hs; exact ⟨r, .old ht ho hb hr⟩
     | false =>
      have hk : (valW w).toNat < seen.length := by omega
      have hn : nFields hd < ws.length := by unfold nFields; omega
      have h2 := mu_new (ws := ws) (rest := rest) (x := valW w) hk hb hn
      have h3 : mu ws seen (rest ++ [valW w]) = mu ws seen (rest ++ [w]) := by unfold mu; simp
      obtain ⟨r, hr⟩ := ih (seen.set (valW w).toNat true) (rest ++ fieldsAt ws (valW w) (nFields hd)) (by omega) (by rw [List.length_set]; exact hs)
      exact ⟨r, .new ht ho hb hr⟩
   ·obtain ⟨r, hr⟩ := ih seen rest h1 hs
    exact ⟨r, .other ht hr⟩
theorem reach_of {ws rs ra L : List Int} (S : Snd ws rs L) (hr : ∀ w ∈ ra, sw L w) : ∃ s, Md.Reach ws ra s := by
 obtain ⟨r, h⟩ := Lv.total (ws := ws) _ (List.replicate ws.length false) ra (Nat.le_refl _) (by simp)
 cases r with
 | none => exact absurd rfl (Lv.sound S h hr)
 | some s => exact ⟨s, h⟩
end Go.Proofs.YtjiaaefpepdoeaaDoor
namespace Go.Proofs.YtjiaaefpepdoeaaDoor
open Go.RowKit Md Go.Proofs.YtjiaaefpepdoeaaDoorW.PrintWords
set_option linter.unusedVariables false
theorem slide_yes (p : Nat) (va xv : Value) (l rs L : List Int) (s : List Bool) (size : Int) (w : World) (h : TA 112 w p va l size xv rs) (S : Snd l rs L) (hR : Md.Reach l rs s) (hl : l.length ≤ 4000) (hlr : rs.length ≤ 4000) :
  Calls Tryd.prog 19 #[.pointer (some ⟨p, 0, none⟩), xv] w fun e w' => ∃ va' gv, e = .returned (.tuple #[.agg #[.int .i64 (imgs l (seenList s) (seenList s)).length, gv, .int .i64 (cntM l (seenList s) (seenList s))], .bool true]) ∧ TA 112 w' p va' (imgs l (seenList s) (seenList s)) size xv (rs.map (mvW l (seenList s))) ∧ Own w' 3 gv (iw (goneM l (seenList s) L)) ∧ Fr w w' (fun i => i = p ∨ UO va xv i) ∧ (∀ k, InBlk va' k → InBlk va k) ∧ ∀ k, InBlk gv k → w.heap.size ≤ k :=
 slide_c p va xv l rs L (seenList s) s size w h rfl (Sc.of_reach S hR h.ar.ok h.okr (by unfold St.small; simp only; omega)) S.bool hR hl hlr
end Go.Proofs.YtjiaaefpepdoeaaDoor
namespace Go.Proofs.YtjiaaefpepdoeaaDoor
open Go.RowKit Md
set_option linter.unusedVariables false
def WdA (w w' : World) (ws rs : List Int) (e : Ending) : Prop :=
 ∃ rr, Lv ws (List.replicate ws.length false) rs rr ∧ e = .returned (.int .i64 (wordsM ws ((rr.map seenList).getD []))) ∧ Fr w w' fun _ => False
theorem live_objs {ws rs : List Int} {rr : Option (List Bool)} (h : Lv ws (List.replicate ws.length false) rs rr) : (∀ a ∈ (rr.map seenList).getD [], ∃ hd, objAt ws a = some hd) ∧ ((rr.map seenList).getD []).length ≤ ws.length := by
 cases rr with
 | none => exact ⟨fun a ha => absurd ha (by simp), by simp⟩
 | some s =>
  have hr : Md.Reach ws rs s := h
  refine ⟨fun a ha => ?_, ?_⟩
  ·obtain ⟨k, rfl, _, hk⟩ := mem_seenList.1 ha
   obtain ⟨hd, ho, _⟩ := hr.closed k hk
   exact ⟨hd, ho⟩
  ·have := upTo_len s s.length
   rw [hr.len] at this
   rw [← hr.len] at this
   simp only [Option.map_some, Option.getD_some, ← upTo_all]
   rw [hr.len] at this ⊢
   exact this
theorem wordsM_snoc (ws M : List Int) (a : Int) : wordsM ws (M ++ [a]) = wordsM ws M + (1 + (obj0 ws a).size) := by simp [wordsM]
end Go.Proofs.YtjiaaefpepdoeaaDoor
namespace Go.Proofs.YtjiaaefpepdoeaaDoor
open Go.RowKit Md
set_option linter.unusedVariables false
theorem own_built (w : World) (T : TypeId) (l : List Value) (hm : l.length ≤ 1000) : Own (w.alloc (.cells l.toArray T)) T (.slice (some ⟨w.heap.size, 0, none⟩) l.length l.length) l :=
 ⟨by simp, .inr ⟨w.heap.size, l.length, l.toArray, rfl, Nat.zero_le _, blk_new _ _ _, Nat.le_refl _, by simp only [maxLen]; omega, by simp, by simp⟩⟩
theorem TA.built {T : TypeId} {W : World} {p : Nat} {v : Value} {ws rs : List Int} {size : Int} (h : Ar T W p v ws size) (hr : okWs rs) (hm : rs.length ≤ 1000) :
  TA T (W.alloc (.cells (uw rs).toArray 39)) p v ws size (.slice (some ⟨W.heap.size, 0, none⟩) (uw rs).length (uw rs).length) rs :=
 ⟨h.fr ((Fr.refl _ _).alloc _), own_built W 39 (uw rs) (by rw [uw_length]; exact hm), fun k hk e => by
  have := h.own.lt k hk
  simp [InBlk, Value.ownBlock] at e
  omega, hr, by omega⟩
theorem TA.root {T : TypeId} {W : World} {p : Nat} {v : Value} {ws rs : List Int} {size : Int} {g cap : Nat} (h : TA T W p v ws size (.slice (some ⟨g, 0, none⟩) rs.length cap) rs) (k : Nat) (hk : k < rs.length) :
  W.cell? ⟨g, k, none⟩ = some (.int .u64 (rs.getD k 0)) := by
 rcases h.own.form with ⟨e, h0⟩ | ⟨g', cap', e, hl, hm, hg, hc, hf⟩
 ·cases e
 ·injection e with e1 e2 e3
  injection e1 with e1
  injection e1 with e1
  subst e1
  rw [hc k (by rw [uw_length]; exact hk), uw_get hk]
end Go.Proofs.YtjiaaefpepdoeaaDoor
namespace Go.Proofs.YtjiaaefpepdoeaaDoor
open Go.RowKit Md
set_option linter.unusedVariables false
theorem rd_blk {W : World} {g : Nat} {T : TypeId} {l : List Value} (h : W.heap[g]? = some (.cells l.toArray T (0, 0))) (h0 : 0 < l.length) (hm : l.length ≤ 1000) : Rd W (.slice (some ⟨g, 0, none⟩) l.length l.length) l :=
 .inr ⟨g, 0, l.length, rfl, h0, Nat.le_refl _, by simp only [maxLen]; omega, (Array.getElem?_eq_some_iff.1 h).1, fun i hi => by
  rw [Nat.zero_add]
  simp only [World.cell?, h]
  simp⟩
end Go.Proofs.YtjiaaefpepdoeaaDoor
namespace Go.Proofs.YtjiaaefpepdoeaaDoor
open Go.RowKit Md
set_option linter.unusedVariables false
set_option maxRecDepth 100000 in
set_option maxHeartbeats 4000000 in
theorem awake14_c (w : World) : Calls Tryd.prog 14 #[] w fun e w' => e = .returned (.bool true) ∧ Fr w w' (fun _ => False) := by
 obtain ⟨H, T, hH, hT, okH, okT, hl3, hsb, him, hrt⟩ : ∃ H T, makeH ⟨0, 2, 3, false⟩ = H ∧ makeH ⟨1, 1, 2, false⟩ = T ∧ okW H ∧ okW T ∧ lvM [H, 0, 0, T, 16] 10 [false, false, false, false, false] [53] = some (some [false, false, false, true, false]) ∧
   soundB [H, 0, 0, T, 16] [53] = true ∧ imgs [H, 0, 0, T, 16] [3] [3] = [T, 16] ∧ mvW [H, 0, 0, T, 16] [3] 53 = 5 :=
  ⟨402653446, 268435606, by decide +kernel, by decide +kernel, by unfold okW; omega, by unfold okW; omega, by decide +kernel, by decide +kernel, by decide +kernel, by decide +kernel⟩
 have HH := Lib.hid hH
 have HT := Lib.hid hT
 have HL3 : Hid (Md.Lv [H, 0, 0, T, 16] (List.replicate ([H, 0, 0, T, 16] : List Int).length false) [53] (some [false, false, false, true, false])) := Lib.hid (lv_of _ _ _ _ hl3)
 have HSB := Lib.hid hsb
 have P50 : Hid (ofW 5 0 = 5) := Lib.hid (by decide +kernel)
 have P53 : Hid (ofW 5 3 = 53) := Lib.hid (by decide +kernel)
 have K5 : Hid (okWs [H, 0, 0, T, 16]) := Lib.hid (fun x hx => by simp at hx; rcases hx with rfl | rfl | rfl | rfl <;> first | assumption | (unfold okW; omega))
 have K53 : Hid (okWs [53]) := Lib.hid (fun x hx => by simp at hx; subst hx; unfold okW; omega)
 have Z0 : Hid ((0 : Int) ≤ 0) := Lib.hid (Int.le_refl 0)
 have L5 : Hid ((([H, 0, 0, T, 16] : List Int).length : Int) + 0 ≤ 1048576) := Lib.hid (by simp only [List.length_cons, List.length_nil]; omega)
 have M5 : Hid (([H, 0, 0, T, 16] : List Int).length ≤ 4000) := Lib.hid (by simp only [List.length_cons, List.length_nil]; omega)
 have M53 : Hid (([53] : List Int).length ≤ 4000) := Lib.hid (by simp only [List.length_cons, List.length_nil]; omega)
 have HM3 : Hid ([3] = seenList [false, false, false, true, false]) := Lib.hid (by decide +kernel)
 obtain ⟨L, hsn⟩ := snd_of hsb
 have hsc : Sc [H, 0, 0, T, 16] [53] L [3] := by
  have := Sc.of_reach hsn (s := [false, false, false, true, false]) HL3.out K5.out K53.out (by unfold St.small; simp only [List.length_cons, List.length_nil]; omega)
  rw [← HM3.out] at this
  exact this
 have HSC := Lib.hid hsc
 have HIM := Lib.hid him
 have HRT := Lib.hid hrt
 clear hH hT okH okT hl3 hsb him hrt hsn hsc
 go_enter Tryd.func14, Tryd.ntmps14
 go_upto_region 2 with (first
  | (go_at_call 26; (with_reducible refine (Wd.rmake_c 0 2 3 false H _ HH.out).mono ?_); rintro e w1 ⟨rfl, hb⟩; have HF1 := Lib.hid (Fr.of_below hb (fun _ => False)); clear hb)
  | (go_at_call 26; (with_reducible refine (Wd.rmake_c 1 1 2 false T _ HT.out).mono ?_); rintro e w2 ⟨rfl, hb⟩; have HB2 := Lib.hid hb; clear hb))
 have hr3 : Rd (w2.alloc (.cells #[.int .u64 H, .int .u64 0, .int .u64 0, .int .u64 T, .int .u64 16] 39)) (.slice (some ⟨w2.heap.size, 0, none⟩) 5 5) (uw [H, 0, 0, T, 16]) := rd_blk (l := uw [H, 0, 0, T, 16]) (blk_new w2 _ _) (by simp [uw]) (by simp [uw])
 have hf3 : Fr w (w2.alloc (.cells #[.int .u64 H, .int .u64 0, .int .u64 0, .int .u64 T, .int .u64 16] 39)) (fun _ => False) := (HF1.out.trans (Fr.of_below HB2.out _)).alloc _
 obtain ⟨W3, hW3⟩ : ∃ W3, w2.alloc (.cells #[.int .u64 H, .int .u64 0, .int .u64 0, .int .u64 T, .int .u64 16] 39) = W3 := ⟨_, rfl⟩
 obtain ⟨g, hg⟩ : ∃ g, w2.heap.size = g := ⟨_, rfl⟩
 rw [hW3] at hr3 hf3 ⊢
 rw [hg] at hr3 ⊢
 have HR3 := Lib.hid hr3
 have HF3 := Lib.hid hf3
 clear hr3 hf3 hW3 hg
 go_upto_region 6 with (first
  | (go_at_call 11; (with_reducible refine (fill_c _ [H, 0, 0, T, 16] 0 _ HR3.out K5.out Z0.out L5.out).mono ?_); rintro e w4 ⟨p, v4, rfl, hn⟩; have HA4 := Lib.hid hn.1; have HF4 := Lib.hid (HF3.out.trans hn.2.1); have HN4 : Hid (w.heap.size ≤ p ∧ ∀ k, InBlk v4 k → w.heap.size ≤ k) := Lib.hid ⟨Nat.le_trans HF3.out.size hn.2.2.1, fun k hk => Nat.le_trans HF3.out.size (hn.2.2.2 k hk)⟩; clear hn)
  | (go_at_call 27; (with_reducible refine (Wd.rof_c 5 3 53 _ P53.out).mono ?_); rintro e w3 ⟨rfl, n3, rfl⟩; have HA5 := Lib.hid (HA4.out.drewN n3); have HF5 := Lib.hid (HF4.out.drewN n3)))
 have hta := TA.built HA5.out K53.out (by decide)
 have hf6 := HF5.out.alloc (.cells #[.int .u64 53] 39)
 obtain ⟨W6, hW6⟩ : ∃ W6, (w4.drewN n3).alloc (.cells #[.int .u64 53] 39) = W6 := ⟨_, rfl⟩
 obtain ⟨g6, hg6⟩ : ∃ g6, w4.heap.size = g6 := ⟨_, rfl⟩
 have hta2 : TA 112 W6 p v4 [H, 0, 0, T, 16] (([H, 0, 0, T, 16] : List Int).length + 0) (.slice (some ⟨g6, 0, none⟩) 1 1) [53] := by rw [← hW6, ← hg6]; exact hta
 rw [hW6] at hf6 ⊢
 rw [hg6]
 have H6 := Lib.hid hta2
 have HG6 : Hid (w.heap.size ≤ g6) := Lib.hid (by rw [← hg6]; exact HF4.out.size)
 have HF6 := Lib.hid hf6
 clear hta hta2 hf6 hW6 hg6
 have HE2 : Hid ((imgs [H, 0, 0, T, 16] [3] [3]).length = 2) := Lib.hid (by rw [HIM.out]; rfl)
 go_upto_region 7 with (first
  | (go_at_call 19; (with_reducible refine (slide_c p v4 _ [H, 0, 0, T, 16] [53] L [3] [false, false, false, true, false] _ _ H6.out HM3.out HSC.out HSB.out HL3.out M5.out M53.out).mono ?_); rintro e w7 ⟨va7, gv, rfl, ht, hg, hf, hv, hgn⟩; obtain ⟨Ag, cg, hgv⟩ := hg.rd.len; generalize (iw (goneM [H, 0, 0, T, 16] [3] L)).length = ng at hgv; subst hgv; rw [HIM.out, List.map_cons, List.map_nil, HRT.out] at ht; have H7 := Lib.hid ht; have HF7 := Lib.hid hf; clear ht hg hf hv hgn; generalize cntM [H, 0, 0, T, 16] [3] [3] = cn; rw [HE2.out]))
 have r0 := TA.root (rs := [5]) (g := g6) (cap := 1) H7.out 0 (by decide)
 have r0b : w7.cell? ⟨g6, 0, none⟩ = some (.int .u64 5) := r0
 obtain ⟨W8, hW8⟩ : ∃ W8, w7.alloc (.cells #[.int .i64 2, .slice Ag ng cg, .int .i64 cn] 57) = W8 := ⟨_, rfl⟩
 obtain ⟨D, hD⟩ : ∃ D, w7.heap.size = D := ⟨_, rfl⟩
 have hf8 : Fr w7 W8 (fun _ => False) := by rw [← hW8]; exact (Fr.refl _ _).alloc _
 have hdb : W8.heap[D]? = some (.cells #[.int .i64 2, .slice Ag ng cg, .int .i64 cn] 57 (0, 0)) := by rw [← hW8, ← hD]; exact blk_new _ _ _
 have d0 : W8.cell? ⟨D, 0, none⟩ = some (.int .i64 2) := by simp [World.cell?, hdb]
 have r0c := hf8.cell r0b (fun h => h)
 have HF8 := Lib.hid hf8
 have H8 := Lib.hid (H7.out.fr hf8)
 simp only [hW8, hD]
 clear hW8 hD hf8 hdb r0 r0b
 refine wp_region_cls (S := fun w' => Fr W8 w' (fun _ => False)) (by kernel_rfl) (by kernel_rfl) ((Fr.refl W8 _).drew) (fun ne => ?_)
 generalize hS : (fun w' : World => Fr W8 w' (fun _ => False)) = S
 replace ne : Nonempty (Cw S) := by subst hS; exact ne
 have f0 : ∀ x : Cw S, x.val.cell? ⟨D, 0, none⟩ = some (.int .i64 2) := by subst hS; exact fun x => x.prop.cell d0 (fun h => h)
 have f1 : ∀ x : Cw S, x.val.cell? ⟨g6, 0, none⟩ = some (.int .u64 5) := by subst hS; exact fun x => x.prop.cell r0c (fun h => h)
 have HX : Hid (∀ w', S w' → Fr W8 w' (fun _ => False)) := Lib.hid (by subst hS; exact fun w' h => h)
 have HK2 : Hid (∀ w1 w2 : World, S w1 → (∃ n, w2 = w1.drewN n) → S w2) := Lib.hid (by subst hS; exact fun w1 w2 h hb => by obtain ⟨n, rfl⟩ := hb; exact h.drewN n)
 have HK3 : Hid (∀ w1 w2 : World, S w1 → w1 = w2 → S w2) := Lib.hid (fun w1 w2 h e => e ▸ h)
 have HUZ : Hid (∀ x : Cw S, Calls Tryd.prog 21 #[.pointer (some ⟨p, 0, none⟩)] x.val fun e w' => e = .returned (.int .i64 2) ∧ x.val = w') := Lib.hid (fun x => used_c p va7 [T, 16] _ _ (H8.out.ar.fr (HX.out _ x.prop)))
 clear hS
 repeat (any_goals (first | go_big_quiet_step ((first | (go_at_call 27; exact Cw.call (Wd.rof_c 5 0 5 _ P50.out) (fun w' h => HK2.out _ _ (Cw.prop _) h.out)) | (go_at_call 21; exact Cw.call (HUZ.out _) (fun w' h => HK3.out _ _ (Cw.prop _) h)))) | quiet_step ((first | (go_at_call 27; exact Cw.call (Wd.rof_c 5 0 5 _ P50.out) (fun w' h => HK2.out _ _ (Cw.prop _) h.out)) | (go_at_call 21; exact Cw.call (HUZ.out _) (fun w' h => HK3.out _ _ (Cw.prop _) h))))))
 refine wpQuiet_nil ?_
 intro w11 hw11
 obtain ⟨⟨w11, hS11⟩, rfl⟩ := hw11
 have h11 := HX.out _ hS11
 go_wp2
 go_ret
 refine ⟨by first | rfl | (simp; done), ?_⟩
 refine (HF6.out.then_ HF7.out (fun i hi hlt => ?_)).trans (HF8.out.trans h11)
 rcases hi with hi | hi | hi
 ·have := HN4.out.1; omega
 ·have := HN4.out.2 i hi; omega
 ·simp [InBlk, Value.ownBlock] at hi; have := HG6.out; omega
end Go.Proofs.YtjiaaefpepdoeaaDoor
namespace Go.Proofs.YtjiaaefpepdoeaaDoor
open Go.RowKit Md
set_option linter.unusedVariables false
structure SI (w W : World) (p : Nat) (v : Value) (ws rs : List Int) (size : Int) (L : List Int) (lv bv av : Value) (ib ia : Nat) : Prop where
 ar : Ar 46 W p v ws size
 fr : Fr w W fun _ => False
 lo : Own W 3 lv (iw L)
 bo : Own W 4 bv (bw (isList ws.length (L.take ib)))
 ao : Own W 39 av (uw (rs ++ flatF ws (L.take ia)))
 inb : ∀ k, InBlk bv k → w.heap.size ≤ k
 ina : ∀ k, InBlk av k → w.heap.size ≤ k
 vlt : ∀ k, InBlk v k → k < w.heap.size
 plt : p < w.heap.size
 fit : ∀ a ∈ L.take ia, fitA ws a = true
section
variable {w W W1 : World} {p : Nat} {v : Value} {ws rs : List Int} {size : Int} {L : List Int} {lv bv av : Value} {ib ia : Nat}
theorem SI.frm (h : SI w W p v ws rs size L lv bv av ib ia) (hf : Fr W W1 fun _ => False) : SI w W1 p v ws rs size L lv bv av ib ia :=
 ⟨h.ar.fr hf, h.fr.trans hf, h.lo.keep hf (fun _ _ h => h), h.bo.keep hf (fun _ _ h => h), h.ao.keep hf (fun _ _ h => h), h.inb, h.ina, h.vlt, h.plt, h.fit⟩
theorem take_snoc {L : List Int} {i : Nat} (hi : i < L.length) {b : Int} (hb : L.getD i 0 = b) : L.take (i + 1) = L.take i ++ [b] := by
 rw [List.take_succ_eq_append_getElem hi, ← hb]
 simp [List.getD, hi]
theorem SI.bset {gb k cb i : Nat} (h : SI w W p v ws rs size L lv (.slice (some ⟨gb, 0, none⟩) ws.length cb) av i ia) (hi : i < L.length) (hb : L.getD i 0 = k) (hk : k < ws.length) :
  SI w (W.setCell ⟨gb, k, none⟩ (.bool true)) p v ws rs size L lv (.slice (some ⟨gb, 0, none⟩) ws.length cb) av (i + 1) ia := by
 have hbl : (bw (isList ws.length (L.take i))).length = ws.length := by rw [bw_length, isList_len]
 have hbo := h.bo
 rw [← hbl] at hbo
 rw [hbl] at hbo
 have hgb := h.inb gb (by simp [InBlk, Value.ownBlock])
 have hin : InBlk (.slice (some ⟨gb, 0, none⟩) ws.length cb) gb := by simp [InBlk, Value.ownBlock]
 have hs : Own (W.setCell ⟨gb, k, none⟩ (.bool true)) 4 (.slice (some ⟨gb, 0, none⟩) ws.length cb) ((bw (isList ws.length (L.take i))).set k (.bool true)) ∧ Fr W (W.setCell ⟨gb, k, none⟩ (.bool true)) (fun i => i = gb) := by
  have := Own.setAt (cap := cb) (g := gb) (k := k) (u := .bool true) (xs := bw (isList ws.length (L.take i))) (e := 4) (W := W) (by rw [hbl]; exact h.bo) (by rw [hbl]; exact hk)
  rw [hbl] at this
  exact this
 have hf := hs.2
 have e1 : (bw (isList ws.length (L.take i))).set k (.bool true) = bw (isList ws.length (L.take (i + 1))) := by
  unfold bw
  rw [take_snoc hi hb, ← isList_snoc hk, List.map_set]
 rw [e1] at hs
 have n1 : ∀ k, InBlk v k → ¬ k = gb := fun k hk e => by have := h.vlt k hk; omega
 have n2 : ∀ k, InBlk lv k → ¬ k = gb := fun k hk e => h.lo.apart h.bo (by decide) k hk (by rw [e]; exact hin)
 have n3 : ∀ k, InBlk av k → ¬ k = gb := fun k hk e => h.ao.apart h.bo (by decide) k hk (by rw [e]; exact hin)
 have np : ¬ p = gb := by have := h.plt; omega
 exact ⟨h.ar.keep hf np n1, h.fr.setCell (S := fun _ => False) (a := ⟨gb, k, none⟩) (fun (hlt : gb < w.heap.size) => by omega) _, h.lo.keep hf n2, hs.1, h.ao.keep hf n3, h.inb, h.ina, h.vlt, h.plt, h.fit⟩
theorem SI.app {k i : Nat} {f : Int} {u : Value} (h : SI w W p v ws rs size L lv bv av (i + 1) i) (hi : i < L.length) (hb : L.getD i 0 = k) (hfa : fitA ws k = true) (hf : fieldsH (obj0 ws k) = f)
  (hu : Rd W u (uw (fieldsAt ws k f.toNat))) (hlen : (rs ++ flatF ws (L.take i)).length + (fieldsAt ws k f.toNat).length ≤ 1073741824) :
  ∃ v' w1, (Builtin.append_ #[44, 44] 44 #[av, u]).run Tryd.prog W = .ok v' w1 ∧ SI w w1 p v ws rs size L lv bv v' (i + 1) (i + 1) ∧ Fr W w1 (fun i => InBlk av i) := by
 obtain ⟨i0, hi0, hz0, hz1, hzb⟩ := info_parts wordInfo
 obtain ⟨v', w1, hr, ho, hg, hn⟩ := run_append_rd (P := Tryd.prog) W 44 44 39 i0 (.int .u64 0) Tryd.underlying44 hi0 hz0 hz1 (by omega) rfl av u _ _ h.ao hu (uw_one _) (by rw [uw_length, uw_length]; exact hlen)
 rw [← uw_append, List.append_assoc, ← hf, ← flatF_snoc, ← take_snoc hi hb] at ho
 have hf1 : Fr W w1 (fun i => InBlk av i) := (Fr.refl W _).grown hg (fun k hk _ => hk)
 have n1 : ∀ k, InBlk v k → ¬ InBlk av k := fun k hk e => by have := h.vlt k hk; have := h.ina k e; omega
 have np : ¬ InBlk av p := fun e => by have := h.plt; have := h.ina p e; omega
 refine ⟨v', w1, hr, ⟨h.ar.keep hf1 np n1, h.fr.grown hg (fun k hk hlt => by have := h.ina k hk; omega), h.lo.keep hf1 (h.lo.apart h.ao (by decide)), h.bo.keep hf1 (h.bo.apart h.ao (by decide)), ho, h.inb, fun k hk => ?_, h.vlt, h.plt, fun a ha => ?_⟩, hf1⟩
 ·rcases hn k hk with h1 | h1
  ·exact h.ina k h1
  ·exact Nat.le_trans h.fr.size h1
 ·rw [take_snoc hi hb] at ha
  rcases List.mem_append.1 ha with ha | ha
  ·exact h.fit a ha
  ·simp only [List.mem_singleton] at ha; rw [ha]; exact hfa
end
set_option maxRecDepth 100000 in
set_option maxHeartbeats 4000000 in
theorem sound8_none (p : Nat) (v r : Value) (ws rs : List Int) (size : Int) (w : World) (h : Ar 46 w p v ws size) (ho : objs ws = none) :
  Calls Tryd.prog 17 #[.pointer (some ⟨p, 0, none⟩), r] w fun e w' => e = .returned (.bool (soundB ws rs)) ∧ Fr w w' (fun _ => False) := by
 rw [soundB_none ho]
 have H := Lib.hid h
 have HO : Hid ((objs ws).isSome = false) := Lib.hid (by rw [ho]; rfl)
 clear h ho
 go_enter Tryd.func17, Tryd.ntmps17
 go_wp2_with (first | (go_at_call 46; (with_reducible refine (mobjects_c p v ws size _ H.out).mono ?_); rintro e w1 ⟨u, rfl, hn⟩; rw [HO.out]; have HF := Lib.hid hn.2.1; clear hn))
 go_ret
 exact ⟨rfl, HF.out⟩
set_option maxRecDepth 100000 in
set_option maxHeartbeats 4000000 in
theorem sound8_some (p : Nat) (v r : Value) (ws rs L : List Int) (size : Int) (w : World) (h : Ar 46 w p v ws size) (hr : Rd w r (uw rs)) (hok : okWs rs) (hl : rs.length ≤ 1048576) (ho : objs ws = some L) :
  Calls Tryd.prog 17 #[.pointer (some ⟨p, 0, none⟩), r] w fun e w' => e = .returned (.bool (soundB ws rs)) ∧ Fr w w' (fun _ => False) := by
 have hle := h.le
 have hmx := h.mx
 have HLB : Hid (ws.length ≤ 1048576 ∧ rs.length ≤ 1048576) := Lib.hid (by omega)
 have HLR : Hid (rs.length ≤ 1073741824) := Lib.hid (by omega)
 have H := Lib.hid h
 have HR := Lib.hid hr
 have HOK := Lib.hid hok
 have HO : Hid ((objs ws).isSome = true) := Lib.hid (by rw [ho]; rfl)
 have HOL : Hid ((objs ws).getD [] = L) := Lib.hid (by rw [ho]; rfl)
 have HO2 := Lib.hid ho
 have HROW := Lib.hid (rows_of_objs ho)
 obtain ⟨SB, hsb⟩ : ∃ b, soundB ws rs = b := ⟨_, rfl⟩
 rw [hsb]
 have HSB := Lib.hid hsb
 obtain ⟨A, cap, rfl⟩ := h.val
 have q0 : 0 ≤ (ws.length : Int) := by omega
 have q1 : (ws.length : Int) ≤ 1048576 := by omega
 have qL : (L.length : Int) ≤ 1048576 := by have := HROW.out.len; omega
 clear h hr hok ho hsb hle hmx hl
 go_enter Tryd.func17, Tryd.ntmps17
 go_upto_region 5 with (first
  | (go_at_call 46; (with_reducible refine (mobjects_c p _ ws size _ H.out).mono ?_); rintro e w1 ⟨lv, rfl, hn⟩; rw [HO.out]; rw [HOL.out] at hn; have HN1 := Lib.hid hn.1; have HF1 := Lib.hid hn.2.1; have HA1 := Lib.hid (H.out.fr hn.2.1); have HR1 := Lib.hid (HR.out.keep hn.2.1 (fun _ _ h => h)); clear hn)
  | (go_at_call 18; (with_reducible refine (copy_c _ rs _ HR1.out HLR.out).mono ?_); rintro e w2 ⟨av, rfl, hn⟩; have HC2 := Lib.hid hn; have HF2 := Lib.hid (HF1.out.trans hn.2.1); have HA2 := Lib.hid (HA1.out.fr hn.2.1); have HN2 := Lib.hid (HN1.out.keep hn.2.1 (fun _ _ h => h)); have k0 := HA2.out.c0; clear hn))
 obtain ⟨w3, hmk, hbo, hfm⟩ := mk_bools ws.length w2 HLB.out.1
 have H0 : Hid (SI w w3 p (.slice A ws.length cap) ws rs size L lv (.slice (some ⟨w2.heap.size, 0, none⟩) ws.length ws.length) av 0 0) := Lib.hid ⟨HA2.out.fr hfm, HF2.out.trans hfm, HN2.out.keep hfm (fun _ _ h => h), by simpa [isList_nil] using hbo, by simpa [flatF] using HC2.out.1.keep hfm (fun _ _ h => h), (fun k hk => by have := HF2.out.size; simp [InBlk, Value.ownBlock] at hk; omega), (fun k hk => Nat.le_trans HF1.out.size (HC2.out.2.2 k hk)), H.out.own.lt, H.out.lt, by simp⟩
 clear hbo hfm
 obtain ⟨gb, hgb⟩ : ∃ gb, w2.heap.size = gb := ⟨_, rfl⟩
 rw [hgb] at hmk H0
 clear hgb
 go_wp2
 go_loopg [7, 9] L.length (fun g a7 a9 wr => ∃ (av : Value) (i : Nat), a7 = av ∧ a9 = .int .i64 i ∧ g + i = L.length ∧ Hid (SI w wr p (.slice A ws.length cap) ws rs size L lv (.slice (some ⟨gb, 0, none⟩) ws.length ws.length) av i i))
 case atStart => exact ⟨_, 0, rfl, rfl, rfl, H0⟩
 case round =>
  clear H0
  obtain ⟨av, i, rfl, rfl, hgi, HI⟩ := hrel
  have HG := Lib.hid hgi
  clear hgi
  obtain ⟨Al, cl, rfl⟩ := HI.out.lo.rd.len
  rw [iw_length] at *
  by_cases hi : i < L.length
  ·obtain ⟨gl, rfl, hc⟩ : ∃ gl, Al = some ⟨gl, 0, none⟩ ∧ ∀ i, i < L.length → wr.cell? ⟨gl, i, none⟩ = (iw L)[i]? := by
    rcases HI.out.lo.form with ⟨e, h0⟩ | ⟨gl, cl', e, hl, hm, hg, hc, hf⟩
    ·injection e with e1 e2 e3; omega
    ·injection e with e1 e2 e3; rw [iw_length] at hc; exact ⟨gl, e1, hc⟩
   have ck := hc i hi
   rw [iw_get hi] at ck
   obtain ⟨b, hb⟩ : ∃ b, L.getD i 0 = b := ⟨_, rfl⟩
   rw [hb] at ck
   have hbm : b ∈ L := by rw [← hb, List.getD_eq_getElem?_getD, List.getElem?_eq_getElem hi]; exact List.getElem_mem hi
   obtain ⟨hd, hob, ho0, hb0, hb1, hrd, hz0, hz1, hz2⟩ := HROW.out.obj b hbm
   obtain ⟨k, rfl⟩ := Int.eq_ofNat_of_zero_le hb0
   have HB := Lib.hid hb
   have HI2 := Lib.hid hi
   have HOB := Lib.hid hob
   have HMEM := Lib.hid hbm
   have qk : (k : Int) < ws.length := hb1
   have qi : (i : Int) < L.length := by omega
   have HK : Hid (k < ws.length) := Lib.hid (by omega)
   obtain ⟨kd, z, t, n⟩ := hd
   have HZ : Hid (0 ≤ z ∧ z < 1048576 ∧ (k : Int) + 1 + z ≤ ws.length) := Lib.hid ⟨hz0, hz1, hz2⟩
   have HO0 := Lib.hid ho0
   obtain ⟨f, hfd⟩ : ∃ f, fieldsH ⟨kd, z, t, n⟩ = f := ⟨_, rfl⟩
   have HFD := Lib.hid hfd
   obtain ⟨hbc, hbf⟩ : wr.cell? ⟨gb, k, none⟩ = some (.bool ((isList ws.length (L.take i)).getD k false)) ∧ wr.frozen? ⟨gb, k, none⟩ = false := by
    rcases HI.out.bo.form with ⟨e, _⟩ | ⟨g', cap', e, _, _, _, hcb, hfb⟩
    ·cases e
    ·injection e with e1 e2 e3
     injection e1 with e1
     injection e1 with e1
     subst e1
     have := hcb k (by rw [bw_length, isList_len]; omega)
     rw [bw_get (by rw [isList_len]; omega)] at this
     exact ⟨this, hfb k⟩
   clear hi hb hbm hob ho0 hb0 hrd hz0 hz1 hz2 hfd hc hb1
   go_upto_region 10 with (fail)
   have HI3 := Lib.hid (HI.out.bset (k := k) HI2.out HB.out HK.out)
   obtain ⟨W1, hW1⟩ : ∃ W1, wr.setCell ⟨gb, k, none⟩ (.bool true) = W1 := ⟨_, rfl⟩
   rw [hW1] at HI3 ⊢
   clear hbc hbf hW1 ck HI
   have ck : W1.cell? ⟨gl, i, none⟩ = some (.int .i64 k) := by
    rcases HI3.out.lo.form with ⟨e, _⟩ | ⟨g', cap', e, _, _, _, hcb, hfb⟩
    ·cases e
    ·injection e with e1 e2 e3
     injection e1 with e1
     injection e1 with e1
     subst e1
     have := hcb i (by rw [iw_length]; exact HI2.out)
     rw [iw_get HI2.out, HB.out] at this
     exact this
   go_upto_region 11 with (first | (go_at_call 47; (with_reducible refine (mobj_some p _ ws size k _ _ HI3.out.ar HOB.out).mono ?_); rintro e wo ⟨rfl, hfo⟩))
   obtain ⟨W2, hW2⟩ : ∃ W2, wo.alloc (.cells #[.int .i64 kd, .int .i64 z, .int .i64 t, .bool n] 68) = W2 := ⟨_, rfl⟩
   obtain ⟨D, hD⟩ : ∃ D, wo.heap.size = D := ⟨_, rfl⟩
   have hf2 : Fr W1 W2 (fun _ => False) := by rw [← hW2]; exact hfo.alloc _
   have hdb : W2.heap[D]? = some (.cells #[.int .i64 kd, .int .i64 z, .int .i64 t, .bool n] 68 (0, 0)) := by rw [← hW2, ← hD]; exact blk_new _ _ _
   have HI4 := Lib.hid (HI3.out.frm hf2)
   have cl2 := hf2.cell ck (fun h => h)
   simp only [hW2, hD]
   have d0 : W2.cell? ⟨D, 0, none⟩ = some (.int .i64 kd) := by simp [World.cell?, hdb]
   have d1 : W2.cell? ⟨D, 1, none⟩ = some (.int .i64 z) := by simp [World.cell?, hdb]
   have d2 : W2.cell? ⟨D, 2, none⟩ = some (.int .i64 t) := by simp [World.cell?, hdb]
   have d3 : W2.cell? ⟨D, 3, none⟩ = some (.bool n) := by simp [World.cell?, hdb]
   have HDB := Lib.hid hdb
   clear hW2 hD hfo hf2 ck HI3 hdb
   refine wp_region_cls (S := fun w' => Fr W2 w' (fun _ => False)) (by kernel_rfl) (by kernel_rfl) ((Fr.refl W2 _).drew) (fun ne => ?_)
   generalize hS : (fun w' : World => Fr W2 w' (fun _ => False)) = S
   replace ne : Nonempty (Cw S) := by subst hS; exact ne
   have f0 : ∀ x : Cw S, x.val.cell? ⟨D, 0, none⟩ = some (.int .i64 kd) := by subst hS; exact fun x => x.prop.cell d0 (fun h => h)
   have f1 : ∀ x : Cw S, x.val.cell? ⟨D, 1, none⟩ = some (.int .i64 z) := by subst hS; exact fun x => x.prop.cell d1 (fun h => h)
   have f2 : ∀ x : Cw S, x.val.cell? ⟨D, 2, none⟩ = some (.int .i64 t) := by subst hS; exact fun x => x.prop.cell d2 (fun h => h)
   have f3 : ∀ x : Cw S, x.val.cell? ⟨D, 3, none⟩ = some (.bool n) := by subst hS; exact fun x => x.prop.cell d3 (fun h => h)
   have HX : Hid (∀ w', S w' → Fr W2 w' (fun _ => False)) := Lib.hid (by subst hS; exact fun w' h => h)
   have HK2 : Hid (∀ w1 w2, S w1 → Below w1.heap.size w1 w2 → S w2) := Lib.hid (by subst hS; exact fun w1 w2 h hb => h.trans (Fr.of_below hb _))
   clear hS
   repeat (any_goals (first | go_big_quiet_step ((go_at_call 48; exact Cw.call (Wd.rfields_c kd z t n f _ HFD.out) (fun w' h => HK2.out _ _ (Cw.prop _) h))) | quiet_step ((go_at_call 48; exact Cw.call (Wd.rfields_c kd z t n f _ HFD.out) (fun w' h => HK2.out _ _ (Cw.prop _) h)))))
   refine wpQuiet_nil ?_
   intro w9 hw9
   obtain ⟨⟨w9, hS9⟩, rfl⟩ := hw9
   have h9 := HX.out _ hS9
   have HI9 := Lib.hid (HI4.out.frm h9)
   clear hS9 HX HK2 ne f0 f1 f2 f3
   by_cases hfz : z < f
   ·have hff : decide (z < f) = true := decide_eq_true hfz
    go_wp2
    go_ret
    have hfa : fitA ws k = false := by unfold fitA; rw [HO0.out, HFD.out]; exact decide_eq_false (by simp only; omega)
    rw [← HSB.out, soundB_far HO2.out HMEM.out hfa]
    exact ⟨rfl, HI9.out.fr⟩
   ·have hff : decide (z < f) = false := decide_eq_false hfz
    have hfz2 : f ≤ z := by omega
    clear hfz
    go_upto_region 13 with (fail)
    have hf0 : 0 ≤ f := by rw [← HFD.out]; exact fieldsH_nonneg HZ.out.1
    have hz2 := HZ.out
    have HFA : Hid (fitA ws k = true) := Lib.hid (by unfold fitA; rw [HO0.out, HFD.out]; exact decide_eq_true hfz2)
    obtain ⟨u, hsl, hur⟩ := rd_fields (f := f) (k := k) HI9.out.ar.own hf0 (by omega) (fieldsAt_part (by omega))
    have HU := Lib.hid hur
    have HFE : Hid (fieldsH (obj0 ws k) = f) := Lib.hid (by rw [HO0.out]; exact HFD.out)
    have HLEN : Hid ((rs ++ flatF ws (L.take i)).length + (fieldsAt ws k f.toNat).length ≤ 1073741824) := Lib.hid (by
     have h1 := flatF_len HROW.out (L.take i) (L.drop i) (List.take_append_drop i L).symm (fun a ha => by have := HI9.out.fit a ha; unfold fitA at this; exact of_decide_eq_true this)
     have h2 := HLB.out
     have h3 : (fieldsAt ws k f.toNat).length = f.toNat := by simp [fieldsAt]
     rw [List.length_append, h3]
     omega)
    have c0 := HI9.out.ar.c0
    have cl0 := h9.cell cl2 (fun h => h)
    have e0 := h9.cell d0 (fun h => h)
    have e1 := h9.cell d1 (fun h => h)
    have e2 := h9.cell d2 (fun h => h)
    have e3 := h9.cell d3 (fun h => h)
    have HDB9 := Lib.hid (h9.blk HDB.out (fun h => h))
    have HI9d := Lib.hid (HI9.out.frm ((Fr.refl w9 (fun _ => False)).drew))
    have qz1 : (0 : Int) ≤ (k : Int) + 1 := by omega
    have hw1 : IntKind.i64.wrap ((k : Int) + 1) = k + 1 := IntWalk.i64_in _ (by omega)
    have hw2 : IntKind.i64.wrap ((k : Int) + 1 + f) = k + 1 + f := IntWalk.i64_in _ (by clear hw1; omega)
    have HW1 := Lib.hid hw1
    clear cl2 d0 d1 d2 d3 h9 HI9 HI4 hz2 hur hfz2
    go_region_held3 (fun w' => w'.cell? ⟨p, 0, none⟩ = some (.slice A ws.length cap) ∧ w'.cell? ⟨gl, i, none⟩ = some (.int .i64 k) ∧ w'.cell? ⟨D, 0, none⟩ = some (.int .i64 kd) ∧ w'.cell? ⟨D, 1, none⟩ = some (.int .i64 z) ∧ w'.cell? ⟨D, 2, none⟩ = some (.int .i64 t) ∧ w'.cell? ⟨D, 3, none⟩ = some (.bool n))
     (first | exact ⟨r0, r1, r2, r3, r4, r5⟩ | exact ⟨g0, g1, g2, g3, g4, g5⟩ | exact ⟨c0, cl0, e0, e1, e2, e3⟩)
     (first
      | (go_at_call 48; (with_reducible refine (Wd.rfields_c kd z t n f _ HFD.out).mono ?_); rintro e wa ⟨rfl, hb⟩; have hfb := (Fr.of_below hb (fun _ => False)); have g0 := hfb.cell (a := ⟨p, 0, none⟩) c0 (fun h => h); have g1 := hfb.cell (a := ⟨gl, i, none⟩) cl0 (fun h => h); have g2 := hfb.cell (a := ⟨D, 0, none⟩) e0 (fun h => h); have g3 := hfb.cell (a := ⟨D, 1, none⟩) e1 (fun h => h); have g4 := hfb.cell (a := ⟨D, 2, none⟩) e2 (fun h => h); have g5 := hfb.cell (a := ⟨D, 3, none⟩) e3 (fun h => h); have HDBa := Lib.hid (hfb.blk (w := w9.drew) HDB9.out (fun h => h)); have HIa := Lib.hid (HI9d.out.frm hfb); clear hb hfb)
      | (obtain ⟨v', wb, hrun, hIb, hfb⟩ := HIa.out.app (k := k) HI2.out HB.out HFA.out HFE.out (HU.out _ HIa.out.ar.own) HLEN.out; refine step_append_run _ (by rfl) _ _ _ _ (by rfl) _ _ (by rfl) (by rfl) _ _ hrun ?_; have r0 := hfb.cell (a := ⟨p, 0, none⟩) g0 (fun e => (HIa.out.ao.not_ptr HIa.out.ar (by decide)) p e rfl); have r1 := hfb.cell (a := ⟨gl, i, none⟩) g1 (HIa.out.lo.apart HIa.out.ao (by decide) gl (by simp [InBlk, Value.ownBlock])); have hnd := HIa.out.ao.not_box HDBa.out (by decide); have r2 := hfb.cell (a := ⟨D, 0, none⟩) g2 hnd; have r3 := hfb.cell (a := ⟨D, 1, none⟩) g3 hnd; have r4 := hfb.cell (a := ⟨D, 2, none⟩) g4 hnd; have r5 := hfb.cell (a := ⟨D, 3, none⟩) g5 hnd; have HIb := Lib.hid hIb; clear hrun hIb hfb hnd))
    clear r0 r1 r2 r3 r4 r5 g0 g1 g2 g3 g4 g5 c0 cl0 e0 e1 e2 e3 hw1 hw2 hsl
    go_wp2
    go_roundg (gk - 1)
    case measure => have := HG.out; have := HI2.out; omega
    case rel => exact ⟨_, i + 1, rfl, by go_num, by have := HG.out; have := HI2.out; omega, HIb⟩
  ·have hiL : L.length ≤ i := by omega
   have hie : i = L.length := by have := HG.out; omega
   subst hie
   have HFT : Hid (∀ a ∈ L, fitA ws a = true) := Lib.hid (fun a ha => HI.out.fit a (by rw [List.take_length]; exact ha))
   have HOKA : Hid (okWs (rs ++ flatF ws L)) := Lib.hid (okWs_append HOK.out (okWs_flatF HI.out.ar.ok _))
   have HS2 := Lib.hid (soundB_of (rs := rs) HO2.out HFT.out)
   have HIA := HI.out.ao
   have HIB := HI.out.bo
   rw [List.take_length] at HIA HIB
   obtain ⟨acc, hacc⟩ : ∃ acc, rs ++ flatF ws L = acc := ⟨_, rfl⟩
   rw [hacc] at HIA HOKA HS2
   obtain ⟨isl, hisl⟩ : ∃ isl, isList ws.length L = isl := ⟨_, rfl⟩
   rw [hisl] at HIB HS2
   have HISL : Hid (isl.length = ws.length) := Lib.hid (by rw [← hisl, isList_len])
   have HLA : Hid (acc.length ≤ 1073741824) := Lib.hid (by
    have h1 := flatF_len HROW.out L [] (by simp) (fun a ha => by have := HFT.out a ha; unfold fitA at this; exact of_decide_eq_true this)
    have h2 := HLB.out
    rw [← hacc, List.length_append]
    omega)
   have qA : (acc.length : Int) ≤ 1073741824 := by have := HLA.out; omega
   have HA0 := Lib.hid HIA
   have HB0 := Lib.hid HIB
   have HFW := Lib.hid HI.out.fr
   obtain ⟨Aa, ca, rfl⟩ := HIA.rd.len
   rw [uw_length] at *
   clear hi hiL HIA HIB hacc hisl HI
   obtain ⟨W0, hW0⟩ : ∃ W0, wr = W0 := ⟨_, rfl⟩
   rw [hW0] at HA0 HB0 HFW ⊢
   clear hW0
   go_wp2
   go_loopg [12] acc.length (fun g a12 wr => ∃ (i : Nat), a12 = .int .i64 i ∧ g + i = acc.length ∧ Hid (Fr W0 wr (fun _ => False) ∧ ∀ j, j < i → soundW (acc.getD j 0) isl = true))
   case atStart => exact ⟨0, rfl, rfl, Lib.hid ⟨Fr.refl _ _, fun j hj => by omega⟩⟩
   case round =>
    obtain ⟨i, rfl, hgi, HI⟩ := hrel
    have HGI := Lib.hid hgi
    clear hgi
    by_cases hi : i < acc.length
    ·have HAw := Lib.hid (HA0.out.keep HI.out.1 (fun _ _ h => h))
     have HBw := Lib.hid (HB0.out.keep HI.out.1 (fun _ _ h => h))
     obtain ⟨ga, rfl, hc⟩ : ∃ ga, Aa = some ⟨ga, 0, none⟩ ∧ ∀ i, i < acc.length → wr.cell? ⟨ga, i, none⟩ = (uw acc)[i]? := by
      rcases HAw.out.form with ⟨e, h0⟩ | ⟨gl, cl', e, hl, hm, hg, hc, hf⟩
      ·injection e with e1 e2 e3; omega
      ·injection e with e1 e2 e3; rw [uw_length] at hc; exact ⟨gl, e1, hc⟩
     have ck := hc i hi
     rw [uw_get hi] at ck
     have hx : okW (acc.getD i 0) := okWs_getD HOKA.out i hi
     obtain ⟨x, hxe⟩ : ∃ x, acc.getD i 0 = x := ⟨_, rfl⟩
     rw [hxe] at ck hx
     have HX := Lib.hid hx
     have HXE := Lib.hid hxe
     have qi : (i : Int) < acc.length := by omega
     have HI2 := Lib.hid hi
     have HNO : Hid (soundW x isl = false → SB = false) := Lib.hid (fun hs => by rw [← HSB.out, HS2.out]; exact List.all_eq_false.2 ⟨x, by rw [← HXE.out, List.getD_eq_getElem?_getD, List.getElem?_eq_getElem hi]; exact List.getElem_mem hi, by rw [hs]; decide⟩)
     obtain ⟨t, ht⟩ : ∃ t, tagW x = t := ⟨_, rfl⟩
     obtain ⟨n, hn⟩ : ∃ n, valW x = n := ⟨_, rfl⟩
     have HT := Lib.hid ht
     have HN := Lib.hid hn
     clear hi hc hx hxe ht hn
     have bfr : Hid (Fr w (wr.drewN 0) (fun _ => False)) := Lib.hid ((HFW.out.trans HI.out.1).drewN 0)
     by_cases h6 : t = 6
     ·have hs : soundW x isl = false := by unfold soundW; rw [HT.out, if_pos (.inl h6)]
      have hsb := HNO.out hs
      have HSB2 := Lib.hid hsb
      subst h6
      clear hs hsb
      go_wp2_with (first | (go_at_call 49; (with_reducible refine (Wd.rval_c x n _ HX.out HN.out).mono ?_); rintro e wv ⟨rfl, nv, rfl⟩) | (go_at_call 50; (with_reducible refine (Wd.rtag_c x 6 _ HX.out HT.out).mono ?_); rintro e wt ⟨rfl, nt, rfl⟩))
      go_ret
      exact ⟨by rw [HSB2.out]; rfl, (HFW.out.trans HI.out.1).drewN _⟩
     ·have b6 : (t == 6) = false := by simpa using h6
      by_cases h7 : t = 7
      ·have hs : soundW x isl = false := by unfold soundW; rw [HT.out, if_pos (.inr h7)]
       have hsb := HNO.out hs
       have HSB2 := Lib.hid hsb
       subst h7
       clear hs hsb b6 h6
       go_wp2_with (first | (go_at_call 49; (with_reducible refine (Wd.rval_c x n _ HX.out HN.out).mono ?_); rintro e wv ⟨rfl, nv, rfl⟩) | (go_at_call 50; (with_reducible refine (Wd.rtag_c x 7 _ HX.out HT.out).mono ?_); rintro e wt ⟨rfl, nt, rfl⟩))
       go_ret
       exact ⟨by rw [HSB2.out]; rfl, (HFW.out.trans HI.out.1).drewN _⟩
      ·have b7 : (t == 7) = false := by simpa using h7
       by_cases h5 : t = 5
       ·subst h5
        clear b6 b7 h6 h7
        have hsw : soundW x isl = (decide (0 ≤ n) && decide (n < isl.length) && isl.getD n.toNat false) := by unfold soundW; rw [HT.out, HN.out]; rfl
        have HSW := Lib.hid hsw
        clear hsw
        by_cases hn0 : n < 0
        ·have hsb := HNO.out (by rw [HSW.out, decide_eq_false (show ¬ 0 ≤ n by omega)]; rfl)
         have HSB2 := Lib.hid hsb
         have b1 : decide (n < 0) = true := decide_eq_true hn0
         clear hsb hn0
         go_wp2_with (first | (go_at_call 49; (with_reducible refine (Wd.rval_c x n _ HX.out HN.out).mono ?_); rintro e wv ⟨rfl, nv, rfl⟩) | (go_at_call 50; (with_reducible refine (Wd.rtag_c x 5 _ HX.out HT.out).mono ?_); rintro e wt ⟨rfl, nt, rfl⟩))
         go_ret
         exact ⟨by rw [HSB2.out]; rfl, (HFW.out.trans HI.out.1).drewN _⟩
        ·have b1 : decide (n < 0) = false := decide_eq_false hn0
         by_cases hn1 : (ws.length : Int) ≤ n
         ·have hsb := HNO.out (by rw [HSW.out, HISL.out, decide_eq_false (show ¬ n < ws.length by omega), Bool.and_false]; rfl)
          have HSB2 := Lib.hid hsb
          have b2 : decide ((ws.length : Int) ≤ n) = true := decide_eq_true hn1
          clear hsb hn0 hn1
          go_wp2_with (first | (go_at_call 49; (with_reducible refine (Wd.rval_c x n _ HX.out HN.out).mono ?_); rintro e wv ⟨rfl, nv, rfl⟩) | (go_at_call 50; (with_reducible refine (Wd.rtag_c x 5 _ HX.out HT.out).mono ?_); rintro e wt ⟨rfl, nt, rfl⟩))
          go_ret
          exact ⟨by rw [HSB2.out]; rfl, (HFW.out.trans HI.out.1).drewN _⟩
         ·have b2 : decide ((ws.length : Int) ≤ n) = false := decide_eq_false hn1
          obtain ⟨m, rfl⟩ := Int.eq_ofNat_of_zero_le (show 0 ≤ n by omega)
          have hm : m < ws.length := by omega
          have qm : (m : Int) < ws.length := by omega
          have cb : wr.cell? ⟨gb, m, none⟩ = some (.bool (isl.getD m false)) := by
           rcases HBw.out.form with ⟨e, _⟩ | ⟨g', cap', e, _, _, _, hcb, hfb⟩
           ·cases e
           ·injection e with e1 e2 e3
            injection e1 with e1
            injection e1 with e1
            subst e1
            have := hcb m (by rw [bw_length, HISL.out]; exact hm)
            rw [bw_get (by rw [HISL.out]; exact hm)] at this
            exact this
          have hsw2 : soundW x isl = isl.getD m false := by
           rw [HSW.out, HISL.out, decide_eq_true (show (0 : Int) ≤ m by omega), decide_eq_true qm]; rfl
          clear hn0 hn1 hm HSW
          obtain ⟨bb, hbb⟩ : ∃ bb, isl.getD m false = bb := ⟨_, rfl⟩
          rw [hbb] at cb hsw2
          have HSW2 := Lib.hid hsw2
          clear hbb hsw2
          cases bb with
          | false =>
           have hsb := HNO.out HSW2.out
           have HSB2 := Lib.hid hsb
           clear hsb
           go_wp2_with (first | (go_at_call 49; (with_reducible refine (Wd.rval_c x (m : Int) _ HX.out HN.out).mono ?_); rintro e wv ⟨rfl, nv, rfl⟩) | (go_at_call 50; (with_reducible refine (Wd.rtag_c x 5 _ HX.out HT.out).mono ?_); rintro e wt ⟨rfl, nt, rfl⟩))
           go_ret
           exact ⟨by rw [HSB2.out]; rfl, (HFW.out.trans HI.out.1).drewN _⟩
          | true =>
           have HYES : Hid (soundW x isl = true) := Lib.hid HSW2.out
           go_wp2_with (first | (go_at_call 49; (with_reducible refine (Wd.rval_c x (m : Int) _ HX.out HN.out).mono ?_); rintro e wv ⟨rfl, nv, rfl⟩) | (go_at_call 50; (with_reducible refine (Wd.rtag_c x 5 _ HX.out HT.out).mono ?_); rintro e wt ⟨rfl, nt, rfl⟩))
           go_roundg (gk - 1)
           case measure => have := HGI.out; have := HI2.out; omega
           case rel => exact ⟨i + 1, by go_num, by have := HGI.out; have := HI2.out; omega, Lib.hid ⟨HI.out.1.drewN _, fun j hj => by
            by_cases hj2 : j < i
            ·exact HI.out.2 j hj2
            ·have : j = i := by omega
             subst this
             rw [HXE.out]; exact HYES.out⟩⟩
       ·have b5 : (t == 5) = false := by simpa using h5
        have HYES : Hid (soundW x isl = true) := Lib.hid (by unfold soundW; rw [HT.out, if_neg (by omega), if_neg h5])
        clear h5 h6 h7
        go_wp2_with (first | (go_at_call 49; (with_reducible refine (Wd.rval_c x n _ HX.out HN.out).mono ?_); rintro e wv ⟨rfl, nv, rfl⟩) | (go_at_call 50; (with_reducible refine (Wd.rtag_c x t _ HX.out HT.out).mono ?_); rintro e wt ⟨rfl, nt, rfl⟩))
        go_roundg (gk - 1)
        case measure => have := HGI.out; have := HI2.out; omega
        case rel => exact ⟨i + 1, by go_num, by have := HGI.out; have := HI2.out; omega, Lib.hid ⟨HI.out.1.drewN _, fun j hj => by
         by_cases hj2 : j < i
         ·exact HI.out.2 j hj2
         ·have : j = i := by omega
          subst this
          rw [HXE.out]; exact HYES.out⟩⟩
    ·go_wp2
     go_ret
     have : SB = true := by
      rw [← HSB.out, HS2.out]
      refine List.all_eq_true.2 fun x hx => ?_
      obtain ⟨j, hj, rfl⟩ := List.getElem_of_mem hx
      have := HI.out.2 j (by have := HGI.out; omega)
      rw [List.getD_eq_getElem?_getD, List.getElem?_eq_getElem hj] at this
      exact this
     exact ⟨by rw [this]; rfl, HFW.out.trans HI.out.1⟩
theorem sound8_c (p : Nat) (v r : Value) (ws rs : List Int) (size : Int) (w : World) (h : Ar 46 w p v ws size) (hr : Rd w r (uw rs)) (hok : okWs rs) (hl : rs.length ≤ 1048576) :
  Calls Tryd.prog 17 #[.pointer (some ⟨p, 0, none⟩), r] w fun e w' => e = .returned (.bool (soundB ws rs)) ∧ Fr w w' (fun _ => False) := by
 cases ho : objs ws with
 | none => exact sound8_none p v r ws rs size w h ho
 | some L => exact sound8_some p v r ws rs L size w h hr hok hl ho
end Go.Proofs.YtjiaaefpepdoeaaDoor
namespace Go.Proofs.YtjiaaefpepdoeaaDoor
open Go.RowKit Md
set_option linter.unusedVariables false
end Go.Proofs.YtjiaaefpepdoeaaDoor
namespace Go.Proofs.YtjiaaefpepdoeaaDoor
open Go.RowKit Md
set_option linter.unusedVariables false
end Go.Proofs.YtjiaaefpepdoeaaDoor
namespace Go.Proofs.YtjiaaefpepdoeaaDoor
open Go.RowKit Md Go.Proofs.YtjiaaefpepdoeaaDoorW.PrintWords
set_option linter.unusedVariables false
end Go.Proofs.YtjiaaefpepdoeaaDoor
namespace Go.Proofs.YtjiaaefpepdoeaaDoor
open Go.RowKit Md Go.Proofs.YtjiaaefpepdoeaaDoorW.PrintWords
set_option linter.unusedVariables false
end Go.Proofs.YtjiaaefpepdoeaaDoor
namespace Go.Proofs.YtjiaaefpepdoeaaDoor
open Go.RowKit Md Go.Proofs.YtjiaaefpepdoeaaDoorW.PrintWords
set_option linter.unusedVariables false
def SlR (w : World) (p : Nat) (va xv : Value) (J X G : List Int) (c size : Int) (e : Ending) (w' : World) : Prop :=
 ∃ va' gv, e = .returned (.tuple #[.agg #[.int .i64 J.length, gv, .int .i64 c], .bool true]) ∧ TA 112 w' p va' J size xv X ∧ Own w' 3 gv (iw G) ∧ Fr w w' (fun i => i = p ∨ UO va xv i) ∧ (∀ k, InBlk va' k → InBlk va k) ∧ ∀ k, InBlk gv k → w.heap.size ≤ k
structure Twc (l rs : List Int) (k : Nat) (I J X Z G1 G2 G3 : List Int) (c1 c2 c3 : Int) : Prop where
 sa : ∀ (p : Nat) (va xv : Value) (w : World), TA 112 w p va l (l.length + 0) xv rs → Calls Tryd.prog 19 #[.pointer (some ⟨p, 0, none⟩), xv] w (SlR w p va xv I X G1 c1 (l.length + 0))
 sz : ∀ (p : Nat) (va xv : Value) (w : World), TA 112 w p va I (l.length + 0) xv (X.take k) → Calls Tryd.prog 19 #[.pointer (some ⟨p, 0, none⟩), xv] w (SlR w p va xv J Z G2 c2 (l.length + 0))
 sb : ∀ (p : Nat) (va xv : Value) (w : World), TA 112 w p va l (l.length + 0) xv (rs.take k) → Calls Tryd.prog 19 #[.pointer (some ⟨p, 0, none⟩), xv] w (SlR w p va xv J Z G3 c3 (l.length + 0))
 g : G1.length + G2.length = G3.length
 gl : G3.length ≤ 400
 le : J.length ≤ I.length
 il : I.length ≤ 400
 xl : X.length = rs.length
 zl : Z.length ≤ 20
structure Cp2 (W w : World) (x y : Value) (a b : List Int) : Prop where
 fr : Fr W w (fun _ => False)
 ox : Own w 39 x (uw a)
 oy : Own w 39 y (uw b)
 nx : ∀ i, InBlk x i → W.heap.size ≤ i
 ny : ∀ i, InBlk y i → W.heap.size ≤ i
 ap : ∀ i, InBlk x i → ¬ InBlk y i
structure Pl2 (n n4 n5 n7 p pb : Nat) (va vb x y : Value) : Prop where
 h4 : n ≤ n4
 h5 : n4 ≤ n5
 h7 : n5 ≤ n7
 p0 : n ≤ p
 v0 : ∀ i, InBlk va i → n ≤ i
 p1 : p < n4
 v1 : ∀ i, InBlk va i → i < n4
 pb0 : n4 ≤ pb
 vb0 : ∀ i, InBlk vb i → n4 ≤ i
 pb1 : pb < n5
 vb1 : ∀ i, InBlk vb i → i < n5
 x0 : ∀ i, InBlk x i → n5 ≤ i
 y0 : ∀ i, InBlk y i → n5 ≤ i
 x1 : ∀ i, InBlk x i → i < n7
 y1 : ∀ i, InBlk y i → i < n7
 ap : ∀ i, InBlk x i → ¬ InBlk y i
structure Pl3 (n7 n8 d1 : Nat) (va va8 z g : Value) : Prop where
 d0 : n7 ≤ d1
 d1 : d1 < n8
 sub : ∀ i, InBlk va8 i → InBlk va i
 z0 : ∀ i, InBlk z i → n8 ≤ i
 g0 : ∀ i, InBlk g i → n7 ≤ i
 g1 : ∀ i, InBlk g i → i < n8
section
variable {n n4 n5 n7 n8 d1 p pb : Nat} {va vb x y va8 va10 z g : Value}
end
end Go.Proofs.YtjiaaefpepdoeaaDoor
namespace Go.Proofs.YtjiaaefpepdoeaaDoor.Md
open Go.Proofs.YtjiaaefpepdoeaaDoor.PSlideMeans (S26 z26)
set_option linter.unusedVariables false
def normN (l : List Int) : Nat → Nat
 | 0 => 0
 | n + 1 => if l.getD n 0 = 0 then normN l n else n + 1
def normD (l : List Int) : List Int := l.take (normN l l.length)
def normB (b : Bool) (l : List Int) : Bool := b && decide (0 < (normD l).length)
def eStr : ByteArray := ⟨#[]⟩
def termNum (b : Bool) (l : List Int) : S26 := ⟨0, normB b l, normD l, eStr, 0, [], []⟩
def ofInt (v : Int) : Bool × List Int := (normB (decide (v < 0)) [v.natAbs % 4294967296, v.natAbs / 4294967296], normD [v.natAbs % 4294967296, v.natAbs / 4294967296])
def termInt (v : Int) : S26 := termNum (ofInt v).1 (ofInt v).2
def smallV (l : List Int) : Int := l.getD 0 0 + l.getD 1 0 * 4294967296
def smallB (b : Bool) (l : List Int) : Bool := decide ((normD l).length ≤ 2) && !(decide (576460752303423488 < smallV (normD l)) || (smallV (normD l) == 576460752303423488 && !(normB b l)))
def termLeaf (k n : Int) : S26 := ⟨k, false, [], eStr, n, [], []⟩
section
variable (ws : List Int) (nm : List ByteArray) (lk : Int → Int → Int → Option (List Int)) (tr : S26 → Int)
def bigM (h : Hdr) (ds : List Int) : Option S26 :=
 if ds.any (fun x => decide (4294967295 < x)) then none
 else if smallB h.neg ds = true ∨ 64 < h.size ∨ ¬ (h.neg = normB h.neg ds ∧ ds = normD ds) ∨ h.tree ≠ 1 then none
 else some (termNum h.neg ds)
def binM (h : Hdr) (ds : List Int) : Option S26 :=
 if h.neg = true ∨ h.size ≠ 3 ∨ h.tree ≠ 1 then none
 else if 2147483648 < ds.getD 0 0 ∨ 2147483648 < ds.getD 1 0 ∨ 4096 < ds.getD 2 0 then none
 else if ds.getD 2 0 = 0 then some (termLeaf 7 0)
 else (lk (ds.getD 0 0) (ds.getD 1 0) (ds.getD 2 0)).map fun b => ⟨7, false, [], eStr, 0, [], b⟩
def getsM (g : Nat → Int → Nat × Option S26) : Nat → List Int → Nat × Option (List S26)
 | n, [] => (n, some [])
 | n, w :: r =>
  match g n w with
  | (n1, none) => (n1, none)
  | (n1, some t) => ((getsM g n1 r).1, (getsM g n1 r).2.map (t :: ·))
def rowM (g : Nat → Int → Nat × Option S26) (n : Nat) (h : Hdr) (fs : List Int) : Nat × Option S26 :=
 if h.neg = true ∨ (h.kind = 0 ∧ h.size ≠ 2) ∨ 255 < h.size then (n, none)
 else ((getsM g n fs).1, (getsM g n fs).2.bind fun ts => if 1 + (ts.map tr).sum = h.tree then some ⟨if h.kind = 0 then 6 else 4, false, [], eStr, 0, ts, []⟩ else none)
def objM (g : Nat → Int → Nat × Option S26) (n : Nat) (h : Hdr) (fs : List Int) : Nat × Option S26 :=
 if h.kind = 2 then (n, bigM h fs) else if h.kind = 3 then (n, binM lk h fs) else rowM tr g n h fs
def leafM (w : Int) : Option S26 :=
 if tagW w = 0 then some (termInt (valW w))
 else if tagW w = 1 then (if 0 ≤ valW w ∧ valW w < nm.length then some ⟨1, false, [], nm.getD (valW w).toNat eStr, 0, [], []⟩ else none)
 else if tagW w = 2 ∨ tagW w = 3 then (if 0 ≤ valW w ∧ valW w ≤ 1073741824 then some (termLeaf (if tagW w = 2 then 3 else 2) (valW w)) else none)
 else if tagW w = 4 then (if valW w = 0 then some (termLeaf 5 0) else none)
 else none
def getM : Nat → Nat → Int → Nat × Option S26
 | 0, n, _ => (n + 1, none)
 | f + 1, n, w =>
  if 65536 ≤ n then (n + 1, none)
  else if tagW w = 5 then
   match objAt ws (valW w) with
   | none => (n + 1, none)
   | some h => objM lk tr (getM f) (n + 1) h (fieldsAt ws (valW w) h.size.toNat)
  else (n + 1, leafM nm w)
end
section
variable {l rs L M : List Int} {nm : List ByteArray} {lk : Int → Int → Int → Option (List Int)} {tr : S26 → Int}
theorem getsM_congr {g g' : Nat → Int → Nat × Option S26} (mv : Int → Int) : ∀ (fs : List Int) (n : Nat), (∀ w ∈ fs, ∀ n, g' n (mv w) = g n w) → getsM g' n (fs.map mv) = getsM g n fs
 | [], n, _ => rfl
 | w :: r, n, h => by
  have h1 := h w List.mem_cons_self n
  simp only [List.map_cons, getsM, h1]
  cases hg : g n w with
  | mk n1 o =>
   cases o with
   | none => rfl
   | some t => simp only [getsM_congr mv r n1 (fun w hw => h w (List.mem_cons_of_mem _ hw))]
theorem fieldsAt_slid (S : Sc l rs L M) {a : Int} (ha : a ∈ M) {n : Nat} (hn : (n : Int) ≤ (obj0 l a).size) (hk : (n : Int) ≤ fieldsH (obj0 l a)) : fieldsAt (imgs l M M) (plc l M a) n = (fieldsAt l a n).map (mvW l M) := by
 unfold fieldsAt
 rw [List.map_map]
 refine List.map_congr_left fun k hk1 => ?_
 have := List.mem_range.1 hk1
 exact slid_fld S ha (by omega)
theorem fieldsAt_slid0 (S : Sc l rs L M) {a : Int} (ha : a ∈ M) {n : Nat} (hn : (n : Int) ≤ (obj0 l a).size) (hk : fieldsH (obj0 l a) = 0) : fieldsAt (imgs l M M) (plc l M a) n = fieldsAt l a n := by
 unfold fieldsAt
 refine List.map_congr_left fun k hk1 => ?_
 have hkn := List.mem_range.1 hk1
 obtain ⟨hd, ho, e, h0, h1, hr, hz, _, h2⟩ := S.snd.rows.obj a (S.sub a ha)
 have h3 := plc_end S ha
 have h4 := plc_nn l M a
 rw [e] at hn h3
 rw [rd0_getD (by omega) (by omega), rd0_getD (by omega) (by omega)]
 have h5 := slid_get S ha (j := k + 1) (by rw [e]; omega)
 rw [if_neg (by rw [hk]; omega)] at h5
 have e1 : (plc l M a + 1 + k).toNat = (plc l M a).toNat + (k + 1) := by omega
 have e2 : (a + 1 + (k : Int)).toNat = a.toNat + (k + 1) := by omega
 rw [e1, e2, h5]
theorem getM_slid (S : Sc l rs L M) : ∀ (f n : Nat) (w : Int), (tagW w = 5 → valW w ∈ M) → getM (imgs l M M) nm lk tr f n (mvW l M w) = getM l nm lk tr f n w
 | 0, n, w, _ => rfl
 | f + 1, n, w, hw => by
  unfold getM
  by_cases h5 : tagW w = 5
  ·have hm := hw h5
   rw [mvW_tag S h5 hm, mvW_val S h5 hm, slid_obj S hm, if_pos h5]
   obtain ⟨hd, ho, e, _⟩ := S.snd.rows.obj _ (S.sub _ hm)
   rw [ho]
   simp only [if_true]
   have hsz := obj0_size l (valW w)
   rw [e] at hsz
   have hsn : ((hd.size.toNat : Nat) : Int) = hd.size := by omega
   by_cases hc : hd.kind = 2 ∨ hd.kind = 3
   ·have hf : fieldsH (obj0 l (valW w)) = 0 := by
     rw [e]; unfold fieldsH
     rcases hc with h | h <;> rw [h] <;> rfl
    rw [fieldsAt_slid0 S hm (by rw [e]; omega) hf]
    unfold objM
    rcases hc with h | h
    ·simp only [h, if_true]
    ·simp only [h, if_true]
   ·have c2 : hd.kind ≠ 2 := fun h => hc (.inl h)
    have c3 : hd.kind ≠ 3 := fun h => hc (.inr h)
    unfold objM
    rw [if_neg c2, if_neg c3, if_neg c2, if_neg c3]
    unfold rowM
    by_cases hb : hd.neg = true ∨ (hd.kind = 0 ∧ hd.size ≠ 2) ∨ 255 < hd.size
    ·rw [if_pos hb, if_pos hb]
    ·rw [if_neg hb, if_neg hb]
     have hkd : hd.kind = 0 ∨ hd.kind = 1 := by
      have hrd := (obj_facts ho).2.2.1
      unfold readH at hrd
      split at hrd
      ·injection hrd with hrd
       have hkk : hd.kind = valW (l.getD (valW w).toNat 0) % 4 := by rw [← hrd]; rfl
       omega
      ·cases hrd
     have hf : hd.size ≤ fieldsH (obj0 l (valW w)) := by
      rw [e]; unfold fieldsH
      rcases hkd with h | h
      ·rw [h]; simp only [if_true]; omega
      ·rw [h]; simp
     rw [fieldsAt_slid S hm (n := hd.size.toNat) (by rw [e]; omega) (by omega)]
     have hg := getsM_congr (g := getM l nm lk tr f) (g' := getM (imgs l M M) nm lk tr f) (mvW l M) (fieldsAt l (valW w) hd.size.toNat) (n + 1) (fun x hx n => by
      refine getM_slid S f n x fun hx5 => ?_
      unfold fieldsAt at hx
      obtain ⟨k, hk, rfl⟩ := List.mem_map.1 hx
      have := List.mem_range.1 hk
      exact fld_in S hm (by omega) hx5)
     rw [hg]
  ·rw [mvW_other h5, if_neg h5]
   simp only [if_neg h5]
end
end Go.Proofs.YtjiaaefpepdoeaaDoor.Md
namespace Go.Proofs.YtjiaaefpepdoeaaDoor
open Go.RowKit Md Go.Proofs.YtjiaaefpepdoeaaDoorW.PrintWords
set_option linter.unusedVariables false
structure Mnp (l rs : List Int) (I X G : List Int) (c : Int) : Prop where
 sa : ∀ (p : Nat) (va xv : Value) (w : World), TA 112 w p va l (l.length + 0) xv rs → Calls Tryd.prog 19 #[.pointer (some ⟨p, 0, none⟩), xv] w (SlR w p va xv I X G c (l.length + 0))
 sz : ∀ (p : Nat) (va xv : Value) (w : World), TA 112 w p va I (l.length + 0) xv X → Calls Tryd.prog 19 #[.pointer (some ⟨p, 0, none⟩), xv] w (SlR w p va xv I X [] 0 (l.length + 0))
 used : ∀ rr, Lv l (List.replicate l.length false) rs rr → wordsM l ((rr.map seenList).getD []) = I.length
 get : ∀ nm lk tr f n i, i < rs.length → getM I nm lk tr f n (X.getD i 0) = getM l nm lk tr f n (rs.getD i 0)
 il : I.length ≤ 400
 ile : I.length ≤ l.length
 xl : X.length = rs.length
 oki : okWs I
 okx : okWs X
theorem cnt_again {l rs L M : List Int} (S : Sc l rs L M) : cntM (imgs l M M) (M.map (plc l M)) (M.map (plc l M)) = 0 := by
 unfold cntM
 refine List.length_eq_zero_iff.2 (List.filter_eq_nil_iff.2 fun b hb => ?_)
 obtain ⟨a, ha, rfl⟩ := List.mem_map.1 hb
 rw [plc_plc S (fun _ h => h) ha]
 simp
theorem mnp_of {l rs : List Int} (h1 : l.length ≤ 400) (h2 : rs.length ≤ 30) (hok : okWs l) (hor : okWs rs) (hs : soundB l rs = true) : ∃ I X G c, Mnp l rs I X G c := by
 obtain ⟨L, S⟩ := snd_of hs
 obtain ⟨sn, hR⟩ := reach_of S (fun w hw => S.root w hw)
 have C := Sc.of_reach S hR hok hor (by unfold St.small; simp only; omega)
 have hN : ∀ a ∈ seenList sn, a ∈ seenList sn := fun _ h => h
 have S3 := slid_snd C
 obtain ⟨s3, hR3⟩ := reach_of S3 (fun w hw => S3.root w hw)
 have e3 := slid_reach C hR hR3 (fun _ h => h) hN
 have hW := words_le S.rows (seenList sn) (seenList_sorted _) C.sub
 have hIL := imgs_length l (seenList sn) (seenList sn)
 have eI := imgs_imgs C hN
 have hG := slid_gone C (seenList_sorted sn) hN
 have eZ : (rs.map (mvW l (seenList sn))).map (mvW (imgs l (seenList sn) (seenList sn)) (seenList s3)) = rs.map (mvW l (seenList sn)) := by
  rw [List.map_map]
  refine List.map_congr_left fun w hw => ?_
  show mvW _ (seenList s3) (mvW l (seenList sn) w) = _
  rw [e3]
  exact mvW_mvW C hN (fun h5 => C.root w hw h5)
 have eG : goneM (imgs l (seenList sn) (seenList sn)) (seenList s3) ((seenList sn).map (plc l (seenList sn))) = [] := by
  rw [e3]
  exact List.eq_nil_of_length_eq_zero (by omega)
 have eC : (cntM (imgs l (seenList sn) (seenList sn)) (seenList s3) (seenList s3) : Int) = 0 := by rw [e3, cnt_again C]; rfl
 refine ⟨imgs l (seenList sn) (seenList sn), rs.map (mvW l (seenList sn)), goneM l (seenList sn) L, _,
  fun p va xv w h => slide_yes p va xv l rs L sn _ w h S hR (by omega) (by omega), fun p va xv w h => ?_, fun rr hrr => ?_, fun nm lk tr f n i hi => ?_, by omega, by omega, by simp, okWs_imgs C, okWs_map hor⟩
 ·have := slide_yes p va xv _ _ _ s3 _ w h S3 hR3 (by omega) (by rw [List.length_map]; omega)
  rw [eZ, eG, eC, e3, eI] at this
  exact this
 ·have hr : some sn = rr := Lv.det hR _ hrr
  subst hr
  exact hIL.symm
 ·have hm : (rs.map (mvW l (seenList sn))).getD i 0 = mvW l (seenList sn) (rs.getD i 0) := by
   simp [List.getD_eq_getElem?_getD, List.getElem?_map, List.getElem?_eq_getElem hi]
  rw [hm]
  exact getM_slid C f n _ (fun h5 => C.root _ (getD_mem hi) h5)
end Go.Proofs.YtjiaaefpepdoeaaDoor
namespace Go.Proofs.YtjiaaefpepdoeaaDoor
open Go.RowKit Md
set_option linter.unusedVariables false
def nw (K : IntKind) (l : List Int) : List Value := l.map (Value.int K)
section
variable {K : IntKind} {W : World} {l : List Int} {A : Option Addr} {cap : Nat} {t e : TypeId}
theorem nw_length (K : IntKind) (l : List Int) : (nw K l).length = l.length := by simp [nw]
theorem nw_one (K : IntKind) (l : List Int) : ∀ u ∈ nw K l, u.oneCell' = true := ints_oneCell K l
theorem nw_get {k : Nat} (h : k < l.length) : (nw K l)[k]? = some (.int K (l.getD k 0)) := by simp [nw, List.getD, h]
theorem rn_split (h : Rd W (.slice A l.length cap) (nw K l)) :
  l.length ≤ cap ∧ ∀ lo hi, lo ≤ hi → hi ≤ l.length → Rd W (sliced A lo hi cap 1) (nw K ((l.drop lo).take (hi - lo))) := by
 rcases h with ⟨h0, A', cap', e, hA⟩ | ⟨b, off, cap', e, h0, hl, hm, hb, hc⟩
 ·have hws : l = [] := by unfold nw at h0; exact List.map_eq_nil_iff.1 h0
  subst hws
  injection e with e1 e2 e3
  subst e1; subst e3
  refine ⟨Nat.zero_le _, fun lo hi h1 h2 => ?_⟩
  simp only [List.length_nil] at h2
  have hlo : lo = 0 := by omega
  have hhi : hi = 0 := by omega
  subst hlo; subst hhi
  refine .inl ⟨by simp [nw], (if cap = 0 then A else A.map (·.add (0 * 1))), cap - 0, rfl, fun hn => ?_⟩
  split at hn
  ·rename_i hc; omega
  ·have : A = none := by cases A with
    | none => rfl
    | some a => cases hn
   have := hA this
   omega
 ·injection e with e1 e2 e3
  subst e1; subst e3
  rw [nw_length] at *
  refine ⟨hl, fun lo hi h1 h2 => ?_⟩
  have hlen : ((l.drop lo).take (hi - lo)).length = hi - lo := by simp; omega
  by_cases hz : hi - lo = 0
  ·have e : (l.drop lo).take (hi - lo) = [] := List.eq_nil_of_length_eq_zero (by omega)
   rw [e]
   refine .inl ⟨rfl, (if cap = lo then some ⟨b, off, none⟩ else (some (⟨b, off, none⟩ : Addr)).map (·.add (lo * 1))), cap - lo, ?_, ?_⟩
   ·unfold sliced; rw [hz]
   ·intro hn
    split at hn
    ·cases hn
    ·simp at hn
  ·have hne : ¬ cap = lo := by omega
   refine .inr ⟨b, off + lo, cap - lo, ?_, by rw [nw_length]; omega, by rw [nw_length]; omega, by omega, hb, fun i hi => ?_⟩
   ·unfold sliced
    rw [if_neg hne, nw_length, hlen]
    simp [Addr.add_lit]
   ·rw [nw_length] at hi
    have h3 := hc (lo + i) (by omega)
    rw [Nat.add_assoc, h3, nw_get (by omega), nw_get hi]
    simp only [List.getD_eq_getElem?_getD, List.getElem?_take, List.getElem?_drop]
    rw [if_pos (by omega)]
theorem rn_to (hu : Tryd.prog.underlying t = some (.slice (Tryd.prog.elem t))) (hs : ∀ w : World, (Go.sizeOf (Tryd.prog.elem t)).run Tryd.prog w = .ok 1 w) (h : Rd W (.slice A l.length cap) (nw K l)) (k : Nat) (hk : k ≤ l.length) :
  ∃ u, (∀ W : World, (Instr.slice t (.slice A l.length cap) none (some (.int .i64 (k : Int))) none).run Tryd.prog W = .ok u W) ∧ Rd W u (nw K (l.take k)) := by
 have h1 := (rn_split h).1
 refine ⟨sliced A 0 k cap 1, fun W => ?_, ?_⟩
 ·rw [run_slice_h W _ _ _ _ hu .i64 _ (by omega) (by omega), hs]
  rfl
 ·have := (rn_split h).2 0 k (Nat.zero_le _) hk
  simpa using this
theorem rn_lh (hu : Tryd.prog.underlying t = some (.slice (Tryd.prog.elem t))) (hs : ∀ w : World, (Go.sizeOf (Tryd.prog.elem t)).run Tryd.prog w = .ok 1 w) (h : Rd W (.slice A l.length cap) (nw K l)) (lo hi : Nat) (h1 : lo ≤ hi) (h2 : hi ≤ l.length) :
  ∃ u, (∀ W : World, (Instr.slice t (.slice A l.length cap) (some (.int .i64 (lo : Int))) (some (.int .i64 (hi : Int))) none).run Tryd.prog W = .ok u W) ∧ Rd W u (nw K ((l.drop lo).take (hi - lo))) := by
 have h3 := (rn_split h).1
 refine ⟨sliced A lo hi cap 1, fun W => ?_, (rn_split h).2 lo hi h1 h2⟩
 rw [run_slice_lh W _ _ _ _ hu .i64 .i64 _ _ (by omega) (by omega) (by omega), hs]
 rfl
theorem rn_copy {n : Nat} (ht : Tryd.prog.underlying t = some (.slice e)) (hinf : (Tryd.prog.info? e).map (fun i => (i.zero, i.size, i.bytes)) = some (some (.int K 0), 1, n)) (hn : n ≤ 64) {u : Value} (h : Rd W u (nw K l)) (hl : l.length ≤ 1073741824) :
  ∃ v' w', (Builtin.append_ #[t, t] t #[.slice none 0 0, u]).run Tryd.prog W = .ok v' w' ∧ Own w' e v' (nw K l) ∧ Fr W w' (fun _ => False) ∧ ∀ k, InBlk v' k → W.heap.size ≤ k := by
 obtain ⟨i0, hi, hz0, hz1, hz2⟩ := info_parts hinf
 obtain ⟨v', w1, hr, ho, hg, hn⟩ := run_append_rd (P := Tryd.prog) W t t e i0 (.int K 0) ht hi hz0 hz1 (by omega) rfl (.slice none 0 0) u [] (nw K l) (Own.nil W _) h (nw_one K l) (by rw [nw_length]; simp; omega)
 exact ⟨v', w1, hr, ho, (Fr.refl W _).grown hg (fun k hk hlt => by simp [Value.ownBlock] at hk), fun k hk => (hn k hk).elim (fun h => by simp [InBlk, Value.ownBlock] at h) id⟩
theorem rn_cell (h : Rd W (.slice A l.length cap) (nw K l)) (h0 : 0 < l.length) : ∃ b off, A = some ⟨b, off, none⟩ ∧ ∀ i, i < l.length → W.cell? ⟨b, off + i, none⟩ = some (.int K (l.getD i 0)) := by
 rcases h with ⟨h1, _⟩ | ⟨b, off, cap', e, h1, hl, hm, hb, hc⟩
 ·unfold nw at h1; rw [List.map_eq_nil_iff.1 h1] at h0; simp at h0
 ·injection e with e1 e2 e3
  exact ⟨b, off, e1, fun i hi => by rw [hc i (by rw [nw_length]; exact hi), nw_get hi]⟩
end
theorem infoU32 : (Tryd.prog.info? 123).map (fun i => (i.zero, i.size, i.bytes)) = some (some (.int .u32 0), 1, 4) := by kernel_rfl
theorem infoU8 : (Tryd.prog.info? 5).map (fun i => (i.zero, i.size, i.bytes)) = some (some (.int .u8 0), 1, 1) := by kernel_rfl
theorem elemU32 : Tryd.prog.elem 22 = 123 := by kernel_rfl
theorem undU32 : Tryd.prog.underlying 22 = some (.slice (Tryd.prog.elem 22)) := by kernel_rfl
theorem sizeU32 (w : World) : (Go.sizeOf (Tryd.prog.elem 22)).run Tryd.prog w = .ok 1 w := by
 obtain ⟨i0, hi, hz0, hz1, hz2⟩ := info_parts infoU32
 rw [elemU32]
 simp [Go.sizeOf, Go.typeInfo, hi, hz1]
theorem elemU8 : Tryd.prog.elem 24 = 5 := by kernel_rfl
theorem undU8 : Tryd.prog.underlying 24 = some (.slice (Tryd.prog.elem 24)) := by kernel_rfl
theorem sizeU8 (w : World) : (Go.sizeOf (Tryd.prog.elem 24)).run Tryd.prog w = .ok 1 w := by
 obtain ⟨i0, hi, hz0, hz1, hz2⟩ := info_parts infoU8
 rw [elemU8]
 simp [Go.sizeOf, Go.typeInfo, hi, hz1]
end Go.Proofs.YtjiaaefpepdoeaaDoor
namespace Go.Proofs.YtjiaaefpepdoeaaDoor
open Go.RowKit Md
set_option linter.unusedVariables false
end Go.Proofs.YtjiaaefpepdoeaaDoor
namespace Go.Proofs.YtjiaaefpepdoeaaDoor
open Go.RowKit Md
set_option linter.unusedVariables false
def fw (l : List Fld) : List Value := l.flatMap fun f => [.bool f.root, .int .i64 f.at_]
def Own2 (B : Nat) (w : World) (e : TypeId) (v : Value) (l : List Fld) : Prop := w.ownsRow B e 2 v l.length (fw l)
section
variable {B : Nat} {w w1 W : World} {e : TypeId} {v u : Value} {l : List Fld} {S : Nat → Prop} {T : TypeId} {p : Nat} {ws : List Int} {size : Int} {xs : List Value}
end
end Go.Proofs.YtjiaaefpepdoeaaDoor
namespace Go.Proofs.YtjiaaefpepdoeaaDoor
open Go.RowKit Md
set_option linter.unusedVariables false
structure CI (T E : TypeId) (w W : World) (p : Nat) (v r : Value) (ws rs : List Int) (size x0 : Int) (g : Nat) (u : Value) (acc : List Fld) (x : Int) : Prop where
 ta : TA T W p v ws size r rs
 fr : Fr w W fun _ => False
 ow : Own2 w.heap.size W E u acc
 eq : chainM ws rs (ws.length + rs.length) x0 = (chainM ws rs g x).map (acc ++ ·)
 gn : g + acc.length = ws.length + rs.length
 okx : okW x
section
variable {T E : TypeId} {w W W1 : World} {p : Nat} {v r : Value} {ws rs : List Int} {size x0 : Int} {g : Nat} {u : Value} {acc : List Fld} {x : Int}
end
end Go.Proofs.YtjiaaefpepdoeaaDoor
namespace Go.Proofs.YtjiaaefpepdoeaaDoor
open Go.RowKit Md
set_option linter.unusedVariables false
theorem normN_le (l : List Int) : ∀ n, normN l n ≤ n
 | 0 => Nat.le_refl 0
 | n + 1 => by unfold normN; split; exact Nat.le_succ_of_le (normN_le l n); exact Nat.le_refl _
theorem normD_len (l : List Int) : (normD l).length = normN l l.length := by
 unfold normD; rw [List.length_take]; have := normN_le l l.length; omega
def NewN (K : IntKind) (e : TypeId) (w w' : World) (v : Value) (l : List Int) : Prop := Own w' e v (nw K l) ∧ Fr w w' (fun _ => False) ∧ ∀ k, InBlk v k → w.heap.size ≤ k
set_option maxRecDepth 100000 in
set_option maxHeartbeats 4000000 in
theorem norm_c (b : Bool) (A : Option Addr) (c : Nat) (l : List Int) (w : World) (h : Rd w (.slice A l.length c) (nw .u32 l)) (hl : l.length ≤ 1048576) :
    Calls Tryd.prog 33 #[.agg #[.bool b, .slice A l.length c]] w fun e w' => ∃ v, e = .returned (.agg #[.bool (normB b l), v]) ∧ NewN .u32 123 w w' v (normD l) := by
  have hb0 : (w.alloc (.cells #[.bool b, .slice A l.length c] 76)).heap[w.heap.size]? = some (.cells #[.bool b, .slice A l.length c] 76 (0, 0)) := blk_new _ _ _
  obtain ⟨D, hD⟩ : ∃ D, w.heap.size = D := ⟨_, rfl⟩
  obtain ⟨w1, hw1⟩ : ∃ w1, w.alloc (.cells #[.bool b, .slice A l.length c] 76) = w1 := ⟨_, rfl⟩
  have hf1 : Fr w w1 (fun _ => False) := by rw [← hw1]; exact (Fr.refl w _).alloc _
  have hs1 : w1.heap.size = D + 1 := by rw [← hw1, ← hD]; simp
  have hb1 : (w1.alloc (.cells #[.bool false, .slice none 0 0] 76)).heap[w1.heap.size]? = some (.cells #[.bool false, .slice none 0 0] 76 (0, 0)) := blk_new _ _ _
  obtain ⟨B, hB⟩ : ∃ B, w1.heap.size = B := ⟨_, rfl⟩
  obtain ⟨w2, hw2⟩ : ∃ w2, w1.alloc (.cells #[.bool false, .slice none 0 0] 76) = w2 := ⟨_, rfl⟩
  have hf2 : Fr w w2 (fun _ => False) := by rw [← hw2]; exact hf1.alloc _
  have hb02 : w2.heap[D]? = some (.cells #[.bool b, .slice A l.length c] 76 (0, 0)) := by
    rw [← hw2, ← hD]; exact ((Fr.refl w1 (fun _ => False)).alloc _).blk (by rw [← hw1]; exact hb0) (fun h => h)
  rw [hw2, hB] at hb1
  have k0 : w2.cell? ⟨D, 0, none⟩ = some (.bool b) := by simp [World.cell?, hb02]
  have k1 : w2.cell? ⟨D, 1, none⟩ = some (.slice A l.length c) := by simp [World.cell?, hb02]
  have g0 : w2.cell? ⟨B, 0, none⟩ = some (.bool false) := by simp [World.cell?, hb1]
  have g1 : w2.cell? ⟨B, 1, none⟩ = some (.slice none 0 0) := by simp [World.cell?, hb1]
  have z0 : w2.frozen? ⟨B, 0, none⟩ = false := by simp [World.frozen?, hb1]
  have z1 : w2.frozen? ⟨B, 1, none⟩ = false := by simp [World.frozen?, hb1]
  have HR2 := Lib.hid (h.keep hf2 (fun _ _ h => h))
  have HF2 := Lib.hid hf2
  have HB1 := Lib.hid hb1
  have HDB : Hid (D = w.heap.size ∧ B = D + 1) := Lib.hid ⟨hD.symm, by rw [← hB, hs1]⟩
  have HLL := Lib.hid hl
  obtain ⟨N, hN⟩ : ∃ N, normN l l.length = N := ⟨_, rfl⟩
  have HN := Lib.hid hN
  have hNl : N ≤ l.length := by rw [← hN]; exact normN_le _ _
  have HNL := Lib.hid hNl
  clear hf1 hs1 hf2 hb02 hb1 hN hNl hl h hb0
  go_enter Tryd.func33, Tryd.ntmps33
  go_upto_region 1 with (fail)
  (try simp only [hw1, hw2, hB, hD])
  clear hw1 hw2 hB hD
  go_upto_block 0 with (fail)
  go_cut [3] (fun c wx => c = .int .i64 (N : Int) ∧ wx = w2)
  case first =>
    go_wp2_with (fail)
    go_loopg [3] l.length (fun g nv wr => ∃ m : Nat, g = m ∧ nv = .int .i64 m ∧ wr = w2 ∧ Hid (m ≤ l.length ∧ normN l m = N))
    case atStart => exact ⟨l.length, rfl, rfl, rfl, Lib.hid ⟨Nat.le_refl _, HN.out⟩⟩
    case round =>
      obtain ⟨m, rfl, rfl, rfl, HI⟩ := hrel
      cases gk with
      | zero =>
        have e : N = 0 := by rw [← HI.out.2]; rfl
        go_wp2_with (fail)
        go_meet
        first | exact ⟨by rw [e]; rfl, rfl⟩ | (subst e; exact ⟨rfl, rfl⟩)
      | succ m =>
        obtain ⟨ab, off, rfl, hc⟩ := rn_cell HR2.out (by have := HI.out.1; omega)
        have hm := HI.out.1
        have ck := hc m (by omega)
        have q1 : ((m + 1 : Nat) : Int) - 1 = m := by omega
        have q2 : (m : Int) < l.length := by omega
        have q3 : m < l.length := by omega
        have d1 : decide ((0 : Int) < ((m + 1 : Nat) : Int)) = true := decide_eq_true (by omega)
        have d2 : decide ((0 : Int) < (m : Int) + 1) = true := decide_eq_true (by omega)
        have hz := HI.out.2
        unfold normN at hz
        have HZ := Lib.hid hz
        have hlb := HLL.out
        have hw1 : wrap64 (m : Int) = m := by unfold wrap64; omega
        clear hc hm hz hlb
        obtain ⟨x, hx⟩ : ∃ x, l.getD m 0 = x := ⟨_, rfl⟩
        rw [hx] at ck
        have HX := Lib.hid hx
        clear hx
        by_cases h0 : x = 0
        · subst h0
          go_wp2_with (fail)
          go_roundg m
          case measure => omega
          case rel => exact ⟨m, rfl, by first | (simp; done) | (simp; exact hw1), rfl, Lib.hid ⟨by omega, by have := HZ.out; rw [HX.out] at this; simpa using this⟩⟩
        · have h1 : (x == 0) = false := by simpa using h0
          go_wp2_with (fail)
          go_meet
          exact ⟨by have := HZ.out; rw [HX.out, if_neg h0] at this; rw [← this]; first | done | rfl, rfl⟩
  case rest =>
    obtain ⟨rfl, hw⟩ := hcut
    subst hw
    obtain ⟨u, hsl, hru⟩ := rn_to undU32 sizeU32 HR2.out N HNL.out
    obtain ⟨v', w4, hr, ho, hf, hn⟩ := rn_copy (t := 22) (e := 123) (n := 4) Tryd.underlying22 infoU32 (by decide) (hru.keep ((Fr.refl wc (fun _ => False)).drew) (fun _ _ h => h)) (by have := HLL.out; rw [List.length_take]; omega)
    obtain ⟨Av, cv, rfl⟩ := ho.rd.len
    have eN : (l.take N).length = N := by rw [List.length_take]; have := HNL.out; omega
    rw [nw_length, eN] at hr ho hn
    clear eN
    have hb4 := hf.blk (show (wc.drew).heap[B]? = _ from HB1.out) (fun h => h)
    have g04 : w4.cell? ⟨B, 0, none⟩ = some (.bool false) := by simp [World.cell?, hb4]
    have g14 : w4.cell? ⟨B, 1, none⟩ = some (.slice none 0 0) := by simp [World.cell?, hb4]
    have z04 : w4.frozen? ⟨B, 0, none⟩ = false := by simp [World.frozen?, hb4]
    have z14 : w4.frozen? ⟨B, 1, none⟩ = false := by simp [World.frozen?, hb4]
    have k04 : w4.cell? ⟨D, 0, none⟩ = some (.bool b) := hf.cell (w := wc.drew) k0 (fun h => h)
    have k14 : w4.cell? ⟨D, 1, none⟩ = some (.slice A l.length c) := hf.cell (w := wc.drew) k1 (fun h => h)
    have HB4 := Lib.hid hb4
    have HO := Lib.hid ho
    have HF4 := Lib.hid ((HF2.out.drew).trans hf)
    have HNW := Lib.hid hn
    clear hb4 ho hf hn hru HR2
    have HFIN : Hid (∀ x : Bool, Fr w ((w4.setCell ⟨B, 0, none⟩ (.bool x)).setCell ⟨B, 1, none⟩ (.slice Av N cv)) (fun _ => False) ∧ ((w4.setCell ⟨B, 0, none⟩ (.bool x)).setCell ⟨B, 1, none⟩ (.slice Av N cv)).heap[B]? = some (.cells #[.bool x, .slice Av N cv] 76 (0, 0)) ∧ NewN .u32 123 w ((w4.setCell ⟨B, 0, none⟩ (.bool x)).setCell ⟨B, 1, none⟩ (.slice Av N cv)) (.slice Av N cv) (normD l)) := Lib.hid (by
      intro x
      have hlt : ¬ B < w.heap.size := by have := HDB.out; omega
      have f1 : Fr w ((w4.setCell ⟨B, 0, none⟩ (.bool x)).setCell ⟨B, 1, none⟩ (.slice Av N cv)) (fun _ => False) := (HF4.out.setCell (fun h => hlt h) _).setCell (fun h => hlt h) _
      have f2 : Fr w4 ((w4.setCell ⟨B, 0, none⟩ (.bool x)).setCell ⟨B, 1, none⟩ (.slice Av N cv)) (fun i => i = B) := ((Fr.refl w4 (fun i => i = B)).setCell (a := ⟨B, 0, none⟩) (fun _ => rfl) _).setCell (a := ⟨B, 1, none⟩) (fun _ => rfl) _
      refine ⟨f1, ?_, ?_, f1, ?_⟩
      · refine Go.Proofs.YtjiaaefpepdoeaaDoorW.PrintWords.blk_put (cs := #[.bool x, .slice none 0 0]) ?_ 1 _ rfl
        refine Go.Proofs.YtjiaaefpepdoeaaDoorW.PrintWords.blk_put (cs := #[.bool false, .slice none 0 0]) ?_ 0 _ rfl
        exact HB4.out
      · have e : normD l = l.take N := by unfold normD; rw [HN.out]
        rw [e]
        refine HO.out.keep f2 (fun i hi e => ?_)
        obtain ⟨cur, hc⟩ := HO.out.elem i hi
        rw [e, HB4.out] at hc
        simp at hc
      · intro k hk
        have h1 := HNW.out k hk
        have h2 : w.heap.size ≤ wc.drew.heap.size := HF2.out.drew.size
        exact Nat.le_trans h2 h1)
    have HNB : Hid (normB true l = decide (0 < N)) := Lib.hid (by unfold normB; rw [normD_len, HN.out]; simp)
    have HNB0 : Hid (normB false l = false) := Lib.hid (by unfold normB; simp)
    clear HO HNW HF4 HB4 HB1
    cases b with
    | false =>
      go_upto_region 4 with (fail)
      first | (go_region_law (first | (refine step_append_run _ (by rfl) _ _ _ _ (by rfl) _ _ (by rfl) (by rfl) _ _ hr ?_))) | fail
      all_goals
       go_wp2
       refine bodyPost_ret (results_cell_row rfl _ _ B 76 #[.bool false, .slice Av N cv] (0, 0) _ rfl (HFIN.out false).2.1 Tryd.underlying76 rfl (by kernel_rfl)) rfl ?_
       exact ⟨_, by rw [HNB0.out], (HFIN.out false).2.2⟩
    | true =>
      go_upto_region 4 with (fail)
      first | (go_region_law (first | (refine step_append_run _ (by rfl) _ _ _ _ (by rfl) _ _ (by rfl) (by rfl) _ _ hr ?_))) | fail
      all_goals
       go_wp2
       refine bodyPost_ret (results_cell_row rfl _ _ B 76 #[.bool (decide (0 < N)), .slice Av N cv] (0, 0) _ rfl (HFIN.out (decide (0 < N))).2.1 Tryd.underlying76 rfl (by kernel_rfl)) rfl ?_
       exact ⟨_, by rw [HNB.out], (HFIN.out (decide (0 < N))).2.2⟩
end Go.Proofs.YtjiaaefpepdoeaaDoor
namespace Go.Proofs.YtjiaaefpepdoeaaDoor
open Go.RowKit Md
set_option linter.unusedVariables false
set_option maxRecDepth 100000 in
set_option maxHeartbeats 4000000 in
theorem termnum_c (b : Bool) (A : Option Addr) (c : Nat) (l : List Int) (w : World) (h : Rd w (.slice A l.length c) (nw .u32 l)) (hl : l.length ≤ 1048576) :
  Calls Tryd.prog 90 #[.agg #[.bool b, .slice A l.length c]] w fun e w' => ∃ v, e = .returned (.agg #[.int .i64 0, .bool (normB b l), v, .string eStr, .int .i64 0, .slice none 0 0, .slice none 0 0]) ∧ NewN .u32 123 w w' v (normD l) := by
 have hb0 : (w.alloc (.cells #[.bool b, .slice A l.length c] 76)).heap[w.heap.size]? = some (.cells #[.bool b, .slice A l.length c] 76 (0, 0)) := blk_new _ _ _
 obtain ⟨D, hD⟩ : ∃ D, w.heap.size = D := ⟨_, rfl⟩
 obtain ⟨w1, hw1⟩ : ∃ w1, w.alloc (.cells #[.bool b, .slice A l.length c] 76) = w1 := ⟨_, rfl⟩
 have hf1 : Fr w w1 (fun _ => False) := by rw [← hw1]; exact (Fr.refl w _).alloc _
 have hs1 : w1.heap.size = D + 1 := by rw [← hw1, ← hD]; simp
 have hb1 : (w1.alloc (.cells #[.int .i64 0, .bool false, .slice none 0 0, .string ⟨#[]⟩, .int .i64 0, .slice none 0 0, .slice none 0 0] 26)).heap[w1.heap.size]? = some (.cells #[.int .i64 0, .bool false, .slice none 0 0, .string ⟨#[]⟩, .int .i64 0, .slice none 0 0, .slice none 0 0] 26 (0, 0)) := blk_new _ _ _
 obtain ⟨B, hB⟩ : ∃ B, w1.heap.size = B := ⟨_, rfl⟩
 obtain ⟨w2, hw2⟩ : ∃ w2, w1.alloc (.cells #[.int .i64 0, .bool false, .slice none 0 0, .string ⟨#[]⟩, .int .i64 0, .slice none 0 0, .slice none 0 0] 26) = w2 := ⟨_, rfl⟩
 have hf2 : Fr w w2 (fun _ => False) := by rw [← hw2]; exact hf1.alloc _
 have hb02 : w2.heap[D]? = some (.cells #[.bool b, .slice A l.length c] 76 (0, 0)) := by
  rw [← hw2, ← hD]; exact ((Fr.refl w1 (fun _ => False)).alloc _).blk (by rw [← hw1]; exact hb0) (fun h => h)
 rw [hw2, hB] at hb1
 have HB0 := Lib.hid hb02
 have HB1 := Lib.hid hb1
 have HF2 := Lib.hid hf2
 have HDB : Hid (D = w.heap.size ∧ B = D + 1) := Lib.hid ⟨hD.symm, by rw [← hB, hs1]⟩
 have hDB : D ≠ B := by rw [← hB, hs1]; omega
 have HDBN := Lib.hid hDB
 clear hf1 hs1 hf2 hb02 hb1 hb0
 have k0 : w2.cell? ⟨D, 0, none⟩ = some (.bool b) := by simp [World.cell?, HB0.out]
 have kf0 : w2.frozen? ⟨D, 0, none⟩ = false := by simp [World.frozen?, HB0.out]
 have k1 : w2.cell? ⟨D, 1, none⟩ = some (.slice A l.length c) := by simp [World.cell?, HB0.out]
 have kf1 : w2.frozen? ⟨D, 1, none⟩ = false := by simp [World.frozen?, HB0.out]
 have HR2 := Lib.hid (h.keep HF2.out (fun _ _ h => h))
 have HLL := Lib.hid hl
 clear h hl
 go_enter Tryd.func90, Tryd.ntmps90
 go_upto_region 1 with (fail)
 (try simp only [hw1, hw2, hB, hD])
 clear hw1 hw2 hB hD
 go_upto_region 2 with (first | (go_at_call 33; (with_reducible refine (norm_c b A c l _ HR2.out HLL.out).mono ?_); rintro e w3 ⟨v, rfl, ho, hf, hn⟩; obtain ⟨Av, cv, rfl⟩ := ho.rd.len; rw [nw_length] at ho hn ⊢; have HO := Lib.hid ho; have HF3 := Lib.hid hf; have HNW := Lib.hid hn; have hb03 := hf.blk HB0.out (fun h => h); have hb13 := hf.blk HB1.out (fun h => h); clear ho hf hn k0 kf0 k1 kf1; have HB03 := Lib.hid hb03; have HB13 := Lib.hid hb13; have k0 : w3.cell? ⟨D, 0, none⟩ = some (.bool b) := (by simp [World.cell?, hb03]); have k1 : w3.cell? ⟨D, 1, none⟩ = some (.slice A l.length c) := (by simp [World.cell?, hb03]); have kf0 : w3.frozen? ⟨D, 0, none⟩ = false := (by simp [World.frozen?, hb03]); have kf1 : w3.frozen? ⟨D, 1, none⟩ = false := (by simp [World.frozen?, hb03]); clear hb03 hb13))
 have HL4 : Hid (Fr w ((w3.setCell ⟨D, 0, none⟩ (.bool (normB b l))).setCell ⟨D, 1, none⟩ (.slice Av (normD l).length cv)) (fun _ => False) ∧ Own ((w3.setCell ⟨D, 0, none⟩ (.bool (normB b l))).setCell ⟨D, 1, none⟩ (.slice Av (normD l).length cv)) 123 (.slice Av (normD l).length cv) (nw .u32 (normD l)) ∧ ((w3.setCell ⟨D, 0, none⟩ (.bool (normB b l))).setCell ⟨D, 1, none⟩ (.slice Av (normD l).length cv)).heap[D]? = some (.cells #[.bool (normB b l), .slice Av (normD l).length cv] 76 (0, 0)) ∧ ((w3.setCell ⟨D, 0, none⟩ (.bool (normB b l))).setCell ⟨D, 1, none⟩ (.slice Av (normD l).length cv)).heap[B]? = some (.cells #[.int .i64 0, .bool false, .slice none 0 0, .string ⟨#[]⟩, .int .i64 0, .slice none 0 0, .slice none 0 0] 26 (0, 0))) := Lib.hid (by
  have hlt : ¬ D < w.heap.size := by have := HDB.out; omega
  have f2 : Fr w3 ((w3.setCell ⟨D, 0, none⟩ (.bool (normB b l))).setCell ⟨D, 1, none⟩ (.slice Av (normD l).length cv)) (fun i => i = D) := ((Fr.refl w3 (fun i => i = D)).setCell (a := ⟨D, 0, none⟩) (fun _ => rfl) _).setCell (a := ⟨D, 1, none⟩) (fun _ => rfl) _
  refine ⟨((HF2.out.trans HF3.out).setCell (fun h => hlt h) _).setCell (fun h => hlt h) _, HO.out.keep f2 (fun i hi e => ?_), ?_, f2.blk HB13.out (fun e => HDBN.out e.symm)⟩
  ·obtain ⟨cur, hc⟩ := HO.out.elem i hi
   rw [e, HB03.out] at hc
   simp at hc
  ·refine Go.Proofs.YtjiaaefpepdoeaaDoorW.PrintWords.blk_put (cs := #[.bool (normB b l), .slice A l.length c]) ?_ 1 _ rfl
   refine Go.Proofs.YtjiaaefpepdoeaaDoorW.PrintWords.blk_put (cs := #[.bool b, .slice A l.length c]) ?_ 0 _ rfl
   exact HB03.out)
 obtain ⟨W4, hW4⟩ : ∃ W4, (w3.setCell ⟨D, 0, none⟩ (.bool (normB b l))).setCell ⟨D, 1, none⟩ (.slice Av (normD l).length cv) = W4 := ⟨_, rfl⟩
 rw [hW4] at HL4
 (try simp only [hW4])
 clear hW4 k0 k1 kf0 kf1 HO HF3 HB03 HB13 HR2
 obtain ⟨nb, hnb⟩ : ∃ nb, normB b l = nb := ⟨_, rfl⟩
 (try rw [hnb] at HL4)
 (try rw [hnb])
 have HLD := Lib.hid HL4.out.2.2.1
 have HLB := Lib.hid HL4.out.2.2.2
 have k0 : W4.cell? ⟨D, 0, none⟩ = some (.bool nb) := by simp [World.cell?, HLD.out]
 have kf0 : W4.frozen? ⟨D, 0, none⟩ = false := by simp [World.frozen?, HLD.out]
 have k1 : W4.cell? ⟨D, 1, none⟩ = some (.slice Av (normD l).length cv) := by simp [World.cell?, HLD.out]
 have kf1 : W4.frozen? ⟨D, 1, none⟩ = false := by simp [World.frozen?, HLD.out]
 have g0 : W4.cell? ⟨B, 0, none⟩ = some (.int .i64 0) := by simp [World.cell?, HLB.out]
 have gf0 : W4.frozen? ⟨B, 0, none⟩ = false := by simp [World.frozen?, HLB.out]
 have g1 : W4.cell? ⟨B, 1, none⟩ = some (.bool false) := by simp [World.cell?, HLB.out]
 have gf1 : W4.frozen? ⟨B, 1, none⟩ = false := by simp [World.frozen?, HLB.out]
 have g2 : W4.cell? ⟨B, 2, none⟩ = some (.slice none 0 0) := by simp [World.cell?, HLB.out]
 have gf2 : W4.frozen? ⟨B, 2, none⟩ = false := by simp [World.frozen?, HLB.out]
 have g3 : W4.cell? ⟨B, 3, none⟩ = some (.string ⟨#[]⟩) := by simp [World.cell?, HLB.out]
 have gf3 : W4.frozen? ⟨B, 3, none⟩ = false := by simp [World.frozen?, HLB.out]
 have g4 : W4.cell? ⟨B, 4, none⟩ = some (.int .i64 0) := by simp [World.cell?, HLB.out]
 have gf4 : W4.frozen? ⟨B, 4, none⟩ = false := by simp [World.frozen?, HLB.out]
 have g5 : W4.cell? ⟨B, 5, none⟩ = some (.slice none 0 0) := by simp [World.cell?, HLB.out]
 have gf5 : W4.frozen? ⟨B, 5, none⟩ = false := by simp [World.frozen?, HLB.out]
 have g6 : W4.cell? ⟨B, 6, none⟩ = some (.slice none 0 0) := by simp [World.cell?, HLB.out]
 have gf6 : W4.frozen? ⟨B, 6, none⟩ = false := by simp [World.frozen?, HLB.out]
 go_wp2
 refine bodyPost_ret (results_cell_row rfl _ _ B 26 #[.int .i64 0, .bool nb, .slice Av (normD l).length cv, .string ⟨#[]⟩, .int .i64 0, .slice none 0 0, .slice none 0 0] (0, 0) _ rfl (by
  refine Go.Proofs.YtjiaaefpepdoeaaDoorW.PrintWords.blk_put (cs := #[.int .i64 0, .bool nb, .slice Av (normD l).length cv, .string ⟨#[]⟩, .int .i64 0, .slice none 0 0, .slice none 0 0]) ?_ 6 _ rfl
  refine Go.Proofs.YtjiaaefpepdoeaaDoorW.PrintWords.blk_put (cs := #[.int .i64 0, .bool nb, .slice Av (normD l).length cv, .string ⟨#[]⟩, .int .i64 0, .slice none 0 0, .slice none 0 0]) ?_ 5 _ rfl
  refine Go.Proofs.YtjiaaefpepdoeaaDoorW.PrintWords.blk_put (cs := #[.int .i64 0, .bool nb, .slice Av (normD l).length cv, .string ⟨#[]⟩, .int .i64 0, .slice none 0 0, .slice none 0 0]) ?_ 4 _ rfl
  refine Go.Proofs.YtjiaaefpepdoeaaDoorW.PrintWords.blk_put (cs := #[.int .i64 0, .bool nb, .slice Av (normD l).length cv, .string ⟨#[]⟩, .int .i64 0, .slice none 0 0, .slice none 0 0]) ?_ 3 _ rfl
  refine Go.Proofs.YtjiaaefpepdoeaaDoorW.PrintWords.blk_put (cs := #[.int .i64 0, .bool nb, .slice none 0 0, .string ⟨#[]⟩, .int .i64 0, .slice none 0 0, .slice none 0 0]) ?_ 2 _ rfl
  refine Go.Proofs.YtjiaaefpepdoeaaDoorW.PrintWords.blk_put (cs := #[.int .i64 0, .bool false, .slice none 0 0, .string ⟨#[]⟩, .int .i64 0, .slice none 0 0, .slice none 0 0]) ?_ 1 _ rfl
  refine Go.Proofs.YtjiaaefpepdoeaaDoorW.PrintWords.blk_put (cs := #[.int .i64 0, .bool false, .slice none 0 0, .string ⟨#[]⟩, .int .i64 0, .slice none 0 0, .slice none 0 0]) ?_ 0 _ rfl
  exact HLB.out) Tryd.underlying26 rfl (by kernel_rfl)) rfl ?_
 have hltB : ¬ B < w.heap.size := by have := HDB.out; omega
 have f5 := (((((((Fr.refl W4 (fun i => i = B)).setCell (a := ⟨B, 0, none⟩) (fun _ => rfl) (.int .i64 0)).setCell (a := ⟨B, 1, none⟩) (fun _ => rfl) (.bool nb)).setCell (a := ⟨B, 2, none⟩) (fun _ => rfl) (.slice Av (normD l).length cv)).setCell (a := ⟨B, 3, none⟩) (fun _ => rfl) (.string ⟨#[]⟩)).setCell (a := ⟨B, 4, none⟩) (fun _ => rfl) (.int .i64 0)).setCell (a := ⟨B, 5, none⟩) (fun _ => rfl) (.slice none 0 0)).setCell (a := ⟨B, 6, none⟩) (fun _ => rfl) (.slice none 0 0)
 have f6 := (((((((HL4.out.1).setCell (a := ⟨B, 0, none⟩) (fun h => hltB h) (.int .i64 0)).setCell (a := ⟨B, 1, none⟩) (fun h => hltB h) (.bool nb)).setCell (a := ⟨B, 2, none⟩) (fun h => hltB h) (.slice Av (normD l).length cv)).setCell (a := ⟨B, 3, none⟩) (fun h => hltB h) (.string ⟨#[]⟩)).setCell (a := ⟨B, 4, none⟩) (fun h => hltB h) (.int .i64 0)).setCell (a := ⟨B, 5, none⟩) (fun h => hltB h) (.slice none 0 0)).setCell (a := ⟨B, 6, none⟩) (fun h => hltB h) (.slice none 0 0)
 refine ⟨_, by rw [hnb]; rfl, HL4.out.2.1.keep f5 (fun i hi e => ?_), f6, ?_⟩
 ·obtain ⟨cur, hc⟩ := HL4.out.2.1.elem i hi
  rw [e, HLB.out] at hc
  simp at hc
 ·intro k hk
  exact Nat.le_trans HF2.out.size (HNW.out k hk)
end Go.Proofs.YtjiaaefpepdoeaaDoor
namespace Go.Proofs.YtjiaaefpepdoeaaDoor
open Go.RowKit Md
set_option linter.unusedVariables false
set_option maxRecDepth 100000 in
set_option maxHeartbeats 4000000 in
theorem ofint_c (v : Int) (w : World) (hv : -1152921504606846976 ≤ v ∧ v ≤ 1152921504606846976) :
  Calls Tryd.prog 91 #[.int .i64 v] w fun e w' => ∃ x, e = .returned (.agg #[.bool (ofInt v).1, x]) ∧ NewN .u32 123 w w' x (ofInt v).2 := by
 obtain ⟨u, hu⟩ : ∃ u : Int, (v.natAbs : Int) = u := ⟨_, rfl⟩
 have hu0 : 0 ≤ u ∧ u ≤ 1152921504606846976 := by omega
 have HU := Lib.hid hu
 have HU0 := Lib.hid hu0
 obtain ⟨w2, hw2⟩ : ∃ w2, (w.alloc (.cells #[.bool false, .slice none 0 0] 76)).alloc (.cells #[.int .u32 (u % 4294967296), .int .u32 (u / 4294967296 % 4294967296)] 123) = w2 := ⟨_, rfl⟩
 have hs : (w.alloc (.cells #[.bool false, .slice none 0 0] 76)).heap.size = w.heap.size + 1 := by simp
 have hb1 : w2.heap[w.heap.size + 1]? = some (.cells #[.int .u32 (u % 4294967296), .int .u32 (u / 4294967296 % 4294967296)] 123 (0, 0)) := by rw [← hw2, ← hs]; exact blk_new _ _ _
 have HB2 : Hid (w2.heap[w.heap.size]? = some (.cells #[.bool false, .slice none 0 0] 76 (0, 0))) := Lib.hid (by rw [← hw2]; exact ((Fr.refl _ (fun _ => False)).alloc _).blk (blk_new _ _ _) (fun h => h))
 have HF2 : Hid (Fr w w2 (fun _ => False)) := Lib.hid (by rw [← hw2]; exact ((Fr.refl w _).alloc _).alloc _)
 have HRD : Hid (Rd w2 (.slice (some ⟨w.heap.size + 1, 0, none⟩) 2 2) (nw .u32 [u % 4294967296, u / 4294967296 % 4294967296])) := Lib.hid (by
  refine .inr ⟨w.heap.size + 1, 0, 2, rfl, by simp [nw], by simp [nw], by decide, (Array.getElem?_eq_some_iff.1 hb1).1, fun i hi => ?_⟩
  simp only [nw, List.length_map, List.length_cons, List.length_nil] at hi
  rcases (show i = 0 ∨ i = 1 by omega) with rfl | rfl
  ·simp [World.cell?, hb1, nw]
  ·simp [World.cell?, hb1, nw])
 clear hs hb1
 by_cases hn : v < 0
 ·skip
  have d1 : decide (v < 0) = true := decide_eq_true hn
  have e1 : v = -u := by omega
  have c1 : IntKind.u64.wrap v = 18446744073709551616 - u := by rw [IntKind.wrap_u64]; omega
  have c2 : IntKind.u64.wrap (-(18446744073709551616 - u)) = u := by rw [IntKind.wrap_u64]; omega
  clear hv hu hu0 hn e1
  have HNM : Hid (Calls Tryd.prog 33 #[.agg #[.bool true, .slice (some ⟨w.heap.size + 1, 0, none⟩) 2 2]] w2 fun e w' => ∃ v, e = .returned (.agg #[.bool (normB true [u % 4294967296, u / 4294967296 % 4294967296]), v]) ∧ NewN .u32 123 w2 w' v (normD [u % 4294967296, u / 4294967296 % 4294967296])) := Lib.hid (norm_c true (some ⟨w.heap.size + 1, 0, none⟩) 2 [u % 4294967296, u / 4294967296 % 4294967296] w2 HRD.out (by simp))
  go_enter Tryd.func91, Tryd.ntmps91
  go_upto_region 4 with (fail)
  go_wp2_with (first | (go_at_call 33; (with_reducible refine HNM.out.mono ?_); rintro e w3 ⟨x, rfl, ho, hf, hn⟩; obtain ⟨Av, cv, rfl⟩ := ho.rd.len; rw [nw_length] at ho hn ⊢; have hb3 := hf.blk HB2.out (fun h => h); have HO := Lib.hid ho; have HF3 := Lib.hid hf; have HNW := Lib.hid hn; have HB3 := Lib.hid hb3; have g0 : w3.cell? ⟨w.heap.size, 0, none⟩ = some (.bool false) := (by simp [World.cell?, hb3]); have g1 : w3.cell? ⟨w.heap.size, 1, none⟩ = some (.slice none 0 0) := (by simp [World.cell?, hb3]); have z0 : w3.frozen? ⟨w.heap.size, 0, none⟩ = false := (by simp [World.frozen?, hb3]); have z1 : w3.frozen? ⟨w.heap.size, 1, none⟩ = false := (by simp [World.frozen?, hb3]); clear ho hf hn hb3))
  obtain ⟨nb, hnb⟩ : ∃ nb, normB true [u % 4294967296, u / 4294967296 % 4294967296] = nb := ⟨_, rfl⟩
  (try rw [hnb])
  obtain ⟨L, hL⟩ : ∃ L, normD [u % 4294967296, u / 4294967296 % 4294967296] = L := ⟨_, rfl⟩
  rw [hL] at HO HNW
  (try rw [hL])
  have hlt : ¬ w.heap.size < w.heap.size := Nat.lt_irrefl _
  refine bodyPost_ret (results_cell_row rfl _ _ w.heap.size 76 #[.bool nb, .slice Av L.length cv] (0, 0) _ rfl (by
   refine Go.Proofs.YtjiaaefpepdoeaaDoorW.PrintWords.blk_put (cs := #[.bool nb, .slice none 0 0]) ?_ 1 _ rfl
   refine Go.Proofs.YtjiaaefpepdoeaaDoorW.PrintWords.blk_put (cs := #[.bool false, .slice none 0 0]) ?_ 0 _ rfl
   exact HB3.out) Tryd.underlying76 rfl (by kernel_rfl)) rfl ?_
  have f5 := ((Fr.refl w3 (fun i => i = w.heap.size)).setCell (a := ⟨w.heap.size, 0, none⟩) (fun _ => rfl) (.bool nb)).setCell (a := ⟨w.heap.size, 1, none⟩) (fun _ => rfl) (.slice Av L.length cv)
  have f6 := ((HF2.out.trans HF3.out).setCell (a := ⟨w.heap.size, 0, none⟩) (fun h => hlt h) (.bool nb)).setCell (a := ⟨w.heap.size, 1, none⟩) (fun h => hlt h) (.slice Av L.length cv)
  have e3 : ofInt v = (nb, L) := by
   rw [← hnb, ← hL]
   unfold ofInt
   have h1 := HU.out
   have h2 := HU0.out
   rw [d1, h1, show u / 4294967296 % 4294967296 = u / 4294967296 by omega]
  rw [e3]
  refine ⟨_, rfl, HO.out.keep f5 (fun i hi e => ?_), f6, ?_⟩
  ·obtain ⟨cur, hc⟩ := HO.out.elem i hi
   rw [e, HB3.out] at hc
   simp at hc
  ·intro k hk
   exact Nat.le_trans HF2.out.size (HNW.out k hk)
 ·skip
  have d1 : decide (v < 0) = false := decide_eq_false hn
  have c1 : IntKind.u64.wrap v = u := by rw [IntKind.wrap_u64]; omega
  clear hv hu hu0 hn
  have HNM : Hid (Calls Tryd.prog 33 #[.agg #[.bool false, .slice (some ⟨w.heap.size + 1, 0, none⟩) 2 2]] w2 fun e w' => ∃ v, e = .returned (.agg #[.bool (normB false [u % 4294967296, u / 4294967296 % 4294967296]), v]) ∧ NewN .u32 123 w2 w' v (normD [u % 4294967296, u / 4294967296 % 4294967296])) := Lib.hid (norm_c false (some ⟨w.heap.size + 1, 0, none⟩) 2 [u % 4294967296, u / 4294967296 % 4294967296] w2 HRD.out (by simp))
  go_enter Tryd.func91, Tryd.ntmps91
  go_upto_region 4 with (fail)
  go_wp2_with (first | (go_at_call 33; (with_reducible refine HNM.out.mono ?_); rintro e w3 ⟨x, rfl, ho, hf, hn⟩; obtain ⟨Av, cv, rfl⟩ := ho.rd.len; rw [nw_length] at ho hn ⊢; have hb3 := hf.blk HB2.out (fun h => h); have HO := Lib.hid ho; have HF3 := Lib.hid hf; have HNW := Lib.hid hn; have HB3 := Lib.hid hb3; have g0 : w3.cell? ⟨w.heap.size, 0, none⟩ = some (.bool false) := (by simp [World.cell?, hb3]); have g1 : w3.cell? ⟨w.heap.size, 1, none⟩ = some (.slice none 0 0) := (by simp [World.cell?, hb3]); have z0 : w3.frozen? ⟨w.heap.size, 0, none⟩ = false := (by simp [World.frozen?, hb3]); have z1 : w3.frozen? ⟨w.heap.size, 1, none⟩ = false := (by simp [World.frozen?, hb3]); clear ho hf hn hb3))
  obtain ⟨nb, hnb⟩ : ∃ nb, normB false [u % 4294967296, u / 4294967296 % 4294967296] = nb := ⟨_, rfl⟩
  (try rw [hnb])
  obtain ⟨L, hL⟩ : ∃ L, normD [u % 4294967296, u / 4294967296 % 4294967296] = L := ⟨_, rfl⟩
  rw [hL] at HO HNW
  (try rw [hL])
  have hlt : ¬ w.heap.size < w.heap.size := Nat.lt_irrefl _
  refine bodyPost_ret (results_cell_row rfl _ _ w.heap.size 76 #[.bool nb, .slice Av L.length cv] (0, 0) _ rfl (by
   refine Go.Proofs.YtjiaaefpepdoeaaDoorW.PrintWords.blk_put (cs := #[.bool nb, .slice none 0 0]) ?_ 1 _ rfl
   refine Go.Proofs.YtjiaaefpepdoeaaDoorW.PrintWords.blk_put (cs := #[.bool false, .slice none 0 0]) ?_ 0 _ rfl
   exact HB3.out) Tryd.underlying76 rfl (by kernel_rfl)) rfl ?_
  have f5 := ((Fr.refl w3 (fun i => i = w.heap.size)).setCell (a := ⟨w.heap.size, 0, none⟩) (fun _ => rfl) (.bool nb)).setCell (a := ⟨w.heap.size, 1, none⟩) (fun _ => rfl) (.slice Av L.length cv)
  have f6 := ((HF2.out.trans HF3.out).setCell (a := ⟨w.heap.size, 0, none⟩) (fun h => hlt h) (.bool nb)).setCell (a := ⟨w.heap.size, 1, none⟩) (fun h => hlt h) (.slice Av L.length cv)
  have e3 : ofInt v = (nb, L) := by
   rw [← hnb, ← hL]
   unfold ofInt
   have h1 := HU.out
   have h2 := HU0.out
   rw [d1, h1, show u / 4294967296 % 4294967296 = u / 4294967296 by omega]
  rw [e3]
  refine ⟨_, rfl, HO.out.keep f5 (fun i hi e => ?_), f6, ?_⟩
  ·obtain ⟨cur, hc⟩ := HO.out.elem i hi
   rw [e, HB3.out] at hc
   simp at hc
  ·intro k hk
   exact Nat.le_trans HF2.out.size (HNW.out k hk)
theorem ofInt_len (v : Int) : (ofInt v).2.length ≤ 1048576 := by
 unfold ofInt
 have := normD_len [(v.natAbs : Int) % 4294967296, (v.natAbs : Int) / 4294967296]
 have h2 := normN_le [(v.natAbs : Int) % 4294967296, (v.natAbs : Int) / 4294967296] [(v.natAbs : Int) % 4294967296, (v.natAbs : Int) / 4294967296].length
 have h3 : [(v.natAbs : Int) % 4294967296, (v.natAbs : Int) / 4294967296].length = 2 := rfl
 simp only
 omega
set_option maxRecDepth 100000 in
set_option maxHeartbeats 4000000 in
theorem termint_c (v : Int) (w : World) (hv : -1152921504606846976 ≤ v ∧ v ≤ 1152921504606846976) :
  Calls Tryd.prog 78 #[.int .i64 v] w fun e w' => ∃ x, e = .returned (.agg #[.int .i64 0, .bool (termInt v).f1, x, .string eStr, .int .i64 0, .slice none 0 0, .slice none 0 0]) ∧ NewN .u32 123 w w' x (termInt v).f2 := by
 have HV := Lib.hid hv
 have HLN := Lib.hid (ofInt_len v)
 obtain ⟨ob, hob⟩ : ∃ ob, (ofInt v).1 = ob := ⟨_, rfl⟩
 obtain ⟨ol, hol⟩ : ∃ ol, (ofInt v).2 = ol := ⟨_, rfl⟩
 have e1 : (termInt v).f1 = normB ob ol := by rw [← hob, ← hol]; rfl
 have e2 : (termInt v).f2 = normD ol := by rw [← hol]; rfl
 rw [e1, e2]
 rw [hol] at HLN
 have HOB := Lib.hid hob
 have HOL := Lib.hid hol
 clear hob hol e1 e2 hv
 have hb0 : (w.alloc (.cells #[.int .i64 0, .bool false, .slice none 0 0, .string ⟨#[]⟩, .int .i64 0, .slice none 0 0, .slice none 0 0] 26)).heap[w.heap.size]? = some (.cells #[.int .i64 0, .bool false, .slice none 0 0, .string ⟨#[]⟩, .int .i64 0, .slice none 0 0, .slice none 0 0] 26 (0, 0)) := blk_new _ _ _
 obtain ⟨B, hB⟩ : ∃ B, w.heap.size = B := ⟨_, rfl⟩
 obtain ⟨w2, hw2⟩ : ∃ w2, w.alloc (.cells #[.int .i64 0, .bool false, .slice none 0 0, .string ⟨#[]⟩, .int .i64 0, .slice none 0 0, .slice none 0 0] 26) = w2 := ⟨_, rfl⟩
 have HF2 : Hid (Fr w w2 (fun _ => False)) := Lib.hid (by rw [← hw2]; exact (Fr.refl w _).alloc _)
 rw [hw2, hB] at hb0
 have HB2 := Lib.hid hb0
 have HBW : Hid (w.heap.size = B) := Lib.hid hB
 clear hb0
 go_enter Tryd.func78, Tryd.ntmps78
 go_upto_region 1 with (fail)
 (try simp only [hw2, hB])
 clear hw2 hB
 go_wp2_with (first
  | (go_at_call 91; (with_reducible refine (ofint_c v _ HV.out).mono ?_); rintro e w3 ⟨x, rfl, ho, hf, hn⟩; rw [HOB.out]; rw [HOL.out] at ho; obtain ⟨Ax, cx, rfl⟩ := ho.rd.len; rw [nw_length] at ho ⊢; have HO := Lib.hid ho.rd; have HF3 := Lib.hid (HF2.out.trans hf); have HB3 := Lib.hid (hf.blk HB2.out (fun h => h)); clear ho hf hn)
  | (go_at_call 90; (with_reducible refine (termnum_c ob Ax cx ol _ HO.out HLN.out).mono ?_); rintro e w4 ⟨y, rfl, ho, hf, hn⟩; obtain ⟨Ay, cy, rfl⟩ := ho.rd.len; rw [nw_length] at ho hn ⊢; have hb4 := hf.blk HB3.out (fun h => h); have HO4 := Lib.hid ho; have HF4 := Lib.hid hf; have HNW := Lib.hid hn; have HB4 := Lib.hid hb4; have g0 : w4.cell? ⟨B, 0, none⟩ = some (.int .i64 0) := (by simp [World.cell?, hb4]); have z0 : w4.frozen? ⟨B, 0, none⟩ = false := (by simp [World.frozen?, hb4]); have g1 : w4.cell? ⟨B, 1, none⟩ = some (.bool false) := (by simp [World.cell?, hb4]); have z1 : w4.frozen? ⟨B, 1, none⟩ = false := (by simp [World.frozen?, hb4]); have g2 : w4.cell? ⟨B, 2, none⟩ = some (.slice none 0 0) := (by simp [World.cell?, hb4]); have z2 : w4.frozen? ⟨B, 2, none⟩ = false := (by simp [World.frozen?, hb4]); have g3 : w4.cell? ⟨B, 3, none⟩ = some (.string ⟨#[]⟩) := (by simp [World.cell?, hb4]); have z3 : w4.frozen? ⟨B, 3, none⟩ = false := (by simp [World.frozen?, hb4]); have g4 : w4.cell? ⟨B, 4, none⟩ = some (.int .i64 0) := (by simp [World.cell?, hb4]); have z4 : w4.frozen? ⟨B, 4, none⟩ = false := (by simp [World.frozen?, hb4]); have g5 : w4.cell? ⟨B, 5, none⟩ = some (.slice none 0 0) := (by simp [World.cell?, hb4]); have z5 : w4.frozen? ⟨B, 5, none⟩ = false := (by simp [World.frozen?, hb4]); have g6 : w4.cell? ⟨B, 6, none⟩ = some (.slice none 0 0) := (by simp [World.cell?, hb4]); have z6 : w4.frozen? ⟨B, 6, none⟩ = false := (by simp [World.frozen?, hb4]);  clear ho hf hn hb4))
 obtain ⟨nb, hnb⟩ : ∃ nb, normB ob ol = nb := ⟨_, rfl⟩
 (try rw [hnb])
 have hlt : ¬ B < w.heap.size := by have := HBW.out; omega
 refine bodyPost_ret (results_cell_row rfl _ _ B 26 #[.int .i64 0, .bool nb, .slice Ay (normD ol).length cy, .string ⟨#[]⟩, .int .i64 0, .slice none 0 0, .slice none 0 0] (0, 0) _ rfl (by
  refine Go.Proofs.YtjiaaefpepdoeaaDoorW.PrintWords.blk_put (cs := #[.int .i64 0, .bool nb, .slice Ay (normD ol).length cy, .string ⟨#[]⟩, .int .i64 0, .slice none 0 0, .slice none 0 0]) ?_ 6 _ rfl
  refine Go.Proofs.YtjiaaefpepdoeaaDoorW.PrintWords.blk_put (cs := #[.int .i64 0, .bool nb, .slice Ay (normD ol).length cy, .string ⟨#[]⟩, .int .i64 0, .slice none 0 0, .slice none 0 0]) ?_ 5 _ rfl
  refine Go.Proofs.YtjiaaefpepdoeaaDoorW.PrintWords.blk_put (cs := #[.int .i64 0, .bool nb, .slice Ay (normD ol).length cy, .string ⟨#[]⟩, .int .i64 0, .slice none 0 0, .slice none 0 0]) ?_ 4 _ rfl
  refine Go.Proofs.YtjiaaefpepdoeaaDoorW.PrintWords.blk_put (cs := #[.int .i64 0, .bool nb, .slice Ay (normD ol).length cy, .string ⟨#[]⟩, .int .i64 0, .slice none 0 0, .slice none 0 0]) ?_ 3 _ rfl
  refine Go.Proofs.YtjiaaefpepdoeaaDoorW.PrintWords.blk_put (cs := #[.int .i64 0, .bool nb, .slice none 0 0, .string ⟨#[]⟩, .int .i64 0, .slice none 0 0, .slice none 0 0]) ?_ 2 _ rfl
  refine Go.Proofs.YtjiaaefpepdoeaaDoorW.PrintWords.blk_put (cs := #[.int .i64 0, .bool false, .slice none 0 0, .string ⟨#[]⟩, .int .i64 0, .slice none 0 0, .slice none 0 0]) ?_ 1 _ rfl
  refine Go.Proofs.YtjiaaefpepdoeaaDoorW.PrintWords.blk_put (cs := #[.int .i64 0, .bool false, .slice none 0 0, .string ⟨#[]⟩, .int .i64 0, .slice none 0 0, .slice none 0 0]) ?_ 0 _ rfl
  exact HB4.out) Tryd.underlying26 rfl (by kernel_rfl)) rfl ?_
 have f5 := (((((((Fr.refl w4 (fun i => i = B)).setCell (a := ⟨B, 0, none⟩) (fun _ => rfl) (.int .i64 0)).setCell (a := ⟨B, 1, none⟩) (fun _ => rfl) (.bool nb)).setCell (a := ⟨B, 2, none⟩) (fun _ => rfl) (.slice Ay (normD ol).length cy)).setCell (a := ⟨B, 3, none⟩) (fun _ => rfl) (.string ⟨#[]⟩)).setCell (a := ⟨B, 4, none⟩) (fun _ => rfl) (.int .i64 0)).setCell (a := ⟨B, 5, none⟩) (fun _ => rfl) (.slice none 0 0)).setCell (a := ⟨B, 6, none⟩) (fun _ => rfl) (.slice none 0 0)
 have f6 := (((((((HF3.out.trans HF4.out).setCell (a := ⟨B, 0, none⟩) (fun h => hlt h) (.int .i64 0)).setCell (a := ⟨B, 1, none⟩) (fun h => hlt h) (.bool nb)).setCell (a := ⟨B, 2, none⟩) (fun h => hlt h) (.slice Ay (normD ol).length cy)).setCell (a := ⟨B, 3, none⟩) (fun h => hlt h) (.string ⟨#[]⟩)).setCell (a := ⟨B, 4, none⟩) (fun h => hlt h) (.int .i64 0)).setCell (a := ⟨B, 5, none⟩) (fun h => hlt h) (.slice none 0 0)).setCell (a := ⟨B, 6, none⟩) (fun h => hlt h) (.slice none 0 0)
 refine ⟨_, rfl, HO4.out.keep f5 (fun i hi e => ?_), f6, ?_⟩
 ·obtain ⟨cur, hc⟩ := HO4.out.elem i hi
  rw [e, HB4.out] at hc
  simp at hc
 ·intro k hk
  exact Nat.le_trans HF3.out.size (HNW.out k hk)
end Go.Proofs.YtjiaaefpepdoeaaDoor
namespace Go.Proofs.YtjiaaefpepdoeaaDoor
open Go.RowKit Md
set_option linter.unusedVariables false
def okD (l : List Int) : Prop := ∀ x ∈ l, 0 ≤ x ∧ x < 4294967296
theorem okD_get {l : List Int} (h : okD l) (k : Nat) : 0 ≤ l.getD k 0 ∧ l.getD k 0 < 4294967296 := by
 rw [List.getD_eq_getElem?_getD]
 cases hk : l[k]? with
 | none => simp
 | some x => exact h x (List.mem_of_getElem? hk)
theorem okD_norm {l : List Int} (h : okD l) : okD (normD l) := fun x hx => h x (List.mem_of_mem_take hx)
theorem small_start {L : List Int} (h : L.length ≤ 2) : (L.length = 2 ∧ (0 : Int) = 0) ∨ (L.length = 1 ∧ (0 : Int) = L.getD 1 0) ∨ (L.length = 0 ∧ (0 : Int) = smallV L) := by
 match L, h with
 | [], _ => exact .inr (.inr ⟨rfl, rfl⟩)
 | [a], _ => exact .inr (.inl ⟨rfl, rfl⟩)
 | [a, b], _ => exact .inl ⟨rfl, rfl⟩
 | a :: b :: c :: r, h => simp at h
theorem u64_join {u x : Int} (hu : 0 ≤ u ∧ u < 4294967296) (hx : 0 ≤ x ∧ x < 4294967296) : bits .or .u64 (u * 4294967296) x = u * 4294967296 + x :=
 bits_join .u64 64 (by decide) wraps_u64 32 (u * 4294967296) x (by omega) (by omega) (by omega) hx.1 (by omega) (by omega)
set_option maxRecDepth 100000 in
set_option maxHeartbeats 4000000 in
theorem small_c (b : Bool) (A : Option Addr) (c : Nat) (l : List Int) (w : World) (h : Rd w (.slice A l.length c) (nw .u32 l)) (hl : l.length ≤ 1048576) (hd : okD l) :
  Calls Tryd.prog 32 #[.agg #[.bool b, .slice A l.length c]] w fun e w' => ∃ v, e = .returned (.tuple #[.int .i64 v, .bool (smallB b l)]) ∧ Fr w w' (fun _ => False) := by
 have hb0 : (w.alloc (.cells #[.bool b, .slice A l.length c] 76)).heap[w.heap.size]? = some (.cells #[.bool b, .slice A l.length c] 76 (0, 0)) := blk_new _ _ _
 obtain ⟨D, hD⟩ : ∃ D, w.heap.size = D := ⟨_, rfl⟩
 obtain ⟨w1, hw1⟩ : ∃ w1, w.alloc (.cells #[.bool b, .slice A l.length c] 76) = w1 := ⟨_, rfl⟩
 have hf1 : Fr w w1 (fun _ => False) := by rw [← hw1]; exact (Fr.refl w _).alloc _
 rw [hw1, hD] at hb0
 have HB1 := Lib.hid hb0
 have HF1 := Lib.hid hf1
 have HDW := Lib.hid hD
 have k0 : w1.cell? ⟨D, 0, none⟩ = some (.bool b) := by simp [World.cell?, hb0]
 have k1 : w1.cell? ⟨D, 1, none⟩ = some (.slice A l.length c) := by simp [World.cell?, hb0]
 have HR1 := Lib.hid (h.keep hf1 (fun _ _ h => h))
 have HLL := Lib.hid hl
 have HOD := Lib.hid (okD_norm hd)
 clear hb0 hf1 h hl hd
 go_enter Tryd.func32, Tryd.ntmps32
 go_upto_region 1 with (fail)
 (try simp only [hw1, hD])
 clear hw1 hD
 go_upto_region 2 with (first | (go_at_call 33; (with_reducible refine (norm_c b A c l _ HR1.out HLL.out).mono ?_); rintro e w3 ⟨v, rfl, ho, hf, hn⟩; obtain ⟨Av, cv, rfl⟩ := ho.rd.len; rw [nw_length] at ho hn ⊢; have hb3 := hf.blk HB1.out (fun h => h); have HO := Lib.hid ho; have HF3 := Lib.hid (HF1.out.trans hf); have HB3 := Lib.hid hb3; clear ho hf hn k0 k1; have k0 : w3.cell? ⟨D, 0, none⟩ = some (.bool b) := (by simp [World.cell?, hb3]); have k1 : w3.cell? ⟨D, 1, none⟩ = some (.slice A l.length c) := (by simp [World.cell?, hb3]); have kf0 : w3.frozen? ⟨D, 0, none⟩ = false := (by simp [World.frozen?, hb3]); have kf1 : w3.frozen? ⟨D, 1, none⟩ = false := (by simp [World.frozen?, hb3]); clear hb3))
 obtain ⟨nb, hnb⟩ : ∃ nb, normB b l = nb := ⟨_, rfl⟩
 obtain ⟨L, hL⟩ : ∃ L, normD l = L := ⟨_, rfl⟩
 have HS : Hid (smallB b l = (decide (L.length ≤ 2) && !(decide (576460752303423488 < smallV L) || (smallV L == 576460752303423488 && !nb)))) := Lib.hid (by unfold smallB; rw [hnb, hL])
 (try simp only [hnb, hL])
 rw [hL] at HO HOD
 clear hnb hL
 have HX4 : Hid (Fr w ((w3.setCell ⟨D, 0, none⟩ (.bool nb)).setCell ⟨D, 1, none⟩ (.slice Av L.length cv)) (fun _ => False) ∧ Own ((w3.setCell ⟨D, 0, none⟩ (.bool nb)).setCell ⟨D, 1, none⟩ (.slice Av L.length cv)) 123 (.slice Av L.length cv) (nw .u32 L) ∧ ((w3.setCell ⟨D, 0, none⟩ (.bool nb)).setCell ⟨D, 1, none⟩ (.slice Av L.length cv)).heap[D]? = some (.cells #[.bool nb, .slice Av L.length cv] 76 (0, 0))) := Lib.hid (by
  have hlt : ¬ D < w.heap.size := by have := HDW.out; omega
  have f2 : Fr w3 ((w3.setCell ⟨D, 0, none⟩ (.bool nb)).setCell ⟨D, 1, none⟩ (.slice Av L.length cv)) (fun i => i = D) := ((Fr.refl w3 (fun i => i = D)).setCell (a := ⟨D, 0, none⟩) (fun _ => rfl) _).setCell (a := ⟨D, 1, none⟩) (fun _ => rfl) _
  refine ⟨(HF3.out.setCell (fun h => hlt h) _).setCell (fun h => hlt h) _, HO.out.keep f2 (fun i hi e => ?_), ?_⟩
  ·obtain ⟨cur, hc⟩ := HO.out.elem i hi
   rw [e, HB3.out] at hc
   simp at hc
  ·refine Go.Proofs.YtjiaaefpepdoeaaDoorW.PrintWords.blk_put (cs := #[.bool nb, .slice A l.length c]) ?_ 1 _ rfl
   refine Go.Proofs.YtjiaaefpepdoeaaDoorW.PrintWords.blk_put (cs := #[.bool b, .slice A l.length c]) ?_ 0 _ rfl
   exact HB3.out)
 obtain ⟨W4, hW4⟩ : ∃ W4, (w3.setCell ⟨D, 0, none⟩ (.bool nb)).setCell ⟨D, 1, none⟩ (.slice Av L.length cv) = W4 := ⟨_, rfl⟩
 rw [hW4] at HX4
 (try simp only [hW4])
 clear hW4 k0 k1 kf0 kf1 HO HF3 HB3 HR1 HF1 HB1
 have HLD := Lib.hid HX4.out.2.2
 have k0 : W4.cell? ⟨D, 0, none⟩ = some (.bool nb) := by simp [World.cell?, HLD.out]
 have k1 : W4.cell? ⟨D, 1, none⟩ = some (.slice Av L.length cv) := by simp [World.cell?, HLD.out]
 by_cases h2 : 2 < L.length
 ·have d1 : decide ((2 : Int) < L.length) = true := decide_eq_true (by omega)
  have d2 : decide (2 < L.length) = true := decide_eq_true h2
  go_wp2
  go_ret2
  exact ⟨0, by rw [HS.out, decide_eq_false (by omega : ¬ L.length ≤ 2)]; rfl, HX4.out.1⟩
 ·have d1 : decide ((2 : Int) < L.length) = false := decide_eq_false (by omega)
  have d2 : decide (2 < L.length) = false := decide_eq_false h2
  have HL2 : Hid (L.length ≤ 2) := Lib.hid (by omega)
  have hwl : wrap64 ((L.length : Int) - 1) = (L.length : Int) - 1 := by unfold wrap64; omega
  go_upto_block 0 with (fail)
  go_cut [4] (fun c wx => c = .int .u64 (smallV L) ∧ wx = W4)
  case first =>
   go_wp2_with (fail)
   go_loopg [4, 5] L.length (fun g a4 a5 wr => ∃ (u i : Int), a4 = .int .u64 u ∧ a5 = .int .i64 i ∧ i = (g : Int) - 1 ∧ wr = W4 ∧ Hid (g ≤ L.length ∧ ((g = 2 ∧ u = 0) ∨ (g = 1 ∧ u = L.getD 1 0) ∨ (g = 0 ∧ u = smallV L))))
   case atStart => exact ⟨0, (L.length : Int) - 1, rfl, by first | rfl | (simp; done), rfl, rfl, Lib.hid ⟨Nat.le_refl _, small_start HL2.out⟩⟩
   case round =>
    obtain ⟨u, i, rfl, rfl, hi, rfl, HI⟩ := hrel
    cases gk with
    | zero =>
     have e : u = smallV L := by
      rcases HI.out.2 with ⟨h, _⟩ | ⟨h, _⟩ | ⟨_, h⟩
      ·cases h
      ·cases h
      ·exact h
     have d3 : decide ((0 : Int) ≤ i) = false := decide_eq_false (by omega)
     clear hi
     go_wp2_with (fail)
     go_meet
     subst e
     exact ⟨rfl, rfl⟩
    | succ k =>
     have e : i = k := by omega
     subst e
     have hkl : k < L.length := by have := HI.out.1; omega
     have d3 : decide ((0 : Int) ≤ (k : Int)) = true := decide_eq_true (by omega)
     have q1 : (k : Int) < L.length := by omega
     obtain ⟨g, rfl, _, hc⟩ := HX4.out.2.1.cellAt (by rw [nw_length]; omega)
     have ck := (hc k (by rw [nw_length]; exact hkl)).1
     rw [nw_get hkl] at ck
     have hx := okD_get HOD.out k
     obtain ⟨x, hxx⟩ : ∃ x, L.getD k 0 = x := ⟨_, rfl⟩
     rw [hxx] at ck hx
     have HXX := Lib.hid hxx
     have hub : 0 ≤ u ∧ u < 4294967296 := by
      rcases HI.out.2 with ⟨_, h⟩ | ⟨_, h⟩ | ⟨h, _⟩
      ·rw [h]; decide
      ·rw [h]; exact okD_get HOD.out 1
      ·cases h
     have HUB := Lib.hid hub
     have HXB := Lib.hid hx
     clear hc hi hub hx hxx
     go_upto_region 8 with (fail)
     go_wp2_with (fail)
     go_roundg k
     case measure => omega
     case rel =>
      have hu := HUB.out
      have hx := HXB.out
      have hor : bits .or .u64 (IntKind.u64.wrap (u * 4294967296)) (IntKind.u64.wrap x) = u * 4294967296 + x := by
       rw [wraps_u64 _ (by omega) (by omega), wraps_u64 _ (by omega) (by omega), u64_join hu hx]
      refine ⟨u * 4294967296 + x, (k : Int) - 1, by first | (simp; done) | (simp; exact hor), by first | rfl | (simp; done), rfl, rfl, Lib.hid ⟨by omega, ?_⟩⟩
      rcases HI.out.2 with ⟨h, h0⟩ | ⟨h, h0⟩ | ⟨h, _⟩
      ·have : k = 1 := by omega
       subst this
       exact .inr (.inl ⟨rfl, by rw [h0, ← HXX.out]; omega⟩)
      ·have : k = 0 := by omega
       subst this
       refine .inr (.inr ⟨rfl, ?_⟩)
       unfold smallV
       rw [h0, ← HXX.out]
       omega
      ·cases h
  case rest =>
   obtain ⟨rfl, hw⟩ := hcut
   subst hw
   obtain ⟨V, hV⟩ : ∃ V, smallV L = V := ⟨_, rfl⟩
   (try rw [hV])
   have HS2 : Hid (smallB b l = !(decide (576460752303423488 < V) || (V == 576460752303423488 && !nb))) := Lib.hid (by rw [HS.out, decide_eq_true HL2.out, hV]; simp)
   clear HS hV
   by_cases c1 : 576460752303423488 < V
   ·have e1 : decide (576460752303423488 < V) = true := decide_eq_true c1
    clear c1
    go_wp2
    go_ret2
    exact ⟨0, by rw [HS2.out, e1]; rfl, HX4.out.1⟩
   ·have e1 : decide (576460752303423488 < V) = false := decide_eq_false c1
    clear c1
    by_cases c2 : V = 576460752303423488
    ·have e2 : (V == 576460752303423488) = true := by simpa using c2
     cases nb with
     | false =>
      go_wp2
      go_ret2
      exact ⟨0, by rw [HS2.out, e1, e2]; rfl, HX4.out.1⟩
     | true =>
      go_wp2
      go_ret2
      exact ⟨_, by rw [HS2.out, e1, e2]; rfl, HX4.out.1⟩
    ·have e2 : (V == 576460752303423488) = false := by simpa using c2
     clear c2
     cases nb with
     | false =>
      go_wp2
      go_ret2
      exact ⟨_, by rw [HS2.out, e1, e2]; rfl, HX4.out.1⟩
     | true =>
      go_wp2
      go_ret2
      exact ⟨_, by rw [HS2.out, e1, e2]; rfl, HX4.out.1⟩
end Go.Proofs.YtjiaaefpepdoeaaDoor
namespace Go.Proofs.YtjiaaefpepdoeaaDoor
open Go.RowKit Md
set_option linter.unusedVariables false
structure StS (W : World) (s gb cb gp cp gs cs gc cc : Nat) : Prop where
 blk : W.heap[s]? = some (.cells #[.slice (some ⟨gb, 0, none⟩) 5 cb, .int .i64 9, .slice (some ⟨gp, 0, none⟩) 1 cp, .slice (some ⟨gs, 0, none⟩) 1 cs, .slice (some ⟨gc, 0, none⟩) 1 cc] 79 (0, 0))
 ob : Own W 5 (.slice (some ⟨gb, 0, none⟩) 5 cb) (nw .u8 [1, 2, 3, 4, 5])
 op : Own W 3 (.slice (some ⟨gp, 0, none⟩) 1 cp) (nw .i64 [0])
 os : Own W 3 (.slice (some ⟨gs, 0, none⟩) 1 cs) (nw .i64 [5])
 oc : Own W 3 (.slice (some ⟨gc, 0, none⟩) 1 cc) (nw .i64 [1])
section
variable {W W1 : World} {s gb cb gp cp gs cs gc cc : Nat} {S : Nat → Prop}
theorem StS.keep (h : StS W s gb cb gp cp gs cs gc cc) (hf : Fr W W1 S) (h0 : ¬ S s) (h1 : ¬ S gb) (h2 : ¬ S gp) (h3 : ¬ S gs) (h4 : ¬ S gc) : StS W1 s gb cb gp cp gs cs gc cc := by
 have key : ∀ {g n c : Nat}, ¬ S g → ∀ i, InBlk (.slice (some ⟨g, 0, none⟩) n c) i → ¬ S i := fun hg i hi => by
  simp [InBlk, Value.ownBlock] at hi; rw [← hi]; exact hg
 exact ⟨hf.blk h.blk h0, h.ob.keep hf (key h1), h.op.keep hf (key h2), h.os.keep hf (key h3), h.oc.keep hf (key h4)⟩
theorem StS.fr (h : StS W s gb cb gp cp gs cs gc cc) (hf : Fr W W1 fun _ => False) : StS W1 s gb cb gp cp gs cs gc cc := h.keep hf (fun h => h) (fun h => h) (fun h => h) (fun h => h) (fun h => h)
theorem StS.k2 (h : StS W s gb cb gp cp gs cs gc cc) : W.cell? ⟨s, 2, none⟩ = some (.slice (some ⟨gp, 0, none⟩) 1 cp) := by simp [World.cell?, h.blk]
theorem StS.k3 (h : StS W s gb cb gp cp gs cs gc cc) : W.cell? ⟨s, 3, none⟩ = some (.slice (some ⟨gs, 0, none⟩) 1 cs) := by simp [World.cell?, h.blk]
theorem StS.k4 (h : StS W s gb cb gp cp gs cs gc cc) : W.cell? ⟨s, 4, none⟩ = some (.slice (some ⟨gc, 0, none⟩) 1 cc) := by simp [World.cell?, h.blk]
theorem StS.k0 (h : StS W s gb cb gp cp gs cs gc cc) : W.cell? ⟨s, 0, none⟩ = some (.slice (some ⟨gb, 0, none⟩) 5 cb) := by simp [World.cell?, h.blk]
theorem cell1 {g c : Nat} {x : Int} (h : Own W 3 (.slice (some ⟨g, 0, none⟩) 1 c) (nw .i64 [x])) : W.cell? ⟨g, 0, none⟩ = some (.int .i64 x) := by
 obtain ⟨b, e, _, hc⟩ := h.cellAt (by simp [nw])
 injection e with e
 injection e with e
 subst e
 have := (hc 0 (by simp [nw])).1
 simpa [nw] using this
end
def lookM (h a n : Int) : Option (List Int) := if h = 1 ∧ a ≤ 5 ∧ n ≤ 5 - a then some (([1, 2, 3, 4, 5].drop a.toNat).take n.toNat) else none
set_option maxHeartbeats 1000000 in
theorem there_c (s gb cb gp cp gs cs gc cc : Nat) (h : Int) (w : World) (hs : StS w s gb cb gp cp gs cs gc cc) :
  Calls Tryd.prog 67 #[.pointer (some ⟨s, 0, none⟩), .int .i64 h] w fun e w' => e = .returned (.bool (decide (h = 1))) ∧ w' = w := by
 have k4 := hs.k4
 have kc := cell1 hs.oc
 clear hs
 by_cases h1 : h < 1
 ·have d1 : decide (1 ≤ h) = false := decide_eq_false (by omega)
  have e : decide (h = 1) = false := decide_eq_false (by omega)
  rw [e]
  go_enter Tryd.func67, Tryd.ntmps67
  go_wp2
  go_ret
  exact ⟨rfl, rfl⟩
 ·by_cases h2 : 1 < h
  ·have d1 : decide (1 ≤ h) = true := decide_eq_true (by omega)
   have d2 : decide (h ≤ 1) = false := decide_eq_false (by omega)
   have e : decide (h = 1) = false := decide_eq_false (by omega)
   rw [e]
   go_enter Tryd.func67, Tryd.ntmps67
   go_wp2
   go_ret
   exact ⟨rfl, rfl⟩
  ·have e : h = 1 := by omega
   subst e
   go_enter Tryd.func67, Tryd.ntmps67
   go_wp2
   go_ret
   exact ⟨rfl, rfl⟩
theorem NewN.nil (K : IntKind) (e : TypeId) (w : World) : NewN K e w w (.slice none 0 0) [] := ⟨Own.nil w e, Fr.refl _ _, fun k hk => by simp [InBlk, Value.ownBlock] at hk⟩
set_option maxRecDepth 100000 in
set_option maxHeartbeats 2000000 in
theorem look_c (s gb cb gp cp gs cs gc cc : Nat) (h a n : Int) (w : World) (hs : StS w s gb cb gp cp gs cs gc cc) (ha : 0 ≤ a ∧ a ≤ 2147483648) (hn : 0 ≤ n ∧ n ≤ 2147483648) :
  Calls Tryd.prog 97 #[.pointer (some ⟨s, 0, none⟩), .int .i64 h, .int .i64 a, .int .i64 n] w fun e w' => ∃ v, e = .returned (.tuple #[v, .bool (lookM h a n).isSome]) ∧ NewN .u8 5 w w' v ((lookM h a n).getD []) := by
 have HS := Lib.hid hs
 have k0 := hs.k0
 have k2 := hs.k2
 have k3 := hs.k3
 have kp := cell1 hs.op
 have ks := cell1 hs.os
 have d1 : decide (a < 0) = false := decide_eq_false (by omega)
 have d2 : decide (n < 0) = false := decide_eq_false (by omega)
 clear hs
 by_cases h1 : h = 1
 ·subst h1
  by_cases h2 : 5 < a
  ·have d3 : decide (5 < a) = true := decide_eq_true h2
   have e : lookM 1 a n = none := by unfold lookM; rw [if_neg (by omega)]
   rw [e]
   clear ha hn h2 e
   go_enter Tryd.func97, Tryd.ntmps97
   go_wp2_with (first | (go_at_call 67; (with_reducible refine (there_c s gb cb gp cp gs cs gc cc 1 _ HS.out).mono ?_); rintro e w1 ⟨rfl, rfl⟩))
   go_ret2
   exact ⟨_, rfl, NewN.nil _ _ _⟩
  ·have d3 : decide (5 < a) = false := decide_eq_false h2
   have hw5 : wrap64 (5 - a) = 5 - a := by unfold wrap64; omega
   by_cases h3 : 5 - a < n
   ·have d4 : decide (5 - a < n) = true := decide_eq_true h3
    have e : lookM 1 a n = none := by unfold lookM; rw [if_neg (by omega)]
    rw [e]
    clear ha hn h2 e h3
    go_enter Tryd.func97, Tryd.ntmps97
    go_wp2_with (first | (go_at_call 67; (with_reducible refine (there_c s gb cb gp cp gs cs gc cc 1 _ HS.out).mono ?_); rintro e w1 ⟨rfl, rfl⟩))
    go_ret2
    exact ⟨_, rfl, NewN.nil _ _ _⟩
   ·have d4 : decide (5 - a < n) = false := decide_eq_false h3
    have e : lookM 1 a n = some (([1, 2, 3, 4, 5].drop a.toNat).take n.toNat) := by unfold lookM; rw [if_pos (by omega)]
    rw [e]
    obtain ⟨x, rfl⟩ := Int.eq_ofNat_of_zero_le ha.1
    obtain ⟨y, rfl⟩ := Int.eq_ofNat_of_zero_le hn.1
    have hxy : x + y ≤ 5 := by omega
    obtain ⟨z, hz⟩ : ∃ z, x + y = z := ⟨_, rfl⟩
    obtain ⟨u, hsl, hru⟩ := rn_lh undU8 sizeU8 (l := [1, 2, 3, 4, 5]) (K := .u8) HS.out.ob.rd x z (by omega) (by rw [← hz]; exact hxy)
    replace hsl : ∀ W : World, (Instr.slice 24 (.slice (some ⟨gb, 0, none⟩) 5 cb) (some (.int .i64 (x : Int))) (some (.int .i64 (z : Int))) none).run Tryd.prog W = .ok u W := hsl
    obtain ⟨v', w4, hr, ho, hf, hnn⟩ := rn_copy (t := 24) (e := 5) (n := 1) Tryd.underlying24 infoU8 (by decide) hru (by simp; omega)
    rw [show z - x = y by omega] at ho
    have HO := Lib.hid ho
    have HF := Lib.hid hf
    have HN := Lib.hid hnn
    have hs1 : wrap64 ((x : Int) + (y : Int)) = (z : Int) := by unfold wrap64; omega
    have hs0 : wrap64 (x : Int) = x := by unfold wrap64; omega
    clear ho hf hnn hru e ha hn h2 h3 hxy hz
    go_enter Tryd.func97, Tryd.ntmps97
    go_upto_region 4 with (first | (go_at_call 67; (with_reducible refine (there_c s gb cb gp cp gs cs gc cc 1 _ HS.out).mono ?_); rintro e w1 ⟨rfl, rfl⟩))
    go_wp2_with (at_builtin; refine Lib.wpList_append_run _ rfl _ _ _ _ rfl _ _ rfl rfl _ w4 hr ?_)
    go_ret2
    exact ⟨_, rfl, HO.out, HF.out, HN.out⟩
 ·have e0 : decide (h = 1) = false := decide_eq_false h1
  have e : lookM h a n = none := by unfold lookM; rw [if_neg (by omega)]
  rw [e]
  clear ha hn h1 e
  go_enter Tryd.func97, Tryd.ntmps97
  go_wp2_with (first | (go_at_call 67; (with_reducible refine (there_c s gb cb gp cp gs cs gc cc h _ HS.out).mono ?_); rintro e w1 ⟨rfl, rfl⟩; rw [e0]))
  go_ret2
  exact ⟨_, rfl, NewN.nil _ _ _⟩
end Go.Proofs.YtjiaaefpepdoeaaDoor
namespace Go.Proofs.YtjiaaefpepdoeaaDoor
open Go.RowKit Md Go.Proofs.YtjiaaefpepdoeaaDoorW.PrintWords
open Go.Proofs.YtjiaaefpepdoeaaDoor.PSlideMeans (S26 z26 k26 k26_mkM)
set_option linter.unusedVariables false
theorem NewN.R {K : IntKind} {e : TypeId} {w w' : World} {v : Value} {l : List Int} (h : NewN K e w w' v l) : (Kd.int K).R e w' w.heap.size (fun k => w.heap.size ≤ k) v l := by
 refine Kd.R_of_own (enc := Value.int K) ?_ (fun k hk => h.2.2 k hk)
 obtain ⟨⟨h1, h2⟩, _, h3⟩ := h
 refine ⟨by simp [encs], ?_⟩
 rcases h2 with ⟨rfl, h0⟩ | ⟨g, cap, cur, rfl, hb, hg, hl, hm, hs, ht⟩
 ·exact .inl ⟨rfl, by simpa [nw] using h0⟩
 ·exact .inr ⟨g, cap, cur, by simp [nw], h3 g (by simp [InBlk, Value.ownBlock]), hg, by simpa [nw] using hl, hm, hs, by simpa [nw, encs] using ht⟩
def st7 (W : World) (B : Nat) (c0 c1 c2 c3 c4 c5 c6 : Value) : World := ((((((W.setCell ⟨B, 0, none⟩ c0).setCell ⟨B, 1, none⟩ c1).setCell ⟨B, 2, none⟩ c2).setCell ⟨B, 3, none⟩ c3).setCell ⟨B, 4, none⟩ c4).setCell ⟨B, 5, none⟩ c5).setCell ⟨B, 6, none⟩ c6
theorem st7_blk {W : World} {B : Nat} {T : TypeId} {o0 o1 o2 o3 o4 o5 o6 : Value} (c0 c1 c2 c3 c4 c5 c6 : Value) (h : W.heap[B]? = some (.cells #[o0, o1, o2, o3, o4, o5, o6] T (0, 0))) : (st7 W B c0 c1 c2 c3 c4 c5 c6).heap[B]? = some (.cells #[c0, c1, c2, c3, c4, c5, c6] T (0, 0)) := by
 unfold st7
 refine blk_put (cs := #[c0, c1, c2, c3, c4, c5, o6]) ?_ 6 _ rfl
 refine blk_put (cs := #[c0, c1, c2, c3, c4, o5, o6]) ?_ 5 _ rfl
 refine blk_put (cs := #[c0, c1, c2, c3, o4, o5, o6]) ?_ 4 _ rfl
 refine blk_put (cs := #[c0, c1, c2, o3, o4, o5, o6]) ?_ 3 _ rfl
 refine blk_put (cs := #[c0, c1, o2, o3, o4, o5, o6]) ?_ 2 _ rfl
 refine blk_put (cs := #[c0, o1, o2, o3, o4, o5, o6]) ?_ 1 _ rfl
 refine blk_put (cs := #[o0, o1, o2, o3, o4, o5, o6]) ?_ 0 _ rfl
 exact h
theorem cells7 {W : World} {B : Nat} {T : TypeId} {a b c d e f g : Value} (h : W.heap[B]? = some (.cells #[a, b, c, d, e, f, g] T (0, 0))) :
  W.cell? ⟨B, 0, none⟩ = some a ∧ W.cell? ⟨B, 1, none⟩ = some b ∧ W.cell? ⟨B, 2, none⟩ = some c ∧ W.cell? ⟨B, 3, none⟩ = some d ∧ W.cell? ⟨B, 4, none⟩ = some e ∧ W.cell? ⟨B, 5, none⟩ = some f ∧ W.cell? ⟨B, 6, none⟩ = some g ∧
  W.frozen? ⟨B, 0, none⟩ = false ∧ W.frozen? ⟨B, 1, none⟩ = false ∧ W.frozen? ⟨B, 2, none⟩ = false ∧ W.frozen? ⟨B, 3, none⟩ = false ∧ W.frozen? ⟨B, 4, none⟩ = false ∧ W.frozen? ⟨B, 5, none⟩ = false ∧ W.frozen? ⟨B, 6, none⟩ = false := by
 simp [World.cell?, World.frozen?, h]
theorem st7_fr (W : World) (B : Nat) (c0 c1 c2 c3 c4 c5 c6 : Value) : Fr W (st7 W B c0 c1 c2 c3 c4 c5 c6) (fun i => i = B) :=
 (((((((Fr.refl W (fun i => i = B)).setCell (a := ⟨B, 0, none⟩) (fun _ => rfl) c0).setCell (a := ⟨B, 1, none⟩) (fun _ => rfl) c1).setCell (a := ⟨B, 2, none⟩) (fun _ => rfl) c2).setCell (a := ⟨B, 3, none⟩) (fun _ => rfl) c3).setCell (a := ⟨B, 4, none⟩) (fun _ => rfl) c4).setCell (a := ⟨B, 5, none⟩) (fun _ => rfl) c5).setCell (a := ⟨B, 6, none⟩) (fun _ => rfl) c6
structure Gx where
 (g q t s : Nat)
 vm : Value
 (gn cn gb cb gp cp gs cs gc cc : Nat)
def sA : ByteArray := ⟨#[97]⟩
def sB : ByteArray := ⟨#[98]⟩
structure GG (W : World) (X : Gx) (ws : List Int) (size n : Int) (bad : Bool) : Prop where
 mem : Ar 46 W X.q X.vm ws size
 nblk : W.heap[X.t]? = some (.cells #[.slice (some ⟨X.gn, 0, none⟩) 2 X.cn] 35 (0, 0))
 nown : Own W 9 (.slice (some ⟨X.gn, 0, none⟩) 2 X.cn) [.string sA, .string sB]
 sto : StS W X.s X.gb X.cb X.gp X.cp X.gs X.cs X.gc X.cc
 gblk : W.heap[X.g]? = some (.cells #[.pointer (some ⟨X.q, 0, none⟩), .pointer (some ⟨X.t, 0, none⟩), .pointer (some ⟨X.s, 0, none⟩), .int .i64 n, .bool bad] 115 (0, 0))
section
variable {W W1 : World} {X : Gx} {ws : List Int} {size n n' : Int} {bad b' : Bool}
theorem ne_of_types {W : World} {i j : Nat} {c c' : Array Value} {T T' : TypeId} (hi : W.heap[i]? = some (.cells c T (0, 0))) (hj : W.heap[j]? = some (.cells c' T' (0, 0))) (ne : T ≠ T') : i ≠ j := fun e => by
 subst e; rw [hi] at hj; simp at hj; exact ne hj.2
theorem own_ne {W : World} {g n c j : Nat} {e T : TypeId} {xs : List Value} {cl : Array Value} (h : Own W e (.slice (some ⟨g, 0, none⟩) n c) xs) (hj : W.heap[j]? = some (.cells cl T (0, 0))) (ne : e ≠ T) : g ≠ j := by
 obtain ⟨cur, hc⟩ := h.elem g (by simp [InBlk, Value.ownBlock])
 exact ne_of_types hc hj ne
theorem GG.keep (h : GG W X ws size n bad) (hf : Fr W W1 (fun i => i = X.g)) (hg : W1.heap[X.g]? = some (.cells #[.pointer (some ⟨X.q, 0, none⟩), .pointer (some ⟨X.t, 0, none⟩), .pointer (some ⟨X.s, 0, none⟩), .int .i64 n', .bool b'] 115 (0, 0))) : GG W1 X ws size n' b' := by
 refine ⟨h.mem.keep hf (ne_of_types h.mem.blk h.gblk (by decide)) (fun i hi e => ?_), hf.blk h.nblk (ne_of_types h.nblk h.gblk (by decide)), h.nown.keep hf (fun i hi e => ?_), h.sto.keep hf (ne_of_types h.sto.blk h.gblk (by decide)) (own_ne h.sto.ob h.gblk (by decide)) (own_ne h.sto.op h.gblk (by decide)) (own_ne h.sto.os h.gblk (by decide)) (own_ne h.sto.oc h.gblk (by decide)), hg⟩
 ·obtain ⟨cur, hc⟩ := h.mem.own.elem i hi
  exact ne_of_types hc h.gblk (by decide) e
 ·obtain ⟨cur, hc⟩ := h.nown.elem i hi
  exact ne_of_types hc h.gblk (by decide) e
theorem GG.fr (h : GG W X ws size n bad) (hf : Fr W W1 fun _ => False) : GG W1 X ws size n bad :=
 ⟨h.mem.fr hf, hf.blk h.nblk (fun h => h), h.nown.keep hf (fun _ _ h => h), h.sto.fr hf, hf.blk h.gblk (fun h => h)⟩
theorem GG.setbad (h : GG W X ws size n bad) (b' : Bool) : GG (W.setCell ⟨X.g, 4, none⟩ (.bool b')) X ws size n b' ∧ Fr W (W.setCell ⟨X.g, 4, none⟩ (.bool b')) (fun i => i = X.g) := by
 have hf : Fr W (W.setCell ⟨X.g, 4, none⟩ (.bool b')) (fun i => i = X.g) := (Fr.refl W (fun i => i = X.g)).setCell (a := ⟨X.g, 4, none⟩) (fun _ => rfl) _
 exact ⟨h.keep hf (blk_put h.gblk 4 _ rfl), hf⟩
theorem GG.setn (h : GG W X ws size n bad) (n' : Int) : GG (W.setCell ⟨X.g, 3, none⟩ (.int .i64 n')) X ws size n' bad ∧ Fr W (W.setCell ⟨X.g, 3, none⟩ (.int .i64 n')) (fun i => i = X.g) := by
 have hf : Fr W (W.setCell ⟨X.g, 3, none⟩ (.int .i64 n')) (fun i => i = X.g) := (Fr.refl W (fun i => i = X.g)).setCell (a := ⟨X.g, 3, none⟩) (fun _ => rfl) _
 exact ⟨h.keep hf (blk_put h.gblk 3 _ rfl), hf⟩
theorem GG.far (h : GG W X ws size n bad) {B : Nat} (hf : Fr W W1 (fun i => i = B)) (hB : ∀ c T, W.heap[B]? = some (.cells c T (0, 0)) → T = 26) (hs : ∃ c T, W.heap[B]? = some (.cells c T (0, 0))) : GG W1 X ws size n bad := by
 obtain ⟨c, T, hc⟩ := hs
 have e := hB c T hc
 subst e
 refine ⟨h.mem.keep hf (ne_of_types h.mem.blk hc (by decide)) (fun i hi e => ?_), hf.blk h.nblk (ne_of_types h.nblk hc (by decide)), h.nown.keep hf (fun i hi e => ?_), h.sto.keep hf (ne_of_types h.sto.blk hc (by decide)) (own_ne h.sto.ob hc (by decide)) (own_ne h.sto.op hc (by decide)) (own_ne h.sto.os hc (by decide)) (own_ne h.sto.oc hc (by decide)), hf.blk h.gblk (ne_of_types h.gblk hc (by decide))⟩
 ·obtain ⟨cur, hcc⟩ := h.mem.own.elem i hi
  exact ne_of_types hcc hc (by decide) e
 ·obtain ⟨cur, hcc⟩ := h.nown.elem i hi
  exact ne_of_types hcc hc (by decide) e
theorem GG.cells (h : GG W X ws size n bad) : W.cell? ⟨X.g, 0, none⟩ = some (.pointer (some ⟨X.q, 0, none⟩)) ∧ W.cell? ⟨X.g, 1, none⟩ = some (.pointer (some ⟨X.t, 0, none⟩)) ∧ W.cell? ⟨X.g, 2, none⟩ = some (.pointer (some ⟨X.s, 0, none⟩)) ∧ W.cell? ⟨X.g, 3, none⟩ = some (.int .i64 n) ∧ W.cell? ⟨X.g, 4, none⟩ = some (.bool bad) ∧ W.frozen? ⟨X.g, 3, none⟩ = false ∧ W.frozen? ⟨X.g, 4, none⟩ = false := by
 simp [World.cell?, World.frozen?, h.gblk]
end
def GA (w w' : World) (X : Gx) (ws : List Int) (size n : Int) (r : Option S26) (e : Ending) : Prop :=
 ∃ v2 v5 v6, e = .returned (.agg #[.int .i64 (r.getD z26).f0, .bool (r.getD z26).f1, v2, .string (r.getD z26).f3, .int .i64 (r.getD z26).f4, v5, v6]) ∧ (Kd.int .u32).R 123 w' w.heap.size (fun k => w.heap.size ≤ k) v2 (r.getD z26).f2 ∧ k26.R 26 w' w.heap.size (fun k => w.heap.size ≤ k) v5 (r.getD z26).f5 ∧ (Kd.int .u8).R 5 w' w.heap.size (fun k => w.heap.size ≤ k) v6 (r.getD z26).f6 ∧ GG w' X ws size n r.isNone ∧ Fr w w' (fun i => i = X.g)
end Go.Proofs.YtjiaaefpepdoeaaDoor
namespace Go.Proofs.YtjiaaefpepdoeaaDoor
open Go.RowKit Md Go.Proofs.YtjiaaefpepdoeaaDoorW.PrintWords
open Go.Proofs.YtjiaaefpepdoeaaDoor.PSlideMeans (S26 z26 k26 tenementref1_Tree.f tenementref1_Tree.l0 tenementref1_Tree.j0 tenementref1_Tree.mono_l rd_T26)
set_option linter.unusedVariables false
def TrE (t : S26) (r : Int) : Prop := ∃ k, tenementref1_Tree.f k t.f0 t.f1 t.f2 t.f3 t.f4 t.f5 t.f6 = some r
theorem tree_le {t : S26} {r : Int} {k : Nat} (h : tenementref1_Tree.f k t.f0 t.f1 t.f2 t.f3 t.f4 t.f5 t.f6 = some r) : ∀ m, k ≤ m → tenementref1_Tree.f m t.f0 t.f1 t.f2 t.f3 t.f4 t.f5 t.f6 = some r := fun m hm => by
 obtain ⟨j, rfl⟩ := Nat.exists_eq_add_of_le hm
 clear hm
 induction j with
 | zero => exact h
 | succ j ih => exact (tenementref1_Tree.mono_l (k + j)).1 _ _ _ _ _ _ _ r ih
theorem l0_le {n i a0 : Int} {a1 : Bool} {l2 : List Int} {a3 : ByteArray} {a4 : Int} {l5 : List S26} {l6 : List Int} {r : Int} {k : Nat} (h : tenementref1_Tree.l0 k n i a0 a1 l2 a3 a4 l5 l6 = some r) : ∀ m, k ≤ m → tenementref1_Tree.l0 m n i a0 a1 l2 a3 a4 l5 l6 = some r := fun m hm => by
 obtain ⟨j, rfl⟩ := Nat.exists_eq_add_of_le hm
 clear hm
 induction j with
 | zero => exact h
 | succ j ih => exact (tenementref1_Tree.mono_l (k + j)).2.2 _ _ _ _ _ _ _ _ _ r ih
theorem TrE.det {t : S26} {r s : Int} (h1 : TrE t r) (h2 : TrE t s) : r = s := by
 obtain ⟨k, h1⟩ := h1
 obtain ⟨m, h2⟩ := h2
 have a := tree_le h1 (max k m) (Nat.le_max_left _ _)
 have b := tree_le h2 (max k m) (Nat.le_max_right _ _)
 rw [a] at b
 injection b
open Classical in
noncomputable def trT (t : S26) : Int := if h : ∃ r, TrE t r then h.choose else 0
theorem trT_of {t : S26} {r : Int} (h : TrE t r) : trT t = r := by
 unfold trT
 rw [dif_pos ⟨r, h⟩]
 exact TrE.det (Classical.choose_spec (⟨r, h⟩ : ∃ r, TrE t r)) h
def OkT : Nat → S26 → Prop
 | 0, _ => False
 | d + 1, t => (0 ≤ t.f0 ∧ t.f0 ≤ 7 ∧ t.f2.length ≤ 64 ∧ okD t.f2 ∧ (t.f3 = eStr ∨ t.f3 = sA ∨ t.f3 = sB) ∧ t.f5.length ≤ 255 ∧ t.f6.length ≤ 4096) ∧ ∀ x ∈ t.f5, OkT d x
theorem OkT.mono : ∀ {d e : Nat} {t : S26}, OkT d t → d ≤ e → OkT e t
 | 0, e, t, h, _ => h.elim
 | d + 1, 0, t, h, hd => absurd hd (by omega)
 | d + 1, e + 1, t, h, hd => ⟨h.1, fun x hx => OkT.mono (h.2 x hx) (by omega)⟩
theorem okT_z : OkT 1 z26 := ⟨⟨Int.le_refl _, by decide, Nat.zero_le _, fun x hx => by simp [z26] at hx, .inl rfl, Nat.zero_le _, Nat.zero_le _⟩, fun x hx => by simp [z26] at hx⟩
theorem l0_ev {a0 : Int} {a1 : Bool} {l2 : List Int} {a3 : ByteArray} {a4 : Int} {l5 : List S26} {l6 : List Int} (hl : l5.length ≤ 255) (h : ∀ x ∈ l5, ∃ r, TrE x r ∧ 1 ≤ r ∧ r ≤ 65537) :
  ∀ (j i : Nat) (n : Int), i + j = l5.length → 1 ≤ n → n ≤ 131073 → ∃ k r, tenementref1_Tree.l0 k n i a0 a1 l2 a3 a4 l5 l6 = some r ∧ 1 ≤ r ∧ r ≤ 65537 := by
 have hmn : ∀ n : Int, 1 ≤ n → 1 ≤ mn n 65537 ∧ mn n 65537 ≤ 65537 := fun n hn => by unfold mn; split <;> omega
 intro j
 induction j with
 | zero =>
  intro i n hi h1 h2
  exact ⟨1, mn n 65537, by simp only [tenementref1_Tree.l0]; rw [if_neg (by omega)], hmn n h1⟩
 | succ j ih =>
  intro i n hi h1 h2
  by_cases hn : n ≤ 65536
  ·have hx : l5.getD i z26 ∈ l5 := by rw [List.getD_eq_getElem?_getD, List.getElem?_eq_getElem (by omega)]; exact List.getElem_mem (by omega)
   obtain ⟨r, ⟨k1, hk1⟩, hr1, hr2⟩ := h _ hx
   obtain ⟨k2, r2, hk2, hr3, hr4⟩ := ih (i + 1) (n + r) (by omega) (by omega) (by omega)
   refine ⟨max k1 k2 + 1, r2, ?_, hr3, hr4⟩
   have e1 := tree_le hk1 (max k1 k2) (Nat.le_max_left _ _)
   have e2 := l0_le hk2 (max k1 k2) (Nat.le_max_right _ _)
   have w1 : wrap64 (n + r) = n + r := by unfold wrap64; omega
   have w2 : wrap64 ((i : Int) + 1) = ((i + 1 : Nat) : Int) := by unfold wrap64; omega
   simp only [tenementref1_Tree.l0]
   rw [if_pos (by omega), if_pos hn, if_pos (by omega)]
   simp only [rd_T26, Int.toNat_natCast]
   rw [e1]
   simp only [Option.bind_some]
   rw [w1, w2]
   exact e2
  ·exact ⟨1, mn n 65537, by simp only [tenementref1_Tree.l0]; rw [if_pos (by omega), if_neg hn], hmn n h1⟩
theorem tree_ev : ∀ {d : Nat} {t : S26}, OkT d t → ∃ r, TrE t r ∧ 1 ≤ r ∧ r ≤ 65537
 | 0, t, h => h.elim
 | d + 1, t, h => by
  by_cases hk : t.f0 = 4 ∨ t.f0 = 6
  ·obtain ⟨k, r, hr, h1, h2⟩ := l0_ev (a0 := t.f0) (a1 := t.f1) (l2 := t.f2) (a3 := t.f3) (a4 := t.f4) (l5 := t.f5) (l6 := t.f6) h.1.2.2.2.2.2.1 (fun x hx => tree_ev (h.2 x hx)) t.f5.length 0 1 (by omega) (by omega) (by omega)
   refine ⟨r, ⟨k + 2, ?_⟩, h1, h2⟩
   simp only [tenementref1_Tree.f, tenementref1_Tree.j0]
   by_cases h4 : t.f0 = 4
   ·rw [if_pos h4, if_pos trivial]; exact hr
   ·rw [if_neg h4, if_pos (by rcases hk with h | h; exact absurd h h4; simp [h])]; exact hr
  ·have h4 : t.f0 ≠ 4 := fun h => hk (.inl h)
   have h6 : t.f0 ≠ 6 := fun h => hk (.inr h)
   refine ⟨1, ⟨2, ?_⟩, by omega, by omega⟩
   simp only [tenementref1_Tree.f, tenementref1_Tree.j0]
   rw [if_neg h4, if_neg (by simpa using h6)]
   rfl
theorem trT_bd {d : Nat} {t : S26} (h : OkT d t) : 1 ≤ trT t ∧ trT t ≤ 65537 := by
 obtain ⟨r, hr, h1, h2⟩ := tree_ev h
 rw [trT_of hr]
 exact ⟨h1, h2⟩
theorem tree_call {d : Nat} {t : S26} (h : OkT d t) {A2 A5 A6 : Option Addr} {c2 c5 c6 : Nat} (w : World) (h2 : (Kd.int .u32).C w A2 t.f2.length t.f2) (l2 : t.f2.length ≤ c2) (h5 : k26.C w A5 t.f5.length t.f5) (l5 : t.f5.length ≤ c5) (h6 : (Kd.int .u8).C w A6 t.f6.length t.f6) (l6 : t.f6.length ≤ c6) :
  Calls Tryd.prog 30 #[.agg #[.int .i64 t.f0, .bool t.f1, .slice A2 t.f2.length c2, .string t.f3, .int .i64 t.f4, .slice A5 t.f5.length c5, .slice A6 t.f6.length c6]] w fun e w' => e = .returned (.int .i64 (trT t)) ∧ Fr w w' (fun _ => False) := by
 obtain ⟨r, hr, h1, h3⟩ := tree_ev h
 rw [trT_of hr]
 obtain ⟨k, hk⟩ := hr
 exact (PSlideMeans.tenementref1_Tree.calls k _ _ _ _ _ _ _ _ _ _ _ _ _ r w h2 l2 h5 l5 h6 l6 hk).mono fun e w' h => ⟨h.1, Fr.of_below h.2 _⟩
theorem okT_leaf {k n : Int} (h0 : 0 ≤ k) (h7 : k ≤ 7) : OkT 1 (termLeaf k n) := ⟨⟨h0, h7, Nat.zero_le _, fun x hx => by simp [termLeaf] at hx, .inl rfl, Nat.zero_le _, Nat.zero_le _⟩, fun x hx => by simp [termLeaf] at hx⟩
theorem okT_num {b : Bool} {l : List Int} (h : okD l) (hl : l.length ≤ 64) : OkT 1 (termNum b l) := by
 refine ⟨⟨Int.le_refl _, by show (0 : Int) ≤ 7; omega, ?_, okD_norm h, .inl rfl, Nat.zero_le _, Nat.zero_le _⟩, fun x hx => by simp [termNum] at hx⟩
 show (normD l).length ≤ 64
 rw [normD_len]
 exact Nat.le_trans (normN_le _ _) hl
theorem okT_int (v : Int) (hv : -576460752303423488 ≤ v ∧ v ≤ 576460752303423487) : OkT 1 (termInt v) := by
 have hd : okD [(v.natAbs : Int) % 4294967296, (v.natAbs : Int) / 4294967296] := fun x hx => by
  simp only [List.mem_cons, List.not_mem_nil, or_false] at hx
  rcases hx with rfl | rfl <;> omega
 have h1 : okD (ofInt v).2 := okD_norm hd
 refine okT_num h1 ?_
 show (normD _).length ≤ 64
 rw [normD_len]
 exact Nat.le_trans (normN_le _ _) (by simp)
theorem valW_bd {w : Int} (h : okW w) : -576460752303423488 ≤ valW w ∧ valW w ≤ 576460752303423487 := by
 unfold okW at h; unfold valW; split <;> omega
def nmAB : List ByteArray := [sA, sB]
theorem okT_leafM {w : Int} {t : S26} (hw : okW w) (h : leafM nmAB w = some t) : OkT 1 t := by
 unfold leafM at h
 split at h
 ·injection h with h; subst h; exact okT_int _ (valW_bd hw)
 ·split at h
  ·split at h
   ·rename_i hv
    injection h with h; subst h
    refine ⟨⟨by show (0 : Int) ≤ 1; omega, by show (1 : Int) ≤ 7; omega, Nat.zero_le _, fun x hx => by simp at hx, ?_, Nat.zero_le _, Nat.zero_le _⟩, fun x hx => by simp at hx⟩
    have hlen : (nmAB.length : Int) = 2 := rfl
    rw [hlen] at hv
    have : valW w = 0 ∨ valW w = 1 := by omega
    rcases this with h | h
    ·right; left; show nmAB.getD (valW w).toNat eStr = sA; rw [h]; rfl
    ·right; right; show nmAB.getD (valW w).toNat eStr = sB; rw [h]; rfl
   ·cases h
  ·split at h
   ·split at h
    ·injection h with h; subst h
     refine okT_leaf ?_ ?_ <;> (split <;> omega)
    ·cases h
   ·split at h
    ·split at h
     ·injection h with h; subst h; exact okT_leaf (by omega) (by omega)
     ·cases h
    ·cases h
theorem lookM_len {h a n : Int} {b : List Int} (he : lookM h a n = some b) : b.length ≤ 4096 := by
 unfold lookM at he
 split at he
 ·injection he with he
  rw [← he, List.length_take, List.length_drop]
  simp only [List.length_cons, List.length_nil]
  omega
 ·cases he
theorem getsM_ok {g : Nat → Int → Nat × Option S26} {d : Nat} : ∀ (fs : List Int) (n : Nat) (ts : List S26), (∀ w ∈ fs, ∀ n t, (g n w).2 = some t → OkT d t) → (getsM g n fs).2 = some ts → ts.length = fs.length ∧ ∀ x ∈ ts, OkT d x
 | [], n, ts, _, h => by
  simp only [getsM, Option.some.injEq] at h
  subst h
  exact ⟨rfl, fun x hx => by simp at hx⟩
 | w :: r, n, ts, hg, h => by
  unfold getsM at h
  have h1 := hg w List.mem_cons_self n
  cases hgw : g n w with
  | mk n1 o =>
   rw [hgw] at h h1
   cases o with
   | none => cases h
   | some t =>
    simp only at h
    obtain ⟨ts', h2, rfl⟩ := Option.map_eq_some_iff.1 h
    obtain ⟨e, h3⟩ := getsM_ok r n1 ts' (fun w hw => hg w (List.mem_cons_of_mem _ hw)) h2
    refine ⟨by simp [e], fun x hx => ?_⟩
    rcases List.mem_cons.1 hx with rfl | hx
    ·exact h1 _ rfl
    ·exact h3 x hx
theorem okWs_fields {ws : List Int} (hok : okWs ws) (a : Int) (n : Nat) : okWs (fieldsAt ws a n) := fun w hw => by
 unfold fieldsAt at hw
 obtain ⟨k, _, rfl⟩ := List.mem_map.1 hw
 unfold rd0 rdAt
 split
 ·rename_i h
  simp only [Option.getD_some]
  exact hok _ (getD_mem (by omega))
 ·exact ⟨Int.le_refl _, by decide⟩
theorem okD_of {ds : List Int} (hok : okWs ds) (h : ds.any (fun x => decide (4294967295 < x)) = false) : okD ds := fun x hx => by
 have h1 := (hok x hx).1
 have h2 : ¬ (4294967295 < x) := fun h3 => by
  have : ds.any (fun x => decide (4294967295 < x)) = true := List.any_eq_true.2 ⟨x, hx, decide_eq_true h3⟩
  rw [h] at this
  cases this
 exact ⟨h1, by omega⟩
theorem okT_big {h : Hdr} {ds : List Int} {t : S26} (hok : okWs ds) (hl : (ds.length : Int) = h.size) (he : bigM h ds = some t) : OkT 1 t := by
 unfold bigM at he
 split at he
 ·cases he
 ·rename_i h1
  split at he
  ·cases he
  ·rename_i h2
   injection he with he
   subst he
   refine okT_num (okD_of hok (by simpa using h1)) ?_
   have : ¬ 64 < h.size := fun h => h2 (.inr (.inl h))
   omega
theorem okT_bin {h : Hdr} {ds : List Int} {t : S26} (he : binM lookM h ds = some t) : OkT 1 t := by
 unfold binM at he
 split at he
 ·cases he
 ·split at he
  ·cases he
  ·split at he
   ·injection he with he
    subst he
    exact okT_leaf (by omega) (by omega)
   ·obtain ⟨b, hb, rfl⟩ := Option.map_eq_some_iff.1 he
    exact ⟨⟨by show (0 : Int) ≤ 7; omega, by show (7 : Int) ≤ 7; omega, Nat.zero_le _, fun x hx => by simp at hx, .inl rfl, Nat.zero_le _, lookM_len hb⟩, fun x hx => by simp at hx⟩
theorem okT_getM {ws : List Int} (hok : okWs ws) {tr : S26 → Int} : ∀ (f n : Nat) (w : Int) (t : S26), okW w → (getM ws nmAB lookM tr f n w).2 = some t → OkT (f + 1) t
 | 0, n, w, t, _, h => by unfold getM at h; cases h
 | f + 1, n, w, t, hw, h => by
  unfold getM at h
  split at h
  ·cases h
  ·split at h
   ·cases ho : objAt ws (valW w) with
    | none => rw [ho] at h; cases h
    | some hd =>
     rw [ho] at h
     simp only at h
     obtain ⟨_, _, _, hz0, _, _⟩ := obj_facts ho
     have hF := okWs_fields hok (valW w) hd.size.toNat
     have hL : (fieldsAt ws (valW w) hd.size.toNat).length = hd.size.toNat := by simp [fieldsAt]
     unfold objM at h
     split at h
     ·exact (okT_big hF (by rw [hL]; omega) h).mono (by omega)
     ·split at h
      ·exact (okT_bin h).mono (by omega)
      ·unfold rowM at h
       split at h
       ·cases h
       ·rename_i hb
        obtain ⟨ts, h1, h2⟩ := Option.bind_eq_some_iff.1 h
        obtain ⟨e, h3⟩ := getsM_ok (d := f + 1) _ _ ts (fun w hw n t ht => okT_getM hok f n w t (hF w hw) ht) h1
        split at h2
        ·injection h2 with h2
         subst h2
         have hs : ¬ 255 < hd.size := fun h => hb (.inr (.inr h))
         refine ⟨⟨?_, ?_, Nat.zero_le _, fun x hx => by simp at hx, .inl rfl, ?_, Nat.zero_le _⟩, h3⟩
         ·show 0 ≤ (if hd.kind = 0 then (6 : Int) else 4); split <;> omega
         ·show (if hd.kind = 0 then (6 : Int) else 4) ≤ 7; split <;> omega
         ·show ts.length ≤ 255; rw [e, hL]; omega
        ·cases h2
   ·exact (okT_leafM hw h).mono (by omega)
theorem getsM_le {g : Nat → Int → Nat × Option S26} (h : ∀ n w, n ≤ 65536 → n < (g n w).1 ∧ (g n w).1 ≤ 65537 ∧ ((g n w).2 ≠ none → (g n w).1 ≤ 65536)) : ∀ (fs : List Int) (n : Nat), n ≤ 65536 → n ≤ (getsM g n fs).1 ∧ (getsM g n fs).1 ≤ 65537 ∧ ((getsM g n fs).2 ≠ none → (getsM g n fs).1 ≤ 65536)
 | [], n, hn => ⟨Nat.le_refl _, by show n ≤ 65537; omega, fun _ => hn⟩
 | w :: r, n, hn => by
  have h1 := h n w hn
  unfold getsM
  cases hgw : g n w with
  | mk n1 o =>
   rw [hgw] at h1
   cases o with
   | none => exact ⟨Nat.le_of_lt h1.1, h1.2.1, fun e => absurd rfl e⟩
   | some t =>
    have h2 := getsM_le h r n1 (h1.2.2 (by simp))
    simp only
    refine ⟨Nat.le_trans (Nat.le_of_lt h1.1) h2.1, h2.2.1, fun e => h2.2.2 (fun e2 => e (by rw [e2]; rfl))⟩
theorem getM_le {ws : List Int} {nm : List ByteArray} {lk : Int → Int → Int → Option (List Int)} {tr : S26 → Int} : ∀ (f n : Nat) (w : Int), n ≤ 65536 → n < (getM ws nm lk tr f n w).1 ∧ (getM ws nm lk tr f n w).1 ≤ 65537 ∧ ((getM ws nm lk tr f n w).2 ≠ none → (getM ws nm lk tr f n w).1 ≤ 65536)
 | 0, n, w, hn => ⟨Nat.lt_succ_self n, by show n + 1 ≤ 65537; omega, fun e => absurd rfl e⟩
 | f + 1, n, w, hn => by
  unfold getM
  split
  ·exact ⟨Nat.lt_succ_self n, by show n + 1 ≤ 65537; omega, fun e => absurd rfl e⟩
  ·rename_i h6
   have t1 : ∀ o : Option S26, n < (n + 1, o).1 ∧ (n + 1, o).1 ≤ 65537 ∧ ((n + 1, o).2 ≠ none → (n + 1, o).1 ≤ 65536) := fun o => ⟨Nat.lt_succ_self n, by show n + 1 ≤ 65537; omega, fun _ => by show n + 1 ≤ 65536; omega⟩
   split
   ·cases ho : objAt ws (valW w) with
    | none => exact t1 _
    | some hd =>
     simp only
     unfold objM
     split
     ·exact t1 _
     ·split
      ·exact t1 _
      ·unfold rowM
       split
       ·exact t1 _
       ·have h2 := getsM_le (g := getM ws nm lk tr f) (fun n w hn => getM_le f n w hn) (fieldsAt ws (valW w) hd.size.toNat) (n + 1) (by omega)
        refine ⟨by have := h2.1; simp only; omega, h2.2.1, fun e => h2.2.2 (fun e2 => e ?_)⟩
        simp only
        rw [e2]
        rfl
   ·exact t1 _
end Go.Proofs.YtjiaaefpepdoeaaDoor
