/-
  WALK: ArenaKeeps. Conditions: none but that the arguments read as words and bytes.
-/
import Derived.Test.YtjiaaefpepdoeaaUni
import Derived.Deep.DeepCutAuto
import Derived.Deep.CutBlock
import Derived.Deep.LoopGhost
namespace Go.Proofs.Ytjiaaefpepdoeaa
open Go.RowKit Md
set_option linter.unusedVariables false
/-- The arena holds l and what came behind it; nothing that stood in w is touched. -/
structure KI (w W : World) (p : Nat) (v : Value) (l rest : List Int) (size : Int) : Prop where
  ar : Ar 101 W p v (l ++ rest) size
  fr : Fr w W (fun _ => False)
  inn : ∀ k, InBlk v k → w.heap.size ≤ k
  hp : w.heap.size ≤ p
theorem KI.chg {w W W1 : World} {p : Nat} {v v' : Value} {l rest rest' : List Int} {size s' : Int} (h : KI w W p v l rest size) (hc : Chg 101 W W1 p v v' (l ++ rest') s') : KI w W1 p v' l rest' s' := by
  refine ⟨hc.1, h.fr.then_ hc.2.1 fun i hi hl => ?_, fun k hk => ?_, h.hp⟩
  · rcases hi with rfl | hi
    · have := h.hp; omega
    · have := h.inn i hi; omega
  · rcases hc.2.2 k hk with h3 | h3
    · exact h.inn k h3
    · exact Nat.le_trans h.fr.size h3
def KS (w W : World) (p : Nat) (l : List Int) (used size : Int) : Prop := ∃ v rest, KI w W p v l rest size ∧ used = l.length + rest.length
def midK (j : Nat) : List Int := (List.range j).map fun i : Nat => (1 + (i : Int))
def restK (rest : List Int) (n j : Nat) : List Int := rest ++ (midK j ++ List.replicate (n - j) 0)
theorem midK_len (j : Nat) : (midK j).length = j := by simp [midK]
theorem restK_len (rest : List Int) (n j : Nat) (h : j ≤ n) : (restK rest n j).length = rest.length + n := by simp [restK, midK_len]; omega
theorem restK_get (l rest : List Int) (n j : Nat) (h : j < n) : rdAt (l ++ restK rest n j) ((l.length : Int) + rest.length + j) = some 0 := by
  have e : ((l.length : Int) + rest.length + j) = ((l.length + rest.length + j : Nat) : Int) := by simp
  rw [e, rdAt_of (by simp [restK_len rest n j (by omega)]; omega)]
  congr 1
  simp only [List.getD, restK]
  rw [List.getElem?_append_right (by omega), List.getElem?_append_right (by omega), List.getElem?_append_right (by rw [midK_len]; omega), midK_len]
  rw [List.getElem?_replicate, if_pos (by omega)]
  rfl
theorem restK_set (l rest : List Int) (n j : Nat) (h : j < n) : wrAt (l ++ restK rest n j) ((l.length : Int) + rest.length + j) (1 + j) = l ++ restK rest n (j + 1) := by
  have e : ((l.length : Int) + rest.length + j) = ((l.length + rest.length + j : Nat) : Int) := by simp
  unfold wrAt
  rw [e, if_pos (by simp [restK_len rest n j (by omega)]; omega), Int.toNat_natCast]
  unfold restK
  rw [List.set_append_right _ _ (by omega), List.set_append_right _ _ (by omega), List.set_append_right _ _ (by rw [midK_len]; omega), midK_len]
  have : l.length + rest.length + j - l.length - rest.length - j = 0 := by omega
  rw [this]
  have hr : List.replicate (n - j) (0 : Int) = 0 :: List.replicate (n - (j + 1)) 0 := by
    have : n - j = (n - (j + 1)) + 1 := by omega
    rw [this, List.replicate_succ]
  rw [hr, List.set_cons_zero]
  have hm : midK (j + 1) = midK j ++ [1 + (j : Int)] := by simp [midK, List.range_succ]
  rw [hm]
  simp
theorem restK_zero (rest : List Int) (n : Nat) : restK rest n 0 = rest ++ List.replicate n 0 := by simp [restK, midK]
theorem take_keep_no (p : Nat) (v : Value) (l rest : List Int) (s : Int) (n : Nat) (w : World) (h : Ar 101 w p v (l ++ rest) s) (hb : takeB (l ++ rest) s n = false) :
    Calls Try.prog 19 #[.pointer (some ⟨p, 0, none⟩), .int .i64 n] w fun e w' => e = .returned (.tuple #[.int .i64 0, .bool false]) ∧ ∃ v', Chg 101 w w' p v v' (l ++ rest) s := by
  refine (take_u p v (l ++ rest) s n w h).mono ?_
  rintro e1 w' ⟨rfl, v', hc⟩
  unfold takeW at hc
  unfold takeR
  rw [hb] at hc ⊢
  exact ⟨rfl, v', hc⟩
theorem take_keep_yes (p : Nat) (v : Value) (l rest : List Int) (s : Int) (n : Nat) (w : World) (h : Ar 101 w p v (l ++ rest) s) (hb : takeB (l ++ rest) s n = true) :
    Calls Try.prog 19 #[.pointer (some ⟨p, 0, none⟩), .int .i64 n] w fun e w' => e = .returned (.tuple #[.int .i64 (l.length + rest.length), .bool true]) ∧ ∃ v', Chg 101 w w' p v v' (l ++ restK rest n 0) s := by
  refine (take_u p v (l ++ rest) s n w h).mono ?_
  rintro e1 w' ⟨rfl, v', hc⟩
  unfold takeW at hc
  unfold takeR
  rw [hb] at hc ⊢
  rw [restK_zero]
  simp only [if_true, Int.toNat_natCast, List.append_assoc] at hc
  refine ⟨by simp, v', hc⟩
theorem wrap_u64_small (n : Int) (h0 : 0 ≤ n) (h1 : n < 1000000) : IntKind.u64.wrap n = n := by
  simp only [IntKind.wrap, IntKind.bits, IntKind.signed]
  simp
  omega
theorem cut_keep (p : Nat) (v : Value) (l rest : List Int) (s i : Int) (m : Nat) (w : World) (h : Ar 101 w p v (l ++ rest) s) (hi : i = l.length + m) (hm : m ≤ rest.length) :
    Calls Try.prog 25 #[.pointer (some ⟨p, 0, none⟩), .int .i64 i, .int .i64 s] w fun e w' => e = .returned (.bool true) ∧ ∃ v', Chg 101 w w' p v v' (l ++ rest.take m) s := by
  subst hi
  have h1 := h.le
  have h2 := h.mx
  rw [List.length_append] at h1
  have e : cutB (l ++ rest) ((l.length : Int) + m) s = true := by
    unfold cutB; rw [List.length_append]; exact decide_eq_true (by omega)
  refine (cut_u p v (l ++ rest) s _ s w h).mono ?_
  rintro e1 w' ⟨rfl, v', hc⟩
  refine ⟨by rw [e], v', ?_⟩
  unfold cutW cutS at hc
  rw [e] at hc
  simp only [if_true] at hc
  have e2 : ((l.length : Int) + m).toNat = l.length + m := by omega
  rw [e2, List.take_append, List.take_of_length_le (by omega), show l.length + m - l.length = m by omega] at hc
  exact hc
set_option maxRecDepth 100000 in
set_option maxHeartbeats 8000000 in
theorem keeps_any (A B : Option Addr) (ca cb : Nat) (l sz : List Int) (w : World) (h100 : l.length ≤ 100) (h30 : sz.length ≤ 30) (hl : Rd w (.slice A l.length ca) (uw l)) (hok : okWs l)
    (hc : 0 < sz.length → ∃ b off, B = some ⟨b, off, none⟩ ∧ ∀ i, i < sz.length → w.cell? ⟨b, off + i, none⟩ = some (.int .u8 (sz.getD i 0)) ∧ 0 ≤ sz.getD i 0 ∧ sz.getD i 0 < 256) :
    Calls Try.prog 4 #[.slice A l.length ca, .slice B sz.length cb] w (fun e w' => e = .returned (.bool true) ∧ Fr w w' (fun _ => False)) := by
  have d100 : decide ((100 : Int) < l.length) = false := decide_eq_false (by omega)
  have d30 : decide ((30 : Int) < sz.length) = false := decide_eq_false (by omega)
  have HC := Lib.hid hc
  have HL := Lib.hid hl
  have HOK := Lib.hid hok
  clear hc hl hok
  go_enter Try.func4, Try.ntmps4
  go_wp2_with (first | (go_at_call 16; (with_reducible refine (awake8_c _).mono ?_); rintro e w1 ⟨rfl, hf1⟩))
  have HL1 := Lib.hid (HL.out.keep hf1 (fun _ _ h => h))
  have HF1 := Lib.hid hf1
  clear hf1
  have hm : (l.length : Int) + 300 ≤ 1048576 := by omega
  go_wp2_with (first | (go_at_call 31; (with_reducible refine (fill_c _ l 300 _ HL1.out HOK.out (by omega) hm).mono ?_); rintro e w2 ⟨p, v2, rfl, hn⟩))
  have hK : KS w w2 p l l.length (l.length + 300) := ⟨v2, [], ⟨by simpa using hn.1, HF1.out.trans hn.2.1, fun k hk => Nat.le_trans HF1.out.size (hn.2.2.2 k hk), Nat.le_trans HF1.out.size hn.2.2.1⟩, by simp⟩
  have HK := Lib.hid hK
  clear hn hK HL1 HF1 hm
  go_wp2
  go_loopg [6, 7] sz.length (fun g us i wr => ∃ (k : Nat) (u : Int), g + k = sz.length ∧ i = .int .i64 k ∧ us = .int .i64 u ∧ Hid (KS w wr p l u (l.length + 300)))
  case atStart => exact ⟨0, _, rfl, rfl, rfl, HK⟩
  case round =>
    obtain ⟨k, u, hk, rfl, rfl, HInv⟩ := hrel
    clear HK
    by_cases hlt : k < sz.length
    · obtain ⟨v, rest, hi, rfl⟩ := HInv.out
      have HI := Lib.hid hi
      clear HInv hi
      obtain ⟨b, off, rfl, hcc⟩ := HC.out (by omega)
      obtain ⟨k0, s0, s1⟩ := hcc k hlt
      clear hcc
      obtain ⟨s, hs⟩ : ∃ s, sz.getD k 0 = s := ⟨_, rfl⟩
      rw [hs] at k0 s0 s1
      clear hs
      replace k0 := HI.out.fr.cell k0 (fun h => h)
      have q1 : (0 : Int) ≤ k := by omega
      have q2 : (k : Int) < sz.length := by omega
      obtain ⟨t, ht⟩ : ∃ t, (bits .and .u8 s 64 == 0) = t := ⟨_, rfl⟩
      obtain ⟨n, hn⟩ : ∃ n : Nat, s % 20 = n := ⟨(s % 20).toNat, by omega⟩
      have hn20 : n < 20 := by omega
      have hle := HI.out.ar.le
      have hmx := HI.out.ar.mx
      rw [List.length_append] at hle
      have HN := Lib.hid hn
      clear hn
      go_upto_region 13 with (fail)
      rw [HN.out]
      cases t with
      | true =>
        go_upto_region 14 with (fail)
        cases hb : takeB (l ++ rest) (l.length + 300) n with
        | false =>
          have hb1 := of_decide_eq_false hb
          rw [List.length_append] at hb1
          have hw2 : wrap64 ((l.length : Int) + rest.length + n) = l.length + rest.length + n := by unfold wrap64; omega
          have d1 : decide ((l.length : Int) + rest.length + n ≤ l.length + 300) = false := decide_eq_false (by omega)
          have HB := Lib.hid hb
          clear hb hb1
          go_wp2_with (first | (go_at_call 19; (with_reducible refine (take_keep_no p v l rest _ n _ HI.out.ar HB.out).mono ?_); rintro e wa ⟨rfl, va, ha⟩; have HI1 := Lib.hid (HI.out.chg ha); clear ha) | (go_at_call 28; (with_reducible refine (size_c p _ _ _ _ HI1.out.ar).mono ?_); rintro e wb ⟨rfl, rfl⟩))
          go_roundg (gk - 1)
          case measure => omega
          case rel => exact ⟨k + 1, _, by omega, by simp, rfl, Lib.hid ⟨_, _, HI1.out, rfl⟩⟩
        | true =>
          have hb1 := of_decide_eq_true hb
          rw [List.length_append] at hb1
          have hw2 : wrap64 ((l.length : Int) + rest.length + n) = l.length + rest.length + n := by unfold wrap64; omega
          have d1 : decide ((l.length : Int) + rest.length + n ≤ l.length + 300) = true := decide_eq_true (by omega)
          have HB := Lib.hid hb
          clear hb hb1
          go_upto_region 19 with (first | (go_at_call 19; (with_reducible refine (take_keep_yes p v l rest _ n _ HI.out.ar HB.out).mono ?_); rintro e wa ⟨rfl, va, ha⟩; have HI1 := Lib.hid (HI.out.chg ha); clear ha) | (go_at_call 28; (with_reducible refine (size_c p _ _ _ _ HI1.out.ar).mono ?_); rintro e wb ⟨rfl, rfl⟩))
          have HI1b := HI1
          obtain ⟨g0, hg0⟩ : ∃ g0, gk = g0 + 1 := ⟨gk - 1, by omega⟩
          have HGK : Hid (g0 + 1 + k = sz.length ∧ g0 < gk) := Lib.hid (by omega)
          have HBD : Hid (l.length + rest.length ≤ 1000 ∧ n < 20) := Lib.hid (by omega)
          clear HI1 HI hle hmx hn20 hg0 hk
          go_loopg [11] n (fun g i wi => ∃ (j : Nat) (vj : Value), g + j = n ∧ i = .int .i64 j ∧ Hid (KI w wi p vj l (restK rest n j) (l.length + 300)))
          case atStart => exact ⟨0, _, rfl, rfl, HI1b⟩
          case round =>
            obtain ⟨j, vj, hj, rfl, HJ⟩ := hrel
            clear HI1b
            by_cases hjn : j < n
            · have hbd := HBD.out
              have jn1 : (j : Int) < n := by omega
              have G := restK_get l rest n j hjn
              have T := restK_set l rest n j hjn
              have E := restK_len rest n j (by omega)
              have hok : okW (1 + (j : Int)) := by unfold okW; omega
              have hir : 0 ≤ (l.length : Int) + rest.length + j ∧ (l.length : Int) + rest.length + j < (l ++ restK rest n j).length := by rw [List.length_append, E]; omega
              have HS : Hid (gk - 1 + (j + 1) = n ∧ gk - 1 < gk) := Lib.hid (by omega)
              have w3 : IntKind.u64.wrap (1 + (j : Int)) = 1 + j := wrap_u64_small _ (by omega) (by omega)
              have hA : (l.length : Int) + rest.length + j < 9223372036854775807 := by omega
              have hB : (1 : Int) + j < 9223372036854775807 := by omega
              have w1 : wrap64 ((l.length : Int) + rest.length + j) = l.length + rest.length + j := by unfold wrap64; omega
              have w2 : wrap64 (1 + (j : Int)) = 1 + j := by clear w1; unfold wrap64; omega
              have w4 : wrap64 ((j : Int) + 1) = j + 1 := by clear w1 w2; unfold wrap64; omega
              have HG := Lib.hid G
              have HT := Lib.hid T
              have HO := Lib.hid hok
              have HR := Lib.hid hir
              clear G T E hok hir hbd hA hB hj
              go_wp2_with (first | (go_at_call 23; (with_reducible refine (get_c p _ _ _ _ 0 _ HJ.out.ar HG.out).mono ?_); rintro e wx ⟨rfl, rfl⟩) | (go_at_call 21; (with_reducible refine (set_c p _ _ _ _ _ _ HJ.out.ar HO.out HR.out).mono ?_); rintro e wy ⟨rfl, ha, hf⟩; rw [HT.out] at ha; have HJ1 := Lib.hid (HJ.out.chg (Chg.of_set ha hf)); clear ha hf))
              go_roundg (gk - 1)
              case measure => exact HS.out.2
              case rel => exact ⟨j + 1, _, HS.out.1, by first | (simp; done) | (simp; exact w4), HJ1⟩
            · have hjn2 : j = n := by omega
              have HI1 := HJ
              rw [hjn2] at HI1
              have HJN := Lib.hid hjn2
              have jn1 : ¬ (j : Int) < n := by omega
              clear hjn2 HJ hj hjn
              go_wp2
              go_roundg g0
              case measure => exact HGK.out.2
              case rel => exact ⟨k + 1, _, by have := HGK.out.1; omega, by simp, rfl, Lib.hid ⟨_, _, HI1.out, by rw [restK_len _ _ _ (Nat.le_refl n)]; simp; omega⟩⟩
      | false =>
        by_cases hmx2 : n ≤ rest.length
        · have HE : Hid (wrap64 ((l.length : Int) + rest.length - n) = l.length + (rest.length - n : Nat)) := Lib.hid (by unfold wrap64; omega)
          have HX2 : Hid (n ≤ rest.length) := Lib.hid hmx2
          clear hle hmx hmx2 hn20
          have HE0 : Hid ((l.length : Int) = l.length + (0 : Nat)) := Lib.hid (by simp)
          go_wp2_with (first | (go_at_call 28; (with_reducible refine (size_c p _ _ _ _ HI.out.ar).mono ?_); rintro e wb ⟨rfl, rfl⟩) | (go_at_call 25; (with_reducible refine (cut_keep p v l rest _ _ (rest.length - n) _ HI.out.ar HE.out (Nat.sub_le _ _)).mono ?_); rintro e wa ⟨rfl, va, ha⟩; have HI1 := Lib.hid (HI.out.chg ha); clear ha) | (go_at_call 25; (with_reducible refine (cut_keep p v l rest _ _ 0 _ HI.out.ar HE0.out (Nat.zero_le _)).mono ?_); rintro e wa ⟨rfl, va, ha⟩; have HI1 := Lib.hid (HI.out.chg ha); clear ha))
          all_goals
            go_roundg (gk - 1)
            case measure => omega
            case rel => exact ⟨k + 1, _, by omega, by simp, rfl, Lib.hid ⟨_, _, HI1.out, by first | (simp; done) | (rw [HE.out]; have := HX2.out; simp; done) | (rw [HE.out]; have := HX2.out; simp; omega)⟩⟩
        · have HE0 : Hid ((l.length : Int) = l.length + (0 : Nat)) := Lib.hid (by simp)
          have hgt : wrap64 ((l.length : Int) + rest.length - n) < l.length := by unfold wrap64; omega
          clear hle hmx hmx2 hn20
          go_wp2_with (first | (go_at_call 28; (with_reducible refine (size_c p _ _ _ _ HI.out.ar).mono ?_); rintro e wb ⟨rfl, rfl⟩) | (go_at_call 25; (with_reducible refine (cut_keep p v l rest _ _ 0 _ HI.out.ar HE0.out (Nat.zero_le _)).mono ?_); rintro e wa ⟨rfl, va, ha⟩; have HI1 := Lib.hid (HI.out.chg ha); clear ha))
          all_goals
            go_roundg (gk - 1)
            case measure => omega
            case rel => exact ⟨k + 1, _, by omega, by simp, rfl, Lib.hid ⟨_, _, HI1.out, by simp⟩⟩
    · obtain ⟨v, rest, hi, rfl⟩ := HInv.out
      have HI := Lib.hid hi
      clear HInv hi
      have hm2 := HI.out.ar.mx
      have hle := HI.out.ar.le
      rw [List.length_append] at hle
      have HBD : Hid (l.length + rest.length ≤ 1073741824) := Lib.hid (by omega)
      clear hm2 hle
      go_upto_region 30 with (first | (go_at_call 30; (with_reducible refine (words_c p _ _ _ _ HI.out.ar).mono ?_); rintro e wa ⟨v9, rfl, hN, hN2, hN3⟩; have HN := Lib.hid hN; have HI1 := Lib.hid hN2; clear hN hN2 hN3))
      have HA1 := Lib.hid (HI.out.ar.fr HI1.out)
      have HLw := Lib.hid ((HL.out.keep HI.out.fr (fun _ _ h => h)).keep HI1.out (fun _ _ h => h))
      have HFw := Lib.hid (HI.out.fr.trans HI1.out)
      have hr9 := HN.out.rd
      have hlen : ((l ++ rest).length : Int) = l.length + rest.length := by simp
      rcases HN.out.form with ⟨rfl, h0⟩ | ⟨g9, c9, rfl, hl9, hm9, hg9, hc9, hf9⟩
      · have h1 : (uw (l ++ rest)).length = 0 := by rw [h0]; rfl
        rw [uw_length, List.length_append] at h1
        have hln : l = [] := List.eq_nil_of_length_eq_zero (by omega)
        have hrn : rest = [] := List.eq_nil_of_length_eq_zero (by omega)
        subst hln hrn
        have HR := Lib.hid (show Rd wa (.slice none 0 0) (uw []) from hr9)
        have HLz := Lib.hid (show Rd wa (.slice A 0 ca) (uw []) from HLw.out)
        clear hr9 h0 h1 hlen HLw
        go_wp2_with (first | (go_at_call 27; (with_reducible refine (used_c p _ _ _ _ HA1.out).mono ?_); rintro e wb ⟨rfl, hq⟩; subst hq) | (go_at_call 29; (with_reducible refine (samew_c _ _ [] [] _ HR.out HLz.out (Nat.zero_le _)).mono ?_); rintro e wc ⟨rfl, n9, rfl⟩))
        go_ret
        exact ⟨by simp, HFw.out.drewN _⟩
      · have h9 : (l ++ rest).length = (uw (l ++ rest)).length := (uw_length _).symm
        have hl9b : l.length ≤ c9 := by rw [← h9, List.length_append] at hl9; omega
        have HR : Hid (Rd wa (.slice (some ⟨g9, 0, none⟩) l.length c9) (uw l)) := by
          refine Lib.hid ?_
          by_cases hz : l.length = 0
          · have : l = [] := List.eq_nil_of_length_eq_zero hz
            subst this
            exact .inl ⟨rfl, _, _, rfl, fun h => by cases h⟩
          · refine .inr ⟨g9, 0, c9, by rw [uw_length], by rw [uw_length]; omega, by rw [uw_length]; exact hl9b, hm9, hg9, fun i hi => ?_⟩
            rw [uw_length] at hi
            have := hc9 i (by rw [← h9, List.length_append]; omega)
            rw [Nat.zero_add, this]
            unfold uw
            rw [List.map_append, List.getElem?_append_left (by simpa using hi)]
        rw [← h9] at hl9
        simp only [uw_length]
        have q1 : (0 : Int) ≤ l.length := by omega
        have q2 : (l.length : Int) ≤ c9 := by omega
        have hb9 := HBD.out
        have HLL : Hid (l.length ≤ 1073741824) := Lib.hid (by omega)
        clear hr9 hlen hm9 hg9 hc9 hf9 h9 hb9
        go_wp2_with (first | (go_at_call 27; (with_reducible refine (used_c p _ _ _ _ HA1.out).mono ?_); rintro e wb ⟨rfl, rfl⟩) | (go_at_call 29; (with_reducible refine (samew_c _ _ l l _ HR.out HLw.out HLL.out).mono ?_); rintro e wc ⟨rfl, n9, rfl⟩))
        go_ret
        exact ⟨by simp, HFw.out.drewN _⟩
set_option maxRecDepth 100000 in
set_option maxHeartbeats 4000000 in
theorem keeps_early (A B : Option Addr) (la lb ca cb : Nat) (w : World) (h : 100 < la ∨ 30 < lb) :
    Calls Try.prog 4 #[.slice A la ca, .slice B lb cb] w (fun e w' => e = .returned (.bool true) ∧ Fr w w' (fun _ => False)) := by
  have key : decide ((100 : Int) < la) = true ∨ (decide ((100 : Int) < la) = false ∧ decide ((30 : Int) < lb) = true) := by
    by_cases h1 : 100 < la
    · exact .inl (decide_eq_true (by omega))
    · exact .inr ⟨decide_eq_false (by omega), decide_eq_true (by omega)⟩
  have HK := Lib.hid key
  clear key h
  go_enter Try.func4, Try.ntmps4
  go_upto_region 3 with (first | (go_at_call 16; (with_reducible refine (awake8_c _).mono ?_); rintro e w1 ⟨rfl, hf1⟩))
  have HF1 := Lib.hid hf1
  clear hf1
  rcases HK.out with h1 | ⟨h1, h2⟩ <;> (go_wp2; go_ret; exact ⟨rfl, HF1.out⟩)
theorem keeps_c (A B : Option Addr) (ca cb : Nat) (l sz : List Int) (w : World) (hl : Rd w (.slice A l.length ca) (uw l)) (hok : okWs l) (hs : Rd w (.slice B sz.length cb) (sz.map (Value.int .u8))) (hb : ∀ n ∈ sz, 0 ≤ n ∧ n < 256) :
    Calls Try.prog 4 #[.slice A l.length ca, .slice B sz.length cb] w (fun e w' => e = .returned (.bool true) ∧ Fr w w' (fun _ => False)) := by
  by_cases h : 100 < l.length ∨ 30 < sz.length
  · exact keeps_early A B l.length sz.length ca cb w h
  · refine keeps_any A B ca cb l sz w (by omega) (by omega) hl hok fun h0 => ?_
    rcases hs with ⟨hx, _⟩ | ⟨b, off, c, e, _, _, _, _, hc⟩
    · have := congrArg List.length hx; simp at this; subst this; simp at h0
    · injection e with e1 e2 e3
      refine ⟨b, off, e1, fun i hi => ⟨?_, ?_⟩⟩
      · rw [hc i (by simpa using hi)]
        simp [List.getD, List.getElem?_eq_getElem hi]
      · simp only [List.getD, List.getElem?_eq_getElem hi, Option.getD_some]
        exact hb _ (List.getElem_mem hi)
end Go.Proofs.Ytjiaaefpepdoeaa
