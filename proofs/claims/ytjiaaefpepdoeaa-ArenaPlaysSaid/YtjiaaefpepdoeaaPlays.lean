/-
  WALK: ArenaPlays. Conditions: the deeds' numbers are words.
-/
import Derived.Test.YtjiaaefpepdoeaaDi
import Derived.Deep.RegionHeld3
import Derived.Deep.DeepCutAuto
import Derived.Deep.CutBlock
import Derived.Deep.LoopGhost
namespace Go.Proofs.Ytjiaaefpepdoeaa
open Go.RowKit Md
set_option linter.unusedVariables false
structure Deed where
  dd : Int
  nn : Int
  mm : Int
  xx : Int
def PInv (w wr : World) (p q : Nat) : Prop := ∃ v u ws size, Ar 101 wr p v ws size ∧ Ar 41 wr q u ws size ∧ Apt v u ∧ Fr w wr (fun _ => False) ∧ (∀ k, InBlk v k ∨ InBlk u k → w.heap.size ≤ k) ∧ w.heap.size ≤ p ∧ w.heap.size ≤ q
def PEnds (w : World) (e : Ending) (w' : World) : Prop := e = .returned (.bool true) ∧ Fr w w' (fun _ => False)
def zdeed : Deed := ⟨0, 0, 0, 0⟩
set_option maxRecDepth 100000 in
set_option maxHeartbeats 8000000 in
theorem plays_any (size0 : Int) (A : Option Addr) (cap : Nat) (ds : List Deed) (w : World) (hl : ds.length ≤ cap) (h60 : ds.length ≤ 60) (hsz : size0 ≤ 5000 ∨ 1048576 < size0)
    (hc : 0 < ds.length → ∃ b off, A = some ⟨b, off, none⟩ ∧ ∀ i, i < ds.length → w.cell? ⟨b, off + i * 4, none⟩ = some (.int .i64 (ds.getD i zdeed).dd) ∧ w.cell? ⟨b, off + i * 4 + 1, none⟩ = some (.int .i64 (ds.getD i zdeed).nn) ∧ w.cell? ⟨b, off + i * 4 + 2, none⟩ = some (.int .i64 (ds.getD i zdeed).mm) ∧ w.cell? ⟨b, off + i * 4 + 3, none⟩ = some (.int .u64 (ds.getD i zdeed).xx))
    (hx : ∀ d ∈ ds, okW d.xx) :
    Calls Try.prog 3 #[.int .i64 size0, .slice A ds.length cap] w (PEnds w) := by
  have d60 : decide ((60 : Int) < ds.length) = false := decide_eq_false (by omega)
  have HC := Lib.hid hc
  have HXX := Lib.hid hx
  clear hc hx
  have key : (size0 ≤ 5000 ∧ decide (5000 < size0) = false) ∨ (5000 < size0 ∧ decide (5000 < size0) = true ∧ decide (size0 ≤ 1048576) = false) := by
    rcases hsz with h | h
    · exact .inl ⟨h, decide_eq_false (by omega)⟩
    · exact .inr ⟨by omega, decide_eq_true (by omega), decide_eq_false (by omega)⟩
  clear hsz
  have HK := Lib.hid key
  clear key
  go_enter Try.func3, Try.ntmps3
  go_upto_region 3 with (first | (go_at_call 16; (with_reducible refine (awake8_c _).mono ?_); rintro e w1 ⟨rfl, hf1⟩))
  have HF1 := Lib.hid hf1
  clear hf1
  go_cut [30] (fun c wx => c = .bool false ∧ wx = w1)
  case first =>
    rcases HK.out with ⟨hs1, hs2⟩ | ⟨hs1, hs2, hs3⟩ <;> (go_wp2_with (fail); go_meet; exact ⟨rfl, rfl⟩)
  case rest =>
    obtain ⟨rfl, rfl⟩ := hcut
    clear HK
    go_wp2_with (first | (go_at_call 17; (with_reducible refine (new_c _ _).mono ?_); rintro e w2 ⟨rfl, ha2, hf2⟩))
    have HA2 := Lib.hid ha2
    have HF2 := Lib.hid hf2
    clear ha2 hf2
    go_wp2_with (first | (go_at_call 18; (with_reducible refine (mnew_c _ _).mono ?_); rintro e w3 ⟨rfl, ha3, hf3⟩))
    have hI : PInv w w3 wc.heap.size w2.heap.size := by
      refine ⟨_, _, _, _, HA2.out.keep hf3 (fun h => h) (fun _ _ h => h), ha3, fun k h => by simp [InBlk, Value.ownBlock] at h, (HF1.out.trans HF2.out).trans hf3, fun k h => by simp [InBlk, Value.ownBlock] at h, HF1.out.size, Nat.le_trans HF1.out.size HF2.out.size⟩
    have HI := Lib.hid hI
    clear ha3 hf3 hI HA2 HF2
    obtain ⟨p, hp⟩ : ∃ p, wc.heap.size = p := ⟨_, rfl⟩
    obtain ⟨q, hq⟩ : ∃ q, w2.heap.size = q := ⟨_, rfl⟩
    rw [hp, hq] at HI
    go_wp2
    rw [hp, hq]
    clear hp hq HF1
    go_loopg [7] ds.length (fun g i wr => ∃ k : Nat, g + k = ds.length ∧ i = .int .i64 k ∧ Hid (PInv w wr p q))
    case atStart => exact ⟨0, rfl, rfl, HI⟩
    case round =>
      obtain ⟨k, hk, rfl, HInv⟩ := hrel
      by_cases hlt : k < ds.length
      · obtain ⟨v, u, ws, s, ha, hm, hd, hfr, hin, hpp, hqq⟩ := HInv.out
        clear HInv
        obtain ⟨b, off, rfl, hcc⟩ := HC.out (by omega)
        obtain ⟨k0, k1, k2, k3⟩ := hcc k hlt
        clear hcc
        have kx : okW (ds.getD k zdeed).xx := HXX.out _ (by simp only [List.getD, List.getElem?_eq_getElem hlt, Option.getD_some]; exact List.getElem_mem hlt)
        obtain ⟨dd, hdd⟩ : ∃ x, (ds.getD k zdeed).dd = x := ⟨_, rfl⟩
        obtain ⟨nn, hnn⟩ : ∃ x, (ds.getD k zdeed).nn = x := ⟨_, rfl⟩
        obtain ⟨mm, hmm⟩ : ∃ x, (ds.getD k zdeed).mm = x := ⟨_, rfl⟩
        obtain ⟨xx, hxx⟩ : ∃ x, (ds.getD k zdeed).xx = x := ⟨_, rfl⟩
        rw [hdd] at k0
        rw [hnn] at k1
        rw [hmm] at k2
        rw [hxx] at k3 kx
        replace k0 := hfr.cell k0 (fun h => h)
        replace k1 := hfr.cell k1 (fun h => h)
        replace k2 := hfr.cell k2 (fun h => h)
        replace k3 := hfr.cell k3 (fun h => h)
        have HD0 : DI w (wr.alloc (.cells #[.int .i64 dd, .int .i64 nn, .int .i64 mm, .int .u64 xx] 31)) p q wr.heap.size dd nn mm xx v u ws s ws s := ⟨ha.alloc _, hm.alloc _, hd, hfr.alloc _, hin, hpp, hqq, deed_new _ _ _⟩
        replace HD0 := Lib.hid HD0
        have HKX := Lib.hid kx
        clear hdd hnn hmm hxx ha hm hd hin kx hfr hpp hqq
        have q1 : (0 : Int) ≤ k := by omega
        have q2 : (k : Int) < ds.length := by omega
        clear HXX
        by_cases c0 : dd = 6 ∧ 20000 < mm ∧ mm ≤ 1048576
        · have HFRx := HD0
          clear HD0
          obtain ⟨rfl, c1, c2⟩ := c0
          have c1b : decide (20000 < mm) = true := decide_eq_true c1
          have c2b : decide (mm ≤ 1048576) = true := decide_eq_true c2
          go_wp2
          go_ret
          exact ⟨rfl, HFRx.out.fr⟩
        · have HG : Hid (¬ (dd = 6 ∧ 20000 < mm ∧ mm ≤ 1048576)) := Lib.hid c0
          clear c0
          have cc : (dd == 6) = false ∨ ((dd == 6) = true ∧ decide (20000 < mm) = false) ∨ ((dd == 6) = true ∧ decide (20000 < mm) = true ∧ decide (mm ≤ 1048576) = false) := by
            have := HG.out
            by_cases a1 : dd = 6
            · by_cases a2 : 20000 < mm
              · exact .inr (.inr ⟨by simp [a1], decide_eq_true a2, decide_eq_false (fun h => this ⟨a1, a2, h⟩)⟩)
              · exact .inr (.inl ⟨by simp [a1], decide_eq_false a2⟩)
            · exact .inl (by simp [a1])
          have HCC := Lib.hid cc
          clear cc
          go_upto_region 12 with (fail)
          go_cut [59] (fun c wx => c = .bool false ∧ Hid (DI w wx p q wr.heap.size dd nn mm xx v u ws s ws s))
          case first =>
            rcases HCC.out with c1 | ⟨c1, c2⟩ | ⟨c1, c2, c3⟩ <;> (go_wp2_with (fail); go_meet; exact ⟨rfl, HD0⟩)
          case rest =>
            clear HD0 HCC
            obtain ⟨rfl, HD1⟩ := hcut
            obtain ⟨D, hD⟩ : ∃ D, wr.heap.size = D := ⟨_, rfl⟩
            rw [hD] at HD1 ⊢
            clear hD
            go_upto_block 2 with (fail)
            go_cut [9] (fun c wx => c = .bool true ∧ Hid (PInv w wx p q))
            case first =>
              have c0 := HD1.out.c0
              have c1 := HD1.out.c1
              by_cases e1 : dd ≤ 2
              · have b1 : decide (dd ≤ 2) = true := decide_eq_true e1
                clear e1
                obtain ⟨r, hr⟩ : ∃ r, takeR ws s nn = r := ⟨_, rfl⟩
                obtain ⟨b, hb⟩ : ∃ b, takeB ws s nn = b := ⟨_, rfl⟩
                go_wp2_with (first | (go_at_call 19; (with_reducible refine (take_u p v ws s nn _ HD1.out.ar).mono ?_); rintro e wa ⟨rfl, va, ha⟩; rw [hr, hb]; have HDa := Lib.hid (HD1.out.onA ha); clear ha HD1 c0 c1; have c1 := HDa.out.c1) | (go_at_call 20; (with_reducible refine (mtake_u q u ws s nn _ HDa.out.me).mono ?_); rintro e wb ⟨rfl, vb, hb2⟩; rw [hr, hb]; have HDb := Lib.hid (HDa.out.onM hb2); clear hb2 HDa c1))
                go_meet
                exact ⟨by cases b <;> simp, Lib.hid ⟨_, _, _, _, HDb.out.ar, HDb.out.me, HDb.out.ap, HDb.out.fr, HDb.out.inn, HDb.out.hp, HDb.out.hq⟩⟩
              have b1 : decide (dd ≤ 2) = false := decide_eq_false e1
              clear e1
              by_cases e2 : dd ≤ 4
              · have b2 : decide (dd ≤ 4) = true := decide_eq_true e2
                clear e2
                have c3 := HD1.out.c3
                obtain ⟨b, hb⟩ : ∃ b, setB ws nn = b := ⟨_, rfl⟩
                replace HD1 := Lib.hid HD1.out.drew
                go_upto_region 21 with (fail)
                go_region_held3 (fun w' => w'.cell? ⟨D, 1, none⟩ = some (.int .i64 nn) ∧ w'.cell? ⟨D, 3, none⟩ = some (.int .u64 xx)) (first | exact ⟨HDb.out.c1, HDb.out.c3⟩ | exact ⟨HDa.out.c1, HDa.out.c3⟩ | exact ⟨c1, c3⟩)
                  (first
                    | (go_at_call 21; (with_reducible refine (set_u p _ ws s nn xx _ HDa.out.ar HKX.out).mono ?_); rintro e wb ⟨rfl, hc⟩; rw [hb]; have HDb := Lib.hid (HDa.out.onA hc); clear hc)
                    | (go_at_call 22; (with_reducible refine (mset_u q _ ws s nn xx _ HDa.out.me HKX.out).mono ?_); rintro e wb ⟨rfl, hc⟩; rw [hb]; have HDb := Lib.hid (HDa.out.onM hc); clear hc)
                    | (go_at_call 21; (with_reducible refine (set_u p _ ws s nn xx _ HD1.out.ar HKX.out).mono ?_); rintro e wa ⟨rfl, hc⟩; rw [hb]; have HDa := Lib.hid (HD1.out.onA hc); clear hc)
                    | (go_at_call 22; (with_reducible refine (mset_u q _ ws s nn xx _ HD1.out.me HKX.out).mono ?_); rintro e wa ⟨rfl, hc⟩; rw [hb]; have HDa := Lib.hid (HD1.out.onM hc); clear hc))
                all_goals (go_wp2; go_meet; exact ⟨by cases b <;> simp, Lib.hid ⟨_, _, _, _, HDb.out.ar, HDb.out.me, HDb.out.ap, HDb.out.fr, HDb.out.inn, HDb.out.hp, HDb.out.hq⟩⟩)
              have b2 : decide (dd ≤ 4) = false := decide_eq_false e2
              clear e2
              by_cases e3 : dd = 5
              · have b3 : (dd == 5) = true := by simp [e3]
                clear e3
                obtain ⟨r, hr⟩ : ∃ r, getR ws nn = r := ⟨_, rfl⟩
                obtain ⟨b, hb⟩ : ∃ b, getB ws nn = b := ⟨_, rfl⟩
                go_wp2_with (first | (go_at_call 23; (with_reducible refine (get_u p v ws s nn _ HD1.out.ar).mono ?_); rintro e wa ⟨rfl, rfl⟩; rw [hr, hb]) | (go_at_call 24; (with_reducible refine (mget_u q u ws s nn _ HD1.out.me).mono ?_); rintro e wb ⟨rfl, rfl⟩; rw [hr, hb]))
                go_meet
                exact ⟨by cases b <;> simp, Lib.hid ⟨_, _, _, _, HD1.out.ar, HD1.out.me, HD1.out.ap, HD1.out.fr, HD1.out.inn, HD1.out.hp, HD1.out.hq⟩⟩
              have b3 : (dd == 5) = false := by simp [e3]
              clear e3
              have c2 := HD1.out.c2
              obtain ⟨b, hb⟩ : ∃ b, cutB ws nn mm = b := ⟨_, rfl⟩
              replace HD1 := Lib.hid HD1.out.drew
              go_upto_region 15 with (fail)
              go_region_held3 (fun w' => w'.cell? ⟨D, 1, none⟩ = some (.int .i64 nn) ∧ w'.cell? ⟨D, 2, none⟩ = some (.int .i64 mm)) (first | exact ⟨HDb.out.c1, HDb.out.c2⟩ | exact ⟨HDa.out.c1, HDa.out.c2⟩ | exact ⟨c1, c2⟩)
                (first
                  | (go_at_call 25; (with_reducible refine (cut_u p _ ws s nn mm _ HDa.out.ar).mono ?_); rintro e wb ⟨rfl, va, hc⟩; rw [hb]; have HDb := Lib.hid (HDa.out.onA hc); clear hc)
                  | (go_at_call 26; (with_reducible refine (mcut_u q _ ws s nn mm _ HDa.out.me).mono ?_); rintro e wb ⟨rfl, va, hc⟩; rw [hb]; have HDb := Lib.hid (HDa.out.onM hc); clear hc)
                  | (go_at_call 25; (with_reducible refine (cut_u p _ ws s nn mm _ HD1.out.ar).mono ?_); rintro e wa ⟨rfl, va, hc⟩; rw [hb]; have HDa := Lib.hid (HD1.out.onA hc); clear hc)
                  | (go_at_call 26; (with_reducible refine (mcut_u q _ ws s nn mm _ HD1.out.me).mono ?_); rintro e wa ⟨rfl, va, hc⟩; rw [hb]; have HDa := Lib.hid (HD1.out.onM hc); clear hc))
              all_goals (go_wp2; go_meet; exact ⟨by cases b <;> simp, Lib.hid ⟨_, _, _, _, HDb.out.ar, HDb.out.me, HDb.out.ap, HDb.out.fr, HDb.out.inn, HDb.out.hp, HDb.out.hq⟩⟩)
            case rest =>
              obtain ⟨rfl, HP⟩ := hcut
              clear HD1 HKX HG
              obtain ⟨v1, u1, ws1, s1, ha, hm, hd, hfr, hin, hpp, hqq⟩ := HP.out
              clear HP
              obtain ⟨A1, c1, hu1⟩ := hm.val
              have HI1 : DJ w wc p q v1 u1 ws1 s1 := ⟨ha, hm, hd, hfr, hin, hpp, hqq⟩
              replace HI1 := Lib.hid HI1
              have k0 := hm.c0
              have k1 := hm.c1
              subst hu1
              clear ha hm hd hfr hin hpp hqq
              go_upto_region 26 with (fail)
              replace HI1 := Lib.hid HI1.out.drew
              go_region_held3 (fun w' => w'.cell? ⟨q, 0, none⟩ = some (.slice A1 ws1.length c1) ∧ w'.cell? ⟨q, 1, none⟩ = some (.int .i64 s1)) (first | exact ⟨HI3.out.me.c0, HI3.out.me.c1⟩ | exact ⟨HI2.out.me.c0, HI2.out.me.c1⟩ | exact ⟨k0, k1⟩)
                (first
                  | (go_at_call 27; (with_reducible refine (used_c p _ ws1 s1 _ HI1.out.ar).mono ?_); rintro e wa ⟨rfl, rfl⟩)
                  | (go_at_call 28; (with_reducible refine (size_c p _ ws1 s1 _ HI1.out.ar).mono ?_); rintro e wa ⟨rfl, rfl⟩)
                  | (go_at_call 30; (with_reducible refine (words_c p _ ws1 s1 _ HI1.out.ar).mono ?_); rintro e wa ⟨v9, rfl, hN, hN2, hN3⟩; have HI2 := Lib.hid (HI1.out.below hN2); have HN := Lib.hid hN; clear hN hN2 hN3)
                  | (go_at_call 29; (with_reducible refine (samew_c _ _ ws1 ws1 _ HN.out.rd HI2.out.rd HI2.out.len).mono ?_); rintro e wa ⟨rfl, n9, rfl⟩; have HI3 := Lib.hid (HI2.out.drewN n9)))
              all_goals
                go_wp2
                go_roundg (gk - 1)
                case measure => omega
                case rel => exact ⟨k + 1, by omega, by simp, Lib.hid ⟨_, _, _, _, HI3.out.ar, HI3.out.me, HI3.out.ap, HI3.out.fr, HI3.out.inn, HI3.out.hp, HI3.out.hq⟩⟩
      · go_wp2
        go_ret
        obtain ⟨_, _, _, _, _, _, _, hfr, _⟩ := HInv.out
        exact ⟨rfl, hfr⟩
set_option maxRecDepth 100000 in
set_option maxHeartbeats 4000000 in
theorem plays_early (size0 : Int) (A : Option Addr) (len cap : Nat) (w : World) (h : 60 < len ∨ (5000 < size0 ∧ size0 ≤ 1048576)) :
    Calls Try.prog 3 #[.int .i64 size0, .slice A len cap] w (PEnds w) := by
  have key : decide ((60 : Int) < len) = true ∨ (decide ((60 : Int) < len) = false ∧ decide (5000 < size0) = true ∧ decide (size0 ≤ 1048576) = true) := by
    by_cases h1 : 60 < len
    · exact .inl (decide_eq_true (by omega))
    · exact .inr ⟨decide_eq_false (by omega), decide_eq_true (by omega), decide_eq_true (by omega)⟩
  have HK := Lib.hid key
  clear key h
  go_enter Try.func3, Try.ntmps3
  go_upto_region 3 with (first | (go_at_call 16; (with_reducible refine (awake8_c _).mono ?_); rintro e w1 ⟨rfl, hf1⟩))
  have HF1 := Lib.hid hf1
  clear hf1
  rcases HK.out with h1 | ⟨h1, h2, h3⟩ <;> (go_wp2; go_ret; exact ⟨rfl, HF1.out⟩)
theorem plays_c (size0 : Int) (A : Option Addr) (cap : Nat) (ds : List Deed) (w : World) (hl : ds.length ≤ cap)
    (hc : 0 < ds.length → ∃ b off, A = some ⟨b, off, none⟩ ∧ ∀ i, i < ds.length → w.cell? ⟨b, off + i * 4, none⟩ = some (.int .i64 (ds.getD i zdeed).dd) ∧ w.cell? ⟨b, off + i * 4 + 1, none⟩ = some (.int .i64 (ds.getD i zdeed).nn) ∧ w.cell? ⟨b, off + i * 4 + 2, none⟩ = some (.int .i64 (ds.getD i zdeed).mm) ∧ w.cell? ⟨b, off + i * 4 + 3, none⟩ = some (.int .u64 (ds.getD i zdeed).xx))
    (hx : ∀ d ∈ ds, okW d.xx) :
    Calls Try.prog 3 #[.int .i64 size0, .slice A ds.length cap] w (PEnds w) := by
  by_cases h : 60 < ds.length ∨ (5000 < size0 ∧ size0 ≤ 1048576)
  · exact plays_early size0 A ds.length cap w h
  · exact plays_any size0 A cap ds w hl (by omega) (by omega) hc hx
end Go.Proofs.Ytjiaaefpepdoeaa
