/-
  WALK: AtomsPlays. Conditions: Go's two tables of unicode/utf8 stand as laid; the argument reads as a list of strings.
-/
import Derived.Test.YtficfpidodbdcaaDoorKn4
import Derived.Test.YtficfpidodbdcaaDoorCls
import Derived.Deep.QuietTactic
import Derived.BigQuiet
namespace Go.Proofs.YtficfpidodbdcaaDoor
open Go.RowKit Md Go.Maps
set_option linter.unusedVariables false
/-- the names when the first k strings were put -/
def Nk (ls : List ByteArray) (k : Nat) : List ByteArray := (ls.take k).foldl (fun ns s => (putM ns s).l) []
theorem Nk_succ {ls : List ByteArray} {k : Nat} {s : ByteArray} (h : ls[k]? = some s) : Nk ls (k + 1) = (putM (Nk ls k) s).l := by
  have hk := (List.getElem?_eq_some_iff.1 h).1
  have e : ls.take (k + 1) = ls.take k ++ [s] := by
    rw [List.take_add_one, h]
    rfl
  unfold Nk
  rw [e, List.foldl_append]
  rfl
theorem putM_len (ns : List ByteArray) (s : ByteArray) : (putM ns s).l.length ≤ ns.length + 1 := by
  unfold putM
  split
  · exact Nat.le_succ _
  · split
    · exact Nat.le_succ _
    · split
      · exact Nat.le_succ _
      · simp
theorem Nk_len (ls : List ByteArray) : ∀ k, (Nk ls k).length ≤ k
  | 0 => by simp [Nk]
  | k + 1 => by
    cases h : ls[k]? with
    | none =>
      have hk : ls.length ≤ k := List.getElem?_eq_none_iff.1 h
      have e : Nk ls (k + 1) = Nk ls k := by
        unfold Nk
        rw [List.take_of_length_le (by omega), List.take_of_length_le hk]
      rw [e]
      have := Nk_len ls k
      omega
    | some s =>
      rw [Nk_succ h]
      have h1 := putM_len (Nk ls k) s
      have := Nk_len ls k
      omega
theorem mput_n {w0 : World} {p b q : Nat} {v u : Value} {ns ms : List ByteArray} (s : ByteArray) (w : World) (h : TN w0 w p v b q u ns ms) (hs : s.size ≤ 1000000) (hT : Tabs w0) (hl : ms.length < 1000) :
    Calls Tryd.prog 11 #[.pointer (some ⟨q, 0, none⟩), .string s] w fun r w' => r = .returned (.tuple #[.int .i64 (putM ms s).n, .int .i64 (putM ms s).e]) ∧ ∃ u', TN w0 w' p v b q u' ns (putM ms s).l :=
  (mput_c q u ms s w h.n hs (h.tb.tabs hT) hl).mono fun r w' hr => by
    obtain ⟨rfl, u', ht, hf, hn⟩ := hr
    exact ⟨rfl, u', h.mput ht hf hn⟩
theorem tput_n {w0 : World} {p b q : Nat} {v u : Value} {ns ms : List ByteArray} (s : ByteArray) (w : World) (h : TN w0 w p v b q u ns ms) (hs : s.size ≤ 1000000) (hT : Tabs w0) (hl : ns.length < 1000) :
    Calls Tryd.prog 8 #[.pointer (some ⟨p, 0, none⟩), .string s] w fun r w' => r = .returned (.tuple #[.int .i64 (putM ns s).n, .int .i64 (putM ns s).e]) ∧ ∃ v', TN w0 w' p v' b q u (putM ns s).l ms :=
  (put_c p b v ns s w h.tb.t hs (h.tb.tabs hT) hl).mono fun r w' hr => by
    obtain ⟨rfl, v', ht, hf, hn⟩ := hr
    exact ⟨rfl, v', h.put ht hf hn⟩
/-- the pair when nothing was put -/
theorem TN.start {w0 w : World} {p b : Nat} (h : TbN w0 w p (.slice none 0 0) b []) : TN w0 (w.alloc (.cells #[.slice none 0 0] 35)) p (.slice none 0 0) b w.heap.size (.slice none 0 0) [] [] :=
  ⟨h.frm ((Fr.refl w _).alloc _), ⟨blk_new _ _ _, Own.nil _ _, by simp⟩, h.fr.size, fun i hi => by simp [InBlk, Value.ownBlock] at hi, fun i hi => by simp [InBlk, Value.ownBlock] at hi⟩
/-- a string of a row that is read -/
theorem rd_str {W : World} {Al : Option Addr} {cl k : Nat} {ls : List ByteArray} {s : ByteArray} (h : Rd W (.slice Al ls.length cl) (sw ls)) (hs : ls[k]? = some s) : ∃ g og, Al = some ⟨g, og, none⟩ ∧ W.cell? ⟨g, og + k, none⟩ = some (.string s) := by
  have hk := (List.getElem?_eq_some_iff.1 hs).1
  rcases h with ⟨h0, _⟩ | ⟨g, og, cap', e, h0, _, _, _, hc⟩
  · have : (sw ls).length = 0 := by rw [h0]; rfl
    rw [sw_length] at this; omega
  · injection e with e1 e2 e3
    exact ⟨g, og, e1, (hc k (by rw [sw_length]; exact hk)).trans (sw_get hs)⟩
set_option maxRecDepth 100000 in
set_option maxHeartbeats 4000000 in
theorem plays_in (Al : Option Addr) (cl : Nat) (ls : List ByteArray) (n : Int) (w : World) (hT : Tabs w) (hl : Rd w (.slice Al ls.length cl) (sw ls)) (hsz : ∀ s ∈ ls, s.size ≤ maxLen) (h60 : ls.length ≤ 60) (hn : -9223372036854775808 ≤ n ∧ n ≤ 9223372036854775807) :
    Calls Tryd.prog 4 #[.slice Al ls.length cl, .int .i64 n] w fun e w' => e = .returned (.bool true) ∧ Fr w w' (fun _ => False) := by
  have d60 : decide ((60 : Int) < ls.length) = false := decide_eq_false (by omega)
  have d60' : decide (60 < ls.length) = false := decide_eq_false (by omega)
  have HT := Lib.hid hT
  have HL := Lib.hid hl
  have HSZ := Lib.hid hsz
  have H60 := Lib.hid h60
  have HN := Lib.hid hn
  have q60 : (ls.length : Int) ≤ 60 := by omega
  clear hT hl hsz h60 hn
  go_enter Tryd.func4, Tryd.ntmps4
  go_wp2_with (first
    | (go_at_call 6; (with_reducible refine (awake4_c _ HT.out).mono ?_); rintro e w0 ⟨rfl, hf⟩; have HF0 := Lib.hid hf; have HT0 := Lib.hid (HT.out.below hf.below); have HL0 := Lib.hid (HL.out.keep hf (fun _ _ h => h)); clear hf)
    | (go_at_call 7; (with_reducible refine (new_n _).mono ?_); rintro e w1 ⟨p, b, rfl, ht⟩; have H1 := Lib.hid ht; have HL1 := Lib.hid (HL0.out.keep ht.fr (fun _ _ h => h)); clear ht))
  have H2 := Lib.hid (TN.start H1.out)
  obtain ⟨W2, hW2⟩ : ∃ W2, w1.alloc (.cells #[.slice none 0 0] 35) = W2 := ⟨_, rfl⟩
  obtain ⟨q, hq⟩ : ∃ q, w1.heap.size = q := ⟨_, rfl⟩
  rw [hW2, hq] at H2
  try simp only [hW2, hq]
  clear hW2 hq H1
  have HL2 : Hid (Rd W2 (.slice Al ls.length cl) (sw ls)) := Lib.hid (HL.out.keep (HF0.out.trans H2.out.tb.fr) (fun _ _ h => h))
  clear HL1
  go_loopg [7] ls.length (fun g a7 wr => ∃ (k : Nat) (v u : Value), a7 = .int .i64 k ∧ g + k = ls.length ∧ Hid (TN w0 wr p v b q u (Nk ls k) (Nk ls k)))
  case atStart => exact ⟨0, _, _, rfl, rfl, H2⟩
  case round =>
    clear H2
    obtain ⟨k, v, u, rfl, hgk, HI⟩ := hrel
    have HG := Lib.hid hgk
    clear hgk
    by_cases hk : k < ls.length
    · have HKL := Lib.hid hk
      have qk : (k : Int) < ls.length := by omega
      obtain ⟨s, hs⟩ : ∃ s, ls[k]? = some s := ⟨_, List.getElem?_eq_getElem hk⟩
      have HLr := Lib.hid (HL.out.keep (HF0.out.trans HI.out.tb.fr) (fun _ _ h => h))
      obtain ⟨g, og, rfl, hcl⟩ : ∃ g og, Al = some ⟨g, og, none⟩ ∧ ∀ W, Rd W (.slice Al ls.length cl) (sw ls) → W.cell? ⟨g, og + k, none⟩ = some (.string s) := by
        rcases HLr.out with ⟨h0, _⟩ | ⟨g, og, cap', e, h0, _, _, _, hc⟩
        · have : (sw ls).length = 0 := by rw [h0]; rfl
          rw [sw_length] at this; omega
        · injection e with e1 e2 e3
          refine ⟨g, og, e1, fun W hW => ?_⟩
          rcases hW with ⟨h1, _⟩ | ⟨g', og', cap2, e', _, _, _, _, hc'⟩
          · have : (sw ls).length = 0 := by rw [h1]; rfl
            rw [sw_length] at this; omega
          · injection e' with e1' e2' e3'
            rw [e1] at e1'
            injection e1' with e1'
            injection e1' with ea eb
            subst ea; subst eb
            rw [hc' k (by rw [sw_length]; exact hk)]
            exact sw_get hs
      have HCL := Lib.hid hcl
      have ck := hcl wr HLr.out
      have HS := Lib.hid hs
      have hsm : s.size ≤ maxLen := HSZ.out s (List.mem_of_getElem? hs)
      have hsm2 : (s.size : Int) ≤ 9223372036854775807 := by unfold maxLen at hsm; omega
      by_cases h2 : 2000 < s.size
      · have d1 : decide ((2000 : Int) < s.size) = true := decide_eq_true (by omega)
        have d1' : decide (2000 < s.size) = true := decide_eq_true h2
        clear hcl hs hsm h2 hk
        go_wp2
        go_ret
        exact ⟨rfl, HF0.out.trans HI.out.tb.fr⟩
      · have d1 : decide ((2000 : Int) < s.size) = false := decide_eq_false (by omega)
        have d1' : decide (2000 < s.size) = false := decide_eq_false h2
        have HS6 : Hid (s.size ≤ 1000000) := Lib.hid (by omega)
        have hkl := Nk_len ls k
        have HKN : Hid ((Nk ls k).length < 1000) := Lib.hid (by have := H60.out; omega)
        have hnx := Nk_succ hs
        have HNX := Lib.hid hnx
        obtain ⟨nn, hnn⟩ : ∃ x, (putM (Nk ls k) s).n = x := ⟨_, rfl⟩
        obtain ⟨ee, hee⟩ : ∃ x, (putM (Nk ls k) s).e = x := ⟨_, rfl⟩
        have HNN := Lib.hid hnn
        have HEE := Lib.hid hee
        clear hcl hs hsm h2 hk hkl hnx hnn hee
        go_upto_region 15 with (first
          | (go_at_call 8; (with_reducible refine (tput_n s _ HI.out HS6.out HT0.out HKN.out).mono ?_); rintro e w3 ⟨rfl, v3, ht⟩; rw [HNN.out, HEE.out]; have H3 := Lib.hid ht; clear ht))
        have HL3 := Lib.hid (HL.out.keep (HF0.out.trans H3.out.tb.fr) (fun _ _ h => h))
        have ck3 := HCL.out w3 HL3.out
        go_upto_region 16 with (first
          | (go_at_call 11; (with_reducible refine (mput_n s _ H3.out HS6.out HT0.out HKN.out).mono ?_); rintro e w4 ⟨rfl, u4, ht⟩; rw [HNN.out, HEE.out]; rw [← HNX.out] at ht; have H4 := Lib.hid ht; clear ht))
        have c0 := H4.out.n.c0
        obtain ⟨Nx, hNx⟩ : ∃ N, Nk ls (k + 1) = N := ⟨_, rfl⟩
        rw [hNx] at H4
        have HNX2 := Lib.hid hNx
        obtain ⟨A4, c4, rfl⟩ : ∃ A c, u4 = .slice A Nx.length c := by
          obtain ⟨A, c, e⟩ := H4.out.n.own.rd.len
          rw [sw_length] at e
          exact ⟨A, c, e⟩
        clear ck ck3 hNx
        refine wp_region_cls (S := fun w' => Fr w4 w' (fun _ => False)) (by kernel_rfl) (by kernel_rfl) ((Fr.refl w4 _).drew) (fun ne => ?_)
        generalize hS : (fun w' : World => Fr w4 w' (fun _ => False)) = S
        replace ne : Nonempty (Cw S) := by subst hS; exact ne
        have f0 : ∀ x : Cw S, x.val.cell? ⟨q, 0, none⟩ = some (.slice A4 Nx.length c4) := by subst hS; exact fun x => x.prop.cell c0 (fun h => h)
        have HXS : Hid (∀ w', S w' → Fr w4 w' (fun _ => False)) := Lib.hid (by subst hS; exact fun w' h => h)
        clear hS
        repeat (any_goals (first | go_big_quiet_step ((go_at_call 12; with_reducible exact Cw.call (len_c p v3 b Nx _ (H4.out.tb.t.fr (HXS.out _ (Cw.prop _)))) (fun w' h => h ▸ Cw.prop _))) | quiet_step ((go_at_call 12; with_reducible exact Cw.call (len_c p v3 b Nx _ (H4.out.tb.t.fr (HXS.out _ (Cw.prop _)))) (fun w' h => h ▸ Cw.prop _)))))
        refine wpQuiet_nil ?_
        intro w5 hw5
        obtain ⟨⟨w5, hS5⟩, rfl⟩ := hw5
        have h5 := HXS.out _ hS5
        have H5 := Lib.hid (H4.out.frm h5)
        clear h5 hS5 f0 HXS ne c0
        go_wp2
        go_roundg (gk - 1)
        case measure => have := HG.out; have := HKL.out; omega
        case rel => exact ⟨k + 1, _, _, by first | rfl | go_num, by have := HG.out; have := HKL.out; omega, by rw [HNX2.out]; exact H5⟩
    · have hke : k = ls.length := by have := HG.out; omega
      subst hke
      have b2 : decide (ls.length < ls.length) = false := decide_eq_false (by omega)
      obtain ⟨N, hN⟩ : ∃ N, Nk ls ls.length = N := ⟨_, rfl⟩
      have HNL : Hid (N.length ≤ 60) := Lib.hid (by have h1 := Nk_len ls ls.length; have := H60.out; rw [hN] at h1; omega)
      rw [hN] at HI
      clear hN hk HG
      go_wp2
      obtain ⟨W0, hW0⟩ : ∃ W0, W0 = wr := ⟨_, rfl⟩
      subst hW0
      go_loopg [12] ls.length (fun g a12 wr => wr = W0 ∧ ∃ (k : Nat), a12 = .int .i64 k ∧ g + k = ls.length)
      case atStart => exact ⟨rfl, 0, rfl, rfl⟩
      case round =>
        obtain ⟨rfl, k, rfl, hgk⟩ := hrel
        have HG := Lib.hid hgk
        clear hgk
        have HLr := Lib.hid (HL.out.keep (HF0.out.trans HI.out.tb.fr) (fun _ _ h => h))
        by_cases hk : k < ls.length
        · have HKL := Lib.hid hk
          have qk : (k : Int) < ls.length := by omega
          obtain ⟨s, hs⟩ : ∃ s, ls[k]? = some s := ⟨_, List.getElem?_eq_getElem hk⟩
          have HSM : Hid (s.size ≤ maxLen) := Lib.hid (HSZ.out s (List.mem_of_getElem? hs))
          obtain ⟨g, og, rfl, ck⟩ := rd_str HLr.out hs
          obtain ⟨r, hr⟩ : ∃ r, fnd N s = r := ⟨_, rfl⟩
          have HR := Lib.hid hr
          clear hs hr hk b2
          go_wp2_with (first
            | (go_at_call 10; (with_reducible refine (find_c p v b N s r _ HI.out.tb.t HSM.out HR.out).mono ?_); rintro e w6 ⟨rfl, rfl⟩)
            | (go_at_call 13; (with_reducible refine (mfind_c q u N s r _ HI.out.n HR.out).mono ?_); rintro e w7 ⟨rfl, rfl⟩))
          go_roundg (gk - 1)
          case measure => have := HG.out; have := HKL.out; omega
          case rel => exact ⟨rfl, k + 1, by first | rfl | go_num, by have := HG.out; have := HKL.out; omega⟩
        · have hke : k = ls.length := by have := HG.out; omega
          subst hke
          clear hk HG
          have c0 := HI.out.n.c0
          obtain ⟨A4, c4, rfl⟩ : ∃ A c, u = .slice A N.length c := by
            obtain ⟨A, c, e⟩ := HI.out.n.own.rd.len
            rw [sw_length] at e
            exact ⟨A, c, e⟩
          have qN : (N.length : Int) ≤ 60 := by have := HNL.out; omega
          go_wp2
          clear HLr
          go_loopg [17] N.length (fun g a17 wr' => wr' = wr ∧ ∃ (k : Nat), a17 = .int .i64 k ∧ g + k = N.length)
          case atStart => exact ⟨rfl, 0, rfl, rfl⟩
          case round =>
            obtain ⟨rfl, k, rfl, hgk⟩ := hrel
            have HG := Lib.hid hgk
            clear hgk
            have c0 := HI.out.n.c0
            by_cases hk : k < N.length
            · have HKL := Lib.hid hk
              have qk : (k : Int) < N.length := by omega
              obtain ⟨s, hs⟩ : ∃ s, N[k]? = some s := ⟨_, List.getElem?_eq_getElem hk⟩
              have HS := Lib.hid hs
              obtain ⟨g, og, rfl, ck⟩ := rd_str HI.out.n.own.rd hs
              clear hs hk
              go_wp2_with (first
                | (go_at_call 9; (with_reducible refine (name_yes p v b N k s _ HI.out.tb.t HS.out).mono ?_); rintro e w8 ⟨rfl, rfl⟩))
              go_roundg (gk - 1)
              case measure => have := HG.out; have := HKL.out; omega
              case rel => exact ⟨rfl, k + 1, by first | rfl | go_num, by have := HG.out; have := HKL.out; omega⟩
            · have hke : k = N.length := by have := HG.out; omega
              subst hke
              have b3 : decide (N.length < N.length) = false := decide_eq_false (by omega)
              clear hk HG
              have HTW := Lib.hid (HI.out.tb.tabs HT0.out)
              have HFE := Lib.hid (HF0.out.trans HI.out.tb.fr)
              by_cases hin : 0 ≤ n ∧ n < N.length
              · obtain ⟨j, rfl⟩ := Int.eq_ofNat_of_zero_le hin.1
                have hj : j < N.length := by omega
                obtain ⟨t, ht⟩ : ∃ t, N[j]? = some t := ⟨_, List.getElem?_eq_getElem hj⟩
                have hsz := HI.out.tb.t.sz t (List.mem_of_getElem? ht)
                have HV := Lib.hid hsz.2
                have HZ : Hid (t.size ≤ 9223372036854775807) := Lib.hid (by have := hsz.1; unfold maxLen at this; omega)
                have HJ := Lib.hid ht
                have e1 : decide (j < N.length) = true := decide_eq_true hj
                have e2 : decide ((j : Int) < N.length) = true := decide_eq_true (by omega)
                clear hin hj ht hsz
                go_wp2_with (first
                  | (go_at_call 9; (with_reducible refine (name_yes p v b N j t _ HI.out.tb.t HJ.out).mono ?_); rintro e w9 ⟨rfl, rfl⟩)
                  | (go_at_call 14; (with_reducible refine (valid_c t true _ HZ.out HTW.out HV.out).mono ?_); rintro e w10 ⟨rfl, hf⟩; have HF10 := Lib.hid (HFE.out.trans hf); clear hf))
                go_ret
                exact ⟨rfl, HF10.out⟩
              · have HO : Hid (n < 0 ∨ (N.length : Int) ≤ n) := Lib.hid (by omega)
                have HV : Hid (vld ByteArray.empty = true) := Lib.hid (by decide +kernel)
                have HZ : Hid (ByteArray.empty.size ≤ 9223372036854775807) := Lib.hid (by decide)
                have e0 : (ByteArray.empty.toList == (ByteArray.mk #[]).toList) = true := by decide +kernel
                rcases (show n < 0 ∨ 0 ≤ n by omega) with h0 | h0
                · have e1 : decide ((0 : Int) ≤ n) = false := decide_eq_false (by omega)
                  clear hin h0
                  go_wp2_with (first
                    | (go_at_call 9; (with_reducible refine (name_no p v b N n _ HI.out.tb.t HO.out).mono ?_); rintro e w9 ⟨rfl, rfl⟩)
                    | (go_at_call 14; (with_reducible refine (valid_c ByteArray.empty true _ HZ.out HTW.out HV.out).mono ?_); rintro e w10 ⟨rfl, hf⟩; have HF10 := Lib.hid (HFE.out.trans hf); clear hf))
                  go_ret
                  exact ⟨rfl, HF10.out⟩
                · have e1 : decide ((0 : Int) ≤ n) = true := decide_eq_true h0
                  have e2 : decide (n < (N.length : Int)) = false := decide_eq_false (by omega)
                  clear hin h0
                  go_wp2_with (first
                    | (go_at_call 9; (with_reducible refine (name_no p v b N n _ HI.out.tb.t HO.out).mono ?_); rintro e w9 ⟨rfl, rfl⟩)
                    | (go_at_call 14; (with_reducible refine (valid_c ByteArray.empty true _ HZ.out HTW.out HV.out).mono ?_); rintro e w10 ⟨rfl, hf⟩; have HF10 := Lib.hid (HFE.out.trans hf); clear hf))
                  go_ret
                  exact ⟨rfl, HF10.out⟩
end Go.Proofs.YtficfpidodbdcaaDoor
