/-
  WALK: AtomsOnce. Conditions: Go's two tables of unicode/utf8 stand as laid; the argument reads as a list of bytes.
-/
import Derived.Test.YtficfpidodbdcaaDoorOnp
import Derived.Test.YtficfpidodbdcaaDoorKn4
import Derived.Test.YtficfpidodbdcaaDoorCls
import Derived.Laws.IdiomStrings
namespace Go.Proofs.YtficfpidodbdcaaDoor
open Go.RowKit Md Go.Maps
set_option linter.unusedVariables false
def bw8 (xs : List Nat) : List Value := xs.map fun (x : Nat) => Value.int .u8 (x : Int)
def iwN (sn : List Nat) : List Value := sn.map fun (c : Nat) => Value.int .i64 (c : Int)
theorem bw8_length (xs : List Nat) : (bw8 xs).length = xs.length := by simp [bw8]
theorem iwN_length (xs : List Nat) : (iwN xs).length = xs.length := by simp [iwN]
/-- a byte of a row that is read -/
theorem rd_byte {W : World} {Al : Option Addr} {cl k x : Nat} {xs : List Nat} (h : Rd W (.slice Al xs.length cl) (bw8 xs)) (hs : xs[k]? = some x) : ∃ g og, Al = some ⟨g, og, none⟩ ∧ W.cell? ⟨g, og + k, none⟩ = some (.int .u8 (x : Int)) := by
  have hk := (List.getElem?_eq_some_iff.1 hs).1
  rcases h with ⟨h0, _⟩ | ⟨g, og, cap', e, h0, _, _, _, hc⟩
  · have : (bw8 xs).length = 0 := by rw [h0]; rfl
    rw [bw8_length] at this; omega
  · injection e with e1 e2 e3
    exact ⟨g, og, e1, (hc k (by rw [bw8_length]; exact hk)).trans (by simp [bw8, hs])⟩
/-- a number of a row that is read -/
theorem rd_num {W : World} {Al : Option Addr} {cl k x : Nat} {xs : List Nat} (h : Rd W (.slice Al xs.length cl) (iwN xs)) (hs : xs[k]? = some x) : ∃ g og, Al = some ⟨g, og, none⟩ ∧ W.cell? ⟨g, og + k, none⟩ = some (.int .i64 (x : Int)) := by
  have hk := (List.getElem?_eq_some_iff.1 hs).1
  rcases h with ⟨h0, _⟩ | ⟨g, og, cap', e, h0, _, _, _, hc⟩
  · have : (iwN xs).length = 0 := by rw [h0]; rfl
    rw [iwN_length] at this; omega
  · injection e with e1 e2 e3
    exact ⟨g, og, e1, (hc k (by rw [iwN_length]; exact hk)).trans (by simp [iwN, hs])⟩
theorem conv_letter (W : World) (c : Nat) (hc : c < 26) : (convert 41 9 (.slice (some ⟨W.heap.size, 0, none⟩) 1 1)).run Tryd.prog (W.alloc (.cells #[.int .u8 (97 + (c : Int))] 5)) = .ok (.string ⟨[UInt8.ofNat (97 + c)].toArray⟩) (W.alloc (.cells #[.int .u8 (97 + (c : Int))] 5)) :=
  run_convert_bytes_back _ 41 9 5 ⟨W.heap.size, 0, none⟩ 1 [UInt8.ofNat (97 + c)] Tryd.underlying41 Tryd.underlying5 Tryd.underlying9 (fun j hj => by
    have hj0 : j = 0 := by simp at hj; omega
    subst hj0
    have hb := blk_new W #[.int .u8 (97 + (c : Int))] 5
    have e1 : (W.alloc (.cells #[.int .u8 (97 + (c : Int))] 5)).cell? ⟨W.heap.size, 0 + 0, none⟩ = (#[Value.int .u8 (97 + (c : Int))] : Array Value)[0]? := cell_of_row _ _ 0 _ _ (0, 0) hb
    rw [Addr.add_lit, e1]
    simp only [List.getElem_cons_zero, low_letter hc]
    rfl)
theorem tlen_c (p : Nat) (v : Value) (b m : Nat) (sn : List Nat) (w : World) (h : Tb w p v b (tn m sn)) :
    Calls Tryd.prog 12 #[.pointer (some ⟨p, 0, none⟩)] w fun e w' => e = .returned (.int .i64 sn.length) ∧ w = w' := by
  have := len_c p v b (tn m sn) w h
  unfold tn at this
  rw [List.length_map] at this
  exact this
theorem intInfo : (Tryd.prog.info? 3).map (fun i => (i.zero, i.size, i.bytes)) = some (some (.int .i64 0), 1, 8) := by kernel_rfl
/-- one number more behind a row of numbers of the call's own -/
theorem nums_push {W : World} {v : Value} {sn : List Nat} (c : Nat) (h : Own W 3 v (iwN sn)) (hl : sn.length ≤ 1000) :
    ∃ v' w1, (Builtin.append_ #[42, 42] 42 #[v, .slice (some ⟨W.heap.size, 0, none⟩) 1 1]).run Tryd.prog (W.alloc (.cells #[.int .i64 (c : Int)] 3)) = .ok v' w1 ∧ Own w1 3 v' (iwN (sn ++ [c])) ∧ Fr W w1 (fun i => InBlk v i) ∧ ∀ k, InBlk v' k → InBlk v k ∨ W.heap.size ≤ k := by
  obtain ⟨i0, hi, hz0, hz1, hzb⟩ := info_parts intInfo
  have hf0 : Fr W (W.alloc (.cells #[.int .i64 (c : Int)] 3)) (fun _ => False) := (Fr.refl W _).alloc _
  have hb := blk_new W #[.int .i64 (c : Int)] 3
  have hrd : Rd (W.alloc (.cells #[.int .i64 (c : Int)] 3)) (.slice (some ⟨W.heap.size, 0, none⟩) 1 1) [.int .i64 (c : Int)] := by
    refine .inr ⟨W.heap.size, 0, 1, rfl, by simp, by simp, by unfold maxLen; omega, by simp, fun i hi => ?_⟩
    have : i = 0 := by simp at hi; omega
    subst this
    have e1 : (W.alloc (.cells #[.int .i64 (c : Int)] 3)).cell? ⟨W.heap.size, 0 + 0, none⟩ = (#[Value.int .i64 (c : Int)] : Array Value)[0]? := cell_of_row _ _ 0 _ _ (0, 0) hb
    exact e1
  obtain ⟨v', w1, hr, ho, hg, hn⟩ := run_append_rd (P := Tryd.prog) (W.alloc (.cells #[.int .i64 (c : Int)] 3)) 42 42 3 i0 (.int .i64 0) Tryd.underlying42 hi hz0 hz1 (by omega) rfl v (.slice (some ⟨W.heap.size, 0, none⟩) 1 1) (iwN sn) [.int .i64 (c : Int)] (h.keep hf0 (fun _ _ h => h)) hrd (by simp [Value.oneCell']) (by rw [iwN_length]; simp; omega)
  refine ⟨v', w1, hr, ?_, (hf0.mono (fun _ h _ => h.elim)).grown hg (fun k hk _ => hk), fun k hk => ?_⟩
  · have e : iwN (sn ++ [c]) = iwN sn ++ [.int .i64 (c : Int)] := by simp [iwN]
    rw [e]; exact ho
  · rcases hn k hk with h1 | h1
    · exact .inl h1
    · exact .inr (Nat.le_trans (Nat.le_succ _) (by simpa using h1))
/-- what stands at the head of each round -/
structure On (w0 W : World) (p b m : Nat) (v u : Value) (sn : List Nat) : Prop where
  t : TbN w0 W p v b (tn m sn)
  own : Own W 3 u (iwN sn)
  nu : ∀ i, InBlk u i → w0.heap.size ≤ i
  nd : sn.Nodup
  lt : ∀ c ∈ sn, c < 26
section
variable {w0 w w1 : World} {p b : Nat} {v u : Value} {ns : List ByteArray} {xs : List Value}
theorem TbN.not_row (h : TbN w0 w p v b ns) (hu : Own w 3 u xs) : ¬ InBlk u p ∧ ¬ InBlk u b ∧ ∀ i, InBlk v i → ¬ InBlk u i := by
  obtain ⟨D, hm, _⟩ := h.t.mp
  obtain ⟨es, clock, hb, _⟩ := hm
  refine ⟨fun e => ?_, fun e => ?_, fun i hi e => ?_⟩
  · obtain ⟨cur, hc⟩ := hu.elem p e
    rw [h.t.blk] at hc; simp at hc
  · obtain ⟨cur, hc⟩ := hu.elem b e
    rw [hb] at hc; cases hc
  · obtain ⟨cur, hc⟩ := hu.elem i e
    obtain ⟨cur2, hc2⟩ := h.t.own.elem i hi
    rw [hc] at hc2; simp at hc2
theorem TbN.keepU (h : TbN w0 w p v b ns) (hu : Own w 3 u xs) (hf : Fr w w1 (fun i => InBlk u i)) (hn : ∀ i, InBlk u i → w0.heap.size ≤ i) : TbN w0 w1 p v b ns :=
  ⟨h.t.keep hf (h.not_row hu).1 (h.not_row hu).2.2 (h.not_row hu).2.1, h.fr.then_ hf (fun i hi hlt => by have := hn i hi; omega), h.np, h.nb, h.nv⟩
end
/-- the table's Put beside a row of numbers -/
theorem put_u {w0 : World} {p b : Nat} {v u : Value} {ns : List ByteArray} {xs : List Value} (s : ByteArray) (n e : Int) (l : List ByteArray) (w : World) (h : TbN w0 w p v b ns) (hu : Own w 3 u xs) (hs : s.size ≤ 1000000) (hT : Tabs w0) (hl : ns.length < 1000) (hq : putM ns s = ⟨n, e, l⟩) :
    Calls Tryd.prog 8 #[.pointer (some ⟨p, 0, none⟩), .string s] w fun r w' => r = .returned (.tuple #[.int .i64 n, .int .i64 e]) ∧ ∃ v', TbN w0 w' p v' b l ∧ Own w' 3 u xs :=
  (put_c p b v ns s w h.t hs (h.tabs hT) hl).mono fun r w' hr => by
    obtain ⟨rfl, v', ht, hf, hn⟩ := hr
    rw [hq] at ht ⊢
    have hx := h.not_row hu
    refine ⟨rfl, v', h.step ht hf hn, hu.keep hf (fun i hi e => ?_)⟩
    rcases e with e | e | e
    · rw [e] at hi; exact hx.1 hi
    · rw [e] at hi; exact hx.2.1 hi
    · exact hx.2.2 i e hi
set_option maxRecDepth 100000 in
set_option maxHeartbeats 4000000 in
theorem once_in (Al : Option Addr) (cl lg : Nat) (xs : List Nat) (w : World) (hT : Tabs w) (hl : Rd w (.slice Al xs.length cl) (bw8 xs)) (hx : ∀ x ∈ xs, x < 256) (h200 : xs.length ≤ 200) (hlg : lg < 256) :
    Calls Tryd.prog 5 #[.slice Al xs.length cl, .int .u8 lg] w fun e w' => e = .returned (.bool true) ∧ Fr w w' (fun _ => False) := by
  have d200 : decide ((200 : Int) < xs.length) = false := decide_eq_false (by omega)
  have d200' : decide (200 < xs.length) = false := decide_eq_false (by omega)
  obtain ⟨m, hm⟩ : ∃ m, lg % 200 = m := ⟨_, rfl⟩
  have HM : Hid (m < 200) := Lib.hid (by omega)
  have hwt : wrap64 (lg : Int) = lg := by unfold wrap64; omega
  have htm : (lg : Int).tmod 200 = m := by rw [← hm]; rfl
  have HWT := Lib.hid hwt
  have HTM := Lib.hid htm
  have HT := Lib.hid hT
  have HL := Lib.hid hl
  have HX := Lib.hid hx
  have H200 := Lib.hid h200
  have HLG := Lib.hid hlg
  have q200 : (xs.length : Int) ≤ 200 := by omega
  have qm : (m : Int) < 200 := by omega
  clear hT hl hx h200 hlg hm hwt htm
  go_enter Tryd.func5, Tryd.ntmps5
  go_wp2_with (first
    | (go_at_call 6; (with_reducible refine (awake4_c _ HT.out).mono ?_); rintro e w0 ⟨rfl, hf⟩; have HF0 := Lib.hid hf; have HT0 := Lib.hid (HT.out.below hf.below); clear hf)
    | (go_at_call 7; (with_reducible refine (new_n _).mono ?_); rintro e w1 ⟨p, b, rfl, ht⟩; have H1 := Lib.hid ht; clear ht))
  go_loopg [6, 7] m (fun g a6 a7 wr => wr = w1 ∧ ∃ i : Nat, a7 = .int .i64 i ∧ a6 = .string (nmB i) ∧ g + i = m)
  case atStart => exact ⟨rfl, 0, rfl, rfl, rfl⟩
  case round =>
    obtain ⟨rfl, i, rfl, rfl, hgi⟩ := hrel
    have HG := Lib.hid hgi
    clear hgi
    have hwt := HWT.out
    have htm := HTM.out
    by_cases hi : i < m
    · have HIL := Lib.hid hi
      have qi : (i : Int) < m := by omega
      have d1 : decide ((i : Int) < m) = true := decide_eq_true qi
      have hsum : ¬ (9223372036854775807 < (nmB i).size + 2) := by rw [nmB_size]; omega
      have hsum2 : ¬ ((nmB i).size + (ByteArray.mk #[195, 169]).size > 9223372036854775807) := by rw [nmB_size]; show ¬ (2 * i + 2 > 9223372036854775807); omega
      clear hi
      go_wp2
      go_roundg (gk - 1)
      case measure => have := HG.out; have := HIL.out; omega
      case rel => exact ⟨rfl, i + 1, by first | rfl | go_num, by rw [← nmB_snoc], by have := HG.out; have := HIL.out; omega⟩
    · have him : i = m := by have := HG.out; omega
      subst him
      have d1 : decide ((i : Int) < i) = false := decide_eq_false (by omega)
      have d1' : decide (i < i) = false := decide_eq_false (by omega)
      clear hi HG
      go_wp2
      clear d1 d1'
      have HON : Hid (On w0 wr p b i (.slice none 0 0) (.slice none 0 0) []) := Lib.hid ⟨H1.out, Own.nil _ _, (fun i hi => by simp [InBlk, Value.ownBlock] at hi), List.nodup_nil, (fun c hc => by cases hc)⟩
      obtain ⟨m, hm⟩ : ∃ m, m = i := ⟨_, rfl⟩
      subst hm
      clear H1 hwt htm HWT HTM
      go_loopg [8, 9] xs.length (fun g a8 a9 wr => ∃ (i : Nat) (v u : Value) (sn : List Nat), u = a8 ∧ a9 = .int .i64 i ∧ g + i = xs.length ∧ Hid (On w0 wr p b m v u sn ∧ sn.length ≤ i))
      case atStart => exact ⟨0, _, _, [], rfl, rfl, rfl, Lib.hid ⟨HON.out, Nat.le_refl _⟩⟩
      case round =>
        clear HON
        obtain ⟨i, v, u, sn, rfl, rfl, hgi, HI⟩ := hrel
        obtain ⟨G, rfl⟩ : ∃ G, G = gk := ⟨_, rfl⟩
        have HG := Lib.hid hgi
        clear hgi
        by_cases hi : i < xs.length
        · have HIL := Lib.hid hi
          have qi : (i : Int) < xs.length := by omega
          obtain ⟨x, hx⟩ : ∃ x, xs[i]? = some x := ⟨_, List.getElem?_eq_getElem hi⟩
          have HLr := Lib.hid (HL.out.keep (HF0.out.trans HI.out.1.t.fr) (fun _ _ h => h))
          obtain ⟨g, og, rfl, ck⟩ := rd_byte HLr.out hx
          have hx256 := HX.out x (List.mem_of_getElem? hx)
          obtain ⟨c, hc⟩ : ∃ c, x % 26 = c := ⟨_, rfl⟩
          have qc : (c : Int) < 26 := by omega
          have HC26 : Hid (c < 26) := Lib.hid (by omega)
          have hcm : (x : Int).tmod 26 = c := by rw [← hc]; rfl
          have hcm2 : (x : Int) % 26 = c := by omega
          have HXI := Lib.hid hx
          clear hi hx hc
          have hconv := conv_letter wr c HC26.out
          obtain ⟨t, ht⟩ : ∃ t : ByteArray, (⟨[UInt8.ofNat (97 + c)].toArray⟩ : ByteArray) = t := ⟨_, rfl⟩
          have hts : t.size = 1 := by rw [← ht]; rfl
          have hcat : nmB m ++ t = sB m c := by rw [← ht]; exact sB_eq m c
          have HCAT := Lib.hid hcat
          have hm := HM.out
          have hsum : ¬ ((nmB m).size + t.size > 9223372036854775807) := by rw [nmB_size, hts]; omega
          rw [ht] at hconv
          clear ht hts hcat hm
          go_upto_region 18 with (fail)
          rw [HCAT.out]
          obtain ⟨W1, hW1⟩ : ∃ W1, wr.alloc (.cells #[.int .u8 (97 + (c : Int))] 5) = W1 := ⟨_, rfl⟩
          have hf1 : Fr wr W1 (fun _ => False) := by rw [← hW1]; exact (Fr.refl _ _).alloc _
          have HF1 := Lib.hid hf1
          simp only [hW1]
          have HCK := Lib.hid (hf1.cell ck (fun h => h))
          clear hW1 hf1 hconv hsum ck
          obtain ⟨Au, cu, rfl⟩ : ∃ A k, u = .slice A sn.length k := by
            obtain ⟨A, k, e⟩ := HI.out.1.own.rd.len
            rw [iwN_length] at e
            exact ⟨A, k, e⟩
          have qsn : (sn.length : Int) ≤ 200 := by have := HI.out.2; omega
          go_wp2
          go_loopg [11, 12] sn.length (fun g a11 a12 wx => ∃ k : Nat, a12 = .int .i64 k ∧ a11 = .int .i64 (atK sn c k) ∧ g + k = sn.length ∧ Hid (Fr W1 wx (fun _ => False)))
          case atStart => exact ⟨0, rfl, rfl, rfl, Lib.hid (Fr.refl _ _)⟩
          case round =>
            obtain ⟨k, rfl, rfl, hgk, HX1⟩ := hrel
            have HGK := Lib.hid hgk
            clear hgk
            by_cases hk : k < sn.length
            · have HKL := Lib.hid hk
              have qk : (k : Int) < sn.length := by omega
              obtain ⟨d, hd⟩ : ∃ d, sn[k]? = some d := ⟨_, List.getElem?_eq_getElem hk⟩
              have HD := Lib.hid hd
              have ho := HI.out.1.own.rd.keep (HF1.out.trans HX1.out) (fun _ _ h => h)
              obtain ⟨gu, ou, rfl, cd⟩ := rd_num ho hd
              have ck := HX1.out.cell HCK.out (fun h => h)
              clear hd hk ho
              obtain ⟨aa, haa⟩ : ∃ a, atK sn c k = a := ⟨_, rfl⟩
              have HAA := Lib.hid haa
              rw [haa]
              clear haa
              go_upto_region 22 with (fail)
              go_quiet (fail)
              by_cases e : d = c
              · have e1 : ((d : Int) == (c : Int)) = true := by simp [e]
                have HE := Lib.hid e
                clear e
                go_wp2
                go_roundg (gk - 1)
                case measure => have := HGK.out; have := HKL.out; omega
                case rel => exact ⟨k + 1, by first | rfl | go_num, by unfold atK; rw [if_pos (by rw [HD.out, HE.out])], by have := HGK.out; have := HKL.out; omega, Lib.hid (HX1.out.drewN _)⟩
              · have e1 : ((d : Int) == (c : Int)) = false := by simpa using fun h : (d : Int) = c => e (by omega)
                have HE := Lib.hid e
                clear e
                go_wp2
                go_roundg (gk - 1)
                case measure => have := HGK.out; have := HKL.out; omega
                case rel => exact ⟨k + 1, by first | rfl | go_num, by unfold atK; rw [if_neg (by rw [HD.out]; intro h; injection h with h; exact HE.out h), HAA.out], by have := HGK.out; have := HKL.out; omega, Lib.hid (HX1.out.drewN _)⟩
            · have hke : k = sn.length := by have := HGK.out; omega
              subst hke
              have b2 : decide (sn.length < sn.length) = false := decide_eq_false (by omega)
              clear hk HGK
              have HFX := Lib.hid (HF1.out.trans HX1.out)
              have ck := HX1.out.cell HCK.out (fun h => h)
              have HSS : Hid ((sB m c).size ≤ 1000000) := Lib.hid (by have := HM.out; rw [sB_size]; omega)
              have HVV := Lib.hid (vld_sB m c HC26.out)
              have HCC : Hid (cnt (sB m c) ≤ 255) := Lib.hid (by have := HM.out; rw [cnt_sB]; omega)
              have HLN : Hid ((tn m sn).length < 1000) := Lib.hid (by have := HI.out.2; have := HIL.out; have := H200.out; unfold tn; rw [List.length_map]; omega)
              by_cases hin : c ∈ sn
              · obtain ⟨j, hjl, hj0⟩ := List.getElem_of_mem hin
                have hj : sn[j]? = some c := by rw [List.getElem?_eq_getElem hjl, hj0]
                have hat := atK_some HI.out.1.nd hj sn.length hjl
                rw [hat]
                have d1 : decide ((j : Int) < 0) = false := decide_eq_false (by omega)
                have qj : (j : Int) < sn.length := by omega
                have HPQ : Hid (putM (tn m sn) (sB m c) = ⟨(j : Int), 0, tn m sn⟩) := Lib.hid (put_mk HVV.out HCC.out (.inl ⟨j, fnd_tn_in HI.out.1.nd HI.out.1.lt hj, rfl, rfl⟩))
                have HNM : Hid ((tn m sn)[j]? = some (sB m c)) := Lib.hid (by unfold tn; rw [List.getElem?_map, hj]; rfl)
                have HTB := Lib.hid (HI.out.1.t.frm HFX.out)
                have HUB := Lib.hid (HI.out.1.own.keep HFX.out (fun _ _ h => h))
                have HNU := Lib.hid HI.out.1.nu
                have HND := Lib.hid HI.out.1.nd
                have HLT := Lib.hid HI.out.1.lt
                clear hin hj hat hj0 hjl b2
                have HSL : Hid (sn.length ≤ i + 1) := Lib.hid (by have := HI.out.2; omega)
                have qs2 : (sn.length : Int) ≤ 201 := by have := HSL.out; have := HIL.out; have := H200.out; omega
                go_wp2_with (first
                  | (go_at_call 8; (with_reducible refine (put_u (sB m c) (j : Int) 0 _ _ HTB.out HUB.out HSS.out HT0.out HLN.out HPQ.out).mono ?_); rintro e w7 ⟨rfl, v7, ht, hu⟩; have H7 := Lib.hid ht; have HU7 := Lib.hid hu; clear ht hu)
                  | (go_at_call 9; (with_reducible refine (name_yes p v7 b _ j (sB m c) _ H7.out.t HNM.out).mono ?_); rintro e w8 ⟨rfl, rfl⟩)
                  | (go_at_call 12; (with_reducible refine (tlen_c p v7 b m sn _ H7.out.t).mono ?_); rintro e w9 ⟨rfl, rfl⟩))
                go_roundg (G - 1)
                case measure => have := HG.out; have := HIL.out; omega
                case rel => exact ⟨i + 1, _, _, sn, rfl, by first | rfl | go_num, by have := HG.out; have := HIL.out; omega, Lib.hid ⟨⟨H7.out, HU7.out, HNU.out, HND.out, HLT.out⟩, HSL.out⟩⟩
              · have hat := atK_none hin sn.length
                rw [hat]
                have HTX := Lib.hid (HI.out.1.t.frm HFX.out)
                have HUX := Lib.hid (HI.out.1.own.keep HFX.out (fun _ _ h => h))
                obtain ⟨u', w6, hr, ho, hf, hn⟩ := nums_push c HUX.out (by have := HI.out.2; have := HIL.out; have := H200.out; omega)
                have HRUN := Lib.hid hr
                have HUB := Lib.hid ho
                have HTB := Lib.hid (HTX.out.keepU HUX.out hf HI.out.1.nu)
                have HNU : Hid (∀ i, InBlk u' i → w0.heap.size ≤ i) := Lib.hid (fun i hi => by
                  rcases hn i hi with e | e
                  · exact HI.out.1.nu i e
                  · exact Nat.le_trans (HI.out.1.t.fr.trans HFX.out).size e)
                obtain ⟨A', c', rfl⟩ : ∃ A k, u' = .slice A (sn ++ [c]).length k := by
                  obtain ⟨A, k, e⟩ := ho.rd.len
                  rw [iwN_length] at e
                  exact ⟨A, k, e⟩
                have hout : fnd (tn m sn) (sB m c) = none := fnd_tn_out HI.out.1.lt HC26.out hin
                have etn : tn m (sn ++ [c]) = tn m sn ++ [sB m c] := by simp [tn]
                have eln : (tn m sn).length = sn.length := by simp [tn]
                have HPQ : Hid (putM (tn m sn) (sB m c) = ⟨(sn.length : Int), 0, tn m (sn ++ [c])⟩) := Lib.hid (put_mk HVV.out HCC.out (.inr ⟨hout, by rw [eln], etn⟩))
                have HNM : Hid ((tn m (sn ++ [c]))[sn.length]? = some (sB m c)) := Lib.hid (by rw [etn, ← eln]; simp)
                have HND : Hid ((sn ++ [c]).Nodup) := Lib.hid (List.nodup_append.2 ⟨HI.out.1.nd, by simp, fun a ha d hd => by simp at hd; subst hd; intro e; exact hin (e ▸ ha)⟩)
                have HLT : Hid (∀ d ∈ sn ++ [c], d < 26) := Lib.hid (fun d hd => by
                  rcases List.mem_append.1 hd with hd | hd
                  · exact HI.out.1.lt d hd
                  · simp only [List.mem_singleton] at hd; subst hd; exact HC26.out)
                have hls : (sn ++ [c]).length = sn.length + 1 := by simp
                rw [hls] at HUB HNU HRUN
                try simp only [hls]
                clear hin hat hr ho hf hn hout etn eln b2
                have HSL : Hid ((sn ++ [c]).length ≤ i + 1) := Lib.hid (by have := HI.out.2; simp; omega)
                have qs2 : ((sn ++ [c]).length : Int) ≤ 201 := by have := HSL.out; have := HIL.out; have := H200.out; omega
                go_wp2_with (first
                  | (at_builtin; refine Lib.wpList_append_run _ rfl _ _ _ _ rfl _ _ rfl rfl _ w6 HRUN.out ?_)
                  | (go_at_call 8; (with_reducible refine (put_u (sB m c) (sn.length : Int) 0 _ _ HTB.out HUB.out HSS.out HT0.out HLN.out HPQ.out).mono ?_); rintro e w7 ⟨rfl, v7, ht, hu⟩; have H7 := Lib.hid ht; have HU7 := Lib.hid hu; clear ht hu)
                  | (go_at_call 9; (with_reducible refine (name_yes p v7 b _ sn.length (sB m c) _ H7.out.t HNM.out).mono ?_); rintro e w8 ⟨rfl, rfl⟩)
                  | (go_at_call 12; (with_reducible refine (tlen_c p v7 b m (sn ++ [c]) _ H7.out.t).mono ?_); rintro e w9 ⟨rfl, rfl⟩))
                go_roundg (G - 1)
                case measure => have := HG.out; have := HIL.out; omega
                case rel => exact ⟨i + 1, _, _, (sn ++ [c]), rfl, by first | rfl | go_num, by have := HG.out; have := HIL.out; omega, Lib.hid ⟨⟨H7.out, HU7.out, HNU.out, HND.out, HLT.out⟩, HSL.out⟩⟩
        · have hie : i = xs.length := by have := HG.out; omega
          subst hie
          have b2 : decide (xs.length < xs.length) = false := decide_eq_false (by omega)
          clear hi HG
          have hm := HM.out
          have hsum : ¬ ((nmB m).size + (ByteArray.mk #[65]).size > 9223372036854775807) := by rw [nmB_size]; show ¬ (2 * m + 1 > 9223372036854775807); omega
          have hsum2 : ¬ (9223372036854775807 < (nmB m).size + 1) := by rw [nmB_size]; omega
          have HF : Hid (fnd (tn m sn) (nmB m ++ ⟨#[65]⟩) = none) := Lib.hid (upperA_out HI.out.1.lt)
          have HZ : Hid ((nmB m ++ ⟨#[65]⟩ : ByteArray).size ≤ maxLen) := Lib.hid (by
            have e : (nmB m ++ ⟨#[65]⟩ : ByteArray).size = 2 * m + 1 := by rw [ByteArray.size_append, nmB_size]; rfl
            rw [e]; unfold maxLen; omega)
          have HZ2 : Hid ((nmB m).size ≤ 9223372036854775807) := Lib.hid (by rw [nmB_size]; omega)
          have HV := Lib.hid (vld_nm m)
          have HTW := Lib.hid (HI.out.1.t.tabs HT0.out)
          have HFE := Lib.hid (HF0.out.trans HI.out.1.t.fr)
          clear hm
          go_wp2_with (first
            | (go_at_call 10; (with_reducible refine (find_c p v b _ _ none _ HI.out.1.t.t HZ.out HF.out).mono ?_); rintro e w9 ⟨rfl, rfl⟩)
            | (go_at_call 14; (with_reducible refine (valid_c (nmB m) true _ HZ2.out HTW.out HV.out).mono ?_); rintro e w10 ⟨rfl, hf⟩; have HF10 := Lib.hid (HFE.out.trans hf); clear hf))
          go_ret
          exact ⟨rfl, HF10.out⟩
end Go.Proofs.YtficfpidodbdcaaDoor
