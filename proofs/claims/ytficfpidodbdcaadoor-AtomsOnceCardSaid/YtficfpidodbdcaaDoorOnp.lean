/-
  PLAIN LAW: names made of one sign many times and a letter: they are well-formed, how many signs they have, and which number each gets. Conditions: those named in each.
-/
import Derived.Test.YtficfpidodbdcaaDoorTn
import Derived.Lib.ValidLaws
import Derived.Lib.SmallJoins
namespace Go.Proofs.YtficfpidodbdcaaDoor.Md
open Go.Lib
set_option linter.unusedVariables false
def nmL : Nat → List UInt8
  | 0 => []
  | k + 1 => 195 :: 169 :: nmL k
theorem nmL_snoc : ∀ k, nmL k ++ [195, 169] = nmL (k + 1)
  | 0 => rfl
  | k + 1 => by
    show 195 :: 169 :: (nmL k ++ [195, 169]) = 195 :: 169 :: nmL (k + 1)
    rw [nmL_snoc k]
theorem nmL_len : ∀ k, (nmL k).length = 2 * k
  | 0 => rfl
  | k + 1 => by simp only [nmL, List.length_cons, nmL_len k]; omega
theorem nmL_get : ∀ (k j : Nat), j < k → (nmL k)[2 * j]? = some 195 ∧ (nmL k)[2 * j + 1]? = some 169
  | k + 1, 0, _ => by simp [nmL]
  | k + 1, j + 1, h => by
    have := nmL_get k j (by omega)
    have e : 2 * (j + 1) = 2 * j + 1 + 1 := by omega
    rw [e]
    simpa [nmL] using this
def nmB (k : Nat) : ByteArray := ⟨(nmL k).toArray⟩
def sB (m : Nat) (c : Nat) : ByteArray := ⟨(nmL m ++ [UInt8.ofNat (97 + c)]).toArray⟩
theorem nmB_snoc (k : Nat) : nmB k ++ ⟨#[195, 169]⟩ = nmB (k + 1) := by
  apply bytes_inj
  rw [Joins.data_append]
  show nmL k ++ [195, 169] = nmL (k + 1)
  exact nmL_snoc k
theorem nmB_zero : nmB 0 = ⟨#[]⟩ := rfl
theorem sB_eq (m c : Nat) : nmB m ++ ⟨[UInt8.ofNat (97 + c)].toArray⟩ = sB m c := by
  apply bytes_inj
  rw [Joins.data_append]
  rfl
theorem dec_e (s : ByteArray) (i : Nat) (h0 : s.get! i = 195) (h1 : s.get! (i + 1) = 169) (hlt : i + 1 < s.size) : Utf8.decode s i = (233, 2) := by
  unfold Utf8.decode
  simp [h0, h1, hlt]
theorem get_list (l : List UInt8) (i : Nat) (x : UInt8) (h : l[i]? = some x) : (ByteArray.mk l.toArray).get! i = x := by
  show l.toArray[i]! = x
  simp [getElem!_def, h]
theorem decodeL_e (t : List UInt8) : decodeL (195 :: 169 :: t) = (233, 2) := by
  unfold decodeL
  refine dec_e _ _ (get_list _ _ _ rfl) (get_list _ _ _ rfl) ?_
  show 0 + 1 < (195 :: 169 :: t).toArray.size
  simp
theorem valid_e (t : List UInt8) : validD (195 :: 169 :: t) = validD t := by
  rw [validD_step _ (by simp), decodeL_e]
  simp
theorem valid_nm : ∀ (k : Nat) (t : List UInt8), validD (nmL k ++ t) = validD t
  | 0, t => rfl
  | k + 1, t => by
    show validD (195 :: 169 :: (nmL k ++ t)) = _
    rw [valid_e, valid_nm k t]
theorem low_letter {c : Nat} (hc : c < 26) : (UInt8.ofNat (97 + c)).toNat = 97 + c := by
  rw [UInt8.toNat_ofNat']
  omega
theorem vld_nm (k : Nat) : vld (nmB k) = true := by
  show validD (nmL k) = true
  have := valid_nm k []
  rw [List.append_nil] at this
  rw [this]
  rfl
theorem vld_sB (m c : Nat) (hc : c < 26) : vld (sB m c) = true := by
  show validD (nmL m ++ [UInt8.ofNat (97 + c)]) = true
  rw [valid_nm, validD_cons _ _ (by rw [low_letter hc]; omega)]
  rfl
theorem sB_size (m c : Nat) : (sB m c).size = 2 * m + 1 := by
  show (nmL m ++ [UInt8.ofNat (97 + c)]).toArray.size = _
  simp [nmL_len]
theorem nmB_size (k : Nat) : (nmB k).size = 2 * k := by
  show (nmL k).toArray.size = _
  simp [nmL_len]
theorem cnt_from (m c : Nat) : ∀ (d j f : Nat), j + d = m → d < f → runeCountFrom (sB m c) f (2 * j) = d + 1
  | 0, j, f, h, hf => by
    obtain ⟨f, rfl⟩ : ∃ g, f = g + 1 := ⟨f - 1, by omega⟩
    have hj : 2 * j < (sB m c).size := by rw [sB_size]; omega
    have hw := decode_width_pos (sB m c) (2 * j) hj
    unfold runeCountFrom
    rw [if_pos hj, runeCountFrom_end _ _ _ (by rw [sB_size]; omega)]
  | d + 1, j, f, h, hf => by
    obtain ⟨f, rfl⟩ : ∃ g, f = g + 1 := ⟨f - 1, by omega⟩
    have hj : 2 * j + 1 < (sB m c).size := by rw [sB_size]; omega
    have hg := nmL_get m j (by omega)
    have hl := nmL_len m
    have e0 : (nmL m ++ [UInt8.ofNat (97 + c)])[2 * j]? = some 195 := by rw [List.getElem?_append_left (by omega)]; exact hg.1
    have e1 : (nmL m ++ [UInt8.ofNat (97 + c)])[2 * j + 1]? = some 169 := by rw [List.getElem?_append_left (by omega)]; exact hg.2
    have hd : Utf8.decode (sB m c) (2 * j) = (233, 2) := dec_e _ _ (get_list _ _ _ e0) (get_list _ _ _ e1) hj
    unfold runeCountFrom
    rw [if_pos (by omega), hd]
    have ih := cnt_from m c d (j + 1) f (by omega) (by omega)
    have e2 : 2 * j + 2 = 2 * (j + 1) := by omega
    rw [e2, ih]
    omega
theorem cnt_sB (m c : Nat) : cnt (sB m c) = m + 1 := by
  have := cnt_from m c m 0 (sB m c).size (by omega) (by rw [sB_size]; omega)
  exact this
theorem sB_inj {m c d : Nat} (hc : c < 26) (hd : d < 26) (h : sB m c = sB m d) : c = d := by
  have e : nmL m ++ [UInt8.ofNat (97 + c)] = nmL m ++ [UInt8.ofNat (97 + d)] := by
    have := congrArg (fun b : ByteArray => b.data.toList) h
    exact this
  have := List.append_cancel_left e
  injection this with h1 _
  have h2 := congrArg UInt8.toNat h1
  rw [low_letter hc, low_letter hd] at h2
  omega
def tn (m : Nat) (sn : List Nat) : List ByteArray := sn.map (sB m)
theorem tn_nodup {m : Nat} {sn : List Nat} (hn : sn.Nodup) (hs : ∀ c ∈ sn, c < 26) : (tn m sn).Nodup := by
  unfold tn
  rw [List.nodup_iff_pairwise_ne, List.pairwise_map]
  rw [List.nodup_iff_pairwise_ne] at hn
  exact hn.imp_of_mem fun ha hb h e => h (sB_inj (hs _ ha) (hs _ hb) e)
theorem fnd_tn_in {m c k : Nat} {sn : List Nat} (hn : sn.Nodup) (hs : ∀ c ∈ sn, c < 26) (h : sn[k]? = some c) : fnd (tn m sn) (sB m c) = some k :=
  fnd_at (tn_nodup hn hs) (by unfold tn; rw [List.getElem?_map, h]; rfl)
theorem fnd_tn_out {m c : Nat} {sn : List Nat} (hs : ∀ c ∈ sn, c < 26) (hc : c < 26) (h : c ∉ sn) : fnd (tn m sn) (sB m c) = none :=
  fnd_of_not (fun hm => by
    obtain ⟨d, hd, e⟩ := List.mem_map.1 hm
    have := sB_inj (hs d hd) hc e
    subst this
    exact h hd)
/-- the place that the loop finds -/
def atK (sn : List Nat) (c : Nat) : Nat → Int
  | 0 => -1
  | k + 1 => if sn[k]? = some c then (k : Int) else atK sn c k
theorem atK_none {sn : List Nat} {c : Nat} (h : c ∉ sn) : ∀ k, atK sn c k = -1
  | 0 => rfl
  | k + 1 => by
    unfold atK
    rw [if_neg (fun e => h (List.mem_of_getElem? e)), atK_none h k]
theorem atK_some {sn : List Nat} {c j : Nat} (hn : sn.Nodup) (hj : sn[j]? = some c) : ∀ k, j < k → atK sn c k = j
  | k + 1, h => by
    unfold atK
    by_cases e : sn[k]? = some c
    · rw [if_pos e]
      have h1 := (List.getElem?_eq_some_iff.1 hj).1
      have h2 := (List.getElem?_eq_some_iff.1 e).1
      have := (List.getElem?_inj h1 hn).1 (hj.trans e.symm)
      omega
    · rw [if_neg e]
      refine atK_some hn hj k ?_
      by_cases hk : j = k
      · subst hk; exact absurd hj e
      · omega
theorem upperA_out {m : Nat} {sn : List Nat} (hs : ∀ c ∈ sn, c < 26) : fnd (tn m sn) (nmB m ++ ⟨#[65]⟩) = none :=
  fnd_of_not (fun hm => by
    obtain ⟨d, hd, e⟩ := List.mem_map.1 hm
    have h1 : (nmB m ++ ⟨#[65]⟩ : ByteArray).data.toList = nmL m ++ [65] := by rw [Joins.data_append]; rfl
    have h2 : (sB m d).data.toList = nmL m ++ [UInt8.ofNat (97 + d)] := rfl
    rw [e, h1] at h2
    have := List.append_cancel_left h2
    injection this with h3 _
    have h4 := congrArg UInt8.toNat h3
    rw [low_letter (hs d hd)] at h4
    have h5 : (65 : UInt8).toNat = 65 := rfl
    omega)
end Go.Proofs.YtficfpidodbdcaaDoor.Md
