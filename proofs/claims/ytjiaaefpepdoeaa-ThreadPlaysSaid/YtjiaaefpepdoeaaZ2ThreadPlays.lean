/-
  TEXTS JOINED FOR A CLAIM (ThreadPlays): Pure Obj Obs Thr Rthr Ints Lnk Thd Lse. What each proves, and under which conditions, stands at its head. Conditions: none beyond those.
-/
import Derived.Test.YtjiaaefpepdoeaaPrt
import Derived.Test.YtjiaaefpepdoeaaZ1ThreadPlays
import Derived.Test.YtjiaaefpepdoeaaZ0ThreadPlays
import Derived.Deep.DeepCutAuto
import Derived.Deep.LoopGhost
import Derived.Deep.RegionHeld3
/-
  CONTRACTS of the functions on words and headers, out of the printed ones, as plain functions. Conditions: each number is of its kind.
-/
namespace Go.Proofs.Ytjiaaefpepdoeaa.Wd
open Go.RowKit Go.Proofs.Ytjiaaefpepdoeaa.PSlideRoots Go.Proofs.YtjiaaefpepdoeaaW.PrintWords Go.Proofs.YtjiaaefpepdoeaaW.PrintLast
open Go.Proofs.Ytjiaaefpepdoeaa.Md
set_option linter.unusedVariables false

theorem wf_u64 {n : Int} (h : (Lit.int .u64 n).wf = true) : okW n := by
  simp [Lit.wf, IntKind.min, IntKind.max, IntKind.bits, IntKind.signed] at h
  unfold okW; omega
theorem wf_i64 {n : Int} (h : (Lit.int .i64 n).wf = true) : -9223372036854775808 ≤ n ∧ n ≤ 9223372036854775807 := by
  simp [Lit.wf, IntKind.min, IntKind.max, IntKind.bits, IntKind.signed] at h
  omega
theorem none_eq : word_none.f = some 4 := rfl
theorem fits_eq (n : Int) : word_Fits.f n = some (fitsW n) := fitsW_bits n
theorem rfits_eq (n : Int) : tenementref1_Fits.f n = some (fitsW n) := fitsW_bits n
theorem of_eq (t n : Int) : word_Of.f t n = some (ofW t n) := by
  unfold word_Of.f
  rw [none_eq, fits_eq]
  simp only [Option.bind_some]
  by_cases h0 : t < 0
  · rw [if_pos h0]; unfold ofW; rw [if_neg (by omega)]
  rw [if_neg h0]
  by_cases h7 : t > 7
  · rw [if_pos h7]; unfold ofW; rw [if_neg (by omega)]
  rw [if_neg h7]
  by_cases hf : fitsW n = true
  · rw [if_pos hf, of_bits (by omega) (by omega) hf]
  · rw [if_neg hf]; unfold ofW; rw [if_neg (fun h => hf h.2.2)]
theorem rof_eq (t n : Int) : tenementref1_Of.f t n = some (ofW t n) := by
  unfold tenementref1_Of.f
  rw [rfits_eq]
  simp only [Option.bind_some]
  by_cases h0 : t < 0
  · rw [if_pos h0]; unfold ofW; rw [if_neg (by omega)]
  rw [if_neg h0]
  by_cases h7 : t > 7
  · rw [if_pos h7]; unfold ofW; rw [if_neg (by omega)]
  rw [if_neg h7]
  by_cases hf : fitsW n = true
  · rw [if_pos hf, of_bits (by omega) (by omega) hf]
  · rw [if_neg hf]; unfold ofW; rw [if_neg (fun h => hf h.2.2)]
theorem tag_eq {w : Int} (h : okW w) : word_Tag.f w = some (tagW w) := by unfold word_Tag.f; rw [tag_bits h]
theorem rtag_eq {w : Int} (h : okW w) : tenementref1_Tag.f w = some (tagW w) := by unfold tenementref1_Tag.f; rw [tag_bits h]
theorem val_eq {w : Int} (h : okW w) : word_Value.f w = some (valW w) := by unfold word_Value.f; rw [val_bits h]
theorem rval_eq {w : Int} (h : okW w) : tenementref1_Value.f w = some (valW w) := by unfold tenementref1_Value.f; rw [val_bits h]
/-! ### the contracts -/
theorem fits_c (n : Int) (b : Bool) (w : World) (h : fitsW n = b) : Calls Try.prog 83 #[.int .i64 n] w fun e w' => e = .returned (.bool b) ∧ Drawn0 w w' := word_Fits.calls n b w (by rw [fits_eq, h])
theorem of_c (t n r : Int) (w : World) (h : ofW t n = r) : Calls Try.prog 71 #[.int .i64 t, .int .i64 n] w fun e w' => e = .returned (.int .u64 r) ∧ Drawn0 w w' := word_Of.calls t n r w (by rw [of_eq, h])
theorem tag_c (x r : Int) (w : World) (hx : okW x) (h : tagW x = r) : Calls Try.prog 66 #[.int .u64 x] w fun e w' => e = .returned (.int .i64 r) ∧ Drawn0 w w' := word_Tag.calls x r w (by rw [tag_eq hx, h])
theorem val_c (x r : Int) (w : World) (hx : okW x) (h : valW x = r) : Calls Try.prog 67 #[.int .u64 x] w fun e w' => e = .returned (.int .i64 r) ∧ Drawn0 w w' := word_Value.calls x r w (by rw [val_eq hx, h])
theorem rof_c (t n r : Int) (w : World) (h : ofW t n = r) : Calls Try.prog 46 #[.int .i64 t, .int .i64 n] w fun e w' => e = .returned (.int .u64 r) ∧ Drawn0 w w' := tenementref1_Of.calls t n r w (by rw [rof_eq, h])
theorem rtag_c (x r : Int) (w : World) (hx : okW x) (h : tagW x = r) : Calls Try.prog 43 #[.int .u64 x] w fun e w' => e = .returned (.int .i64 r) ∧ Drawn0 w w' := tenementref1_Tag.calls x r w (by rw [rtag_eq hx, h])
theorem rval_c (x r : Int) (w : World) (hx : okW x) (h : valW x = r) : Calls Try.prog 64 #[.int .u64 x] w fun e w' => e = .returned (.int .i64 r) ∧ Drawn0 w w' := tenementref1_Value.calls x r w (by rw [rval_eq hx, h])
theorem rfits_c (n : Int) (b : Bool) (w : World) (h : fitsW n = b) : Calls Try.prog 72 #[.int .i64 n] w fun e w' => e = .returned (.bool b) ∧ Drawn0 w w' := tenementref1_Fits.calls n b w (by rw [rfits_eq, h])
def i64s (n : Int) : Prop := -9223372036854775808 ≤ n ∧ n ≤ 9223372036854775807
theorem pack_bits (h : Hdr) (hm : mayH h = true) :
    (if h.neg = true then bits .or .i64 (bits .or .i64 (bits .or .i64 h.kind (wrap64 (h.size * 8))) (wrap64 (h.tree * 8388608))) 4 else bits .or .i64 (bits .or .i64 h.kind (wrap64 (h.size * 8))) (wrap64 (h.tree * 8388608))) = packH h := by
  rw [mayH_iff] at hm
  have e1 : wrap64 (h.size * 8) = h.size * 8 := by unfold wrap64; omega
  have e2 : wrap64 (h.tree * 8388608) = h.tree * 8388608 := by unfold wrap64; omega
  have e3 : bits .or .i64 h.kind (h.size * 8) = h.size * 8 + h.kind := by
    rw [bits_or_comm]; exact i64_or 3 (by omega) (by omega) (by omega) (by omega) (by omega) (by omega)
  have e4 : bits .or .i64 (h.size * 8 + h.kind) (h.tree * 8388608) = h.tree * 8388608 + (h.size * 8 + h.kind) := by
    rw [bits_or_comm]; exact i64_or 23 (by omega) (by omega) (by omega) (by omega) (by omega) (by omega)
  rw [e1, e2, e3, e4]
  unfold packH
  cases hn : h.neg with
  | false => simp only [Bool.false_eq_true, if_false]; omega
  | true =>
    simp only [if_true]
    obtain ⟨a, ha⟩ : ∃ a, a = h.tree * 8388608 + (h.size * 8 + h.kind) := ⟨_, rfl⟩
    have k0 : 0 ≤ a := by omega
    have k1 : a < 8796093022208 := by omega
    have k2 : a % 8 = h.kind := by omega
    rw [← ha]
    -- the bit of worth 4 is not set: kind takes the two lowest, size begins at the fourth
    have e5 : bits .or .i64 a 4 = a + 4 := by
      have hsplit : a = (a / 8) * 8 + h.kind := by omega
      have s1 : bits .or .i64 ((a / 8) * 8) (4 + h.kind) = (a / 8) * 8 + (4 + h.kind) := i64_or 3 (by omega) (by omega) (by omega) (by omega) (by omega) (by omega)
      have s2 : bits .or .i64 ((a / 8) * 8) h.kind = (a / 8) * 8 + h.kind := i64_or 3 (by omega) (by omega) (by omega) (by omega) (by omega) (by omega)
      have s3 : bits .or .i64 4 h.kind = 4 + h.kind := i64_or 2 (by omega) (by omega) (by omega) (by omega) (by omega) (by omega)
      have s4 : bits .or .i64 (bits .or .i64 ((a / 8) * 8) h.kind) 4 = bits .or .i64 ((a / 8) * 8) (bits .or .i64 4 h.kind) := by
        rw [s2, s3]
        obtain ⟨x, hx⟩ := Int.eq_ofNat_of_zero_le (show 0 ≤ a / 8 * 8 by omega)
        obtain ⟨y, hy⟩ := Int.eq_ofNat_of_zero_le (show 0 ≤ h.kind by omega)
        have p63 : (2 : Nat) ^ 63 = 9223372036854775808 := by decide
        have b1 := (bits_nat .i64 63 (by decide) wraps_i64 x y (by omega) (by omega)).2
        have b2 := (bits_nat .i64 63 (by decide) wraps_i64 (x ||| y) 4 (Nat.or_lt_two_pow (by omega) (by omega)) (by decide)).2
        have b3 := (bits_nat .i64 63 (by decide) wraps_i64 4 y (by decide) (by omega)).2
        have b4 := (bits_nat .i64 63 (by decide) wraps_i64 x (4 ||| y) (by omega) (Nat.or_lt_two_pow (by decide) (by omega))).2
        rw [← hx, ← hy] at b1
        rw [← hy] at b3
        rw [← hx] at b4
        rw [s2] at b1
        rw [show ((4 : Nat) : Int) = 4 from rfl] at b2 b3
        rw [s3] at b3
        rw [← b1] at b2
        rw [← b3] at b4
        rw [b2, b4]
        congr 1
        rw [Nat.or_assoc, Nat.or_comm y 4]
      rw [s2, s3, s1, ← hsplit] at s4
      omega
    omega
theorem rmake_eq (h : Hdr) : tenementref1_Make.f 2 h.kind h.size h.tree h.neg = some (makeH h) := by
  have hno : mayH h = false → tenementref1_Make.j0 2 true h.kind h.size h.tree h.neg = some (makeH h) := fun hm => by
    rw [tenementref1_Make.j0, if_pos rfl]; unfold makeH; rw [hm]; rfl
  have hno' : ¬ mayH h = true → tenementref1_Make.j0 2 true h.kind h.size h.tree h.neg = some (makeH h) := fun hm => hno (by simpa using hm)
  unfold tenementref1_Make.f
  by_cases k0 : h.kind < 0
  · rw [if_pos k0]; exact hno' (fun hm => by rw [mayH_iff] at hm; omega)
  rw [if_neg k0]
  by_cases k3 : h.kind > 3
  · rw [if_pos k3]; exact hno' (fun hm => by rw [mayH_iff] at hm; omega)
  rw [if_neg k3]
  by_cases z0 : h.size < 0
  · rw [if_pos z0]; exact hno' (fun hm => by rw [mayH_iff] at hm; omega)
  rw [if_neg z0]
  by_cases z3 : h.size ≥ 1048576
  · rw [if_pos z3]; exact hno' (fun hm => by rw [mayH_iff] at hm; omega)
  rw [if_neg z3]
  by_cases t0 : h.tree < 0
  · rw [if_pos t0]; exact hno' (fun hm => by rw [mayH_iff] at hm; omega)
  rw [if_neg t0]
  by_cases t3 : h.tree ≥ 1048576
  · rw [decide_eq_true t3]; exact hno' (fun hm => by rw [mayH_iff] at hm; omega)
  rw [decide_eq_false t3]
  have hm : mayH h = true := by rw [mayH_iff]; omega
  rw [tenementref1_Make.j0, if_neg (by decide)]
  have hp := pack_bits h hm
  have hmk : makeH h = ofW 6 (packH h) := by unfold makeH; rw [if_pos hm]
  cases hn : h.neg with
  | true =>
    rw [hn, if_pos rfl] at hp
    rw [if_pos rfl, hp, rof_eq, hmk]; rfl
  | false =>
    rw [hn, if_neg (by decide)] at hp
    rw [if_neg (by decide), hp, rof_eq, hmk]; rfl
/-- what reading tells: the header (or the zero one), and whether it is one -/
def readP (w : Int) : Int × Int × Int × Bool × Bool := match readH w with
  | some h => (h.kind, h.size, h.tree, h.neg, true)
  | none => (0, 0, 0, false, false)
theorem val_lt {w : Int} (h : okW w) : valW w < 576460752303423488 := by unfold valW; unfold okW at h; split <;> omega
theorem read_eq {w : Int} (hw : okW w) : word_Read.f w = some (readP w) := by
  unfold word_Read.f readP
  rw [val_eq hw, tag_eq hw]
  simp only [Option.bind_some]
  have hlt := val_lt hw
  by_cases ht : tagW w = 6
  · rw [if_pos ht]
    by_cases h0 : valW w < 0
    · rw [if_pos h0, show readH w = none from by unfold readH; rw [if_neg (by omega)]]
    rw [if_neg h0]
    by_cases h1 : valW w / 8796093022208 = 0
    · have hr : readH w = some (unpackH (valW w)) := by unfold readH; rw [if_pos (by omega)]
      rw [if_pos h1, hr, i64_and3 (by omega) (by omega), i64_and1048575 (by omega) (by omega), i64_and1048575 (by omega) (by omega), i64_and1 (by omega) (by omega)]
      have e3 : valW w / 8388608 % 1048576 = valW w / 8388608 := by omega
      rw [e3]
      unfold unpackH
      by_cases hb : valW w / 4 % 2 = 1
      · simp [hb]
      · simp [hb]
    · rw [if_neg h1, show readH w = none from by unfold readH; rw [if_neg (by omega)]]
  · rw [if_neg ht, show readH w = none from by unfold readH; rw [if_neg (by omega)]]
theorem rread_eq {w : Int} (hw : okW w) : tenementref1_Read.f w = some (readP w) := by
  unfold tenementref1_Read.f readP
  rw [rval_eq hw, rtag_eq hw]
  simp only [Option.bind_some]
  have hlt := val_lt hw
  by_cases ht : tagW w = 6
  · rw [if_pos ht]
    by_cases h0 : valW w < 0
    · rw [if_pos h0, show readH w = none from by unfold readH; rw [if_neg (by omega)]]
    rw [if_neg h0]
    by_cases h1 : valW w ≥ 8796093022208
    · rw [if_pos h1, show readH w = none from by unfold readH; rw [if_neg (by omega)]]
    · have hr : readH w = some (unpackH (valW w)) := by unfold readH; rw [if_pos (by omega)]
      rw [if_neg h1, hr, i64_and3 (by omega) (by omega), i64_and1048575 (by omega) (by omega), i64_bit (by omega) (by omega)]
      unfold unpackH
      by_cases hb : valW w / 4 % 2 = 1
      · simp [hb]
      · have hb0 : valW w / 4 % 2 = 0 := by omega
        simp [hb0]
  · rw [if_neg ht, show readH w = none from by unfold readH; rw [if_neg (by omega)]]
theorem fields_eq (h : Hdr) : word_Fields.f h.kind h.size h.tree h.neg = some (fieldsH h) := by
  unfold word_Fields.f fieldsH
  split <;> first | rfl | (split <;> rfl)
theorem rfields_eq (h : Hdr) : tenementref1_Fields.f h.kind h.size h.tree h.neg = some (fieldsH h) := by
  unfold tenementref1_Fields.f fieldsH
  split <;> first | rfl | (split <;> rfl)
theorem rmake_c (k z t : Int) (n : Bool) (r : Int) (w : World) (h : makeH ⟨k, z, t, n⟩ = r) : Calls Try.prog 32 #[.agg #[.int .i64 k, .int .i64 z, .int .i64 t, .bool n]] w fun e w' => e = .returned (.int .u64 r) ∧ Below w.heap.size w w' := tenementref1_Make.calls 2 k z t n r w (by rw [← h]; exact rmake_eq ⟨k, z, t, n⟩)
theorem read_c (x k z t : Int) (n ok : Bool) (w : World) (hx : okW x) (h : readP x = (k, z, t, n, ok)) : Calls Try.prog 82 #[.int .u64 x] w fun e w' => e = .returned (.tuple #[.agg #[.int .i64 k, .int .i64 z, .int .i64 t, .bool n], .bool ok]) ∧ Below w.heap.size w w' := word_Read.calls x k z t n ok w (by rw [read_eq hx, h])
theorem rread_c (x k z t : Int) (n ok : Bool) (w : World) (hx : okW x) (h : readP x = (k, z, t, n, ok)) : Calls Try.prog 63 #[.int .u64 x] w fun e w' => e = .returned (.tuple #[.agg #[.int .i64 k, .int .i64 z, .int .i64 t, .bool n], .bool ok]) ∧ Below w.heap.size w w' := tenementref1_Read.calls x k z t n ok w (by rw [rread_eq hx, h])
theorem fields_c (k z t : Int) (n : Bool) (r : Int) (w : World) (h : fieldsH ⟨k, z, t, n⟩ = r) : Calls Try.prog 73 #[.agg #[.int .i64 k, .int .i64 z, .int .i64 t, .bool n]] w fun e w' => e = .returned (.int .i64 r) ∧ Below w.heap.size w w' := word_Fields.calls k z t n r w (by rw [← h]; exact fields_eq ⟨k, z, t, n⟩)
theorem rfields_c (k z t : Int) (n : Bool) (r : Int) (w : World) (h : fieldsH ⟨k, z, t, n⟩ = r) : Calls Try.prog 42 #[.agg #[.int .i64 k, .int .i64 z, .int .i64 t, .bool n]] w fun e w' => e = .returned (.int .i64 r) ∧ Below w.heap.size w w' := tenementref1_Fields.calls k z t n r w (by rw [← h]; exact rfields_eq ⟨k, z, t, n⟩)
end Go.Proofs.Ytjiaaefpepdoeaa.Wd

/-
  CONTRACTS: Object of both arenas. No condition but that the arena stands.
-/
namespace Go.Proofs.Ytjiaaefpepdoeaa
open Go.RowKit Md Go.Proofs.YtjiaaefpepdoeaaW.PrintWords
set_option linter.unusedVariables false
theorem objAt_some {ws : List Int} {i : Int} {h : Hdr} (hh : objAt ws i = some h) : ∃ k : Nat, i = k ∧ k < ws.length ∧ readH (ws.getD k 0) = some h ∧ h.size < ws.length - k := by
  unfold objAt at hh
  cases hr : rdAt ws i with
  | none => rw [hr] at hh; cases hh
  | some x =>
    obtain ⟨k, rfl, hk, hx⟩ := rdAt_some hr
    rw [hr] at hh
    simp only at hh
    cases hq : readH x with
    | none => rw [hq] at hh; cases hh
    | some h' =>
      rw [hq] at hh
      simp only at hh
      split at hh
      · rename_i hs; cases hh; exact ⟨k, rfl, hk, by rw [hx, hq], hs⟩
      · cases hh
theorem objAt_none {ws : List Int} {i : Int} (hh : objAt ws i = none) : ¬ (0 ≤ i ∧ i < ws.length) ∨ ∃ k : Nat, i = k ∧ k < ws.length ∧ (readH (ws.getD k 0) = none ∨ ∃ h, readH (ws.getD k 0) = some h ∧ (ws.length : Int) - k ≤ h.size) := by
  unfold objAt at hh
  cases hr : rdAt ws i with
  | none => exact .inl (rdAt_none hr)
  | some x =>
    obtain ⟨k, rfl, hk, hx⟩ := rdAt_some hr
    rw [hr] at hh
    simp only at hh
    refine .inr ⟨k, rfl, hk, ?_⟩
    rw [hx]
    cases hq : readH x with
    | none => exact .inl rfl
    | some h' =>
      rw [hq] at hh
      simp only at hh
      split at hh
      · cases hh
      · rename_i hs; exact .inr ⟨h', rfl, by omega⟩
theorem objAt_of {ws : List Int} {k : Nat} {h : Hdr} (hk : k < ws.length) (hr : readH (ws.getD k 0) = some h) (hs : h.size < (ws.length : Int) - k) : objAt ws k = some h := by
  unfold objAt
  rw [rdAt_of hk]
  simp only [hr]
  rw [if_pos hs]
theorem readH_size {x : Int} {h : Hdr} (hr : readH x = some h) : 0 ≤ h.size ∧ h.size < 1048576 := by
  obtain ⟨h1, h2, h3, h4⟩ := read_some hr
  rw [h4]; unfold unpackH; simp only; omega
set_option maxHeartbeats 1000000 in
theorem obj_some (p : Nat) (v : Value) (ws : List Int) (size i : Int) (h : Hdr) (w : World) (ha : Ar 101 w p v ws size) (hh : objAt ws i = some h) :
    Calls Try.prog 62 #[.pointer (some ⟨p, 0, none⟩), .int .i64 i] w fun e w' => e = .returned (.tuple #[.agg #[.int .i64 h.kind, .int .i64 h.size, .int .i64 h.tree, .bool h.neg], .bool true]) ∧ Fr w w' (fun _ => False) := by
  obtain ⟨k, rfl, hk, hr, hs⟩ := objAt_some hh
  clear hh
  rcases ha.form with ⟨_, rfl⟩ | ⟨g, cap, rfl, hl, hm, hg, hgp, hc, hf⟩
  · simp at hk
  have c0 := ha.c0
  have ck := hc k hk
  have hx := okWs_getD ha.ok k hk
  obtain ⟨x, hxe⟩ : ∃ x, ws.getD k 0 = x := ⟨_, rfl⟩
  rw [hxe] at ck hr hx
  have hrp : Wd.readP x = (h.kind, h.size, h.tree, h.neg, true) := by unfold Wd.readP; rw [hr]
  obtain ⟨hz0, hz1⟩ := readH_size hr
  obtain ⟨hkd, hsz, htr, hng⟩ := h
  simp only at hrp hz0 hz1 hs ⊢
  have HRP := Lib.hid hrp
  have hle := ha.le
  have hmx := ha.mx
  have hpw := ha.lt
  have HX := Lib.hid hx
  have d1 : decide ((k : Int) < 0) = false := decide_eq_false (by omega)
  have d2 : decide ((ws.length : Int) ≤ (k : Int)) = false := decide_eq_false (by omega)
  have d2' : decide (ws.length ≤ k) = false := decide_eq_false (by omega)
  have d3 : decide ((ws.length : Int) - (k : Int) ≤ hsz) = false := decide_eq_false (by omega)
  have hw1 : IntKind.i64.wrap ((ws.length : Int) - (k : Int)) = ws.length - k := by rw [IntKind.wrap_i64]; omega
  have hw3 : wrap64 ((ws.length : Int) - (k : Int)) = ws.length - k := by unfold wrap64; omega
  clear ha hc hf hgp hm hx hrp hr hxe hle
  go_enter Try.func62, Try.ntmps62
  go_wp2_with (first | (go_at_call 82; (with_reducible refine (Wd.read_c x hkd hsz htr hng true _ HX.out HRP.out).mono ?_); rintro e w1 ⟨rfl, hb⟩))
  have c0w := pw_cell_below hb ((World.cell?_alloc_past _ _ _ hpw).trans c0)
  have hpw1 : p < w1.heap.size := World.block_lt_of_cell? w1 _ c0w
  have HB := Lib.hid hb
  clear hb ck c0
  have hbk : w1.heap[w.heap.size]? = some (.cells #[.int .i64 0, .int .i64 0, .int .i64 0, .bool false] 104 (0, 0)) := (HB.out.block w.heap.size (by simp)).trans (by show (w.heap.push _)[w.heap.size]? = _; exact Array.getElem?_push_size)
  have gw1 : w.heap.size < w1.heap.size := (Array.getElem?_eq_some_iff.1 hbk).1
  have fz : ∀ i, w1.frozen? ⟨w.heap.size, i, none⟩ = false := fun i => by simp [World.frozen?, hbk]
  have e0 : w1.cell? ⟨w.heap.size, 0, none⟩ = some (.int .i64 0) := by simp [World.cell?, hbk]
  have e1 : w1.cell? ⟨w.heap.size, 1, none⟩ = some (.int .i64 0) := by simp [World.cell?, hbk]
  have e2 : w1.cell? ⟨w.heap.size, 2, none⟩ = some (.int .i64 0) := by simp [World.cell?, hbk]
  have e3 : w1.cell? ⟨w.heap.size, 3, none⟩ = some (.bool false) := by simp [World.cell?, hbk]
  have HBK := Lib.hid hbk
  clear hbk
  go_quiet (fail)
  go_wp2
  refine bodyPost_ret (results_ct rfl _ _ w.heap.size 104 #[.int .i64 hkd, .int .i64 hsz, .int .i64 htr, .bool hng] (0, 0) _ rfl (by
    refine blk_put (cs := #[.int .i64 hkd, .int .i64 hsz, .int .i64 htr, .bool false]) ?_ 3 _ rfl
    refine blk_put (cs := #[.int .i64 hkd, .int .i64 hsz, .int .i64 0, .bool false]) ?_ 2 _ rfl
    refine blk_put (cs := #[.int .i64 hkd, .int .i64 0, .int .i64 0, .bool false]) ?_ 1 _ rfl
    refine blk_put (cs := #[.int .i64 0, .int .i64 0, .int .i64 0, .bool false]) ?_ 0 _ rfl
    refine blk_drewN ?_ _
    refine blk_alloc ?_ _
    exact HBK.out) Try.underlying104 rfl (by kernel_rfl)) rfl ?_
  exact ⟨rfl, (((((((((Fr.refl w _).alloc _).trans (Fr.of_below HB.out _)).alloc _).drewN _).setCell (fun h => absurd h (Nat.lt_irrefl _)) _).setCell (fun h => absurd h (Nat.lt_irrefl _)) _).setCell (fun h => absurd h (Nat.lt_irrefl _)) _).setCell (fun h => absurd h (Nat.lt_irrefl _)) _)⟩
set_option maxHeartbeats 1000000 in
theorem obj_far (p : Nat) (v : Value) (ws : List Int) (size i : Int) (w : World) (ha : Ar 101 w p v ws size) (hh : ¬ (0 ≤ i ∧ i < ws.length)) :
    Calls Try.prog 62 #[.pointer (some ⟨p, 0, none⟩), .int .i64 i] w fun e w' => e = .returned (.tuple #[.agg #[.int .i64 0, .int .i64 0, .int .i64 0, .bool false], .bool false]) ∧ Fr w w' (fun _ => False) := by
  obtain ⟨A, cap, rfl⟩ := ha.val
  have c0 := ha.c0
  have hpw := ha.lt
  clear ha
  have key : decide (i < 0) = true ∨ (decide (i < 0) = false ∧ decide ((ws.length : Int) ≤ i) = true) := by
    by_cases h0 : i < 0
    · exact .inl (decide_eq_true h0)
    · exact .inr ⟨decide_eq_false h0, decide_eq_true (by omega)⟩
  clear hh
  have hbk : (w.alloc (.cells #[.int .i64 0, .int .i64 0, .int .i64 0, .bool false] 104)).heap[w.heap.size]? = some (.cells #[.int .i64 0, .int .i64 0, .int .i64 0, .bool false] 104 (0, 0)) := by show (w.heap.push _)[w.heap.size]? = _; exact Array.getElem?_push_size
  have HBK := Lib.hid hbk
  clear hbk
  rcases key with d1 | ⟨d1, d2⟩
  · go_enter Try.func62, Try.ntmps62
    go_wp2
    refine bodyPost_ret (results_ct rfl _ _ w.heap.size 104 #[.int .i64 0, .int .i64 0, .int .i64 0, .bool false] (0, 0) _ rfl HBK.out Try.underlying104 rfl (by kernel_rfl)) rfl ?_
    exact ⟨rfl, (Fr.refl w _).alloc _⟩
  · go_enter Try.func62, Try.ntmps62
    go_wp2
    refine bodyPost_ret (results_ct rfl _ _ w.heap.size 104 #[.int .i64 0, .int .i64 0, .int .i64 0, .bool false] (0, 0) _ rfl HBK.out Try.underlying104 rfl (by kernel_rfl)) rfl ?_
    exact ⟨rfl, (Fr.refl w _).alloc _⟩
set_option maxHeartbeats 1000000 in
theorem obj_bad (p : Nat) (v : Value) (ws : List Int) (size : Int) (k : Nat) (w : World) (ha : Ar 101 w p v ws size) (hk : k < ws.length) (hr : readH (ws.getD k 0) = none) :
    Calls Try.prog 62 #[.pointer (some ⟨p, 0, none⟩), .int .i64 k] w fun e w' => e = .returned (.tuple #[.agg #[.int .i64 0, .int .i64 0, .int .i64 0, .bool false], .bool false]) ∧ Fr w w' (fun _ => False) := by
  rcases ha.form with ⟨_, rfl⟩ | ⟨g, cap, rfl, hl, hm, hg, hgp, hc, hf⟩
  · simp at hk
  have c0 := ha.c0
  have ck := hc k hk
  have hx := okWs_getD ha.ok k hk
  obtain ⟨x, hxe⟩ : ∃ x, ws.getD k 0 = x := ⟨_, rfl⟩
  rw [hxe] at ck hr hx
  have hrp : Wd.readP x = (0, 0, 0, false, false) := by unfold Wd.readP; rw [hr]
  have HRP := Lib.hid hrp
  have hle := ha.le
  have hmx := ha.mx
  have hpw := ha.lt
  have HX := Lib.hid hx
  have d1 : decide ((k : Int) < 0) = false := decide_eq_false (by omega)
  have d2 : decide ((ws.length : Int) ≤ (k : Int)) = false := decide_eq_false (by omega)
  have d2' : decide (ws.length ≤ k) = false := decide_eq_false (by omega)
  clear ha hc hf hgp hm hx hrp hr hxe hle
  go_enter Try.func62, Try.ntmps62
  go_wp2_with (first | (go_at_call 82; (with_reducible refine (Wd.read_c x 0 0 0 false false _ HX.out HRP.out).mono ?_); rintro e w1 ⟨rfl, hb⟩))
  have c0w := pw_cell_below hb ((World.cell?_alloc_past _ _ _ hpw).trans c0)
  have hpw1 : p < w1.heap.size := World.block_lt_of_cell? w1 _ c0w
  have HB := Lib.hid hb
  clear hb ck c0
  have hbk : w1.heap[w.heap.size]? = some (.cells #[.int .i64 0, .int .i64 0, .int .i64 0, .bool false] 104 (0, 0)) := (HB.out.block w.heap.size (by simp)).trans (by show (w.heap.push _)[w.heap.size]? = _; exact Array.getElem?_push_size)
  have gw1 : w.heap.size < w1.heap.size := (Array.getElem?_eq_some_iff.1 hbk).1
  have fz : ∀ i, w1.frozen? ⟨w.heap.size, i, none⟩ = false := fun i => by simp [World.frozen?, hbk]
  have e0 : w1.cell? ⟨w.heap.size, 0, none⟩ = some (.int .i64 0) := by simp [World.cell?, hbk]
  have e1 : w1.cell? ⟨w.heap.size, 1, none⟩ = some (.int .i64 0) := by simp [World.cell?, hbk]
  have e2 : w1.cell? ⟨w.heap.size, 2, none⟩ = some (.int .i64 0) := by simp [World.cell?, hbk]
  have e3 : w1.cell? ⟨w.heap.size, 3, none⟩ = some (.bool false) := by simp [World.cell?, hbk]
  have HBK := Lib.hid hbk
  clear hbk
  go_quiet (fail)
  go_wp2
  refine bodyPost_ret (results_ct rfl _ _ w.heap.size 104 #[.int .i64 0, .int .i64 0, .int .i64 0, .bool false] (0, 0) _ rfl (by
    refine blk_put (cs := #[.int .i64 0, .int .i64 0, .int .i64 0, .bool false]) ?_ 3 _ rfl
    refine blk_put (cs := #[.int .i64 0, .int .i64 0, .int .i64 0, .bool false]) ?_ 2 _ rfl
    refine blk_put (cs := #[.int .i64 0, .int .i64 0, .int .i64 0, .bool false]) ?_ 1 _ rfl
    refine blk_put (cs := #[.int .i64 0, .int .i64 0, .int .i64 0, .bool false]) ?_ 0 _ rfl
    refine blk_drewN ?_ _
    refine blk_alloc ?_ _
    exact HBK.out) Try.underlying104 rfl (by kernel_rfl)) rfl ?_
  exact ⟨rfl, (((((((((Fr.refl w _).alloc _).trans (Fr.of_below HB.out _)).alloc _).drewN _).setCell (fun h => absurd h (Nat.lt_irrefl _)) _).setCell (fun h => absurd h (Nat.lt_irrefl _)) _).setCell (fun h => absurd h (Nat.lt_irrefl _)) _).setCell (fun h => absurd h (Nat.lt_irrefl _)) _)⟩
set_option maxHeartbeats 1000000 in
theorem obj_long (p : Nat) (v : Value) (ws : List Int) (size : Int) (k : Nat) (h : Hdr) (w : World) (ha : Ar 101 w p v ws size) (hk : k < ws.length) (hr : readH (ws.getD k 0) = some h) (hs : (ws.length : Int) - k ≤ h.size) :
    Calls Try.prog 62 #[.pointer (some ⟨p, 0, none⟩), .int .i64 k] w fun e w' => e = .returned (.tuple #[.agg #[.int .i64 0, .int .i64 0, .int .i64 0, .bool false], .bool false]) ∧ Fr w w' (fun _ => False) := by
  rcases ha.form with ⟨_, rfl⟩ | ⟨g, cap, rfl, hl, hm, hg, hgp, hc, hf⟩
  · simp at hk
  have c0 := ha.c0
  have ck := hc k hk
  have hx := okWs_getD ha.ok k hk
  obtain ⟨x, hxe⟩ : ∃ x, ws.getD k 0 = x := ⟨_, rfl⟩
  rw [hxe] at ck hr hx
  have hrp : Wd.readP x = (h.kind, h.size, h.tree, h.neg, true) := by unfold Wd.readP; rw [hr]
  obtain ⟨hz0, hz1⟩ := readH_size hr
  obtain ⟨hkd, hsz, htr, hng⟩ := h
  simp only at hrp hz0 hz1 hs ⊢
  have HRP := Lib.hid hrp
  have hle := ha.le
  have hmx := ha.mx
  have hpw := ha.lt
  have HX := Lib.hid hx
  have d1 : decide ((k : Int) < 0) = false := decide_eq_false (by omega)
  have d2 : decide ((ws.length : Int) ≤ (k : Int)) = false := decide_eq_false (by omega)
  have d2' : decide (ws.length ≤ k) = false := decide_eq_false (by omega)
  have d3 : decide ((ws.length : Int) - (k : Int) ≤ hsz) = true := decide_eq_true (by omega)
  have hw1 : IntKind.i64.wrap ((ws.length : Int) - (k : Int)) = ws.length - k := by rw [IntKind.wrap_i64]; omega
  have hw3 : wrap64 ((ws.length : Int) - (k : Int)) = ws.length - k := by unfold wrap64; omega
  clear ha hc hf hgp hm hx hrp hr hxe hle
  go_enter Try.func62, Try.ntmps62
  go_wp2_with (first | (go_at_call 82; (with_reducible refine (Wd.read_c x hkd hsz htr hng true _ HX.out HRP.out).mono ?_); rintro e w1 ⟨rfl, hb⟩))
  have c0w := pw_cell_below hb ((World.cell?_alloc_past _ _ _ hpw).trans c0)
  have hpw1 : p < w1.heap.size := World.block_lt_of_cell? w1 _ c0w
  have HB := Lib.hid hb
  clear hb ck c0
  have hbk : w1.heap[w.heap.size]? = some (.cells #[.int .i64 0, .int .i64 0, .int .i64 0, .bool false] 104 (0, 0)) := (HB.out.block w.heap.size (by simp)).trans (by show (w.heap.push _)[w.heap.size]? = _; exact Array.getElem?_push_size)
  have gw1 : w.heap.size < w1.heap.size := (Array.getElem?_eq_some_iff.1 hbk).1
  have fz : ∀ i, w1.frozen? ⟨w.heap.size, i, none⟩ = false := fun i => by simp [World.frozen?, hbk]
  have e0 : w1.cell? ⟨w.heap.size, 0, none⟩ = some (.int .i64 0) := by simp [World.cell?, hbk]
  have e1 : w1.cell? ⟨w.heap.size, 1, none⟩ = some (.int .i64 0) := by simp [World.cell?, hbk]
  have e2 : w1.cell? ⟨w.heap.size, 2, none⟩ = some (.int .i64 0) := by simp [World.cell?, hbk]
  have e3 : w1.cell? ⟨w.heap.size, 3, none⟩ = some (.bool false) := by simp [World.cell?, hbk]
  have HBK := Lib.hid hbk
  clear hbk
  go_quiet (fail)
  go_wp2
  refine bodyPost_ret (results_ct rfl _ _ w.heap.size 104 #[.int .i64 0, .int .i64 0, .int .i64 0, .bool false] (0, 0) _ rfl (by
    refine blk_put (cs := #[.int .i64 0, .int .i64 0, .int .i64 0, .bool false]) ?_ 3 _ rfl
    refine blk_put (cs := #[.int .i64 0, .int .i64 0, .int .i64 0, .bool false]) ?_ 2 _ rfl
    refine blk_put (cs := #[.int .i64 0, .int .i64 0, .int .i64 0, .bool false]) ?_ 1 _ rfl
    refine blk_put (cs := #[.int .i64 0, .int .i64 0, .int .i64 0, .bool false]) ?_ 0 _ rfl
    refine blk_drewN ?_ _
    refine blk_alloc ?_ _
    exact HBK.out) Try.underlying104 rfl (by kernel_rfl)) rfl ?_
  exact ⟨rfl, (((((((((Fr.refl w _).alloc _).trans (Fr.of_below HB.out _)).alloc _).drewN _).setCell (fun h => absurd h (Nat.lt_irrefl _)) _).setCell (fun h => absurd h (Nat.lt_irrefl _)) _).setCell (fun h => absurd h (Nat.lt_irrefl _)) _).setCell (fun h => absurd h (Nat.lt_irrefl _)) _)⟩
theorem obj_none (p : Nat) (v : Value) (ws : List Int) (size i : Int) (w : World) (ha : Ar 101 w p v ws size) (hh : objAt ws i = none) :
    Calls Try.prog 62 #[.pointer (some ⟨p, 0, none⟩), .int .i64 i] w fun e w' => e = .returned (.tuple #[.agg #[.int .i64 0, .int .i64 0, .int .i64 0, .bool false], .bool false]) ∧ Fr w w' (fun _ => False) := by
  rcases objAt_none hh with h | ⟨k, rfl, hk, h | ⟨hd, h, hs⟩⟩
  · exact obj_far p v ws size i w ha h
  · exact obj_bad p v ws size k w ha hk h
  · exact obj_long p v ws size k hd w ha hk h hs
set_option maxHeartbeats 1000000 in
theorem mobj_some (p : Nat) (v : Value) (ws : List Int) (size i : Int) (h : Hdr) (w : World) (ha : Ar 41 w p v ws size) (hh : objAt ws i = some h) :
    Calls Try.prog 41 #[.pointer (some ⟨p, 0, none⟩), .int .i64 i] w fun e w' => e = .returned (.tuple #[.agg #[.int .i64 h.kind, .int .i64 h.size, .int .i64 h.tree, .bool h.neg], .bool true]) ∧ Fr w w' (fun _ => False) := by
  obtain ⟨k, rfl, hk, hr, hs⟩ := objAt_some hh
  clear hh
  rcases ha.form with ⟨_, rfl⟩ | ⟨g, cap, rfl, hl, hm, hg, hgp, hc, hf⟩
  · simp at hk
  have c0 := ha.c0
  have ck := hc k hk
  have hx := okWs_getD ha.ok k hk
  obtain ⟨x, hxe⟩ : ∃ x, ws.getD k 0 = x := ⟨_, rfl⟩
  rw [hxe] at ck hr hx
  have hrp : Wd.readP x = (h.kind, h.size, h.tree, h.neg, true) := by unfold Wd.readP; rw [hr]
  obtain ⟨hz0, hz1⟩ := readH_size hr
  obtain ⟨hkd, hsz, htr, hng⟩ := h
  simp only at hrp hz0 hz1 hs ⊢
  have HRP := Lib.hid hrp
  have hle := ha.le
  have hmx := ha.mx
  have hpw := ha.lt
  have HX := Lib.hid hx
  have d1 : decide ((k : Int) < 0) = false := decide_eq_false (by omega)
  have d2 : decide ((ws.length : Int) ≤ (k : Int)) = false := decide_eq_false (by omega)
  have d2' : decide (ws.length ≤ k) = false := decide_eq_false (by omega)
  have d3 : decide ((ws.length : Int) - (k : Int) - 1 < hsz) = false := decide_eq_false (by omega)
  have hw2 : IntKind.i64.wrap ((ws.length : Int) - (k : Int) - 1) = ws.length - k - 1 := by rw [IntKind.wrap_i64]; omega
  have hw4 : wrap64 ((ws.length : Int) - (k : Int) - 1) = ws.length - k - 1 := by unfold wrap64; omega
  have hw1 : IntKind.i64.wrap ((ws.length : Int) - (k : Int)) = ws.length - k := by rw [IntKind.wrap_i64]; omega
  have hw3 : wrap64 ((ws.length : Int) - (k : Int)) = ws.length - k := by unfold wrap64; omega
  clear ha hc hf hgp hm hx hrp hr hxe hle
  go_enter Try.func41, Try.ntmps41
  go_wp2_with (first | (go_at_call 63; (with_reducible refine (Wd.rread_c x hkd hsz htr hng true _ HX.out HRP.out).mono ?_); rintro e w1 ⟨rfl, hb⟩))
  have c0w := pw_cell_below hb ((World.cell?_alloc_past _ _ _ hpw).trans c0)
  have hpw1 : p < w1.heap.size := World.block_lt_of_cell? w1 _ c0w
  have HB := Lib.hid hb
  clear hb ck c0
  have hbk : w1.heap[w.heap.size]? = some (.cells #[.int .i64 0, .int .i64 0, .int .i64 0, .bool false] 50 (0, 0)) := (HB.out.block w.heap.size (by simp)).trans (by show (w.heap.push _)[w.heap.size]? = _; exact Array.getElem?_push_size)
  have gw1 : w.heap.size < w1.heap.size := (Array.getElem?_eq_some_iff.1 hbk).1
  have fz : ∀ i, w1.frozen? ⟨w.heap.size, i, none⟩ = false := fun i => by simp [World.frozen?, hbk]
  have e0 : w1.cell? ⟨w.heap.size, 0, none⟩ = some (.int .i64 0) := by simp [World.cell?, hbk]
  have e1 : w1.cell? ⟨w.heap.size, 1, none⟩ = some (.int .i64 0) := by simp [World.cell?, hbk]
  have e2 : w1.cell? ⟨w.heap.size, 2, none⟩ = some (.int .i64 0) := by simp [World.cell?, hbk]
  have e3 : w1.cell? ⟨w.heap.size, 3, none⟩ = some (.bool false) := by simp [World.cell?, hbk]
  have HBK := Lib.hid hbk
  clear hbk
  go_quiet (fail)
  go_wp2
  refine bodyPost_ret (results_ct rfl _ _ w.heap.size 50 #[.int .i64 hkd, .int .i64 hsz, .int .i64 htr, .bool hng] (0, 0) _ rfl (by
    refine blk_put (cs := #[.int .i64 hkd, .int .i64 hsz, .int .i64 htr, .bool false]) ?_ 3 _ rfl
    refine blk_put (cs := #[.int .i64 hkd, .int .i64 hsz, .int .i64 0, .bool false]) ?_ 2 _ rfl
    refine blk_put (cs := #[.int .i64 hkd, .int .i64 0, .int .i64 0, .bool false]) ?_ 1 _ rfl
    refine blk_put (cs := #[.int .i64 0, .int .i64 0, .int .i64 0, .bool false]) ?_ 0 _ rfl
    refine blk_drewN ?_ _
    refine blk_alloc ?_ _
    exact HBK.out) Try.underlying50 rfl (by kernel_rfl)) rfl ?_
  exact ⟨rfl, (((((((((Fr.refl w _).alloc _).trans (Fr.of_below HB.out _)).alloc _).drewN _).setCell (fun h => absurd h (Nat.lt_irrefl _)) _).setCell (fun h => absurd h (Nat.lt_irrefl _)) _).setCell (fun h => absurd h (Nat.lt_irrefl _)) _).setCell (fun h => absurd h (Nat.lt_irrefl _)) _)⟩
set_option maxHeartbeats 1000000 in
theorem mobj_far (p : Nat) (v : Value) (ws : List Int) (size i : Int) (w : World) (ha : Ar 41 w p v ws size) (hh : ¬ (0 ≤ i ∧ i < ws.length)) :
    Calls Try.prog 41 #[.pointer (some ⟨p, 0, none⟩), .int .i64 i] w fun e w' => e = .returned (.tuple #[.agg #[.int .i64 0, .int .i64 0, .int .i64 0, .bool false], .bool false]) ∧ Fr w w' (fun _ => False) := by
  obtain ⟨A, cap, rfl⟩ := ha.val
  have c0 := ha.c0
  have hpw := ha.lt
  clear ha
  have key : decide (i < 0) = true ∨ (decide (i < 0) = false ∧ decide ((ws.length : Int) ≤ i) = true) := by
    by_cases h0 : i < 0
    · exact .inl (decide_eq_true h0)
    · exact .inr ⟨decide_eq_false h0, decide_eq_true (by omega)⟩
  clear hh
  have hbk : (w.alloc (.cells #[.int .i64 0, .int .i64 0, .int .i64 0, .bool false] 50)).heap[w.heap.size]? = some (.cells #[.int .i64 0, .int .i64 0, .int .i64 0, .bool false] 50 (0, 0)) := by show (w.heap.push _)[w.heap.size]? = _; exact Array.getElem?_push_size
  have HBK := Lib.hid hbk
  clear hbk
  rcases key with d1 | ⟨d1, d2⟩
  · go_enter Try.func41, Try.ntmps41
    go_wp2
    refine bodyPost_ret (results_ct rfl _ _ w.heap.size 50 #[.int .i64 0, .int .i64 0, .int .i64 0, .bool false] (0, 0) _ rfl HBK.out Try.underlying50 rfl (by kernel_rfl)) rfl ?_
    exact ⟨rfl, (Fr.refl w _).alloc _⟩
  · go_enter Try.func41, Try.ntmps41
    go_wp2
    refine bodyPost_ret (results_ct rfl _ _ w.heap.size 50 #[.int .i64 0, .int .i64 0, .int .i64 0, .bool false] (0, 0) _ rfl HBK.out Try.underlying50 rfl (by kernel_rfl)) rfl ?_
    exact ⟨rfl, (Fr.refl w _).alloc _⟩
set_option maxHeartbeats 1000000 in
theorem mobj_bad (p : Nat) (v : Value) (ws : List Int) (size : Int) (k : Nat) (w : World) (ha : Ar 41 w p v ws size) (hk : k < ws.length) (hr : readH (ws.getD k 0) = none) :
    Calls Try.prog 41 #[.pointer (some ⟨p, 0, none⟩), .int .i64 k] w fun e w' => e = .returned (.tuple #[.agg #[.int .i64 0, .int .i64 0, .int .i64 0, .bool false], .bool false]) ∧ Fr w w' (fun _ => False) := by
  rcases ha.form with ⟨_, rfl⟩ | ⟨g, cap, rfl, hl, hm, hg, hgp, hc, hf⟩
  · simp at hk
  have c0 := ha.c0
  have ck := hc k hk
  have hx := okWs_getD ha.ok k hk
  obtain ⟨x, hxe⟩ : ∃ x, ws.getD k 0 = x := ⟨_, rfl⟩
  rw [hxe] at ck hr hx
  have hrp : Wd.readP x = (0, 0, 0, false, false) := by unfold Wd.readP; rw [hr]
  have HRP := Lib.hid hrp
  have hle := ha.le
  have hmx := ha.mx
  have hpw := ha.lt
  have HX := Lib.hid hx
  have d1 : decide ((k : Int) < 0) = false := decide_eq_false (by omega)
  have d2 : decide ((ws.length : Int) ≤ (k : Int)) = false := decide_eq_false (by omega)
  have d2' : decide (ws.length ≤ k) = false := decide_eq_false (by omega)
  clear ha hc hf hgp hm hx hrp hr hxe hle
  go_enter Try.func41, Try.ntmps41
  go_wp2_with (first | (go_at_call 63; (with_reducible refine (Wd.rread_c x 0 0 0 false false _ HX.out HRP.out).mono ?_); rintro e w1 ⟨rfl, hb⟩))
  have c0w := pw_cell_below hb ((World.cell?_alloc_past _ _ _ hpw).trans c0)
  have hpw1 : p < w1.heap.size := World.block_lt_of_cell? w1 _ c0w
  have HB := Lib.hid hb
  clear hb ck c0
  have hbk : w1.heap[w.heap.size]? = some (.cells #[.int .i64 0, .int .i64 0, .int .i64 0, .bool false] 50 (0, 0)) := (HB.out.block w.heap.size (by simp)).trans (by show (w.heap.push _)[w.heap.size]? = _; exact Array.getElem?_push_size)
  have gw1 : w.heap.size < w1.heap.size := (Array.getElem?_eq_some_iff.1 hbk).1
  have fz : ∀ i, w1.frozen? ⟨w.heap.size, i, none⟩ = false := fun i => by simp [World.frozen?, hbk]
  have e0 : w1.cell? ⟨w.heap.size, 0, none⟩ = some (.int .i64 0) := by simp [World.cell?, hbk]
  have e1 : w1.cell? ⟨w.heap.size, 1, none⟩ = some (.int .i64 0) := by simp [World.cell?, hbk]
  have e2 : w1.cell? ⟨w.heap.size, 2, none⟩ = some (.int .i64 0) := by simp [World.cell?, hbk]
  have e3 : w1.cell? ⟨w.heap.size, 3, none⟩ = some (.bool false) := by simp [World.cell?, hbk]
  have HBK := Lib.hid hbk
  clear hbk
  go_quiet (fail)
  go_wp2
  refine bodyPost_ret (results_ct rfl _ _ w.heap.size 50 #[.int .i64 0, .int .i64 0, .int .i64 0, .bool false] (0, 0) _ rfl (by
    refine blk_put (cs := #[.int .i64 0, .int .i64 0, .int .i64 0, .bool false]) ?_ 3 _ rfl
    refine blk_put (cs := #[.int .i64 0, .int .i64 0, .int .i64 0, .bool false]) ?_ 2 _ rfl
    refine blk_put (cs := #[.int .i64 0, .int .i64 0, .int .i64 0, .bool false]) ?_ 1 _ rfl
    refine blk_put (cs := #[.int .i64 0, .int .i64 0, .int .i64 0, .bool false]) ?_ 0 _ rfl
    refine blk_drewN ?_ _
    refine blk_alloc ?_ _
    exact HBK.out) Try.underlying50 rfl (by kernel_rfl)) rfl ?_
  exact ⟨rfl, (((((((((Fr.refl w _).alloc _).trans (Fr.of_below HB.out _)).alloc _).drewN _).setCell (fun h => absurd h (Nat.lt_irrefl _)) _).setCell (fun h => absurd h (Nat.lt_irrefl _)) _).setCell (fun h => absurd h (Nat.lt_irrefl _)) _).setCell (fun h => absurd h (Nat.lt_irrefl _)) _)⟩
set_option maxHeartbeats 1000000 in
theorem mobj_long (p : Nat) (v : Value) (ws : List Int) (size : Int) (k : Nat) (h : Hdr) (w : World) (ha : Ar 41 w p v ws size) (hk : k < ws.length) (hr : readH (ws.getD k 0) = some h) (hs : (ws.length : Int) - k ≤ h.size) :
    Calls Try.prog 41 #[.pointer (some ⟨p, 0, none⟩), .int .i64 k] w fun e w' => e = .returned (.tuple #[.agg #[.int .i64 0, .int .i64 0, .int .i64 0, .bool false], .bool false]) ∧ Fr w w' (fun _ => False) := by
  rcases ha.form with ⟨_, rfl⟩ | ⟨g, cap, rfl, hl, hm, hg, hgp, hc, hf⟩
  · simp at hk
  have c0 := ha.c0
  have ck := hc k hk
  have hx := okWs_getD ha.ok k hk
  obtain ⟨x, hxe⟩ : ∃ x, ws.getD k 0 = x := ⟨_, rfl⟩
  rw [hxe] at ck hr hx
  have hrp : Wd.readP x = (h.kind, h.size, h.tree, h.neg, true) := by unfold Wd.readP; rw [hr]
  obtain ⟨hz0, hz1⟩ := readH_size hr
  obtain ⟨hkd, hsz, htr, hng⟩ := h
  simp only at hrp hz0 hz1 hs ⊢
  have HRP := Lib.hid hrp
  have hle := ha.le
  have hmx := ha.mx
  have hpw := ha.lt
  have HX := Lib.hid hx
  have d1 : decide ((k : Int) < 0) = false := decide_eq_false (by omega)
  have d2 : decide ((ws.length : Int) ≤ (k : Int)) = false := decide_eq_false (by omega)
  have d2' : decide (ws.length ≤ k) = false := decide_eq_false (by omega)
  have d3 : decide ((ws.length : Int) - (k : Int) - 1 < hsz) = true := decide_eq_true (by omega)
  have hw2 : IntKind.i64.wrap ((ws.length : Int) - (k : Int) - 1) = ws.length - k - 1 := by rw [IntKind.wrap_i64]; omega
  have hw4 : wrap64 ((ws.length : Int) - (k : Int) - 1) = ws.length - k - 1 := by unfold wrap64; omega
  have hw1 : IntKind.i64.wrap ((ws.length : Int) - (k : Int)) = ws.length - k := by rw [IntKind.wrap_i64]; omega
  have hw3 : wrap64 ((ws.length : Int) - (k : Int)) = ws.length - k := by unfold wrap64; omega
  clear ha hc hf hgp hm hx hrp hr hxe hle
  go_enter Try.func41, Try.ntmps41
  go_wp2_with (first | (go_at_call 63; (with_reducible refine (Wd.rread_c x hkd hsz htr hng true _ HX.out HRP.out).mono ?_); rintro e w1 ⟨rfl, hb⟩))
  have c0w := pw_cell_below hb ((World.cell?_alloc_past _ _ _ hpw).trans c0)
  have hpw1 : p < w1.heap.size := World.block_lt_of_cell? w1 _ c0w
  have HB := Lib.hid hb
  clear hb ck c0
  have hbk : w1.heap[w.heap.size]? = some (.cells #[.int .i64 0, .int .i64 0, .int .i64 0, .bool false] 50 (0, 0)) := (HB.out.block w.heap.size (by simp)).trans (by show (w.heap.push _)[w.heap.size]? = _; exact Array.getElem?_push_size)
  have gw1 : w.heap.size < w1.heap.size := (Array.getElem?_eq_some_iff.1 hbk).1
  have fz : ∀ i, w1.frozen? ⟨w.heap.size, i, none⟩ = false := fun i => by simp [World.frozen?, hbk]
  have e0 : w1.cell? ⟨w.heap.size, 0, none⟩ = some (.int .i64 0) := by simp [World.cell?, hbk]
  have e1 : w1.cell? ⟨w.heap.size, 1, none⟩ = some (.int .i64 0) := by simp [World.cell?, hbk]
  have e2 : w1.cell? ⟨w.heap.size, 2, none⟩ = some (.int .i64 0) := by simp [World.cell?, hbk]
  have e3 : w1.cell? ⟨w.heap.size, 3, none⟩ = some (.bool false) := by simp [World.cell?, hbk]
  have HBK := Lib.hid hbk
  clear hbk
  go_quiet (fail)
  go_wp2
  refine bodyPost_ret (results_ct rfl _ _ w.heap.size 50 #[.int .i64 0, .int .i64 0, .int .i64 0, .bool false] (0, 0) _ rfl (by
    refine blk_put (cs := #[.int .i64 0, .int .i64 0, .int .i64 0, .bool false]) ?_ 3 _ rfl
    refine blk_put (cs := #[.int .i64 0, .int .i64 0, .int .i64 0, .bool false]) ?_ 2 _ rfl
    refine blk_put (cs := #[.int .i64 0, .int .i64 0, .int .i64 0, .bool false]) ?_ 1 _ rfl
    refine blk_put (cs := #[.int .i64 0, .int .i64 0, .int .i64 0, .bool false]) ?_ 0 _ rfl
    refine blk_drewN ?_ _
    refine blk_alloc ?_ _
    exact HBK.out) Try.underlying50 rfl (by kernel_rfl)) rfl ?_
  exact ⟨rfl, (((((((((Fr.refl w _).alloc _).trans (Fr.of_below HB.out _)).alloc _).drewN _).setCell (fun h => absurd h (Nat.lt_irrefl _)) _).setCell (fun h => absurd h (Nat.lt_irrefl _)) _).setCell (fun h => absurd h (Nat.lt_irrefl _)) _).setCell (fun h => absurd h (Nat.lt_irrefl _)) _)⟩
theorem mobj_none (p : Nat) (v : Value) (ws : List Int) (size i : Int) (w : World) (ha : Ar 41 w p v ws size) (hh : objAt ws i = none) :
    Calls Try.prog 41 #[.pointer (some ⟨p, 0, none⟩), .int .i64 i] w fun e w' => e = .returned (.tuple #[.agg #[.int .i64 0, .int .i64 0, .int .i64 0, .bool false], .bool false]) ∧ Fr w w' (fun _ => False) := by
  rcases objAt_none hh with h | ⟨k, rfl, hk, h | ⟨hd, h, hs⟩⟩
  · exact mobj_far p v ws size i w ha h
  · exact mobj_bad p v ws size k w ha hk h
  · exact mobj_long p v ws size k hd w ha hk h hs
end Go.Proofs.Ytjiaaefpepdoeaa

/-
  CONTRACT: Objects of the arena. No condition but that the arena stands.
-/
namespace Go.Proofs.Ytjiaaefpepdoeaa
open Go.RowKit Md Go.Proofs.YtjiaaefpepdoeaaW.PrintWords
set_option linter.unusedVariables false
theorem blk_new (w : World) (c : Array Value) (T : TypeId) : (w.alloc (.cells c T)).heap[w.heap.size]? = some (.cells c T (0, 0)) := by
  show (w.heap.push _)[w.heap.size]? = _
  exact Array.getElem?_push_size
def iw (l : List Int) : List Value := l.map (Value.int .i64)
theorem intInfo : (Try.prog.info? 3).map (fun i => (i.zero, i.size, i.bytes)) = some (some (.int .i64 0), 1, 8) := by kernel_rfl
/-- The state of the rounds: what was found, where to go on. -/
structure OI (T : TypeId) (w W : World) (p : Nat) (v : Value) (ws : List Int) (size : Int) (g : Nat) (u : Value) (acc : List Int) (a : Int) : Prop where
  ar : Ar T W p v ws size
  fr : Fr w W (fun _ => False)
  own : Own W 3 u (iw acc)
  inn : ∀ k, InBlk u k → w.heap.size ≤ k
  eq : objs ws = (objsFrom ws g a).map (acc ++ ·)
  le : 0 ≤ a
  le2 : a ≤ ws.length
  ac : (acc.length : Int) ≤ a
  ag : (ws.length : Int) ≤ a + g
theorem objsFrom_end {ws : List Int} {g : Nat} {a : Int} (h : ¬ a < ws.length) : objsFrom ws g a = some [] := by
  cases g <;> simp [objsFrom, h]
theorem objsFrom_none {ws : List Int} {g : Nat} {a : Int} (h : a < ws.length) (ho : objAt ws a = none) : objsFrom ws g a = none := by
  cases g <;> simp [objsFrom, h, ho]
theorem objsFrom_step {ws : List Int} {g : Nat} {a : Int} {h : Hdr} (hl : a < ws.length) (ho : objAt ws a = some h) : objsFrom ws (g + 1) a = (objsFrom ws g (a + 1 + h.size)).map (a :: ·) := by
  simp [objsFrom, hl, ho]
theorem objsFrom_step2 {ws : List Int} {g : Nat} {a k z t : Int} {n : Bool} (hl : a < ws.length) (ho : objAt ws a = some ⟨k, z, t, n⟩) (acc : List Int) : (objsFrom ws (g + 1) a).map (acc ++ ·) = (objsFrom ws g (a + (1 + z))).map ((acc ++ [a]) ++ ·) := by
  rw [objsFrom_step hl ho, Option.map_map, ← Int.add_assoc]
  congr 1
  funext x
  simp
theorem iw_append (a b : List Int) : iw (a ++ b) = iw a ++ iw b := by simp [iw]
theorem OI.frm {T : TypeId} {w W W1 : World} {p : Nat} {v : Value} {ws : List Int} {size : Int} {g : Nat} {u : Value} {acc : List Int} {a : Int} (h : OI T w W p v ws size g u acc a) (hf : Fr W W1 fun _ => False) : OI T w W1 p v ws size g u acc a :=
  ⟨h.ar.fr hf, h.fr.trans hf, h.own.keep hf (fun _ _ h => h), h.inn, h.eq, h.le, h.le2, h.ac, h.ag⟩
theorem OI.step {T TH : TypeId} {w W2 : World} {p D gk : Nat} {v u : Value} {ws acc : List Int} {size a kd z t : Int} {n : Bool} (hI2 : OI T w W2 p v ws size gk u acc a) (hT : T ≠ 3) (hTH : TH ≠ 3)
    (hal : a < ws.length) (hob : objAt ws a = some ⟨kd, z, t, n⟩)
    (hdb : W2.heap[D]? = some (.cells #[.int .i64 kd, .int .i64 z, .int .i64 t, .bool n] TH (0, 0))) :
    ∃ v' w1, (Builtin.append_ #[51, 51] 51 #[u, .slice (some ⟨W2.heap.size, 0, none⟩) 1 1]).run Try.prog (W2.alloc (.cells #[.int .i64 a] 3)) = .ok v' w1 ∧
      OI T w w1 p v ws size (gk - 1) v' (acc ++ [a]) (a + (1 + z)) ∧ w1.cell? ⟨D, 1, none⟩ = some (.int .i64 z) ∧ gk - 1 < gk := by
  have hmx := hI2.ar.mx
  have hle := hI2.ar.le
  have h2z : 0 ≤ z ∧ a + 1 + z ≤ ws.length := by
    obtain ⟨k, rfl, hk, hr, hz⟩ := objAt_some hob
    have := readH_size hr
    simp only at this hz
    omega
  obtain ⟨i0, hi, hz0, hz1, hzb⟩ := info_parts intInfo
  have hf3 : Fr W2 (W2.alloc (.cells #[.int .i64 a] 3)) (fun _ => False) := (Fr.refl _ _).alloc _
  have hone : Rd (W2.alloc (.cells #[.int .i64 a] 3)) (.slice (some ⟨W2.heap.size, 0, none⟩) 1 1) (iw [a]) := .inr ⟨W2.heap.size, 0, 1, rfl, by simp [iw], by simp [iw], by decide, by simp, fun i hi => by
    have : i = 0 := by simp [iw] at hi; exact hi
    subst this
    simp only [World.cell?, blk_new]; rfl⟩
  have h2a := hI2.ac
  obtain ⟨v', w1, hr, ho, hg, hn⟩ := run_append_rd (P := Try.prog) _ 51 51 3 i0 (.int .i64 0) Try.underlying51 hi hz0 hz1 (by omega) rfl _ _ (iw acc) (iw [a]) (hI2.own.keep hf3 (fun _ _ h => h)) hone (oneCell_all [a]) (by simp [iw]; omega)
  rw [← iw_append] at ho
  have hne : some D ≠ u.ownBlock := fun e => by
    obtain ⟨cur, hc⟩ := hI2.own.elem D e.symm
    rw [hdb] at hc
    simp at hc
    exact hTH hc.2
  have hfw : Fr w w1 (fun _ => False) := (hI2.fr.trans hf3).grown hg (fun k hk hlt => by have := hI2.inn k hk; omega)
  have hf4 : Fr W2 w1 (fun i => InBlk u i) := (hf3.mono fun _ h _ => h.elim).grown hg (fun k hk _ => hk)
  have hne2 : ∀ k, InBlk u k → ¬ (InBlk v k) ∧ k ≠ p := fun k hk => by
    obtain ⟨cur, hc⟩ := hI2.own.elem k hk
    refine ⟨fun e => ?_, fun e => ?_⟩
    · obtain ⟨cur2, hc2⟩ := hI2.ar.own.elem k e
      rw [hc] at hc2; simp at hc2
    · rw [e, hI2.ar.blk] at hc; simp at hc; exact hT hc.2
  have hdb1 := hf4.blk hdb (fun e => hne e.symm)
  obtain ⟨g', rfl⟩ : ∃ g', gk = g' + 1 := ⟨gk - 1, by have := hI2.ag; omega⟩
  refine ⟨v', w1, hr, ⟨hI2.ar.keep hf4 (fun e => (hne2 p e).2 rfl) (fun i hi e => (hne2 i e).1 hi), hfw, ho, fun k hk => ?_, ?_, by have := hI2.le; omega, by omega, by simp; omega, by have := hI2.ag; omega⟩, by simp only [World.cell?, hdb1]; rfl, by have := hI2.ag; omega⟩
  · rcases hn k hk with h1 | h1
    · exact hI2.inn k h1
    · have h2 := hI2.fr.size
      have h3 : (W2.alloc (.cells #[.int .i64 a] 3)).heap.size = W2.heap.size + 1 := Array.size_push _
      omega
  · rw [hI2.eq, Nat.add_sub_cancel]
    exact objsFrom_step2 hal hob acc
set_option maxRecDepth 100000 in
set_option maxHeartbeats 4000000 in
theorem objects_c (p : Nat) (v : Value) (ws : List Int) (size : Int) (w : World) (h : Ar 101 w p v ws size) :
    Calls Try.prog 33 #[.pointer (some ⟨p, 0, none⟩)] w fun e w' => ∃ u, e = .returned (.tuple #[u, .bool (objs ws).isSome]) ∧ New w w' 3 u (iw ((objs ws).getD [])) := by
  have hmx := h.mx
  have hle := h.le
  have HL : Hid ((ws.length : Int) ≤ 1048576) := Lib.hid (by omega)
  have H0 : Hid (OI 101 w w p v ws size ws.length (.slice none 0 0) [] 0) := Lib.hid ⟨h, Fr.refl _ _, Own.nil _ _, (fun k hk => by simp [InBlk, Value.ownBlock] at hk), by simp [objs], Int.le_refl 0, by omega, by simp, by omega⟩
  clear h hmx hle
  go_enter Try.func33, Try.ntmps33
  go_wp2
  go_loopg [4, 5] ws.length (fun g lv av wr => ∃ (u : Value) (acc : List Int) (a : Int), lv = u ∧ av = .int .i64 a ∧ Hid (OI 101 w wr p v ws size g u acc a))
  case atStart => exact ⟨_, [], 0, rfl, rfl, H0⟩
  case round =>
    clear H0
    obtain ⟨u, acc, a, rfl, rfl, HI⟩ := hrel
    by_cases hal : a < ws.length
    · have hle := HI.out.le
      have HA : Hid (a < ws.length) := Lib.hid hal
      cases hob : objAt ws a with
      | none =>
        have HO := Lib.hid hob
        clear hob hle
        go_wp2_with (first | (go_at_call 27; (with_reducible refine (used_c p v ws size _ HI.out.ar).mono ?_); rintro e wa ⟨rfl, rfl⟩) | (go_at_call 62; (with_reducible refine (obj_none p v ws size a _ HI.out.ar HO.out).mono ?_); rintro e wb ⟨rfl, hf⟩; have HF := Lib.hid hf; clear hf))
        go_ret2
        have hn : objs ws = none := by rw [HI.out.eq, objsFrom_none HA.out HO.out]; rfl
        rw [hn]
        exact ⟨_, rfl, Own.nil _ _, (HI.out.fr.trans HF.out).alloc _, (fun k hk => by simp [InBlk, Value.ownBlock] at hk)⟩
      | some hd =>
        have HO := Lib.hid hob
        have hs := objAt_some hob
        have HZ : Hid (0 ≤ hd.size ∧ a + 1 + hd.size ≤ ws.length ∧ 0 ≤ a) := by
          obtain ⟨k, rfl, hk, hr, hz⟩ := hs
          have := readH_size hr
          exact Lib.hid (by omega)
        obtain ⟨kd, z, t, n⟩ := hd
        have hz2 := HZ.out
        have hl2 := HL.out
        simp only at hz2
        have hw1 : wrap64 (1 + z) = 1 + z := by unfold wrap64; omega
        have hw2 : wrap64 (a + (1 + z)) = a + (1 + z) := by clear hw1; unfold wrap64; omega
        have HW2 := Lib.hid hw2
        clear hob hs hz2 hl2 hle hw2
        go_upto_region 5 with (first | (go_at_call 27; (with_reducible refine (used_c p v ws size _ HI.out.ar).mono ?_); rintro e wa ⟨rfl, rfl⟩) | (go_at_call 62; (with_reducible refine (obj_some p v ws size a _ _ HI.out.ar HO.out).mono ?_); rintro e wo ⟨rfl, hf⟩))
        obtain ⟨W2, hW2⟩ : ∃ W2, wo.alloc (.cells #[.int .i64 kd, .int .i64 z, .int .i64 t, .bool n] 104) = W2 := ⟨_, rfl⟩
        obtain ⟨D, hD⟩ : ∃ D, wo.heap.size = D := ⟨_, rfl⟩
        have hf2 : Fr wr W2 (fun _ => False) := by rw [← hW2]; exact hf.alloc _
        have hdb : W2.heap[D]? = some (.cells #[.int .i64 kd, .int .i64 z, .int .i64 t, .bool n] 104 (0, 0)) := by rw [← hW2, ← hD]; exact blk_new _ _ _
        have hI2 := HI.out.frm hf2
        rw [hW2, hD]
        clear hW2 hD hf hf2 HI
        obtain ⟨v', w1, hr, hI3, kz, hgk⟩ := hI2.step (by decide) (by decide) HA.out HO.out hdb
        have HI3 := Lib.hid hI3
        have HR := Lib.hid hr
        have HGK := Lib.hid hgk
        clear hdb hI2 hr hI3 hgk
        go_wp2_with (at_builtin; refine Lib.wpList_append_run _ rfl _ _ _ _ rfl _ _ rfl rfl _ w1 HR.out ?_)
        go_roundg (gk - 1)
        case measure => exact HGK.out
        case rel => exact ⟨_, acc ++ [a], a + (1 + z), rfl, by rw [HW2.out], HI3⟩
    · have HA : Hid (¬ a < ws.length) := Lib.hid hal
      go_wp2_with (first | (go_at_call 27; (with_reducible refine (used_c p v ws size _ HI.out.ar).mono ?_); rintro e wa ⟨rfl, rfl⟩))
      go_ret2
      have hn : objs ws = some acc := by rw [HI.out.eq, objsFrom_end (by have := HA.out; omega)]; simp
      rw [hn]
      exact ⟨_, rfl, HI.out.own, HI.out.fr, HI.out.inn⟩
set_option maxRecDepth 100000 in
set_option maxHeartbeats 4000000 in
theorem mobjects_c (p : Nat) (v : Value) (ws : List Int) (size : Int) (w : World) (h : Ar 41 w p v ws size) :
    Calls Try.prog 36 #[.pointer (some ⟨p, 0, none⟩)] w fun e w' => ∃ u, e = .returned (.tuple #[u, .bool (objs ws).isSome]) ∧ New w w' 3 u (iw ((objs ws).getD [])) := by
  have hmx := h.mx
  have hle := h.le
  obtain ⟨A, cap, rfl⟩ := h.val
  have HL : Hid ((ws.length : Int) ≤ 1048576) := Lib.hid (by omega)
  have H0 : Hid (OI 41 w w p (.slice A ws.length cap) ws size ws.length (.slice none 0 0) [] 0) := Lib.hid ⟨h, Fr.refl _ _, Own.nil _ _, (fun k hk => by simp [InBlk, Value.ownBlock] at hk), by simp [objs], Int.le_refl 0, by omega, by simp, by omega⟩
  clear h hmx hle
  go_enter Try.func36, Try.ntmps36
  go_wp2
  go_loopg [4, 5] ws.length (fun g lv av wr => ∃ (u : Value) (acc : List Int) (a : Int), lv = u ∧ av = .int .i64 a ∧ Hid (OI 41 w wr p (.slice A ws.length cap) ws size g u acc a))
  case atStart => exact ⟨_, [], 0, rfl, rfl, H0⟩
  case round =>
    clear H0
    obtain ⟨u, acc, a, rfl, rfl, HI⟩ := hrel
    have kp := HI.out.ar.c0
    by_cases hal : a < ws.length
    · have hle := HI.out.le
      have HA : Hid (a < ws.length) := Lib.hid hal
      obtain ⟨k, rfl⟩ := Int.eq_ofNat_of_zero_le hle
      have hk : k < ws.length := by omega
      rcases HI.out.ar.form with ⟨e, e0⟩ | ⟨g, cap', e, hl, hm, hg, hgp, hc, hf⟩
      · subst e0; simp at hk
      injection e with e1 e2 e3
      subst e1 e3
      have ck := hc k hk
      have hx := okWs_getD HI.out.ar.ok k hk
      obtain ⟨x, hxe⟩ : ∃ x, ws.getD k 0 = x := ⟨_, rfl⟩
      rw [hxe] at ck hx
      have HX := Lib.hid hx
      have HXE := Lib.hid hxe
      have hpw := HI.out.ar.lt
      obtain ⟨kd, z, t, n, ok, hrp, hcase⟩ : ∃ kd z t n ok, Wd.readP x = (kd, z, t, n, ok) ∧ ((ok = false ∧ objAt ws k = none) ∨ (ok = true ∧ 0 ≤ z ∧ z < 1048576 ∧ ((objAt ws k = some ⟨kd, z, t, n⟩ ∧ z < ws.length - k) ∨ (objAt ws k = none ∧ ws.length - k ≤ z)))) := by
        cases hr : readH x with
        | none => exact ⟨0, 0, 0, false, false, by unfold Wd.readP; rw [hr], .inl ⟨rfl, by unfold objAt; rw [rdAt_of hk, hxe]; simp only [hr]⟩⟩
        | some hh =>
          obtain ⟨kd, z, t, n⟩ := hh
          have h1 := readH_size hr
          refine ⟨kd, z, t, n, true, by unfold Wd.readP; rw [hr], .inr ⟨rfl, h1.1, h1.2, ?_⟩⟩
          by_cases hs : z < (ws.length : Int) - k
          · exact .inl ⟨objAt_of hk (by rw [hxe]; exact hr) hs, hs⟩
          · refine .inr ⟨?_, by omega⟩
            unfold objAt; rw [rdAt_of hk, hxe]; simp only [hr]; rw [if_neg hs]
      have HRP := Lib.hid hrp
      have HCS := Lib.hid hcase
      clear hcase hrp hx hxe hc hf hm hgp e2
      go_upto_region 5 with (first | (go_at_call 63; (with_reducible refine (Wd.rread_c x kd z t n ok _ HX.out HRP.out).mono ?_); rintro e wo ⟨rfl, hb⟩))
      obtain ⟨W2, hW2⟩ : ∃ W2, wo.alloc (.cells #[.int .i64 kd, .int .i64 z, .int .i64 t, .bool n] 50) = W2 := ⟨_, rfl⟩
      obtain ⟨D, hD⟩ : ∃ D, wo.heap.size = D := ⟨_, rfl⟩
      have hf2 : Fr wr W2 (fun _ => False) := by rw [← hW2]; exact (Fr.of_below hb _).alloc _
      have hdb : W2.heap[D]? = some (.cells #[.int .i64 kd, .int .i64 z, .int .i64 t, .bool n] 50 (0, 0)) := by rw [← hW2, ← hD]; exact blk_new _ _ _
      have HI2 := Lib.hid (HI.out.frm hf2)
      have kz0 : W2.cell? ⟨D, 1, none⟩ = some (.int .i64 z) := by simp [World.cell?, hdb]
      have kp2 := HI2.out.ar.c0
      have HDB := Lib.hid hdb
      rw [hW2, hD]
      clear hW2 hD hb hf2 HI hdb kp ck hpw hg
      have hl2 := HL.out
      rcases HCS.out with ⟨rfl, ho⟩ | ⟨rfl, z0, z1, ⟨ho, hs⟩ | ⟨ho, hs⟩⟩
      · have HO := Lib.hid ho
        clear ho HCS
        go_quiet (fail)
        go_wp2
        go_ret2
        have hn : objs ws = none := by rw [HI2.out.eq, objsFrom_none HA.out HO.out]; rfl
        rw [hn]
        exact ⟨_, rfl, Own.nil _ _, HI2.out.fr.drewN _, (fun k hk => by simp [InBlk, Value.ownBlock] at hk)⟩
      · have HO := Lib.hid ho
        have d1 : decide ((ws.length : Int) - k - 1 < z) = false := decide_eq_false (by omega)
        have hw2 : wrap64 ((ws.length : Int) - k - 1) = ws.length - k - 1 := by unfold wrap64; omega
        have hw1 : wrap64 ((ws.length : Int) - k) = ws.length - k := by clear hw2; unfold wrap64; omega
        have hw3 : wrap64 ((k : Int) + 1) = k + 1 := by clear hw1 hw2; unfold wrap64; omega
        have HW4 : Hid (wrap64 ((k : Int) + 1 + z) = k + (1 + z)) := Lib.hid (by clear hw1 hw2 hw3; unfold wrap64; omega)
        clear ho HCS hs
        go_quiet (fail)
        obtain ⟨W3, hW3⟩ : ∃ W3, W2.drewN nq = W3 := ⟨_, rfl⟩
        have hdb3 : W3.heap[D]? = some (.cells #[.int .i64 kd, .int .i64 z, .int .i64 t, .bool n] 50 (0, 0)) := by rw [← hW3]; exact HDB.out
        have hI3 := HI2.out.frm (W1 := W3) (by rw [← hW3]; exact (Fr.refl _ _).drewN _)
        rw [hW3]
        clear hW3 HI2 HDB kz0 kp2
        obtain ⟨v', w1, hr, hI4, kz, hgk⟩ := hI3.step (by decide) (by decide) HA.out HO.out hdb3
        have HI3 := Lib.hid hI4
        have HR := Lib.hid hr
        have HGK := Lib.hid hgk
        clear hdb3 hI3 hr hI4 hgk hw1 hw2 d1
        go_wp2_with (at_builtin; refine Lib.wpList_append_run _ rfl _ _ _ _ rfl _ _ rfl rfl _ w1 HR.out ?_)
        go_roundg (gk - 1)
        case measure => exact HGK.out
        case rel => exact ⟨_, acc ++ [(k : Int)], k + (1 + z), rfl, by first | (rw [HW4.out]; done) | exact congrArg (Value.int .i64) (by omega), HI3⟩
      · have HO := Lib.hid ho
        have d1 : decide ((ws.length : Int) - k - 1 < z) = true := decide_eq_true (by omega)
        have hw2 : wrap64 ((ws.length : Int) - k - 1) = ws.length - k - 1 := by unfold wrap64; omega
        have hw1 : wrap64 ((ws.length : Int) - k) = ws.length - k := by clear hw2; unfold wrap64; omega
        clear ho HCS hs
        go_quiet (fail)
        go_wp2
        go_ret2
        have hn : objs ws = none := by rw [HI2.out.eq, objsFrom_none HA.out HO.out]; rfl
        rw [hn]
        exact ⟨_, rfl, Own.nil _ _, HI2.out.fr.drewN _, (fun k hk => by simp [InBlk, Value.ownBlock] at hk)⟩
    · have HA : Hid (¬ a < ws.length) := Lib.hid hal
      go_wp2
      go_ret2
      have hn : objs ws = some acc := by rw [HI.out.eq, objsFrom_end (by have := HA.out; omega)]; simp
      rw [hn]
      exact ⟨_, rfl, HI.out.own, HI.out.fr, HI.out.inn⟩
end Go.Proofs.Ytjiaaefpepdoeaa

/-
  THREADING: an arena and its roots; contracts of thread.Field's get and set.
-/
namespace Go.Proofs.Ytjiaaefpepdoeaa
open Go.RowKit Md
set_option linter.unusedVariables false
/-- An arena and a row of roots beside it. -/
structure TA (T : TypeId) (W : World) (p : Nat) (v : Value) (ws : List Int) (size : Int) (r : Value) (rs : List Int) : Prop where
  ar : Ar T W p v ws size
  own : Own W 29 r (uw rs)
  ap : Apt v r
  okr : okWs rs
  lenr : rs.length ≤ 1048576
section
variable {T : TypeId} {W W1 : World} {p : Nat} {v v' : Value} {ws ws' rs : List Int} {size s' : Int} {r : Value} {S : Nat → Prop}
theorem TA.fr (h : TA T W p v ws size r rs) (hf : Fr W W1 fun _ => False) : TA T W1 p v ws size r rs := ⟨h.ar.fr hf, h.own.keep hf (fun _ _ h => h), h.ap, h.okr, h.lenr⟩
theorem TA.chg (h : TA T W p v ws size r rs) (hc : Chg T W W1 p v v' ws' s') : TA T W1 p v' ws' s' r rs := by
  refine ⟨hc.1, h.own.keep hc.2.1 fun i hi e => ?_, fun k hk hr => ?_, h.okr, h.lenr⟩
  · rcases e with rfl | e
    · obtain ⟨cur, hcur⟩ := h.own.elem _ hi
      rw [h.ar.blk] at hcur
      simp at hcur
      exact h.ar.ty hcur.2
    · exact h.ap i e hi
  · rcases hc.2.2 k hk with h3 | h3
    · exact h.ap k h3 hr
    · have := h.own.lt k hr; omega
/-- A root is written. -/
theorem TA.setr {g cap k : Nat} {x : Int} (h : TA T W p v ws size (.slice (some ⟨g, 0, none⟩) rs.length cap) rs) (hk : k < rs.length) (hx : okW x) :
    TA T (W.setCell ⟨g, k, none⟩ (.int .u64 x)) p v ws size (.slice (some ⟨g, 0, none⟩) rs.length cap) (rs.set k x) ∧ Fr W (W.setCell ⟨g, k, none⟩ (.int .u64 x)) (fun i => i = g) := by
  have hfr : Fr W (W.setCell ⟨g, k, none⟩ (.int .u64 x)) (fun i => i = g) := Fr.setCell (S := fun i => i = g) (a := ⟨g, k, none⟩) (Fr.refl W _) (fun _ => rfl) _
  have hge : InBlk (.slice (some ⟨g, 0, none⟩) rs.length cap) g := by simp [InBlk, Value.ownBlock]
  have hne : p ≠ g := fun e => by
    obtain ⟨cur, hcur⟩ := h.own.elem g hge
    rw [← e, h.ar.blk] at hcur
    simp at hcur
    exact h.ar.ty hcur.2
  refine ⟨⟨h.ar.keep hfr hne (fun i hi e => h.ap i hi (by rw [e]; exact hge)), ?_, h.ap, okWs_set h.okr hx, by simpa using h.lenr⟩, hfr⟩
  have ho := h.own
  rcases ho.2 with ⟨hv, _⟩ | ⟨g', cap', cur, hv, hb, hg, hl, hm, hs, ht⟩
  · cases hv
  · injection hv with h1 h2 h3
    injection h1 with h1
    injection h1 with h1
    subst h1
    subst h3
    refine ⟨by simp [uw], .inr ⟨g, cap, cur.setIfInBounds k (.int .u64 x), by simp [uw], Nat.zero_le _, ?_, by simpa [uw] using hl, hm, by simpa using hs, ?_⟩⟩
    · simp [World.setCell, Array.getElem?_modify, hg]
    · have e1 : (uw (rs.set k x)).length = (uw rs).length := by simp [uw]
      rw [e1]
      rw [Array.toList_setIfInBounds, List.take_set, ht]
      simp [uw, List.map_set]
end
set_option maxHeartbeats 1000000 in
theorem fget_c (p : Nat) (v r : Value) (ws rs : List Int) (size i : Int) (b : Bool) (w : World) (h : TA 101 w p v ws size r rs) :
    Calls Try.prog 65 #[.agg #[.bool b, .int .i64 i], .pointer (some ⟨p, 0, none⟩), r] w fun e w' => e = .returned (.tuple #[.int .u64 ((fGet ws rs ⟨b, i⟩).getD 0), .bool (fGet ws rs ⟨b, i⟩).isSome]) ∧ Fr w w' (fun _ => False) := by
  cases b with
  | false =>
    have H := Lib.hid (h.fr ((Fr.refl w _).alloc (.cells #[.bool false, .int .i64 i] 68)))
    obtain ⟨A, cap, rfl⟩ := h.own.rd.len
    rw [uw_length] at *
    clear h
    go_enter Try.func65, Try.ntmps65
    go_wp2_with (first | (go_at_call 23; (with_reducible refine (get_u p v ws size i _ H.out.ar).mono ?_); rintro e w1 ⟨rfl, rfl⟩))
    go_ret2
    exact ⟨rfl, (Fr.refl w _).alloc _⟩
  | true =>
    have e : fGet ws rs ⟨true, i⟩ = rdAt rs i := rfl
    rw [e]
    rcases h.own.form with ⟨rfl, h0⟩ | ⟨g, cap, rfl, hl, hm, hg, hc, hf⟩
    · have h1 : rs = [] := List.eq_nil_of_length_eq_zero (by rw [← uw_length, h0]; rfl)
      subst h1
      clear h h0 e
      have e2 : rdAt [] i = none := by unfold rdAt; rw [if_neg (by simp only [List.length_nil]; omega)]
      rw [e2]
      by_cases hi : i < 0
      · have d1 : decide (i < 0) = true := decide_eq_true hi
        clear hi e2
        go_enter Try.func65, Try.ntmps65
        go_wp2
        go_ret2
        exact ⟨rfl, (Fr.refl w _).alloc _⟩
      · have d1 : decide (i < 0) = false := decide_eq_false hi
        have d2 : decide (0 ≤ i) = true := decide_eq_true (by omega)
        clear hi e2
        go_enter Try.func65, Try.ntmps65
        go_wp2
        go_ret2
        exact ⟨rfl, (Fr.refl w _).alloc _⟩
    · rw [uw_length] at *
      clear e
      by_cases hi : i < 0
      · have d1 : decide (i < 0) = true := decide_eq_true hi
        have e2 : rdAt rs i = none := by unfold rdAt; rw [if_neg (by omega)]
        rw [e2]
        clear hi e2 h hm hg hc hf
        go_enter Try.func65, Try.ntmps65
        go_wp2
        go_ret2
        exact ⟨rfl, (Fr.refl w _).alloc _⟩
      · have d1 : decide (i < 0) = false := decide_eq_false hi
        obtain ⟨k, rfl⟩ := Int.eq_ofNat_of_zero_le (show 0 ≤ i by omega)
        by_cases hk : k < rs.length
        · have ck := hc k hk
          rw [uw_get hk] at ck
          rw [rdAt_of hk]
          obtain ⟨x, hx⟩ : ∃ x, rs.getD k 0 = x := ⟨_, rfl⟩
          rw [hx] at ck ⊢
          clear hx
          have d2 : decide ((rs.length : Int) ≤ k) = false := decide_eq_false (by omega)
          have d3 : decide (rs.length ≤ k) = false := decide_eq_false (by omega)
          clear hi h hm hc hf
          go_enter Try.func65, Try.ntmps65
          go_wp2
          go_ret2
          exact ⟨rfl, (Fr.refl w _).alloc _⟩
        · have e2 : rdAt rs k = none := by unfold rdAt; rw [if_neg (by omega)]
          rw [e2]
          have d2 : decide ((rs.length : Int) ≤ k) = true := decide_eq_true (by omega)
          have d3 : decide (rs.length ≤ k) = true := decide_eq_true (by omega)
          clear hi hk e2 h hm hg hc hf
          go_enter Try.func65, Try.ntmps65
          go_wp2
          go_ret2
          exact ⟨rfl, (Fr.refl w _).alloc _⟩
set_option maxHeartbeats 1000000 in
theorem fset_c (p : Nat) (v r : Value) (ws rs : List Int) (size i x : Int) (b : Bool) (w : World) (h : TA 101 w p v ws size r rs) (hx : okW x) (hi : (fGet ws rs ⟨b, i⟩).isSome = true) :
    Calls Try.prog 68 #[.agg #[.bool b, .int .i64 i], .pointer (some ⟨p, 0, none⟩), r, .int .u64 x] w fun e w' => e = .returned (.tuple #[]) ∧ TA 101 w' p v (fSetW ws ⟨b, i⟩ x) size r (fSetR rs ⟨b, i⟩ x) ∧ Fr w w' (fun i => InBlk v i ∨ InBlk r i) := by
  cases b with
  | false =>
    have H := Lib.hid (h.fr ((Fr.refl w _).alloc (.cells #[.bool false, .int .i64 i] 68)))
    have hir : 0 ≤ i ∧ i < ws.length := by
      have : (rdAt ws i).isSome = true := hi
      unfold rdAt at this
      split at this
      · assumption
      · cases this
    have HIR := Lib.hid hir
    have HX := Lib.hid hx
    obtain ⟨A, cap, rfl⟩ := h.own.rd.len
    rw [uw_length] at *
    clear h hir hi hx
    go_enter Try.func68, Try.ntmps68
    go_wp2_with (first | (go_at_call 21; (with_reducible refine (set_c p v ws size i x _ H.out.ar HX.out HIR.out).mono ?_); rintro e w1 ⟨rfl, ha, hf⟩))
    go_end0
    have hw : fSetW ws ⟨false, i⟩ x = wrAt ws i x := rfl
    have hc := H.out.chg (Chg.of_set ha hf)
    refine ⟨rfl, hc, ((Fr.refl w _).alloc _).then_ hf (fun j hj _ => .inl hj)⟩
  | true =>
    have hir : 0 ≤ i ∧ i < rs.length := by
      have : (rdAt rs i).isSome = true := hi
      unfold rdAt at this
      split at this
      · assumption
      · cases this
    obtain ⟨k, rfl⟩ := Int.eq_ofNat_of_zero_le hir.1
    have hk : k < rs.length := by omega
    have e0 : fSetR rs ⟨true, k⟩ x = rs.set k x := by
      show wrAt rs k x = _
      unfold wrAt; rw [if_pos hir]; simp
    have e1 : fSetW ws ⟨true, k⟩ x = ws := rfl
    rw [e0, e1]
    rcases h.own.form with ⟨rfl, h0⟩ | ⟨g, cap, rfl, hl, hm, hg, hc, hf⟩
    · have h1 : rs = [] := List.eq_nil_of_length_eq_zero (by rw [← uw_length, h0]; rfl)
      subst h1; simp at hk
    · rw [uw_length] at *
      have HS := Lib.hid (h.setr hk hx)
      have ck := hc k hk
      rw [uw_get hk] at ck
      have fk := hf k
      have q2 : (k : Int) < rs.length := by omega
      obtain ⟨y, hy⟩ : ∃ y, rs.getD k 0 = y := ⟨_, rfl⟩
      rw [hy] at ck
      clear hy h hc hf hm hir hi e0 e1 hx
      go_enter Try.func68, Try.ntmps68
      go_wp2
      go_end0
      exact ⟨rfl, HS.out.1.fr ((Fr.refl _ _).alloc _), (HS.out.2.mono (fun j hj _ => .inr (by rw [hj]; simp [InBlk, Value.ownBlock]))).alloc _⟩
end Go.Proofs.Ytjiaaefpepdoeaa

/-
  CONTRACT: the model's field: the word of a field. Conditions: none but that arena and roots stand.
-/
namespace Go.Proofs.Ytjiaaefpepdoeaa
open Go.RowKit Md
set_option linter.unusedVariables false
set_option maxHeartbeats 1000000 in
theorem mfget_c (p : Nat) (v r : Value) (ws rs : List Int) (size i : Int) (b : Bool) (w : World) (h : TA 41 w p v ws size r rs) :
    Calls Try.prog 74 #[.pointer (some ⟨p, 0, none⟩), r, .agg #[.bool b, .int .i64 i]] w fun e w' => e = .returned (.tuple #[.int .u64 ((fGet ws rs ⟨b, i⟩).getD 0), .bool (fGet ws rs ⟨b, i⟩).isSome]) ∧ Fr w w' (fun _ => False) := by
  cases b with
  | false =>
    have H := Lib.hid (h.fr ((Fr.refl w _).alloc (.cells #[.bool false, .int .i64 i] 83)))
    obtain ⟨A, cap, rfl⟩ := h.own.rd.len
    rw [uw_length] at *
    clear h
    go_enter Try.func74, Try.ntmps74
    go_wp2_with (first | (go_at_call 24; (with_reducible refine (mget_u p v ws size i _ H.out.ar).mono ?_); rintro e w1 ⟨rfl, rfl⟩))
    go_ret2
    exact ⟨rfl, (Fr.refl w _).alloc _⟩
  | true =>
    have e : fGet ws rs ⟨true, i⟩ = rdAt rs i := rfl
    rw [e]
    rcases h.own.form with ⟨rfl, h0⟩ | ⟨g, cap, rfl, hl, hm, hg, hc, hf⟩
    · have h1 : rs = [] := List.eq_nil_of_length_eq_zero (by rw [← uw_length, h0]; rfl)
      subst h1
      clear h h0 e
      have e2 : rdAt [] i = none := by unfold rdAt; rw [if_neg (by simp only [List.length_nil]; omega)]
      rw [e2]
      by_cases hi : i < 0
      · have d1 : decide (i < 0) = true := decide_eq_true hi
        clear hi e2
        go_enter Try.func74, Try.ntmps74
        go_wp2
        go_ret2
        exact ⟨rfl, (Fr.refl w _).alloc _⟩
      · have d1 : decide (i < 0) = false := decide_eq_false hi
        have d2 : decide (0 ≤ i) = true := decide_eq_true (by omega)
        clear hi e2
        go_enter Try.func74, Try.ntmps74
        go_wp2
        go_ret2
        exact ⟨rfl, (Fr.refl w _).alloc _⟩
    · rw [uw_length] at *
      clear e
      by_cases hi : i < 0
      · have d1 : decide (i < 0) = true := decide_eq_true hi
        have e2 : rdAt rs i = none := by unfold rdAt; rw [if_neg (by omega)]
        rw [e2]
        clear hi e2 h hm hg hc hf
        go_enter Try.func74, Try.ntmps74
        go_wp2
        go_ret2
        exact ⟨rfl, (Fr.refl w _).alloc _⟩
      · have d1 : decide (i < 0) = false := decide_eq_false hi
        obtain ⟨k, rfl⟩ := Int.eq_ofNat_of_zero_le (show 0 ≤ i by omega)
        by_cases hk : k < rs.length
        · have ck := hc k hk
          rw [uw_get hk] at ck
          rw [rdAt_of hk]
          obtain ⟨x, hx⟩ : ∃ x, rs.getD k 0 = x := ⟨_, rfl⟩
          rw [hx] at ck ⊢
          clear hx
          have d2 : decide ((rs.length : Int) ≤ k) = false := decide_eq_false (by omega)
          have d3 : decide (rs.length ≤ k) = false := decide_eq_false (by omega)
          clear hi h hm hc hf
          go_enter Try.func74, Try.ntmps74
          go_wp2
          go_ret2
          exact ⟨rfl, (Fr.refl w _).alloc _⟩
        · have e2 : rdAt rs k = none := by unfold rdAt; rw [if_neg (by omega)]
          rw [e2]
          have d2 : decide ((rs.length : Int) ≤ k) = true := decide_eq_true (by omega)
          have d3 : decide (rs.length ≤ k) = true := decide_eq_true (by omega)
          clear hi hk e2 h hm hg hc hf
          go_enter Try.func74, Try.ntmps74
          go_wp2
          go_ret2
          exact ⟨rfl, (Fr.refl w _).alloc _⟩
set_option maxHeartbeats 1000000 in
theorem mfset_c (p : Nat) (v r : Value) (ws rs : List Int) (size i x : Int) (b : Bool) (w : World) (h : TA 41 w p v ws size r rs) (hx : okW x) (hi : (fGet ws rs ⟨b, i⟩).isSome = true) :
    Calls Try.prog 75 #[.pointer (some ⟨p, 0, none⟩), r, .agg #[.bool b, .int .i64 i], .int .u64 x] w fun e w' => e = .returned (.tuple #[]) ∧ TA 41 w' p v (fSetW ws ⟨b, i⟩ x) size r (fSetR rs ⟨b, i⟩ x) ∧ Fr w w' (fun i => InBlk v i ∨ InBlk r i) := by
  cases b with
  | false =>
    have hir : 0 ≤ i ∧ i < ws.length := by
      have : (rdAt ws i).isSome = true := hi
      unfold rdAt at this
      split at this
      · assumption
      · cases this
    obtain ⟨k, rfl⟩ := Int.eq_ofNat_of_zero_le hir.1
    have hk : k < ws.length := by omega
    have e0 : fSetW ws ⟨false, k⟩ x = ws.set k x := by
      show wrAt ws k x = _
      unfold wrAt; rw [if_pos hir]; simp
    have e1 : fSetR rs ⟨false, k⟩ x = rs := rfl
    rw [e0, e1]
    have c0 := h.ar.c0
    rcases h.ar.form with ⟨_, rfl⟩ | ⟨g, cap, rfl, hl, hm, hg, hgp, hc, hf⟩
    · simp at hk
    · have hs := h.ar.set hk hx
      have HS := Lib.hid (h.chg (Chg.of_set hs.1 (hs.2.mono fun i hi _ => by rw [hi]; simp [InBlk, Value.ownBlock])))
      have HF := Lib.hid hs.2
      have ck := hc k hk
      have fk := hf k
      have hpw := h.ar.lt
      have q2 : (k : Int) < ws.length := by omega
      obtain ⟨A, cp, rfl⟩ := h.own.rd.len
      rw [uw_length] at *
      obtain ⟨y, hy⟩ : ∃ y, ws.getD k 0 = y := ⟨_, rfl⟩
      rw [hy] at ck
      clear hy h hc hf hm hir hi e0 e1 hx hs hgp
      go_enter Try.func75, Try.ntmps75
      go_wp2
      go_region_with (fail)
      all_goals (go_wp2; go_end0)
      all_goals first | exact ⟨rfl, HS.out.fr ((Fr.refl _ _).alloc _).drew, ((HF.out.mono (S1 := fun i => InBlk (.slice (some ⟨g, 0, none⟩) ws.length cap) i ∨ InBlk (.slice A rs.length cp) i) (fun j hj _ => .inl (by rw [hj]; simp [InBlk, Value.ownBlock]))).alloc _).drew⟩ | exact ⟨rfl, HS.out.fr ((Fr.refl _ _).drew.alloc _), ((HF.out.mono (S1 := fun i => InBlk (.slice (some ⟨g, 0, none⟩) ws.length cap) i ∨ InBlk (.slice A rs.length cp) i) (fun j hj _ => .inl (by rw [hj]; simp [InBlk, Value.ownBlock]))).drew).alloc _⟩ | exact ⟨rfl, HS.out.fr (((Fr.refl _ _).alloc _).drewN _), ((HF.out.mono (S1 := fun i => InBlk (.slice (some ⟨g, 0, none⟩) ws.length cap) i ∨ InBlk (.slice A rs.length cp) i) (fun j hj _ => .inl (by rw [hj]; simp [InBlk, Value.ownBlock]))).alloc _).drewN _⟩
  | true =>
    have hir : 0 ≤ i ∧ i < rs.length := by
      have : (rdAt rs i).isSome = true := hi
      unfold rdAt at this
      split at this
      · assumption
      · cases this
    obtain ⟨k, rfl⟩ := Int.eq_ofNat_of_zero_le hir.1
    have hk : k < rs.length := by omega
    have e0 : fSetR rs ⟨true, k⟩ x = rs.set k x := by
      show wrAt rs k x = _
      unfold wrAt; rw [if_pos hir]; simp
    have e1 : fSetW ws ⟨true, k⟩ x = ws := rfl
    rw [e0, e1]
    rcases h.own.form with ⟨rfl, h0⟩ | ⟨g, cap, rfl, hl, hm, hg, hc, hf⟩
    · have h1 : rs = [] := List.eq_nil_of_length_eq_zero (by rw [← uw_length, h0]; rfl)
      subst h1; simp at hk
    · rw [uw_length] at *
      have HS := Lib.hid (h.setr hk hx)
      have ck := hc k hk
      rw [uw_get hk] at ck
      have fk := hf k
      have q2 : (k : Int) < rs.length := by omega
      obtain ⟨y, hy⟩ : ∃ y, rs.getD k 0 = y := ⟨_, rfl⟩
      rw [hy] at ck
      clear hy h hc hf hm hir hi e0 e1 hx
      go_enter Try.func75, Try.ntmps75
      go_wp2
      go_end0
      exact ⟨rfl, HS.out.1.fr ((Fr.refl _ _).alloc _), (HS.out.2.mono (fun j hj _ => .inr (by rw [hj]; simp [InBlk, Value.ownBlock]))).alloc _⟩
end Go.Proofs.Ytjiaaefpepdoeaa

/-
  CONTRACTS: Ints (two rows of numbers), Mem (the model's arena with words). Conditions: fewer than 2^30 elements; Mem: at most 2^20 words in all.
-/
namespace Go.Proofs.Ytjiaaefpepdoeaa
open Go.RowKit Md
set_option linter.unusedVariables false
theorem iw_length (l : List Int) : (iw l).length = l.length := by simp [iw]
theorem iw_get {ws : List Int} {k : Nat} (h : k < ws.length) : (iw ws)[k]? = some (.int .i64 (ws.getD k 0)) := by simp [iw, List.getD, h]
theorem ints_c (va vb : Value) (xs ys : List Int) (w : World) (ha : Rd w va (iw xs)) (hb : Rd w vb (iw ys)) (hl : xs.length ≤ 1073741824) :
    Calls Try.prog 34 #[va, vb] w fun e w' => e = .returned (.bool (decide (xs = ys))) ∧ Drawn w w' := by
  obtain ⟨A, ca, rfl⟩ := ha.len
  obtain ⟨B, cb, rfl⟩ := hb.len
  rw [iw_length] at *
  rw [iw_length] at *
  by_cases hlen : xs.length = ys.length
  · by_cases h0 : xs.length = 0
    · have e1 : xs = [] := List.eq_nil_of_length_eq_zero h0
      have e2 : ys = [] := List.eq_nil_of_length_eq_zero (by omega)
      subst e1
      subst e2
      clear ha hb hlen h0
      go_enter Try.func34, Try.ntmps34
      go_wp2
      refine wp_loop_rounds 1 ?_
      rw [rounds_succ]
      go_wp2
      go_ret
      exact ⟨rfl, Drawn.refl _⟩
    · rcases ha with ⟨hx, _⟩ | ⟨b1, o1, c1, e1, _, hl1, hm1, hb1, hc1⟩
      · have := congrArg List.length hx; rw [iw_length] at this; exact absurd this h0
      rcases hb with ⟨hx, _⟩ | ⟨b2, o2, c2, e2, _, hl2, hm2, hb2, hc2⟩
      · have := congrArg List.length hx; rw [iw_length] at this; exact absurd (hlen.trans this) h0
      injection e1 with e1 _ e3
      injection e2 with e2 _ e4
      subst e1; subst e2; subst e3; subst e4
      have HC1 := Lib.hid hc1
      have HC2 := Lib.hid hc2
      have HL := Lib.hid hlen
      have d0 : (((xs.length : Int)) != (ys.length : Int)) = false := by rw [hlen]; simp
      have d0' : (xs.length != ys.length) = false := by rw [hlen]; simp
      clear hc1 hc2 hl1 hl2 hm1 hm2 hb1 hb2 hlen
      go_enter Try.func34, Try.ntmps34
      go_wp2
      go_loopw [5] (fun i wr => ∃ k : Nat, k ≤ xs.length ∧ i = .int .i64 k ∧ xs.take k = ys.take k ∧ Drawn w wr) (fun i _ => xs.length - (intOf i).toNat)
      case atStart => exact ⟨0, Nat.zero_le _, rfl, rfl, Drawn.refl _⟩
      case round =>
        obtain ⟨k, hk, rfl, ht, nq, rfl⟩ := hrel
        have HT := Lib.hid ht
        clear ht d0 d0'
        by_cases hlt : k < xs.length
        · have hlt2 : k < ys.length := by have := HL.out; omega
          have g1 : w.cell? ⟨b1, o1 + k, none⟩ = some (.int .i64 (xs.getD k 0)) := by rw [HC1.out k (by rw [iw_length]; exact hlt), iw_get hlt]
          have g2 : w.cell? ⟨b2, o2 + k, none⟩ = some (.int .i64 (ys.getD k 0)) := by rw [HC2.out k (by rw [iw_length]; exact hlt2), iw_get hlt2]
          obtain ⟨x, hx⟩ : ∃ x, xs.getD k 0 = x := ⟨_, rfl⟩
          obtain ⟨y, hy⟩ : ∃ y, ys.getD k 0 = y := ⟨_, rfl⟩
          rw [hx] at g1
          rw [hy] at g2
          have HX := Lib.hid hx
          have HY := Lib.hid hy
          clear hx hy
          have q1 : (0 : Int) ≤ k := by omega
          have q2 : (k : Int) < xs.length := by omega
          have q3 : (k : Int) < ys.length := by omega
          by_cases hxy : x = y
          · have dn : (x != y) = false := by simp [hxy]
            have HXY := Lib.hid hxy
            clear hxy
            go_wp2
            go_quiet (fail)
            go_wp2
            go_roundw
            case rel => exact ⟨k + 1, by omega, by go_num, take_eq_succ hlt hlt2 HT.out (by rw [HX.out, HY.out]; exact HXY.out), ⟨_, rfl⟩⟩
            case measure => simp [intOf]; omega
          · have dn : (x != y) = true := by simpa using hxy
            have HXY := Lib.hid hxy
            clear hxy
            go_wp2
            go_quiet (fail)
            go_wp2
            go_ret
            refine ⟨?_, Drawn.step ⟨_, rfl⟩ _⟩
            have : ¬ xs = ys := fun e => HXY.out (by rw [← HX.out, ← HY.out, e])
            simp [this]
        · have hk2 : k = xs.length := by omega
          go_wp2
          go_ret
          refine ⟨?_, nq, rfl⟩
          have h3 := HT.out
          rw [List.take_of_length_le (by omega), List.take_of_length_le (by have := HL.out; omega)] at h3
          simp [h3]
  · have d0 : (((xs.length : Int)) != (ys.length : Int)) = true := by simp; omega
    have d0' : (xs.length != ys.length) = true := by simp; omega
    have hne : decide (xs = ys) = false := decide_eq_false (fun e => hlen (by rw [e]))
    rw [hne]
    clear ha hb hlen
    go_enter Try.func34, Try.ntmps34
    go_wp2
    go_ret
    exact ⟨rfl, Drawn.refl _⟩
set_option maxHeartbeats 1000000 in
theorem mem_c (v : Value) (l : List Int) (more : Int) (w : World) (h : Rd w v (uw l)) (hok : okWs l) (h0 : 0 ≤ more) (h1 : l.length + more ≤ 1048576) :
    Calls Try.prog 35 #[v, .int .i64 more] w fun e w' => ∃ p v', e = .returned (.pointer (some ⟨p, 0, none⟩)) ∧ NewAr 41 w w' p v' l (l.length + more) := by
  have hw : wrap64 ((l.length : Int) + more) = l.length + more := by unfold wrap64; omega
  have hw2 : IntKind.i64.wrap ((l.length : Int) + more) = l.length + more := by rw [IntKind.wrap_i64]; omega
  have HB : Hid (l.length ≤ 1073741824) := Lib.hid (by omega)
  have H1 := Lib.hid h1
  have HOK := Lib.hid hok
  have HR := Lib.hid h
  have H0 := Lib.hid h0
  obtain ⟨A, cap, rfl⟩ := h.len
  rw [uw_length] at *
  clear h hok h0 h1
  go_enter Try.func35, Try.ntmps35
  go_wp2_with (first | (go_at_call 40; (with_reducible refine (copy_c _ l _ HR.out HB.out).mono ?_); rintro e w1 ⟨v', rfl, hn⟩; obtain ⟨A9, c9, hv⟩ := hn.1.rd.len; subst hv; have HN := Lib.hid hn; clear hn))
  go_ret
  have hn := HN.out
  rw [uw_length] at *
  exact ⟨_, _, rfl, ⟨blk_new _ _ _, hn.1.keep ((Fr.refl _ (fun _ => False)).alloc _) (fun _ _ h => h), by have := H0.out; omega, H1.out, HOK.out, by decide⟩, hn.2.1.alloc _, hn.2.1.size, hn.2.2⟩
end Go.Proofs.Ytjiaaefpepdoeaa

/-
  CONTRACTS: thread.Field's link, and linked. Conditions: a place below 2^40.
-/
namespace Go.Proofs.Ytjiaaefpepdoeaa.Wd
open Go.RowKit Go.Proofs.Ytjiaaefpepdoeaa.PSlideRoots Go.Proofs.YtjiaaefpepdoeaaW.PrintWords Go.Proofs.YtjiaaefpepdoeaaW.PrintLast
open Go.Proofs.Ytjiaaefpepdoeaa.Md
set_option linter.unusedVariables false
theorem i64_and1_any (x : Int) : Go.bits .and .i64 x 1 = x % 2 := by
  have h : Go.bits .and .i64 x 1 = IntKind.i64.wrap (((BitVec.ofInt 64 x) &&& (BitVec.ofInt 64 1)).toNat : Int) := rfl
  rw [h, BitVec.toNat_and, BitVec.toNat_ofInt]
  have e1 : (BitVec.ofInt 64 1).toNat = 1 := by decide
  rw [e1, Nat.and_one_is_mod, IntKind.wrap_i64]
  omega
theorem linked_eq {w : Int} (hw : okW w) : thread_linked.f w = some ((Md.linked w).root, (Md.linked w).at_) := by
  unfold thread_linked.f Md.linked
  rw [val_eq hw]
  simp only [Option.bind_some, i64_and1_any]
  congr 2
theorem link_eq (f : Fld) (h0 : 0 ≤ f.at_) (h1 : f.at_ < 1099511627776) : thread_Field_link.f f.root f.at_ = some (linkF f) := by
  unfold thread_Field_link.f linkF
  have hw : wrap64 (f.at_ * 2) = 2 * f.at_ := by unfold wrap64; omega
  rw [hw, of_eq, of_eq]
  cases f.root with
  | true =>
    have : Go.bits .or .i64 (2 * f.at_) 1 = 2 * f.at_ + 1 := i64_or 1 (by omega) (by omega) (by omega) (by omega) (by omega) (by omega)
    rw [this]
    rfl
  | false => simp
theorem linked_c (x : Int) (f : Fld) (w : World) (hx : okW x) (h : Md.linked x = f) : Calls Try.prog 70 #[.int .u64 x] w fun e w' => e = .returned (.agg #[.bool f.root, .int .i64 f.at_]) ∧ Below w.heap.size w w' :=
  thread_linked.calls x f.root f.at_ w (by rw [linked_eq hx, h])
theorem link_c (b : Bool) (i r : Int) (w : World) (h0 : 0 ≤ i) (h1 : i < 1099511627776) (h : linkF ⟨b, i⟩ = r) : Calls Try.prog 69 #[.agg #[.bool b, .int .i64 i]] w fun e w' => e = .returned (.int .u64 r) ∧ Below w.heap.size w w' :=
  thread_Field_link.calls b i r w (by rw [← h]; exact link_eq ⟨b, i⟩ h0 h1)
end Go.Proofs.Ytjiaaefpepdoeaa.Wd

/-
  CONTRACT: thread.Thread. Conditions: none but that arena and roots stand.
-/
namespace Go.Proofs.Ytjiaaefpepdoeaa
open Go.RowKit Md
set_option linter.unusedVariables false
def UO (v r : Value) (i : Nat) : Prop := InBlk v i ∨ InBlk r i
theorem fGet_ok {ws rs : List Int} {f : Fld} {x : Int} (hw : okWs ws) (hr : okWs rs) (h : fGet ws rs f = some x) : okW x := by
  unfold fGet at h
  split at h
  · obtain ⟨k, _, hk, rfl⟩ := rdAt_some h; exact okWs_getD hr k hk
  · obtain ⟨k, _, hk, rfl⟩ := rdAt_some h; exact okWs_getD hw k hk
theorem wrAt_len (xs : List Int) (i x : Int) : (wrAt xs i x).length = xs.length := by unfold wrAt; split <;> simp
theorem fSetW_len (ws : List Int) (f : Fld) (x : Int) : (fSetW ws f x).length = ws.length := by unfold fSetW; split <;> simp [wrAt_len]
set_option maxHeartbeats 2000000 in
theorem thread_no (p : Nat) (v r : Value) (ws rs : List Int) (size i : Int) (b : Bool) (w : World) (h : TA 101 w p v ws size r rs) (hn : threadM ws rs ⟨b, i⟩ = none) :
    Calls Try.prog 44 #[.pointer (some ⟨p, 0, none⟩), r, .agg #[.bool b, .int .i64 i]] w fun e w' => e = .returned (.bool false) ∧ Fr w w' (fun _ => False) := by
  have H := Lib.hid (h.fr ((Fr.refl w _).alloc (.cells #[.bool b, .int .i64 i] 68)))
  have hbk : (w.alloc (.cells #[.bool b, .int .i64 i] 68)).heap[w.heap.size]? = some (.cells #[.bool b, .int .i64 i] 68 (0, 0)) := blk_new _ _ _
  have HBK := Lib.hid hbk
  cases hg : fGet ws rs ⟨b, i⟩ with
  | none =>
    have HG := Lib.hid hg
    obtain ⟨A, cap, rfl⟩ := h.own.rd.len
    rw [uw_length] at *
    clear h hg hn hbk
    go_enter Try.func44, Try.ntmps44
    go_wp2_with (first | (go_at_call 65; (with_reducible refine (fget_c p v _ ws rs size i b _ H.out).mono ?_); rintro e w1 ⟨rfl, hf⟩; rw [HG.out]; have HF := Lib.hid hf; clear hf))
    go_ret
    exact ⟨rfl, ((Fr.refl w _).alloc _).trans HF.out⟩
  | some x =>
    have hx := fGet_ok h.ar.ok h.okr hg
    have HG := Lib.hid hg
    have HX := Lib.hid hx
    obtain ⟨t, ht⟩ : ∃ t, tagW x = t := ⟨_, rfl⟩
    obtain ⟨n, hn2⟩ : ∃ n, valW x = n := ⟨_, rfl⟩
    have key : (t == 5) = false ∨ ((t == 5) = true ∧ n < 0) ∨ ((t == 5) = true ∧ 0 ≤ n ∧ (ws.length : Int) ≤ n) ∨ ((t == 5) = true ∧ 0 ≤ n ∧ n < ws.length ∧ b = false ∧ i = n) := by
      unfold threadM at hn
      rw [hg] at hn
      simp only [ht, hn2] at hn
      split at hn
      · cases hn
      · rename_i hc
        by_cases h5 : t = 5
        · have h5b : (t == 5) = true := by simp [h5]
          by_cases h0 : n < 0
          · exact .inr (.inl ⟨h5b, h0⟩)
          · by_cases h1 : (ws.length : Int) ≤ n
            · exact .inr (.inr (.inl ⟨h5b, by omega, h1⟩))
            · refine .inr (.inr (.inr ⟨h5b, by omega, by omega, ?_⟩))
              cases b with
              | true => exact absurd ⟨h5, by omega, by omega, .inl rfl⟩ hc
              | false =>
                refine ⟨rfl, ?_⟩
                by_cases hi : i = n
                · exact hi
                · exact absurd ⟨h5, by omega, by omega, .inr hi⟩ hc
        · exact .inl (by simp [h5])
    have HT := Lib.hid ht
    have HN := Lib.hid hn2
    have hmx := h.ar.mx
    have hle := h.ar.le
    obtain ⟨A, cap, rfl⟩ := h.own.rd.len
    rw [uw_length] at *
    have LB : Hid ((ws.length : Int) ≤ 1048576) := Lib.hid (by omega)
    clear h hg hn hx ht hn2 hmx hle hbk
    rcases key with c1 | ⟨c1, c2⟩ | ⟨c1, c2, c3⟩ | ⟨c1, c2, c3, rfl, rfl⟩
    · have c1b : (t != 5) = true := by simpa using c1
      go_enter Try.func44, Try.ntmps44
      go_wp2_with (first | (go_at_call 65; (with_reducible refine (fget_c p v _ ws rs size i b _ H.out).mono ?_); rintro e w1 ⟨rfl, hf⟩; rw [HG.out]; have HF := Lib.hid hf; clear hf) | (go_at_call 66; (with_reducible refine (Wd.tag_c x t _ HX.out HT.out).mono ?_); rintro e w2 ⟨rfl, n2, rfl⟩))
      go_ret
      exact ⟨rfl, (((Fr.refl w _).alloc _).trans HF.out).drewN _⟩
    · have c1b : (t != 5) = false := by simpa using c1
      have d1 : decide (n < 0) = true := decide_eq_true c2
      clear c1 c2
      go_enter Try.func44, Try.ntmps44
      go_wp2_with (first | (go_at_call 65; (with_reducible refine (fget_c p v _ ws rs size i b _ H.out).mono ?_); rintro e w1 ⟨rfl, hf⟩; rw [HG.out]; have HF := Lib.hid (((Fr.refl w _).alloc _).trans hf); have H1 := Lib.hid (H.out.fr hf); have HB1 := Lib.hid (hf.blk HBK.out (fun h => h)); clear hf) | (go_at_call 66; (with_reducible refine (Wd.tag_c x t _ HX.out HT.out).mono ?_); rintro e w2 ⟨rfl, n2, rfl⟩) | (go_at_call 67; (with_reducible refine (Wd.val_c x n _ HX.out HN.out).mono ?_); rintro e w3 ⟨rfl, n3, rfl⟩; have H3 := Lib.hid (H1.out.fr ((Fr.refl _ _).drewN (n2 + n3))); have HF3 := Lib.hid (HF.out.drewN (n2 + n3))) | (go_at_call 27; (with_reducible refine (used_c p v ws size _ H3.out.ar).mono ?_); rintro e w4 ⟨rfl, rfl⟩))
      go_ret
      exact ⟨rfl, HF3.out⟩
    · have c1b : (t != 5) = false := by simpa using c1
      have d1 : decide (n < 0) = false := decide_eq_false (by omega)
      have d2 : decide ((ws.length : Int) ≤ n) = true := decide_eq_true c3
      clear c1 c2 c3
      go_enter Try.func44, Try.ntmps44
      go_wp2_with (first | (go_at_call 65; (with_reducible refine (fget_c p v _ ws rs size i b _ H.out).mono ?_); rintro e w1 ⟨rfl, hf⟩; rw [HG.out]; have HF := Lib.hid (((Fr.refl w _).alloc _).trans hf); have H1 := Lib.hid (H.out.fr hf); have HB1 := Lib.hid (hf.blk HBK.out (fun h => h)); clear hf) | (go_at_call 66; (with_reducible refine (Wd.tag_c x t _ HX.out HT.out).mono ?_); rintro e w2 ⟨rfl, n2, rfl⟩) | (go_at_call 67; (with_reducible refine (Wd.val_c x n _ HX.out HN.out).mono ?_); rintro e w3 ⟨rfl, n3, rfl⟩; have H3 := Lib.hid (H1.out.fr ((Fr.refl _ _).drewN (n2 + n3))); have HF3 := Lib.hid (HF.out.drewN (n2 + n3))) | (go_at_call 27; (with_reducible refine (used_c p v ws size _ H3.out.ar).mono ?_); rintro e w4 ⟨rfl, rfl⟩))
      go_ret
      exact ⟨rfl, HF3.out⟩
    · have c1b : (t != 5) = false := by simpa using c1
      have d1 : decide (i < 0) = false := decide_eq_false (by omega)
      have d2 : decide ((ws.length : Int) ≤ i) = false := decide_eq_false (by omega)
      clear c1 c2 c3
      go_enter Try.func44, Try.ntmps44
      go_upto_region 5 with (first | (go_at_call 65; (with_reducible refine (fget_c p v _ ws rs size i false _ H.out).mono ?_); rintro e w1 ⟨rfl, hf⟩; rw [HG.out]; have HF := Lib.hid (((Fr.refl w _).alloc _).trans hf); have H1 := Lib.hid (H.out.fr hf); have HB1 := Lib.hid (hf.blk HBK.out (fun h => h)); clear hf) | (go_at_call 66; (with_reducible refine (Wd.tag_c x t _ HX.out HT.out).mono ?_); rintro e w2 ⟨rfl, n2, rfl⟩) | (go_at_call 67; (with_reducible refine (Wd.val_c x i _ HX.out HN.out).mono ?_); rintro e w3 ⟨rfl, n3, rfl⟩; have H3 := Lib.hid (H1.out.fr ((Fr.refl _ _).drewN (n2 + n3))); have HF3 := Lib.hid (HF.out.drewN (n2 + n3))) | (go_at_call 27; (with_reducible refine (used_c p v ws size _ H3.out.ar).mono ?_); rintro e w4 ⟨rfl, rfl⟩))
      have k0 : (w1.drewN (n2 + n3)).cell? ⟨w.heap.size, 0, none⟩ = some (.bool false) := by simp [World.cell?, HB1.out]
      have k1 : (w1.drewN (n2 + n3)).cell? ⟨w.heap.size, 1, none⟩ = some (.int .i64 i) := by simp [World.cell?, HB1.out]
      go_wp2_with (first | (go_at_call 65; (with_reducible refine (fget_c p v _ ws rs size i false _ H.out).mono ?_); rintro e w1 ⟨rfl, hf⟩; rw [HG.out]; have HF := Lib.hid (((Fr.refl w _).alloc _).trans hf); have H1 := Lib.hid (H.out.fr hf); have HB1 := Lib.hid (hf.blk HBK.out (fun h => h)); clear hf) | (go_at_call 66; (with_reducible refine (Wd.tag_c x t _ HX.out HT.out).mono ?_); rintro e w2 ⟨rfl, n2, rfl⟩) | (go_at_call 67; (with_reducible refine (Wd.val_c x i _ HX.out HN.out).mono ?_); rintro e w3 ⟨rfl, n3, rfl⟩; have H3 := Lib.hid (H1.out.fr ((Fr.refl _ _).drewN (n2 + n3))); have HF3 := Lib.hid (HF.out.drewN (n2 + n3))) | (go_at_call 27; (with_reducible refine (used_c p v ws size _ H3.out.ar).mono ?_); rintro e w4 ⟨rfl, rfl⟩))
      go_ret
      exact ⟨rfl, HF3.out⟩
set_option maxHeartbeats 4000000 in
theorem thread_yes (p : Nat) (v r : Value) (ws rs ws' rs' : List Int) (size i : Int) (b : Bool) (w : World) (h : TA 101 w p v ws size r rs) (hn : threadM ws rs ⟨b, i⟩ = some (ws', rs')) :
    Calls Try.prog 44 #[.pointer (some ⟨p, 0, none⟩), r, .agg #[.bool b, .int .i64 i]] w fun e w' => e = .returned (.bool true) ∧ TA 101 w' p v ws' size r rs' ∧ Fr w w' (UO v r) := by
  obtain ⟨x, n, hg, ht, hv, hn0, hn1, hne, rfl, rfl⟩ : ∃ x n, fGet ws rs ⟨b, i⟩ = some x ∧ tagW x = 5 ∧ valW x = n ∧ 0 ≤ n ∧ n < ws.length ∧ (b = true ∨ i ≠ n) ∧ ws' = wrAt (fSetW ws ⟨b, i⟩ (rd0 ws n)) n (linkF ⟨b, i⟩) ∧ rs' = fSetR rs ⟨b, i⟩ (rd0 ws n) := by
    unfold threadM at hn
    cases hg : fGet ws rs ⟨b, i⟩ with
    | none => rw [hg] at hn; cases hn
    | some x =>
      rw [hg] at hn
      simp only at hn
      split at hn
      · rename_i hc
        simp only [Option.some.injEq, Prod.mk.injEq] at hn
        exact ⟨x, _, rfl, hc.1, rfl, hc.2.1, hc.2.2.1, hc.2.2.2, hn.1.symm, hn.2.symm⟩
      · cases hn
  have hx := fGet_ok h.ar.ok h.okr hg
  have hmx := h.ar.mx
  have hle := h.ar.le
  have hlr := h.lenr
  have hi : 0 ≤ i ∧ i < 1099511627776 := by
    unfold fGet at hg
    split at hg
    · obtain ⟨k, e, hk, _⟩ := rdAt_some hg; simp only at e; omega
    · obtain ⟨k, e, hk, _⟩ := rdAt_some hg; simp only at e; omega
  obtain ⟨x0, hx0⟩ : ∃ x0, rd0 ws n = x0 := ⟨_, rfl⟩
  obtain ⟨k, rfl⟩ := Int.eq_ofNat_of_zero_le hn0
  have hk : k < ws.length := by omega
  have hr0 : rdAt ws k = some x0 := by rw [← hx0]; unfold rd0; rw [rdAt_of hk]; rfl
  have hx0k : okW x0 := by
    have := okWs_getD h.ar.ok k hk
    have hr1 := hr0
    rw [rdAt_of hk] at hr1
    injection hr1 with e
    rw [← e]; exact this
  rw [hx0]
  obtain ⟨n, hnk⟩ : ∃ n : Int, (k : Int) = n := ⟨_, rfl⟩
  rw [hnk] at hr0 hn0 hn1 hv hne ⊢
  obtain ⟨L, hL⟩ : ∃ L, linkF ⟨b, i⟩ = L := ⟨_, rfl⟩
  rw [hL]
  have HLK : Hid (okW L) := Lib.hid (by rw [← hL]; exact okW_ofW _ _)
  have HL := Lib.hid hL
  have HX0 := Lib.hid hr0
  have HX0K := Lib.hid hx0k
  have HI0 := Lib.hid hi.1
  have HI1 := Lib.hid hi.2
  have HX := Lib.hid hx
  have HT := Lib.hid ht
  have HN := Lib.hid hv
  have HG := Lib.hid hg
  have HIS : Hid ((fGet ws rs ⟨b, i⟩).isSome = true) := Lib.hid (by rw [hg]; rfl)
  have HNW : Hid (0 ≤ n ∧ n < (fSetW ws ⟨b, i⟩ x0).length) := Lib.hid (by rw [fSetW_len]; exact ⟨hn0, hn1⟩)
  have d1 : decide (n < 0) = false := decide_eq_false (by omega)
  have d2 : decide ((ws.length : Int) ≤ n) = false := decide_eq_false (by omega)
  have q1 : (0 : Int) ≤ n := hn0
  have q2 : n < ws.length := hn1
  clear hL hr0 hx0k hi hx ht hv hg hn hx0 hmx hle hlr hnk hk hn0 hn1
  cases b with
  | true =>
    have H := Lib.hid (h.fr ((Fr.refl w _).alloc (.cells #[.bool true, .int .i64 i] 68)))
    have hbk : (w.alloc (.cells #[.bool true, .int .i64 i] 68)).heap[w.heap.size]? = some (.cells #[.bool true, .int .i64 i] 68 (0, 0)) := blk_new _ _ _
    have HBK := Lib.hid hbk
    obtain ⟨A, cap, rfl⟩ := h.own.rd.len
    rw [uw_length] at *
    clear h hbk hne
    go_enter Try.func44, Try.ntmps44
    go_upto_region 5 with (first | (go_at_call 65; (with_reducible refine (fget_c p v _ ws rs size i true _ H.out).mono ?_); rintro e w1 ⟨rfl, hf⟩; rw [HG.out]; have HF := Lib.hid (((Fr.refl w _).alloc _).trans hf); have H1 := Lib.hid (H.out.fr hf); have HB1 := Lib.hid (hf.blk HBK.out (fun h => h)); clear hf) | (go_at_call 66; (with_reducible refine (Wd.tag_c x 5 _ HX.out HT.out).mono ?_); rintro e w2 ⟨rfl, n2, rfl⟩) | (go_at_call 67; (with_reducible refine (Wd.val_c x n _ HX.out HN.out).mono ?_); rintro e w3 ⟨rfl, n3, rfl⟩; have H3 := Lib.hid (H1.out.fr ((Fr.refl _ _).drewN (n2 + n3))); have HF3 := Lib.hid (HF.out.drewN (n2 + n3))))
    have hb3 : (w1.drewN (n2 + n3)).heap[w.heap.size]? = some (.cells #[.bool true, .int .i64 i] 68 (0, 0)) := HB1.out
    obtain ⟨w3, hw3⟩ : ∃ w3, w1.drewN (n2 + n3) = w3 := ⟨_, rfl⟩
    rw [hw3] at hb3 H3 HF3 ⊢
    obtain ⟨D, hD⟩ : ∃ D, w.heap.size = D := ⟨_, rfl⟩
    rw [hD] at hb3 ⊢
    have HDD := Lib.hid hD
    clear hw3 hD
    have k0 : w3.cell? ⟨D, 0, none⟩ = some (.bool true) := by simp [World.cell?, hb3]
    have k1 : w3.cell? ⟨D, 1, none⟩ = some (.int .i64 i) := by simp [World.cell?, hb3]
    have hnD : ¬ UO v (.slice A rs.length cap) D := fun e => by
      rcases e with e | e
      · obtain ⟨cur, hc⟩ := H3.out.ar.own.elem D e; rw [hb3] at hc; simp at hc
      · obtain ⟨cur, hc⟩ := H3.out.own.elem D e; rw [hb3] at hc; simp at hc
    have HND := Lib.hid hnD
    have HB3 := Lib.hid hb3
    clear hnD hb3
    go_upto_region 8 with (first | (go_at_call 27; (with_reducible refine (used_c p v ws size _ H3.out.ar).mono ?_); rintro e w4 ⟨rfl, rfl⟩) | (go_at_call 23; (with_reducible refine (get_c p v ws size n x0 _ H3.out.ar HX0.out).mono ?_); rintro e w5 ⟨rfl, rfl⟩))
    go_wp2_with (first
      | (go_at_call 68; (with_reducible refine (fset_c p v _ ws rs size i x0 true _ H3.out HX0K.out HIS.out).mono ?_); rintro e w5 ⟨rfl, ht5, hf5⟩; have H5 := Lib.hid ht5; have HF5 := Lib.hid hf5; have k05 := hf5.cell k0 HND.out; have k15 := hf5.cell k1 HND.out; clear ht5 hf5 k0 k1)
      | (go_at_call 69; (with_reducible refine (Wd.link_c true i L _ HI0.out HI1.out HL.out).mono ?_); rintro e w6 ⟨rfl, hb6⟩; have H6 := Lib.hid (H5.out.fr (Fr.of_below hb6 _)); have HF6 := Lib.hid (HF5.out.trans (Fr.of_below hb6 _)); clear hb6)
      | (go_at_call 21; (with_reducible refine (set_c p v _ size n L _ H6.out.ar HLK.out HNW.out).mono ?_); rintro e w7 ⟨rfl, ha7, hf7⟩; have H7 := Lib.hid (H6.out.chg (Chg.of_set ha7 hf7)); have HF7 := Lib.hid (HF6.out.then_ hf7 (fun j hj _ => .inl hj)); clear ha7 hf7))
    go_ret
    exact ⟨rfl, H7.out, (HF3.out.mono (fun _ h _ => h.elim)).then_ HF7.out (fun j hj _ => hj)⟩
  | false =>
    have H := Lib.hid (h.fr ((Fr.refl w _).alloc (.cells #[.bool false, .int .i64 i] 68)))
    have hbk : (w.alloc (.cells #[.bool false, .int .i64 i] 68)).heap[w.heap.size]? = some (.cells #[.bool false, .int .i64 i] 68 (0, 0)) := blk_new _ _ _
    have HBK := Lib.hid hbk
    obtain ⟨A, cap, rfl⟩ := h.own.rd.len
    rw [uw_length] at *
    have hin : (i == n) = false := by simpa using hne
    clear h hbk hne
    go_enter Try.func44, Try.ntmps44
    go_upto_region 5 with (first | (go_at_call 65; (with_reducible refine (fget_c p v _ ws rs size i false _ H.out).mono ?_); rintro e w1 ⟨rfl, hf⟩; rw [HG.out]; have HF := Lib.hid (((Fr.refl w _).alloc _).trans hf); have H1 := Lib.hid (H.out.fr hf); have HB1 := Lib.hid (hf.blk HBK.out (fun h => h)); clear hf) | (go_at_call 66; (with_reducible refine (Wd.tag_c x 5 _ HX.out HT.out).mono ?_); rintro e w2 ⟨rfl, n2, rfl⟩) | (go_at_call 67; (with_reducible refine (Wd.val_c x n _ HX.out HN.out).mono ?_); rintro e w3 ⟨rfl, n3, rfl⟩; have H3 := Lib.hid (H1.out.fr ((Fr.refl _ _).drewN (n2 + n3))); have HF3 := Lib.hid (HF.out.drewN (n2 + n3))))
    have hb3 : (w1.drewN (n2 + n3)).heap[w.heap.size]? = some (.cells #[.bool false, .int .i64 i] 68 (0, 0)) := HB1.out
    obtain ⟨w3, hw3⟩ : ∃ w3, w1.drewN (n2 + n3) = w3 := ⟨_, rfl⟩
    rw [hw3] at hb3 H3 HF3 ⊢
    obtain ⟨D, hD⟩ : ∃ D, w.heap.size = D := ⟨_, rfl⟩
    rw [hD] at hb3 ⊢
    have HDD := Lib.hid hD
    clear hw3 hD
    have k0 : w3.cell? ⟨D, 0, none⟩ = some (.bool false) := by simp [World.cell?, hb3]
    have k1 : w3.cell? ⟨D, 1, none⟩ = some (.int .i64 i) := by simp [World.cell?, hb3]
    have hnD : ¬ UO v (.slice A rs.length cap) D := fun e => by
      rcases e with e | e
      · obtain ⟨cur, hc⟩ := H3.out.ar.own.elem D e; rw [hb3] at hc; simp at hc
      · obtain ⟨cur, hc⟩ := H3.out.own.elem D e; rw [hb3] at hc; simp at hc
    have HND := Lib.hid hnD
    have HB3 := Lib.hid hb3
    clear hnD hb3
    go_upto_region 8 with (first | (go_at_call 27; (with_reducible refine (used_c p v ws size _ H3.out.ar).mono ?_); rintro e w4 ⟨rfl, rfl⟩) | (go_at_call 23; (with_reducible refine (get_c p v ws size n x0 _ H3.out.ar HX0.out).mono ?_); rintro e w5 ⟨rfl, rfl⟩))
    go_wp2_with (first
      | (go_at_call 68; (with_reducible refine (fset_c p v _ ws rs size i x0 false _ H3.out HX0K.out HIS.out).mono ?_); rintro e w5 ⟨rfl, ht5, hf5⟩; have H5 := Lib.hid ht5; have HF5 := Lib.hid hf5; have k05 := hf5.cell k0 HND.out; have k15 := hf5.cell k1 HND.out; clear ht5 hf5 k0 k1)
      | (go_at_call 69; (with_reducible refine (Wd.link_c false i L _ HI0.out HI1.out HL.out).mono ?_); rintro e w6 ⟨rfl, hb6⟩; have H6 := Lib.hid (H5.out.fr (Fr.of_below hb6 _)); have HF6 := Lib.hid (HF5.out.trans (Fr.of_below hb6 _)); clear hb6)
      | (go_at_call 21; (with_reducible refine (set_c p v _ size n L _ H6.out.ar HLK.out HNW.out).mono ?_); rintro e w7 ⟨rfl, ha7, hf7⟩; have H7 := Lib.hid (H6.out.chg (Chg.of_set ha7 hf7)); have HF7 := Lib.hid (HF6.out.then_ hf7 (fun j hj _ => .inl hj)); clear ha7 hf7))
    go_ret
    exact ⟨rfl, H7.out, (HF3.out.mono (fun _ h _ => h.elim)).then_ HF7.out (fun j hj _ => hj)⟩
end Go.Proofs.Ytjiaaefpepdoeaa

/-
  CONTRACT: thread.Loose. Conditions: none but that arena and roots stand.
-/
namespace Go.Proofs.Ytjiaaefpepdoeaa
open Go.RowKit Md
set_option linter.unusedVariables false
theorem fSetR_len (rs : List Int) (f : Fld) (x : Int) : (fSetR rs f x).length = rs.length := by unfold fSetR; split <;> simp [wrAt_len]
/-- The state of Loose's rounds. -/
structure LI (T : TypeId) (w W : World) (p : Nat) (v r : Value) (ws0 rs0 : List Int) (size at_ dst : Int) (g n : Nat) (ws rs : List Int) : Prop where
  ta : TA T W p v ws size r rs
  fr : Fr w W (UO v r)
  eq : looseM (ws0.length + rs0.length) ws0 rs0 at_ dst = ⟨n + (looseM g ws rs at_ dst).n, (looseM g ws rs at_ dst).ok, (looseM g ws rs at_ dst).ws, (looseM g ws rs at_ dst).rs⟩
  gn : n + g = ws0.length + rs0.length
  l1 : ws.length = ws0.length
  l2 : rs.length = rs0.length
/-- The answer: how many, whether to the end; all words, all roots. -/
def LA (T : TypeId) (w w' : World) (p : Nat) (v r : Value) (size : Int) (q : Loosed) (e : Ending) : Prop :=
  e = .returned (.tuple #[.int .i64 q.n, .bool q.ok]) ∧ TA T w' p v q.ws size r q.rs ∧ Fr w w' (UO v r)
theorem loose_none {g : Nat} {ws rs : List Int} {a t : Int} (h : rdAt ws a = none) : looseM g ws rs a t = ⟨0, true, ws, rs⟩ := by cases g <;> simp [looseM, h]
theorem loose_tag {g : Nat} {ws rs : List Int} {a t x : Int} (h : rdAt ws a = some x) (h7 : tagW x ≠ 7) : looseM g ws rs a t = ⟨0, true, ws, rs⟩ := by cases g <;> simp [looseM, h, h7]
theorem loose_zero {ws rs : List Int} {a t x : Int} (h : rdAt ws a = some x) (h7 : tagW x = 7) : looseM 0 ws rs a t = ⟨0, false, ws, rs⟩ := by simp [looseM, h, h7]
theorem loose_far {g : Nat} {ws rs : List Int} {a t x : Int} (h : rdAt ws a = some x) (h7 : tagW x = 7) (hf : fGet ws rs (Md.linked x) = none) : looseM g ws rs a t = ⟨0, false, ws, rs⟩ := by cases g <;> simp [looseM, h, h7, hf]
theorem loose_step {g : Nat} {ws rs : List Int} {a t x y : Int} (h : rdAt ws a = some x) (h7 : tagW x = 7) (hf : fGet ws rs (Md.linked x) = some y) :
    looseM (g + 1) ws rs a t = ⟨(looseM g (fSetW (wrAt ws a y) (Md.linked x) (ofW 5 t)) (fSetR rs (Md.linked x) (ofW 5 t)) a t).n + 1, (looseM g (fSetW (wrAt ws a y) (Md.linked x) (ofW 5 t)) (fSetR rs (Md.linked x) (ofW 5 t)) a t).ok, (looseM g (fSetW (wrAt ws a y) (Md.linked x) (ofW 5 t)) (fSetR rs (Md.linked x) (ofW 5 t)) a t).ws, (looseM g (fSetW (wrAt ws a y) (Md.linked x) (ofW 5 t)) (fSetR rs (Md.linked x) (ofW 5 t)) a t).rs⟩ := by
  simp [looseM, h, h7, hf]
set_option maxRecDepth 100000 in
set_option maxHeartbeats 4000000 in
theorem loose_c (p : Nat) (v r : Value) (ws rs : List Int) (size at_ dst : Int) (w : World) (h : TA 101 w p v ws size r rs) :
    Calls Try.prog 45 #[.pointer (some ⟨p, 0, none⟩), r, .int .i64 at_, .int .i64 dst] w fun e w' => LA 101 w w' p v r size (looseM (ws.length + rs.length) ws rs at_ dst) e := by
  have hmx := h.ar.mx
  have hle := h.ar.le
  have hlr := h.lenr
  have HB : Hid (ws.length ≤ 1048576 ∧ rs.length ≤ 1048576) := Lib.hid (by omega)
  have H0 : Hid (LI 101 w w p v r ws rs size at_ dst (ws.length + rs.length) 0 ws rs) := Lib.hid ⟨h, Fr.refl _ _, by simp, by simp, rfl, rfl⟩
  obtain ⟨A, cap, rfl⟩ := h.own.rd.len
  rw [uw_length] at *
  obtain ⟨Z, hZ⟩ : ∃ Z, looseM (ws.length + rs.length) ws rs at_ dst = Z := ⟨_, rfl⟩
  rw [hZ]
  have HZ := Lib.hid hZ
  clear h hmx hle hlr hZ
  go_enter Try.func45, Try.ntmps45
  go_wp2
  go_loopg [10] (ws.length + rs.length) (fun g nv wr => ∃ (n : Nat) (ws1 rs1 : List Int), nv = .int .i64 n ∧ Hid (LI 101 w wr p v (.slice A rs.length cap) ws rs size at_ dst g n ws1 rs1))
  case atStart => exact ⟨0, _, _, rfl, H0⟩
  case round =>
    clear H0
    obtain ⟨n, ws1, rs1, rfl, HI⟩ := hrel
    cases hr : rdAt ws1 at_ with
    | none =>
      have HR := Lib.hid hr
      clear hr
      go_wp2_with (first | (go_at_call 23; (with_reducible refine (get_no p v ws1 size at_ _ HI.out.ta.ar HR.out).mono ?_); rintro e w1 ⟨rfl, rfl⟩))
      go_ret2
      have hz : Z = ⟨n, true, ws1, rs1⟩ := by rw [← HZ.out, HI.out.eq, loose_none HR.out]; simp
      rw [hz]
      exact ⟨rfl, HI.out.ta, HI.out.fr⟩
    | some x =>
      have HR := Lib.hid hr
      have hx : okW x := by obtain ⟨k, _, hk, rfl⟩ := rdAt_some hr; exact okWs_getD HI.out.ta.ar.ok k hk
      have HX := Lib.hid hx
      obtain ⟨t, ht⟩ : ∃ t, tagW x = t := ⟨_, rfl⟩
      have HT := Lib.hid ht
      clear hr hx ht
      by_cases h7 : t = 7
      · subst h7
        obtain ⟨⟨fb, fi⟩, hfl⟩ : ∃ f, Md.linked x = f := ⟨_, rfl⟩
        have HFL := Lib.hid hfl
        clear hfl
        go_upto_region 9 with (first | (go_at_call 23; (with_reducible refine (get_c p v ws1 size at_ x _ HI.out.ta.ar HR.out).mono ?_); rintro e w1 ⟨rfl, rfl⟩) | (go_at_call 66; (with_reducible refine (Wd.tag_c x 7 _ HX.out HT.out).mono ?_); rintro e w2 ⟨rfl, n2, rfl⟩) | (go_at_call 70; (with_reducible refine (Wd.linked_c x ⟨fb, fi⟩ _ HX.out HFL.out).mono ?_); rintro e wl ⟨rfl, hb⟩))
        obtain ⟨W2, hW2⟩ : ∃ W2, wl.alloc (.cells #[.bool fb, .int .i64 fi] 68) = W2 := ⟨_, rfl⟩
        obtain ⟨D, hD⟩ : ∃ D, wl.heap.size = D := ⟨_, rfl⟩
        have hf2 : Fr wr W2 (fun _ => False) := by rw [← hW2]; exact (((Fr.refl _ _).drewN n2).trans (Fr.of_below hb _)).alloc _
        have hdb : W2.heap[D]? = some (.cells #[.bool fb, .int .i64 fi] 68 (0, 0)) := by rw [← hW2, ← hD]; exact blk_new _ _ _
        have H2 := Lib.hid (HI.out.ta.fr hf2)
        have HF2 := Lib.hid (HI.out.fr.then_ hf2 (fun _ h _ => h.elim))
        have k0 : W2.cell? ⟨D, 0, none⟩ = some (.bool fb) := by simp [World.cell?, hdb]
        have k1 : W2.cell? ⟨D, 1, none⟩ = some (.int .i64 fi) := by simp [World.cell?, hdb]
        have HDB := Lib.hid hdb
        simp only [hW2, hD]
        clear hW2 hD hb hf2 hdb
        cases hfg : fGet ws1 rs1 ⟨fb, fi⟩ with
        | none =>
          have HG := Lib.hid hfg
          clear hfg
          go_wp2_with (first | (go_at_call 65; (with_reducible refine (fget_c p v _ ws1 rs1 size fi fb _ H2.out).mono ?_); rintro e w3 ⟨rfl, hf⟩; rw [HG.out]; have HF3 := Lib.hid hf; clear hf))
          go_ret2
          have hz : Z = ⟨n, false, ws1, rs1⟩ := by rw [← HZ.out, HI.out.eq, loose_far HR.out HT.out (by rw [HFL.out]; exact HG.out)]; simp
          rw [hz]
          exact ⟨rfl, H2.out.fr HF3.out, HF2.out.then_ HF3.out (fun _ h _ => h.elim)⟩
        | some y =>
          have HG := Lib.hid hfg
          have HIS : Hid ((fGet ws1 rs1 ⟨fb, fi⟩).isSome = true) := Lib.hid (by rw [hfg]; rfl)
          have HY := Lib.hid (fGet_ok HI.out.ta.ar.ok HI.out.ta.okr hfg)
          have hbd := HB.out
          have hgn := HI.out.gn
          have hl1 := HI.out.l1
          have HW : Hid (wrap64 ((ws1.length : Int) + rs.length) = ws1.length + rs.length) := Lib.hid (by unfold wrap64; omega)
          clear hfg
          cases gk with
          | zero =>
            have d1 : decide ((ws1.length : Int) + rs.length ≤ n) = true := decide_eq_true (by omega)
            clear hbd hgn hl1
            have hw := HW.out
            go_wp2_with (first | (go_at_call 65; (with_reducible refine (fget_c p v _ ws1 rs1 size fi fb _ H2.out).mono ?_); rintro e w3 ⟨rfl, hf⟩; rw [HG.out]; have HF3 := Lib.hid hf; have H3 := Lib.hid (H2.out.fr hf); clear hf) | (go_at_call 27; (with_reducible refine (used_c p v ws1 size _ H3.out.ar).mono ?_); rintro e w4 ⟨rfl, rfl⟩))
            go_ret2
            have hz : Z = ⟨n, false, ws1, rs1⟩ := by rw [← HZ.out, HI.out.eq, loose_zero HR.out HT.out]; simp
            rw [hz]
            exact ⟨rfl, H3.out, HF2.out.then_ HF3.out (fun _ h _ => h.elim)⟩
          | succ g' =>
            have d1 : decide ((ws1.length : Int) + rs.length ≤ n) = false := decide_eq_false (by omega)
            clear hbd hgn hl1
            have hw := HW.out
            obtain ⟨q, hq⟩ : ∃ q, ofW 5 dst = q := ⟨_, rfl⟩
            have HQ := Lib.hid hq
            have HQK : Hid (okW q) := Lib.hid (by rw [← hq]; exact okW_ofW _ _)
            have HIR : Hid (0 ≤ at_ ∧ at_ < ws1.length) := Lib.hid (by obtain ⟨k, rfl, hk, _⟩ := rdAt_some HR.out; omega)
            have HIS2 : Hid ((fGet (wrAt ws1 at_ y) rs1 ⟨fb, fi⟩).isSome = true) := Lib.hid (by
              have h1 := HIS.out
              unfold fGet at h1 ⊢
              split
              · rename_i hh; rw [if_pos hh] at h1; exact h1
              · rename_i hh; rw [if_neg hh] at h1
                unfold rdAt at h1 ⊢
                rw [wrAt_len]
                split at h1
                · rename_i h3; rw [if_pos h3]; rfl
                · cases h1)
            clear hq
            go_upto_region 13 with (first | (go_at_call 65; (with_reducible refine (fget_c p v _ ws1 rs1 size fi fb _ H2.out).mono ?_); rintro e w3 ⟨rfl, hf⟩; rw [HG.out]; have HF3 := Lib.hid hf; have H3 := Lib.hid (H2.out.fr hf); clear hf) | (go_at_call 27; (with_reducible refine (used_c p v ws1 size _ H3.out.ar).mono ?_); rintro e w4 ⟨rfl, rfl⟩) | (go_at_call 21; (with_reducible refine (set_c p v ws1 size at_ y _ H3.out.ar HY.out HIR.out).mono ?_); rintro e w4 ⟨rfl, ha, hf⟩; have H4 := Lib.hid (H3.out.chg (Chg.of_set ha hf)); have HF4 := Lib.hid hf; clear ha hf))
            have hb3 := HF3.out.blk HDB.out (fun h => h)
            have hnD : ¬ UO v (.slice A rs.length cap) D := fun e => by
              rcases e with e | e
              · obtain ⟨cur, hc⟩ := H3.out.ar.own.elem D e; rw [hb3] at hc; simp at hc
              · obtain ⟨cur, hc⟩ := H3.out.own.elem D e; rw [hb3] at hc; simp at hc
            have hb4 := HF4.out.blk hb3 (fun e => hnD (.inl e))
            have k04 : w4.cell? ⟨D, 0, none⟩ = some (.bool fb) := by simp [World.cell?, hb4]
            have k14 : w4.cell? ⟨D, 1, none⟩ = some (.int .i64 fi) := by simp [World.cell?, hb4]
            have HND := Lib.hid hnD
            have H4d := Lib.hid (H4.out.fr ((Fr.refl _ (fun _ => False)).drew))
            clear hb3 hnD hb4 k0 k1
            go_region_held3 (fun w' => w'.cell? ⟨D, 0, none⟩ = some (.bool fb) ∧ w'.cell? ⟨D, 1, none⟩ = some (.int .i64 fi)) (first | exact ⟨k06, k16⟩ | exact ⟨k04, k14⟩)
              (first
                | (go_at_call 71; (with_reducible refine (Wd.of_c 5 dst q _ HQ.out).mono ?_); rintro e w5 ⟨rfl, n5, rfl⟩; have H5 := Lib.hid (H4.out.fr ((Fr.refl w4 (fun _ => False)).drewN (1 + n5))))
                | (go_at_call 68; (with_reducible refine (fset_c p v _ (wrAt ws1 at_ y) rs1 size fi q fb _ H5.out HQK.out HIS2.out).mono ?_); rintro e w6 ⟨rfl, ht6, hf6⟩; have H6 := Lib.hid ht6; have HF6 := Lib.hid hf6; have k06 := hf6.cell (a := ⟨D, 0, none⟩) k04 HND.out; have k16 := hf6.cell (a := ⟨D, 1, none⟩) k14 HND.out; clear ht6 hf6))
            go_wp2
            go_roundg g'
            case measure => exact Nat.lt_succ_self _
            case rel =>
              have hst := loose_step (g := g') (a := at_) (t := dst) HR.out HT.out (by rw [HFL.out]; exact HG.out)
              rw [HFL.out, HQ.out] at hst
              have hw1 : wrap64 ((n : Int) + 1) = n + 1 := by have := HI.out.gn; have := HB.out; clear hw; unfold wrap64; omega
              refine ⟨n + 1, _, _, by first | (simp; done) | (simp; exact hw1), Lib.hid ⟨H6.out, ?_, ?_, ?_, ?_, ?_⟩⟩
              · refine Fr.then_ ((HF2.out.then_ HF3.out (fun _ h _ => h.elim)).then_ HF4.out (fun j hj _ => .inl hj)) (S1 := UO v (.slice A rs.length cap)) ?_ (fun j hj _ => hj)
                exact Fr.trans (Fr.drewN (Fr.refl w4 _) (1 + n5)) HF6.out
              · rw [HI.out.eq, hst]
                simp only [Loosed.mk.injEq, and_self, and_true]
                omega
              · have := HI.out.gn; omega
              · rw [fSetW_len, wrAt_len]; exact HI.out.l1
              · rw [fSetR_len]; exact HI.out.l2
      · have hb : (t != 7) = true := by simpa using h7
        have H7 := Lib.hid h7
        clear h7
        go_wp2_with (first | (go_at_call 23; (with_reducible refine (get_c p v ws1 size at_ x _ HI.out.ta.ar HR.out).mono ?_); rintro e w1 ⟨rfl, rfl⟩) | (go_at_call 66; (with_reducible refine (Wd.tag_c x t _ HX.out HT.out).mono ?_); rintro e w2 ⟨rfl, n2, rfl⟩))
        go_ret2
        have hz : Z = ⟨n, true, ws1, rs1⟩ := by rw [← HZ.out, HI.out.eq, loose_tag HR.out (by rw [HT.out]; exact H7.out)]; simp
        rw [hz]
        exact ⟨rfl, HI.out.ta.fr ((Fr.refl _ _).drewN _), HI.out.fr.drewN _⟩
end Go.Proofs.Ytjiaaefpepdoeaa
