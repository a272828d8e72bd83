/-
  CONTRACT: AtomsPlays for all arguments; ARGUMENTS OPENED: a slice of strings that came in reads as a list. Conditions: Go's two tables of unicode/utf8 stand as laid.
-/
import Derived.Test.YtficfpidodbdcaaDoorPy
import Derived.Deep.Strs
import Derived.ProofKit
import Derived.ChangeOld
namespace Go.Proofs.YtficfpidodbdcaaDoor
open Go.RowKit Md Go.Maps
set_option linter.unusedVariables false
set_option maxRecDepth 100000 in
set_option maxHeartbeats 4000000 in
theorem plays_far (Al : Option Addr) (nl cl : Nat) (n : Int) (w : World) (hT : Tabs w) (h : 60 < nl) :
    Calls Tryd.prog 4 #[.slice Al nl cl, .int .i64 n] w fun e w' => e = .returned (.bool true) ∧ Fr w w' (fun _ => False) := by
  have d1 : decide ((60 : Int) < nl) = true := decide_eq_true (by omega)
  have HT := Lib.hid hT
  clear h hT
  go_enter Tryd.func4, Tryd.ntmps4
  go_wp2_with (first
    | (go_at_call 6; (with_reducible refine (awake4_c _ HT.out).mono ?_); rintro e w0 ⟨rfl, hf⟩))
  go_ret
  exact ⟨rfl, hf⟩
theorem plays_c (Al : Option Addr) (cl : Nat) (ls : List ByteArray) (n : Int) (w : World) (hT : Tabs w) (hl : Rd w (.slice Al ls.length cl) (sw ls)) (hsz : ∀ s ∈ ls, s.size ≤ maxLen) (hn : -9223372036854775808 ≤ n ∧ n ≤ 9223372036854775807) :
    Calls Tryd.prog 4 #[.slice Al ls.length cl, .int .i64 n] w fun e w' => e = .returned (.bool true) ∧ Fr w w' (fun _ => False) := by
  by_cases h : 60 < ls.length
  · exact plays_far Al ls.length cl n w hT h
  · exact plays_in Al cl ls n w hT hl hsz (by omega) hn
namespace Opn
open Go.ChangeShapes Go.WideShapes Go.ChangeAt
theorem spot_none {w : World} {a : Addr} {v : Value} (h : w.cell? a = some v) : a.spot = none := by
  unfold World.cell? at h
  split at h
  · split at h
    · cases h
    · rename_i h1; simpa using h1
  · cases h
section
variable {H : Type} {enc : TypeId × Value → H} {P : Program} {w : World} {base : Nat} {held : Bool}
theorem open_strs_row {t e : TypeId} {fuel len cap : Nat} {A : Option Addr} {x : DataW H × List MemPlace} (ht : P.underlying t = some (.slice e)) (he : P.underlying e = some .string) (hc : P.cellsOf e = 1)
    (h : DataW.trod enc P w base (fun _ => true) held fuel t [.slice A len cap] = some x) :
    ∃ zs : List ByteArray, zs.length = len ∧ (∀ s ∈ zs, s.size ≤ maxLen) ∧ Rd w (.slice A len cap) (sw zs) := by
  rcases Deep.open_strs ht he hc h with ⟨hcs, _⟩ | ⟨a, l, c, m, Sx, hcs, _, hl, hm, hmm, _, hx⟩
  · simp at hcs
    obtain ⟨rfl, rfl, rfl⟩ := hcs
    exact ⟨[], rfl, (fun n hn => by cases hn), .inl ⟨rfl, none, 0, rfl, fun _ => rfl⟩⟩
  · simp at hcs
    obtain ⟨rfl, rfl, rfl⟩ := hcs
    simp only [if_true] at hmm
    subst hmm
    refine ⟨(List.range len).map Sx, by simp, fun s hs => ?_, ?_⟩
    · obtain ⟨i, hi, rfl⟩ := List.mem_map.1 hs
      exact (hx i (by have := List.mem_range.1 hi; omega)).2
    · by_cases h0 : len = 0
      · subst h0
        exact .inl ⟨by simp [sw], some a, _, rfl, (fun h => by cases h)⟩
      · obtain ⟨b, off, sp⟩ := a
        have h1 := (hx 0 (by omega)).1
        have h2 := spot_none h1
        simp [Addr.add] at h2
        subst h2
        have ad : ∀ n, (Addr.mk b off none).add n = ⟨b, off + n, none⟩ := fun n => by
          unfold Addr.add; split
          · subst_vars; rfl
          · rfl
        have hb := World.block_lt_of_cell? w _ h1
        rw [ad] at hb
        refine .inr ⟨b, off, _, by simp [sw], by simp [sw]; omega, by simp [sw]; exact hl, hm, hb, fun i hi => ?_⟩
        have hi' : i < len := by simpa [sw] using hi
        have h3 := (hx i (by omega)).1
        rw [ad] at h3
        rw [h3]
        simp [sw, hi']
end
end Opn
end Go.Proofs.YtficfpidodbdcaaDoor
