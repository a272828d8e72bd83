/-
  TEXTS JOINED FOR A CLAIM (MarkTerms): PSlideMeansx0. Conditions: none beyond those that each theorem states.
-/
import Derived.Test.YtjiaaefpepdoeaaDoorProg
import Derived.Below
import Derived.Deep.Draws
import Derived.Deep.AppendLies
import Derived.Maps.AppendAt
import Derived.OwnWalk
import Derived.Laws.BytesArg
import Derived.Laws.MakeOwn
import Derived.Laws.OwnMore
import Derived.Deep.OwnRows
import Derived.Tactics
import Derived.Lib.ConvBytes
import Derived.Laws.Slices
import Derived.WalkKit
import Derived.KernelRfl
import Derived.RowKit3
import Derived.Deep.LoopGhost
import Derived.Deep.QuietTactic
import Derived.BigQuiet
import Derived.WideLaws
import Derived.Deep.DeepCutAuto
import Derived.Deep.CutBlock
import Derived.Deep.RegionHeld3
import Derived.Laws.Rows
import Derived.Lib.AppendStr
import Derived.ArgAppend
import Derived.Laws.IdiomCopy
import Derived.OrdersHeld
import Derived.Laws.BitsLemmas
import Derived.RowKit
import Derived.Test.YtjiaaefpepdoeaaDoorZ02MarkTerms
import Derived.Test.YtjiaaefpepdoeaaDoorZ03MarkTerms
import Derived.Test.YtjiaaefpepdoeaaDoorZ04MarkTerms
import Derived.Test.YtjiaaefpepdoeaaDoorZ05MarkTerms
import Derived.Test.YtjiaaefpepdoeaaDoorZ06MarkTerms
import Derived.Test.YtjiaaefpepdoeaaDoorZ07MarkTerms
import Derived.Test.YtjiaaefpepdoeaaDoorZ08MarkTerms
import Derived.Test.YtjiaaefpepdoeaaDoorZ09MarkTerms
import Derived.Test.YtjiaaefpepdoeaaDoorZ10MarkTerms
import Derived.Test.YtjiaaefpepdoeaaDoorZ11MarkTerms
import Derived.Test.YtjiaaefpepdoeaaDoorZ12MarkTerms
import Derived.Test.YtjiaaefpepdoeaaDoorZ13MarkTerms
import Derived.Test.YtjiaaefpepdoeaaDoorZ14MarkTerms
import Derived.Test.YtjiaaefpepdoeaaDoorZ15MarkTerms
import Derived.Test.YtjiaaefpepdoeaaDoorZ16MarkTerms
import Derived.Test.YtjiaaefpepdoeaaDoorZ17MarkTerms
import Derived.Test.YtjiaaefpepdoeaaDoorZ18MarkTerms
import Derived.Test.YtjiaaefpepdoeaaDoorZ19MarkTerms
import Derived.Test.YtjiaaefpepdoeaaDoorZ20MarkTerms
import Derived.Test.YtjiaaefpepdoeaaDoorZ21MarkTerms
import Derived.Test.YtjiaaefpepdoeaaDoorZ22MarkTerms
namespace Go.Proofs.YtjiaaefpepdoeaaDoor.PSlideMeans
open Go.RowKit Go.Proofs.YtjiaaefpepdoeaaDoorW.PrintWords Go.Proofs.YtjiaaefpepdoeaaDoorW.PrintLast Go.Proofs.YtjiaaefpepdoeaaDoorW.PrintMore
attribute [local go_sem] max2_int min2_int max_two min_two max_three min_three max_four min_four   -- for this text's walks alone
set_option linter.unusedVariables false
set_option linter.unusedSimpArgs false
def errW : Option Int → Value
 | none => .nilIface
 | some c => .iface 0 (.int .i64 c)
theorem errW_none : errW none = .nilIface := rfl
theorem errW_some (c : Int) : errW (some c) = .iface 0 (.int .i64 c) := rfl
structure S26 where
 f0 : Int
 f1 : Bool
 f2 : (List Int)
 f3 : ByteArray
 f4 : Int
 f5 : (List S26)
 f6 : (List Int)
def z26 : S26 := ⟨(0 : Int), false, ([] : List Int), (⟨#[]⟩ : ByteArray), (0 : Int), ([] : List S26), ([] : List Int)⟩
def F26 (d : Kd S26) : Kd S26 := Kd.iso (Kd.pair (Kd.int .i64) (Kd.pair Kd.bool (Kd.pair (Kd.slice 123 (Kd.int .u32)) (Kd.pair Kd.string (Kd.pair (Kd.int .i64) (Kd.pair (Kd.slice 26 d) (Kd.slice 5 (Kd.int .u8)))))))) (fun x : S26 => (x.f0, x.f1, x.f2, x.f3, x.f4, x.f5, x.f6))
theorem mono26 : Kd.Mono F26 := Kd.mono_iso _ (Kd.mono_pair (Kd.mono_const _) (Kd.mono_pair (Kd.mono_const _) (Kd.mono_pair (Kd.mono_const _) (Kd.mono_pair (Kd.mono_const _) (Kd.mono_pair (Kd.mono_const _) (Kd.mono_pair (Kd.mono_slice 26 Kd.mono_id) (Kd.mono_const _)))))))
theorem sub26 : Kd.Sub F26 [5, 26, 123] := Kd.sub_iso _ (Kd.sub_pair (Kd.sub_const _ (by decide)) (Kd.sub_pair (Kd.sub_const _ (by decide)) (Kd.sub_pair (Kd.sub_const _ (by decide)) (Kd.sub_pair (Kd.sub_const _ (by decide)) (Kd.sub_pair (Kd.sub_const _ (by decide)) (Kd.sub_pair (Kd.sub_slice 26 (by decide) Kd.sub_id) (Kd.sub_const _ (by decide))))))))
theorem sz26 : ∀ n, (Kd.upto F26 7 [5, 26, 123] n).sz = 7 := Kd.upto_sz (fun _ => rfl)
def k26 : Kd S26 := Kd.fix F26 7 [5, 26, 123] sz26 (Kd.upto_E sub26)
theorem k26_open {w : World} {x : S26} {cs : List Value} (h : k26.K w x cs) : ∃ A2 c2 A5 c5 A6 c6, cs = [.int .i64 x.f0, .bool x.f1, .slice A2 x.f2.length c2, .string x.f3, .int .i64 x.f4, .slice A5 x.f5.length c5, .slice A6 x.f6.length c6] ∧ x.f2.length ≤ c2 ∧ (Kd.int .u32).C w A2 x.f2.length x.f2 ∧ x.f5.length ≤ c5 ∧ k26.C w A5 x.f5.length x.f5 ∧ x.f6.length ≤ c6 ∧ (Kd.int .u8).C w A6 x.f6.length x.f6 := by
 obtain ⟨n, h⟩ := h
 cases n with
 | zero => exact h.elim
 | succ n =>
  obtain ⟨_, _, rfl, rfl, ⟨_, _, rfl, rfl, ⟨_, _, rfl, ⟨A2, c2, rfl, l2, g2⟩, ⟨_, _, rfl, rfl, ⟨_, _, rfl, rfl, ⟨_, _, rfl, ⟨A5, c5, rfl, l5, g5⟩, ⟨A6, c6, rfl, l6, g6⟩⟩⟩⟩⟩⟩⟩ := h
  exact ⟨A2, c2, A5, c5, A6, c6, rfl, l2, g2, l5, Kd.fix_C g5, l6, g6⟩
theorem k26_openM {w : World} {base : Nat} {ok : Nat → Prop} {x : S26} {cs : List Value} (h : k26.M w base ok x cs) : ∃ v2 v5 v6, cs = [.int .i64 x.f0, .bool x.f1, v2, .string x.f3, .int .i64 x.f4, v5, v6] ∧ (Kd.int .u32).R 123 w base ok v2 x.f2 ∧ k26.R 26 w base ok v5 x.f5 ∧ (Kd.int .u8).R 5 w base ok v6 x.f6 := by
 obtain ⟨n, h⟩ := h
 cases n with
 | zero => exact h.elim
 | succ n =>
  obtain ⟨_, _, rfl, rfl, ⟨_, _, rfl, rfl, ⟨_, _, rfl, ⟨v2, rfl, g2⟩, ⟨_, _, rfl, rfl, ⟨_, _, rfl, rfl, ⟨_, _, rfl, ⟨v5, rfl, g5⟩, ⟨v6, rfl, g6⟩⟩⟩⟩⟩⟩⟩ := h
  exact ⟨v2, v5, v6, rfl, g2, Kd.fix_R g5, g6⟩
theorem k26_mk (w : World) (x : S26) {A2 : Option Addr} {c2 : Nat} (l2 : x.f2.length ≤ c2) (g2 : (Kd.int .u32).C w A2 x.f2.length x.f2) {A5 : Option Addr} {c5 : Nat} (l5 : x.f5.length ≤ c5) (g5 : k26.C w A5 x.f5.length x.f5) {A6 : Option Addr} {c6 : Nat} (l6 : x.f6.length ≤ c6) (g6 : (Kd.int .u8).C w A6 x.f6.length x.f6) : k26.K w x [.int .i64 x.f0, .bool x.f1, .slice A2 x.f2.length c2, .string x.f3, .int .i64 x.f4, .slice A5 x.f5.length c5, .slice A6 x.f6.length c6] := by
 obtain ⟨n5, q5⟩ := Kd.fix_C_back mono26 g5
 have r5 := Kd.upto_C_le mono26 sz26 (show n5 ≤ n5 by omega) q5
 exact ⟨n5 + 1, ⟨[.int .i64 x.f0], [.bool x.f1, .slice A2 x.f2.length c2, .string x.f3, .int .i64 x.f4, .slice A5 x.f5.length c5, .slice A6 x.f6.length c6], rfl, rfl, ⟨[.bool x.f1], [.slice A2 x.f2.length c2, .string x.f3, .int .i64 x.f4, .slice A5 x.f5.length c5, .slice A6 x.f6.length c6], rfl, rfl, ⟨[.slice A2 x.f2.length c2], [.string x.f3, .int .i64 x.f4, .slice A5 x.f5.length c5, .slice A6 x.f6.length c6], rfl, ⟨A2, c2, rfl, l2, g2⟩, ⟨[.string x.f3], [.int .i64 x.f4, .slice A5 x.f5.length c5, .slice A6 x.f6.length c6], rfl, rfl, ⟨[.int .i64 x.f4], [.slice A5 x.f5.length c5, .slice A6 x.f6.length c6], rfl, rfl, ⟨[.slice A5 x.f5.length c5], [.slice A6 x.f6.length c6], rfl, ⟨A5, c5, rfl, l5, r5⟩, ⟨A6, c6, rfl, l6, g6⟩⟩⟩⟩⟩⟩⟩⟩
theorem k26_mkM (w : World) (base : Nat) (ok : Nat → Prop) (x : S26) {v2 : Value} (g2 : (Kd.int .u32).R 123 w base ok v2 x.f2) {v5 : Value} (g5 : k26.R 26 w base ok v5 x.f5) {v6 : Value} (g6 : (Kd.int .u8).R 5 w base ok v6 x.f6) : k26.M w base ok x [.int .i64 x.f0, .bool x.f1, v2, .string x.f3, .int .i64 x.f4, v5, v6] := by
 obtain ⟨n5, q5⟩ := Kd.fix_R_back mono26 g5
 have r5 := Kd.upto_R_le mono26 sz26 (show n5 ≤ n5 by omega) q5
 exact ⟨n5 + 1, ⟨[.int .i64 x.f0], [.bool x.f1, v2, .string x.f3, .int .i64 x.f4, v5, v6], rfl, rfl, ⟨[.bool x.f1], [v2, .string x.f3, .int .i64 x.f4, v5, v6], rfl, rfl, ⟨[v2], [.string x.f3, .int .i64 x.f4, v5, v6], rfl, ⟨v2, rfl, g2⟩, ⟨[.string x.f3], [.int .i64 x.f4, v5, v6], rfl, rfl, ⟨[.int .i64 x.f4], [v5, v6], rfl, rfl, ⟨[v5], [v6], rfl, ⟨v5, rfl, r5⟩, ⟨v6, rfl, g6⟩⟩⟩⟩⟩⟩⟩⟩
def rd_T26 (xs : List S26) (i : Int) : S26 := xs.getD i.toNat z26
theorem at_T26 {w : World} {A : Option Addr} {n : Nat} {xs : List S26} (h : Kd.C k26 w A n xs) (i : Int) (h0 : 0 ≤ i) (h1 : i < n) : ∃ ad A2 c2 A5 c5 A6 c6, A = some ad ∧ w.cell? (ad.add (i.toNat * 7)) = some (.int .i64 (rd_T26 xs i).f0) ∧ w.cell? ⟨(ad.add (i.toNat * 7)).block, (ad.add (i.toNat * 7)).off + 1, none⟩ = some (.bool (rd_T26 xs i).f1) ∧ w.cell? ⟨(ad.add (i.toNat * 7)).block, (ad.add (i.toNat * 7)).off + 2, none⟩ = some (.slice A2 (rd_T26 xs i).f2.length c2) ∧ w.cell? ⟨(ad.add (i.toNat * 7)).block, (ad.add (i.toNat * 7)).off + 3, none⟩ = some (.string (rd_T26 xs i).f3) ∧ w.cell? ⟨(ad.add (i.toNat * 7)).block, (ad.add (i.toNat * 7)).off + 4, none⟩ = some (.int .i64 (rd_T26 xs i).f4) ∧ w.cell? ⟨(ad.add (i.toNat * 7)).block, (ad.add (i.toNat * 7)).off + 5, none⟩ = some (.slice A5 (rd_T26 xs i).f5.length c5) ∧ w.cell? ⟨(ad.add (i.toNat * 7)).block, (ad.add (i.toNat * 7)).off + 6, none⟩ = some (.slice A6 (rd_T26 xs i).f6.length c6) ∧ (rd_T26 xs i).f2.length ≤ c2 ∧ (Kd.int .u32).C w A2 (rd_T26 xs i).f2.length (rd_T26 xs i).f2 ∧ (rd_T26 xs i).f5.length ≤ c5 ∧ k26.C w A5 (rd_T26 xs i).f5.length (rd_T26 xs i).f5 ∧ (rd_T26 xs i).f6.length ≤ c6 ∧ (Kd.int .u8).C w A6 (rd_T26 xs i).f6.length (rd_T26 xs i).f6 := by
 obtain ⟨ad, c, e, _, hK, hc0⟩ := Kd.C_get h z26 i h0 h1
 have hc : ∀ j u, c[j]? = some u → w.cell? (ad.add (i.toNat * 7 + j)) = some u := hc0
 obtain ⟨A2, c2, A5, c5, A6, c6, rfl, l2, g2, l5, g5, l6, g6⟩ := k26_open hK
 exact ⟨ad, A2, c2, A5, c5, A6, c6, e, hc 0 _ rfl, by rw [← add_field _ _ 1 (by omega)]; exact hc 1 _ rfl, by rw [← add_field _ _ 2 (by omega)]; exact hc 2 _ rfl, by rw [← add_field _ _ 3 (by omega)]; exact hc 3 _ rfl, by rw [← add_field _ _ 4 (by omega)]; exact hc 4 _ rfl, by rw [← add_field _ _ 5 (by omega)]; exact hc 5 _ rfl, by rw [← add_field _ _ 6 (by omega)]; exact hc 6 _ rfl, l2, g2, l5, g5, l6, g6⟩
end Go.Proofs.YtjiaaefpepdoeaaDoor.PSlideMeans
