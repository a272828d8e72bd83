/-
  A TABLE OF NAMES in memory; contracts of New, Len, Name, Find. Conditions: those named in each.
-/
import Derived.Test.YtficfpidodbdcaaDoorVal
import Derived.Maps.OwnSet
import Derived.WideKeyEntry
import Derived.StringKeys
namespace Go.Proofs.YtficfpidodbdcaaDoor
open Go.RowKit Md Go.Maps
set_option linter.unusedVariables false
theorem blk_new (w : World) (c : Array Value) (T : TypeId) : (w.alloc (.cells c T)).heap[w.heap.size]? = some (.cells c T (0, 0)) := by
  show (w.heap.push _)[w.heap.size]? = _
  exact Array.getElem?_push_size
def sw (ns : List ByteArray) : List Value := ns.map Value.string
theorem sw_length (ns : List ByteArray) : (sw ns).length = ns.length := by simp [sw]
theorem sw_get {ns : List ByteArray} {k : Nat} {s : ByteArray} (h : ns[k]? = some s) : (sw ns)[k]? = some (.string s) := by simp [sw, h]
theorem strInfo : (Tryd.prog.info? 9).map (fun i => (i.zero, i.size, i.bytes)) = some (some (.string ByteArray.empty), 1, 16) := by kernel_rfl
theorem lawStr : Keyed Tryd.prog 9 := string_keyed Tryd.underlying9
theorem zeroInt (w : World) : (zeroValue 3).run Tryd.prog w = .ok (.int .i64 0) w := by kernel_rfl
/-- the map tells each name's number -/
structure MapIs (D : DataW Unit) (ns : List ByteArray) : Prop where
  is : IsMap D
  at_ : ∀ s : ByteArray, D.atKey (.string s.data.toList) (.lit (.int .i64 0)) = .lit (.int .i64 (((fnd ns s).getD 0 : Nat) : Int))
  has : ∀ s : ByteArray, Maps.has D (.string s.data.toList) = (fnd ns s).isSome
theorem bytes_inj {s t : ByteArray} (h : s.data.toList = t.data.toList) : s = t := by
  cases s; cases t
  simp only [ByteArray.mk.injEq]
  exact Array.toList_inj.1 h
theorem MapIs.nil : MapIs (.map []) [] := ⟨isMap_empty, fun _ => rfl, fun _ => rfl⟩
theorem keyLit (l : List UInt8) : WideAt.IsKeyLit (.string l) := by first | exact trivial | simp [WideAt.IsKeyLit]
theorem MapIs.put {D : DataW Unit} {ns : List ByteArray} {s : ByteArray} (h : MapIs D ns) (hf : fnd ns s = none) : MapIs (D.put (.string s.data.toList) (.lit (.int .i64 (ns.length : Int)))) (ns ++ [s]) := by
  refine ⟨h.is.put _ _, fun t => ?_, fun t => ?_⟩
  · by_cases e : t = s
    · subst e
      rw [atKey_put_same h.is (keyLit _), fnd_app_self hf]
      rfl
    · rw [atKey_put_other (fun e2 => e (bytes_inj (by injection e2))), h.at_]
      cases hh : fnd ns t with
      | none => rw [fnd_app_other hh (fun e2 => e e2.symm)]
      | some i => rw [fnd_app_in hh]
  · by_cases e : t = s
    · subst e
      rw [has_put_same h.is (keyLit _), fnd_app_self hf]
      rfl
    · rw [has_put_other (fun e2 => e (bytes_inj (by injection e2))), h.has]
      cases hh : fnd ns t with
      | none => rw [fnd_app_other hh (fun e2 => e e2.symm)]
      | some i => rw [fnd_app_in hh]
structure Tb (w : World) (p : Nat) (v : Value) (b : Nat) (ns : List ByteArray) : Prop where
  blk : w.heap[p]? = some (.cells #[v, .map (some b)] 46 (0, 0))
  own : Own w 9 v (sw ns)
  mp : ∃ D, w.ownsMap Tryd.prog 9 (plainElem (H := Unit) Tryd.prog 3) b ns.length D ∧ MapIs D ns
  nd : ns.Nodup
  sz : ∀ s ∈ ns, s.size ≤ maxLen ∧ vld s = true
  len : ns.length ≤ 1000
section
variable {w w1 : World} {p b : Nat} {v : Value} {ns : List ByteArray} {S : Nat → Prop}
theorem ownsMap_fr {H : Type} {P : Program} {k : TypeId} {R : Value → Option (DataW H × List MemPlace)} {n : Nat} {D : DataW H} (h : w.ownsMap P k R b n D) (hf : Fr w w1 S) (hn : ¬ S b) : w1.ownsMap P k R b n D := by
  obtain ⟨es, clock, hb, r⟩ := h
  exact ⟨es, clock, hf.blk hb hn, r⟩
theorem Tb.keep (h : Tb w p v b ns) (hf : Fr w w1 S) (hp : ¬ S p) (hv : ∀ i, InBlk v i → ¬ S i) (hb : ¬ S b) : Tb w1 p v b ns := by
  obtain ⟨D, h1, h2⟩ := h.mp
  exact ⟨hf.blk h.blk hp, h.own.keep hf hv, ⟨D, ownsMap_fr h1 hf hb, h2⟩, h.nd, h.sz, h.len⟩
theorem Tb.fr (h : Tb w p v b ns) (hf : Fr w w1 (fun _ => False)) : Tb w1 p v b ns := h.keep hf (fun h => h) (fun _ _ h => h) (fun h => h)
theorem Tb.c0 (h : Tb w p v b ns) : w.cell? ⟨p, 0, none⟩ = some v := by simp [World.cell?, h.blk]
theorem Tb.c1 (h : Tb w p v b ns) : w.cell? ⟨p, 1, none⟩ = some (.map (some b)) := by simp [World.cell?, h.blk]
theorem Tb.fz (h : Tb w p v b ns) (i : Nat) : w.frozen? ⟨p, i, none⟩ = false := by simp [World.frozen?, h.blk]
theorem Tb.lt (h : Tb w p v b ns) : p < w.heap.size := (Array.getElem?_eq_some_iff.1 h.blk).1
theorem Tb.look (h : Tb w p v b ns) (s : ByteArray) (hs : s.size ≤ maxLen) :
    (Instr.lookup 44 (.map (some b)) (.string s) true).run Tryd.prog w = .ok (.tuple #[.int .i64 (((fnd ns s).getD 0 : Nat) : Int), .bool (fnd ns s).isSome]) w := by
  obtain ⟨D, h1, h2⟩ := h.mp
  have h0 : plainElem (H := Unit) Tryd.prog 3 (.int .i64 0) = some (.lit (.int .i64 0), []) := plainElem_int Tryd.underlying3 (by decide)
  obtain ⟨u, ps, hr, hv⟩ := h1.look_ok lawStr Tryd.underlying44 (zeroInt w) h0 (WideMaps.keyOf_string_mk Tryd.underlying9 hs)
  obtain ⟨c, rfl, hc, _⟩ := plainElem_int_inv Tryd.underlying3 hv
  simp only [Prod.mk.injEq] at hc
  have h3 := hc.1
  rw [h2.at_ s] at h3
  injection h3 with h3
  injection h3 with _ h3
  rw [hr, ← h3, h2.has s]
end
/-- what New makes -/
theorem new_c (w : World) : Calls Tryd.prog 7 #[] w fun e w' => ∃ p b, e = .returned (.pointer (some ⟨p, 0, none⟩)) ∧ Tb w' p (.slice none 0 0) b [] ∧ Fr w w' (fun _ => False) ∧ w.heap.size ≤ p ∧ w.heap.size ≤ b := by
  have hmm := @run_makeMap Tryd.prog
  have hom : (w.alloc (.map #[] 0)).ownsMap Tryd.prog 9 (plainElem (H := Unit) Tryd.prog 3) w.heap.size 0 (.map []) := World.ownsMap_made _ _ _ _
  have HOM := Lib.hid hom
  clear hom
  go_enter Tryd.func7, Tryd.ntmps7
  go_wp2
  go_ret
  have hf : Fr (w.alloc (.map #[] 0)) ((w.alloc (.map #[] 0)).alloc (.cells #[.slice none 0 0, .map (some w.heap.size)] 46)) (fun _ => False) := (Fr.refl _ _).alloc _
  have hsz : (w.alloc (.map #[] 0)).heap.size = w.heap.size + 1 := by simp
  refine ⟨w.heap.size + 1, w.heap.size, by first | rfl | simp, ⟨?_, Own.nil _ _, ⟨_, ownsMap_fr HOM.out hf (fun h => h), MapIs.nil⟩, List.nodup_nil, (fun s hs => by cases hs), by simp⟩, ((Fr.refl w _).alloc _).trans hf, Nat.le_succ _, Nat.le_refl _⟩
  have := blk_new (w.alloc (.map #[] 0)) #[.slice none 0 0, .map (some w.heap.size)] 46
  rw [hsz] at this
  exact this
theorem len_c (p : Nat) (v : Value) (b : Nat) (ns : List ByteArray) (w : World) (h : Tb w p v b ns) :
    Calls Tryd.prog 12 #[.pointer (some ⟨p, 0, none⟩)] w fun e w' => e = .returned (.int .i64 ns.length) ∧ w = w' := by
  have c0 := h.c0
  obtain ⟨A, c, rfl⟩ := h.own.rd.len
  rw [sw_length] at *
  clear h
  go_enter Tryd.func12, Tryd.ntmps12
  go_wp2
  go_ret
  exact ⟨rfl, rfl⟩
theorem find_c (p : Nat) (v : Value) (b : Nat) (ns : List ByteArray) (s : ByteArray) (r : Option Nat) (w : World) (h : Tb w p v b ns) (hs : s.size ≤ maxLen) (hr : fnd ns s = r) :
    Calls Tryd.prog 10 #[.pointer (some ⟨p, 0, none⟩), .string s] w fun e w' => e = .returned (.tuple #[.int .i64 ((r.getD 0 : Nat) : Int), .bool r.isSome]) ∧ w = w' := by
  have c1 := h.c1
  have hl := h.look s hs
  rw [hr] at hl
  obtain ⟨n, hn⟩ : ∃ n : Int, ((r.getD 0 : Nat) : Int) = n := ⟨_, rfl⟩
  obtain ⟨ok, hok⟩ : ∃ o, r.isSome = o := ⟨_, rfl⟩
  rw [hn, hok] at hl ⊢
  clear h hs hr hn hok
  go_enter Tryd.func10, Tryd.ntmps10
  go_wp2
  go_ret2
  exact ⟨rfl, rfl⟩
theorem name_yes (p : Nat) (v : Value) (b : Nat) (ns : List ByteArray) (k : Nat) (s : ByteArray) (w : World) (h : Tb w p v b ns) (hk : ns[k]? = some s) :
    Calls Tryd.prog 9 #[.pointer (some ⟨p, 0, none⟩), .int .i64 k] w fun e w' => e = .returned (.tuple #[.string s, .bool true]) ∧ w = w' := by
  have hlt : k < ns.length := (List.getElem?_eq_some_iff.1 hk).1
  have c0 := h.c0
  have q1 : (k : Int) < ns.length := by omega
  have d1 : decide (ns.length ≤ k) = false := decide_eq_false (by omega)
  have q2 : (ns.length : Int) ≤ 1000 := by have := h.len; omega
  rcases h.own.form with ⟨_, h0⟩ | ⟨g, cap, rfl, hl, hm, hg, hc, hf⟩
  · have : (sw ns).length = 0 := by rw [h0]; rfl
    rw [sw_length] at this; omega
  · rw [sw_length] at *
    have ck := hc k hlt
    rw [sw_get hk] at ck
    clear h hk hlt hl hm hc hf
    go_enter Tryd.func9, Tryd.ntmps9
    go_wp2
    go_ret2
    exact ⟨rfl, rfl⟩
theorem name_no (p : Nat) (v : Value) (b : Nat) (ns : List ByteArray) (n : Int) (w : World) (h : Tb w p v b ns) (hn : n < 0 ∨ (ns.length : Int) ≤ n) :
    Calls Tryd.prog 9 #[.pointer (some ⟨p, 0, none⟩), .int .i64 n] w fun e w' => e = .returned (.tuple #[.string ByteArray.empty, .bool false]) ∧ w = w' := by
  have c0 := h.c0
  obtain ⟨A, c, rfl⟩ := h.own.rd.len
  rw [sw_length] at *
  by_cases h1 : n < 0
  · have d1 : decide (n < 0) = true := decide_eq_true h1
    clear h hn h1
    go_enter Tryd.func9, Tryd.ntmps9
    go_wp2
    go_ret2
    exact ⟨rfl, rfl⟩
  · have d1 : decide (n < 0) = false := decide_eq_false h1
    have d2 : decide ((ns.length : Int) ≤ n) = true := decide_eq_true (by omega)
    clear h hn h1
    go_enter Tryd.func9, Tryd.ntmps9
    go_wp2
    go_ret2
    exact ⟨rfl, rfl⟩
end Go.Proofs.YtficfpidodbdcaaDoor
