/-
  TWO ARENAS AND A DEED: the state of the rounds of ArenaPlays.
-/
import Derived.Test.YtjiaaefpepdoeaaUni
namespace Go.Proofs.Ytjiaaefpepdoeaa
open Go.RowKit Md
set_option linter.unusedVariables false
/-- The program's arena at p, the model's at q, a deed at D; nothing that stood in w is touched. -/
structure DI (w W : World) (p q D : Nat) (dd nn mm xx : Int) (v u : Value) (a : List Int) (s : Int) (b : List Int) (t : Int) : Prop where
  ar : Ar 101 W p v a s
  me : Ar 41 W q u b t
  ap : Apt v u
  fr : Fr w W (fun _ => False)
  inn : ∀ k, InBlk v k ∨ InBlk u k → w.heap.size ≤ k
  hp : w.heap.size ≤ p
  hq : w.heap.size ≤ q
  deed : W.heap[D]? = some (.cells #[.int .i64 dd, .int .i64 nn, .int .i64 mm, .int .u64 xx] 31 (0, 0))
section
variable {w W W1 : World} {p q D : Nat} {dd nn mm xx : Int} {v v' u u' : Value} {a a' b b' : List Int} {s s' t t' : Int}
theorem deed_new (w : World) (c : Array Value) (T : TypeId) : (w.alloc (.cells c T)).heap[w.heap.size]? = some (.cells c T (0, 0)) := by
  show (w.heap.push _)[w.heap.size]? = _
  exact Array.getElem?_push_size
theorem DI.c0 (h : DI w W p q D dd nn mm xx v u a s b t) : W.cell? ⟨D, 0, none⟩ = some (.int .i64 dd) := by simp [World.cell?, h.deed]
theorem DI.c1 (h : DI w W p q D dd nn mm xx v u a s b t) : W.cell? ⟨D, 1, none⟩ = some (.int .i64 nn) := by simp [World.cell?, h.deed]
theorem DI.c2 (h : DI w W p q D dd nn mm xx v u a s b t) : W.cell? ⟨D, 2, none⟩ = some (.int .i64 mm) := by simp [World.cell?, h.deed]
theorem DI.c3 (h : DI w W p q D dd nn mm xx v u a s b t) : W.cell? ⟨D, 3, none⟩ = some (.int .u64 xx) := by simp [World.cell?, h.deed]
theorem DI.chg_deed {T : TypeId} {q : Nat} {u u' : Value} {b b' : List Int} {t t' : Int} (h : W.heap[D]? = some (.cells #[.int .i64 dd, .int .i64 nn, .int .i64 mm, .int .u64 xx] 31 (0, 0))) (ha : Ar T W q u b t) (hT : T ≠ 31) (hc : Chg T W W1 q u u' b' t') :
    W1.heap[D]? = some (.cells #[.int .i64 dd, .int .i64 nn, .int .i64 mm, .int .u64 xx] 31 (0, 0)) := by
  refine hc.2.1.blk h fun e => ?_
  rcases e with e | e
  · rw [e, ha.blk] at h
    simp at h

  · obtain ⟨cur, hcur⟩ := ha.own.elem D e
    rw [hcur] at h
    simp at h
theorem DI.onA (h : DI w W p q D dd nn mm xx v u a s b t) (hc : Chg 101 W W1 p v v' a' s') : DI w W1 p q D dd nn mm xx v' u a' s' b t := by
  obtain ⟨h1, h2⟩ := hc.other h.ar h.me (by decide) h.ap
  refine ⟨hc.1, h1, h2, h.fr.then_ hc.2.1 fun i hi hl => ?_, fun k hk => ?_, h.hp, h.hq, DI.chg_deed h.deed h.ar (by decide) hc⟩
  · rcases hi with rfl | hi
    · have := h.hp; omega
    · have := h.inn i (.inl hi); omega
  · rcases hk with hk | hk
    · rcases hc.2.2 k hk with h3 | h3
      · exact h.inn k (.inl h3)
      · exact Nat.le_trans h.fr.size h3
    · exact h.inn k (.inr hk)
theorem DI.onM (h : DI w W p q D dd nn mm xx v u a s b t) (hc : Chg 41 W W1 q u u' b' t') : DI w W1 p q D dd nn mm xx v u' a s b' t' := by
  obtain ⟨h1, h2⟩ := hc.other h.me h.ar (by decide) h.ap.symm
  refine ⟨h1, hc.1, h2.symm, h.fr.then_ hc.2.1 fun i hi hl => ?_, fun k hk => ?_, h.hp, h.hq, DI.chg_deed h.deed h.me (by decide) hc⟩
  · rcases hi with rfl | hi
    · have := h.hq; omega
    · have := h.inn i (.inr hi); omega
  · rcases hk with hk | hk
    · exact h.inn k (.inl hk)
    · rcases hc.2.2 k hk with h3 | h3
      · exact h.inn k (.inr h3)
      · exact Nat.le_trans h.fr.size h3
theorem DI.drew (h : DI w W p q D dd nn mm xx v u a s b t) : DI w W.drew p q D dd nn mm xx v u a s b t :=
  ⟨h.ar.drew, h.me.drew, h.ap, h.fr.drew, h.inn, h.hp, h.hq, h.deed⟩
theorem DI.drewN (h : DI w W p q D dd nn mm xx v u a s b t) (n : Nat) : DI w (W.drewN n) p q D dd nn mm xx v u a s b t :=
  ⟨h.ar.drewN n, h.me.drewN n, h.ap, h.fr.drewN n, h.inn, h.hp, h.hq, h.deed⟩
theorem DI.below (h : DI w W p q D dd nn mm xx v u a s b t) (hf : Fr W W1 fun _ => False) : DI w W1 p q D dd nn mm xx v u a s b t :=
  ⟨h.ar.fr hf, h.me.fr hf, h.ap, h.fr.trans hf, h.inn, h.hp, h.hq, hf.blk h.deed (fun h => h)⟩
end
/-- Two arenas with the same words. -/
structure DJ (w W : World) (p q : Nat) (v u : Value) (a : List Int) (s : Int) : Prop where
  ar : Ar 101 W p v a s
  me : Ar 41 W q u a s
  ap : Apt v u
  fr : Fr w W (fun _ => False)
  inn : ∀ k, InBlk v k ∨ InBlk u k → w.heap.size ≤ k
  hp : w.heap.size ≤ p
  hq : w.heap.size ≤ q
theorem DJ.below {w W W1 : World} {p q : Nat} {v u : Value} {a : List Int} {s : Int} (h : DJ w W p q v u a s) (hf : Fr W W1 fun _ => False) : DJ w W1 p q v u a s :=
  ⟨h.ar.fr hf, h.me.fr hf, h.ap, h.fr.trans hf, h.inn, h.hp, h.hq⟩
theorem DJ.drew {w W : World} {p q : Nat} {v u : Value} {a : List Int} {s : Int} (h : DJ w W p q v u a s) : DJ w W.drew p q v u a s := h.below ((Fr.refl _ _).drew)
theorem DJ.drewN {w W : World} {p q : Nat} {v u : Value} {a : List Int} {s : Int} (h : DJ w W p q v u a s) (n : Nat) : DJ w (W.drewN n) p q v u a s := h.below ((Fr.refl _ _).drewN n)
theorem DJ.rd {w W : World} {p q : Nat} {v u : Value} {a : List Int} {s : Int} (h : DJ w W p q v u a s) : Rd W u (uw a) := h.me.own.rd
theorem DJ.len {w W : World} {p q : Nat} {v u : Value} {a : List Int} {s : Int} (h : DJ w W p q v u a s) : a.length ≤ 1073741824 := by have := h.me.le; have := h.me.mx; omega
end Go.Proofs.Ytjiaaefpepdoeaa
