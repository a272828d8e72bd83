/-
  TEXTS JOINED FOR A CLAIM (MarkTerms): Pt0 Pti Pta. Conditions: none beyond those that each theorem states.
-/
import Derived.Test.YtjiaaefpepdoeaaDoorZ33MarkTerms
import Derived.Test.YtjiaaefpepdoeaaDoorZ01MarkTerms
namespace Go.Proofs.YtjiaaefpepdoeaaDoor
open Go.RowKit Md Go.Proofs.YtjiaaefpepdoeaaDoorW.PrintWords
open Go.Proofs.YtjiaaefpepdoeaaDoor.PSlideMeans (S26 z26 k26)
set_option linter.unusedVariables false
def BSc (q t s : Nat) (bad : Bool) (gv : Value) : Array Value := #[.pointer (some ⟨q, 0, none⟩), .pointer (some ⟨t, 0, none⟩), .pointer (some ⟨s, 0, none⟩), .bool bad, gv]
structure BS (w : World) (b q t s : Nat) (vm nv bv pv zv cv gv : Value) (ws : List Int) (size : Int) (bad : Bool) (L : List ByteArray) (B P Z C G : List Int) (n : Nat) : Prop where
 blk : w.heap[b]? = some (.cells (BSc q t s bad gv) 82 (0, 0))
 mem : Ar 46 w q vm ws size
 nam : Nb w t nv L
 st : StG w s bv pv zv cv 1048576 B P Z C
 so : StO n B P Z C
 giv : Own w 3 gv (iw G)
 gl : G.length ≤ n
 ag : ∀ k, InBlk gv k → ¬ InBlk pv k ∧ ¬ InBlk zv k ∧ ¬ InBlk cv k
def BB (b q t s : Nat) (vm nv bv pv zv cv gv : Value) (k : Nat) : Prop := k = b ∨ k = q ∨ InBlk vm k ∨ k = t ∨ InBlk nv k ∨ StB s bv pv zv cv k ∨ InBlk gv k
def Ty (w : World) (k : Nat) (T : TypeId) : Prop := ∃ c, w.heap[k]? = some (.cells c T (0, 0))
theorem Ty.ne {w : World} {i j : Nat} {T T' : TypeId} (h : Ty w i T) (h' : Ty w j T') (ne : T ≠ T') : i ≠ j := fun e => by
 obtain ⟨c, hc⟩ := h
 obtain ⟨c', hc'⟩ := h'
 rw [e, hc'] at hc
 simp at hc
 exact ne hc.2.symm
theorem Own.tyk {w : World} {e : TypeId} {v : Value} {xs : List Value} (h : Own w e v xs) {k : Nat} (hk : InBlk v k) : Ty w k e := h.elem k hk
section
variable {w w' : World} {b q t s : Nat} {vm nv bv pv zv cv gv : Value} {ws : List Int} {size : Int} {bad : Bool} {L : List ByteArray} {B P Z C G : List Int} {n : Nat} {S : Nat → Prop}
theorem BS.tb (h : BS w b q t s vm nv bv pv zv cv gv ws size bad L B P Z C G n) : Ty w b 82 := ⟨_, h.blk⟩
theorem BS.tq (h : BS w b q t s vm nv bv pv zv cv gv ws size bad L B P Z C G n) : Ty w q 46 := ⟨_, h.mem.blk⟩
theorem BS.tt (h : BS w b q t s vm nv bv pv zv cv gv ws size bad L B P Z C G n) : Ty w t 35 := ⟨_, h.nam.blk⟩
theorem BS.ts (h : BS w b q t s vm nv bv pv zv cv gv ws size bad L B P Z C G n) : Ty w s 79 := ⟨_, h.st.blk⟩
theorem BS.lt (h : BS w b q t s vm nv bv pv zv cv gv ws size bad L B P Z C G n) : ∀ k, BB b q t s vm nv bv pv zv cv gv k → k < w.heap.size := fun k hk => by
 have ty : ∀ {T : TypeId} {i : Nat}, Ty w i T → i < w.heap.size := fun ⟨c, hc⟩ => (Array.getElem?_eq_some_iff.1 hc).1
 rcases hk with rfl | rfl | hk | rfl | hk | hk | hk
 ·exact ty h.tb
 ·exact ty h.tq
 ·exact h.mem.own.lt k hk
 ·exact ty h.tt
 ·exact h.nam.own.lt k hk
 ·exact h.st.lt k hk
 ·exact h.giv.lt k hk
theorem BS.keep (h : BS w b q t s vm nv bv pv zv cv gv ws size bad L B P Z C G n) (hf : Fr w w' S) (hn : ∀ k, BB b q t s vm nv bv pv zv cv gv k → ¬ S k) : BS w' b q t s vm nv bv pv zv cv gv ws size bad L B P Z C G n :=
 ⟨hf.blk h.blk (hn b (.inl rfl)), h.mem.keep hf (hn q (.inr (.inl rfl))) (fun k hk => hn k (.inr (.inr (.inl hk)))), h.nam.keep hf (hn t (.inr (.inr (.inr (.inl rfl))))) (fun k hk => hn k (.inr (.inr (.inr (.inr (.inl hk)))))), h.st.keepN hf (fun k hk => hn k (.inr (.inr (.inr (.inr (.inr (.inl hk))))))), h.so, h.giv.keep hf (fun k hk => hn k (.inr (.inr (.inr (.inr (.inr (.inr hk))))))), h.gl, h.ag⟩
theorem BS.fr (h : BS w b q t s vm nv bv pv zv cv gv ws size bad L B P Z C G n) (hf : Fr w w' (fun _ => False)) : BS w' b q t s vm nv bv pv zv cv gv ws size bad L B P Z C G n := h.keep hf (fun _ _ h => h)
theorem StG.tyk (h : StG w s bv pv zv cv 1048576 B P Z C) {k : Nat} (hk : StB s bv pv zv cv k) : Ty w k 79 ∨ Ty w k 5 ∨ Ty w k 3 := by
 rcases hk with rfl | hk | hk | hk | hk
 ·exact .inl ⟨_, h.blk⟩
 ·exact .inr (.inl (h.ob.tyk hk))
 ·exact .inr (.inr (h.op.tyk hk))
 ·exact .inr (.inr (h.oz.tyk hk))
 ·exact .inr (.inr (h.oc.tyk hk))
theorem BS.mem' (h : BS w b q t s vm nv bv pv zv cv gv ws size bad L B P Z C G n) {vm' : Value} {ws' : List Int} (ha : Ar 46 w' q vm' ws' size) (hf : Fr w w' (fun k => k = q ∨ InBlk vm k)) : BS w' b q t s vm' nv bv pv zv cv gv ws' size bad L B P Z C G n := by
 have nS : ∀ {k : Nat} {T : TypeId}, Ty w k T → T ≠ 46 → T ≠ 39 → ¬ (k = q ∨ InBlk vm k) := fun ht n1 n2 hk => hk.elim (fun e => ht.ne h.tq n1 e) (fun e => ht.ne (h.mem.own.tyk e) n2 rfl)
 exact ⟨hf.blk h.blk (nS h.tb (by decide) (by decide)), ha, h.nam.keep hf (nS h.tt (by decide) (by decide)) (fun k hk => nS (h.nam.own.tyk hk) (by decide) (by decide)), h.st.keepN hf (fun k hk => by
  rcases h.st.tyk hk with ht | ht | ht
  ·exact nS ht (by decide) (by decide)
  ·exact nS ht (by decide) (by decide)
  ·exact nS ht (by decide) (by decide)), h.so, h.giv.keep hf (fun k hk => nS (h.giv.tyk hk) (by decide) (by decide)), h.gl, h.ag⟩
theorem BS.nam' (h : BS w b q t s vm nv bv pv zv cv gv ws size bad L B P Z C G n) {nv' : Value} {L' : List ByteArray} (ha : Nb w' t nv' L') (hf : Fr w w' (fun k => k = t ∨ InBlk nv k)) : BS w' b q t s vm nv' bv pv zv cv gv ws size bad L' B P Z C G n := by
 have nS : ∀ {k : Nat} {T : TypeId}, Ty w k T → T ≠ 35 → T ≠ 9 → ¬ (k = t ∨ InBlk nv k) := fun ht n1 n2 hk => hk.elim (fun e => ht.ne h.tt n1 e) (fun e => ht.ne (h.nam.own.tyk e) n2 rfl)
 exact ⟨hf.blk h.blk (nS h.tb (by decide) (by decide)), h.mem.keep hf (nS h.tq (by decide) (by decide)) (fun k hk => nS (h.mem.own.tyk hk) (by decide) (by decide)), ha, h.st.keepN hf (fun k hk => by
  rcases h.st.tyk hk with ht | ht | ht
  ·exact nS ht (by decide) (by decide)
  ·exact nS ht (by decide) (by decide)
  ·exact nS ht (by decide) (by decide)), h.so, h.giv.keep hf (fun k hk => nS (h.giv.tyk hk) (by decide) (by decide)), h.gl, h.ag⟩
theorem BS.st' (h : BS w b q t s vm nv bv pv zv cv gv ws size bad L B P Z C G n) {bv' pv' zv' cv' : Value} {B' P' Z' C' : List Int} {m : Nat} (hs : StG w' s bv' pv' zv' cv' 1048576 B' P' Z' C') (ho : StO m B' P' Z' C') (hm : n ≤ m) (hf : Fr w w' (StB s bv pv zv cv)) (hc : ∀ k, StB s bv' pv' zv' cv' k → StB s bv pv zv cv k ∨ w.heap.size ≤ k) : BS w' b q t s vm nv bv' pv' zv' cv' gv ws size bad L B' P' Z' C' G m := by
 have nS : ∀ {k : Nat} {T : TypeId}, Ty w k T → T ≠ 79 → T ≠ 5 → T ≠ 3 → ¬ StB s bv pv zv cv k := fun ht n1 n2 n3 hk => by
  rcases h.st.tyk hk with h1 | h1 | h1
  ·exact ht.ne h1 n1 rfl
  ·exact ht.ne h1 n2 rfl
  ·exact ht.ne h1 n3 rfl
 have nG : ∀ k, InBlk gv k → ¬ StB s bv pv zv cv k := fun k hk hS => by
  have ht := h.giv.tyk hk
  rcases hS with rfl | e | e | e | e
  ·exact ht.ne h.ts (by decide) rfl
  ·exact ht.ne (h.st.ob.tyk e) (by decide) rfl
  ·exact (h.ag k hk).1 e
  ·exact (h.ag k hk).2.1 e
  ·exact (h.ag k hk).2.2 e
 have nG' : ∀ k, InBlk gv k → ¬ StB s bv' pv' zv' cv' k := fun k hk hS => (hc k hS).elim (nG k hk) (fun e => by have := h.giv.lt k hk; omega)
 exact ⟨hf.blk h.blk (nS h.tb (by decide) (by decide) (by decide)), h.mem.keep hf (nS h.tq (by decide) (by decide) (by decide)) (fun k hk => nS (h.mem.own.tyk hk) (by decide) (by decide) (by decide)), h.nam.keep hf (nS h.tt (by decide) (by decide) (by decide)) (fun k hk => nS (h.nam.own.tyk hk) (by decide) (by decide) (by decide)), hs, ho, h.giv.keep hf nG, Nat.le_trans h.gl hm,
  fun k hk => ⟨fun e => nG' k hk (.inr (.inr (.inl e))), fun e => nG' k hk (.inr (.inr (.inr (.inl e)))), fun e => nG' k hk (.inr (.inr (.inr (.inr e))))⟩⟩
theorem BS.own' (h : BS w b q t s vm nv bv pv zv cv gv ws size bad L B P Z C G n) {bad' : Bool} (hb : w'.heap[b]? = some (.cells (BSc q t s bad' gv) 82 (0, 0))) (hf : Fr w w' (fun k => k = b)) : BS w' b q t s vm nv bv pv zv cv gv ws size bad' L B P Z C G n := by
 have nS : ∀ {k : Nat} {T : TypeId}, Ty w k T → T ≠ 82 → ¬ (k = b) := fun ht n1 hk => ht.ne h.tb n1 hk
 exact ⟨hb, h.mem.keep hf (nS h.tq (by decide)) (fun k hk => nS (h.mem.own.tyk hk) (by decide)), h.nam.keep hf (nS h.tt (by decide)) (fun k hk => nS (h.nam.own.tyk hk) (by decide)), h.st.keepN hf (fun k hk => by
  rcases h.st.tyk hk with ht | ht | ht
  ·exact nS ht (by decide)
  ·exact nS ht (by decide)
  ·exact nS ht (by decide)), h.so, h.giv.keep hf (fun k hk => nS (h.giv.tyk hk) (by decide)), h.gl, h.ag⟩
theorem BS.setbad (h : BS w b q t s vm nv bv pv zv cv gv ws size bad L B P Z C G n) (bad' : Bool) : BS (w.setCell ⟨b, 3, none⟩ (.bool bad')) b q t s vm nv bv pv zv cv gv ws size bad' L B P Z C G n ∧ Fr w (w.setCell ⟨b, 3, none⟩ (.bool bad')) (fun k => k = b) := by
 have hf : Fr w (w.setCell ⟨b, 3, none⟩ (.bool bad')) (fun k => k = b) := (Fr.refl w (fun k => k = b)).setCell (a := ⟨b, 3, none⟩) (fun _ => rfl) _
 exact ⟨h.own' (blk_put h.blk 3 _ rfl) hf, hf⟩
theorem BS.setgiv (h : BS w b q t s vm nv bv pv zv cv gv ws size bad L B P Z C G n) {gv' : Value} {x : Int} (hb : w'.heap[b]? = some (.cells (BSc q t s bad gv) 82 (0, 0))) (ho : Own w' 3 gv' (iw (G ++ [x]))) (hf : Fr w w' (fun k => InBlk gv k)) (hn : ∀ k, InBlk gv' k → InBlk gv k ∨ w.heap.size ≤ k) (hm : G.length + 1 ≤ n) :
  BS (w'.setCell ⟨b, 4, none⟩ gv') b q t s vm nv bv pv zv cv gv' ws size bad L B P Z C (G ++ [x]) n ∧ Fr w (w'.setCell ⟨b, 4, none⟩ gv') (fun k => k = b ∨ InBlk gv k) := by
 have f2 : Fr w' (w'.setCell ⟨b, 4, none⟩ gv') (fun k => k = b) := (Fr.refl w' (fun k => k = b)).setCell (a := ⟨b, 4, none⟩) (fun _ => rfl) _
 have f3 : Fr w (w'.setCell ⟨b, 4, none⟩ gv') (fun k => k = b ∨ InBlk gv k) := (hf.mono (fun k hk _ => .inr hk)).then_ f2 (fun k hk _ => .inl hk)
 have nS : ∀ {k : Nat} {T : TypeId}, Ty w k T → T ≠ 82 → T ≠ 3 → ¬ (k = b ∨ InBlk gv k) := fun ht n1 n2 hk => hk.elim (fun e => ht.ne h.tb n1 e) (fun e => ht.ne (h.giv.tyk e) n2 rfl)
 have nN : ∀ k, InBlk gv' k → ¬ (k = b) := fun k hk e => (ho.tyk hk).ne ⟨_, hb⟩ (by decide) e
 have nP : ∀ k, StB s bv pv zv cv k → ¬ (k = b ∨ InBlk gv k) := fun k hk hS => by
  rcases hk with rfl | e | e | e | e
  ·exact nS h.ts (by decide) (by decide) hS
  ·exact nS (h.st.ob.tyk e) (by decide) (by decide) hS
  ·exact hS.elim (fun e2 => (h.st.op.tyk e).ne h.tb (by decide) e2) (fun e2 => (h.ag k e2).1 e)
  ·exact hS.elim (fun e2 => (h.st.oz.tyk e).ne h.tb (by decide) e2) (fun e2 => (h.ag k e2).2.1 e)
  ·exact hS.elim (fun e2 => (h.st.oc.tyk e).ne h.tb (by decide) e2) (fun e2 => (h.ag k e2).2.2 e)
 have nG : ∀ k, InBlk gv' k → ¬ StB s bv pv zv cv k := fun k hk hS => (hn k hk).elim (fun e => nP k hS (.inr e)) (fun e => by have := h.st.lt k hS; omega)
 refine ⟨⟨blk_put (cs := BSc q t s bad gv) hb 4 _ rfl, h.mem.keep f3 (nS h.tq (by decide) (by decide)) (fun k hk => nS (h.mem.own.tyk hk) (by decide) (by decide)), h.nam.keep f3 (nS h.tt (by decide) (by decide)) (fun k hk => nS (h.nam.own.tyk hk) (by decide) (by decide)), h.st.keepN f3 nP, h.so, ho.keep f2 nN, by simpa using hm, fun k hk => ⟨fun e => nG k hk (.inr (.inr (.inl e))), fun e => nG k hk (.inr (.inr (.inr (.inl e)))), fun e => nG k hk (.inr (.inr (.inr (.inr e))))⟩⟩, f3⟩
theorem BS.cells (h : BS w b q t s vm nv bv pv zv cv gv ws size bad L B P Z C G n) : w.cell? ⟨b, 0, none⟩ = some (.pointer (some ⟨q, 0, none⟩)) ∧ w.cell? ⟨b, 1, none⟩ = some (.pointer (some ⟨t, 0, none⟩)) ∧ w.cell? ⟨b, 2, none⟩ = some (.pointer (some ⟨s, 0, none⟩)) ∧ w.cell? ⟨b, 3, none⟩ = some (.bool bad) ∧ w.cell? ⟨b, 4, none⟩ = some gv ∧ w.frozen? ⟨b, 3, none⟩ = false ∧ w.frozen? ⟨b, 4, none⟩ = false := by
 have := h.blk
 unfold BSc at this
 simp [World.cell?, World.frozen?, this]
end
def Grw (w w' : World) (F : Nat → Prop) (k : Nat) : Prop := F k ∨ (w.heap.size ≤ k ∧ k < w'.heap.size)
def Bst (w : World) (b q t s : Nat) (F : Nat → Prop) (ws : List Int) (size : Int) (bad : Bool) (n : Nat) : Prop :=
 ∃ vm nv bv pv zv cv gv L B P Z C G, BS w b q t s vm nv bv pv zv cv gv ws size bad L B P Z C G n ∧ ∀ k, BB b q t s vm nv bv pv zv cv gv k → F k
theorem Bst.mk' {w w' : World} {b q t s : Nat} {vm nv bv pv zv cv gv : Value} {ws : List Int} {size : Int} {bad : Bool} {L : List ByteArray} {B P Z C G : List Int} {n : Nat} {F : Nat → Prop} (h : BS w' b q t s vm nv bv pv zv cv gv ws size bad L B P Z C G n) (hc : ∀ k, BB b q t s vm nv bv pv zv cv gv k → F k ∨ w.heap.size ≤ k) : Bst w' b q t s (Grw w w' F) ws size bad n :=
 ⟨vm, nv, bv, pv, zv, cv, gv, L, B, P, Z, C, G, h, fun k hk => (hc k hk).imp id (fun e => ⟨e, h.lt k hk⟩)⟩
theorem Bst.mono {w : World} {b q t s : Nat} {ws : List Int} {size : Int} {bad : Bool} {n : Nat} {F F' : Nat → Prop} (h : Bst w b q t s F ws size bad n) (hF : ∀ k, F k → F' k) : Bst w b q t s F' ws size bad n := by
 obtain ⟨vm, nv, bv, pv, zv, cv, gv, L, B, P, Z, C, G, h1, h2⟩ := h
 exact ⟨vm, nv, bv, pv, zv, cv, gv, L, B, P, Z, C, G, h1, fun k hk => hF k (h2 k hk)⟩
def PutA (d : Nat) (x : S26) (w w' : World) (b q t s : Nat) (F : Nat → Prop) (ws : List Int) (size : Int) (bad : Bool) (n : Nat) (e : Ending) : Prop :=
 ∃ u ext n' bad', e = .returned (.int .u64 u) ∧ okW u ∧ Bst w' b q t s (Grw w w' F) (ws ++ ext) size bad' n' ∧ Fr w w' F ∧ (n' : Int) ≤ n + twM d x ∧ (ext.length : Int) ≤ twM d x ∧ (bad' = false → bad = false ∧ (ext.length : Int) = twM d x ∧ Bl (ws ++ ext) [u] ws.length (ws ++ ext).length)
structure PutI (d : Nat) (x : S26) (cs : List Value) (w0 w : World) (F : Nat → Prop) (ws : List Int) (size : Int) (n : Nat) : Prop where
 tr : TR d w0 x cs
 may : MayP d x
 tree : trT x ≤ 65536
 tabs : Tabs w0
 fr : Fr w0 w (fun _ => False)
 new : ∀ k, F k → w0.heap.size ≤ k ∧ k < w.heap.size
 room : (ws.length : Int) + twM d x ≤ size
 big : size ≤ 2000
 hand : (n : Int) + twM d x ≤ 2000
section
variable {d : Nat} {x : S26} {w w' : World} {b q t s : Nat} {vm nv bv pv zv cv gv : Value} {ws : List Int} {size : Int} {bad : Bool} {L : List ByteArray} {B P Z C G : List Int} {n : Nat} {F : Nat → Prop}
theorem PutA.imm (h : BS w' b q t s vm nv bv pv zv cv gv ws size false L B P Z C G n) (hc : ∀ k, BB b q t s vm nv bv pv zv cv gv k → F k ∨ w.heap.size ≤ k) (hf : Fr w w' F) {u : Int} (hu : okW u) (h0 : twM d x = 0) (ht : tagW u ≠ 5 ∧ tagW u ≠ 6 ∧ tagW u ≠ 7) : PutA d x w w' b q t s F ws size false n (.returned (.int .u64 u)) :=
 ⟨u, [], n, false, rfl, hu, by rw [List.append_nil]; exact Bst.mk' h hc, hf, by rw [h0]; omega, by rw [h0]; simp, fun _ => ⟨rfl, by rw [h0]; rfl, by rw [List.append_nil]; exact Bl.one ht.1 ht.2.1 ht.2.2⟩⟩
theorem PutA.wrong {m : Nat} {u : Int} (h : BS w' b q t s vm nv bv pv zv cv gv ws size true L B P Z C G m) (hc : ∀ k, BB b q t s vm nv bv pv zv cv gv k → F k ∨ w.heap.size ≤ k) (hf : Fr w w' F) (hu : okW u) (hm : (m : Int) ≤ n + twM d x) : PutA d x w w' b q t s F ws size bad n (.returned (.int .u64 u)) :=
 ⟨u, [], m, true, rfl, hu, by rw [List.append_nil]; exact Bst.mk' h hc, hf, hm, twM_nn d x, fun h => Bool.noConfusion h⟩
theorem PutA.leaf {m : Nat} {h : Hdr} {l : List Int} (hB : BS w' b q t s vm nv bv pv zv cv gv (ws ++ makeH h :: l) size false L B P Z C G m) (hc : ∀ k, BB b q t s vm nv bv pv zv cv gv k → F k ∨ w.heap.size ≤ k) (hf : Fr w w' F) (hm : (m : Int) ≤ n + twM d x) (htw : twM d x = 1 + (l.length : Int)) (hmay : mayH h = true) (hs : h.size = l.length) (hfl : fieldsH h = 0) (hl : ws.length < 576460752303423488) : PutA d x w w' b q t s F ws size false n (.returned (.int .u64 (ofW 5 ws.length))) :=
 ⟨_, makeH h :: l, m, false, rfl, okW_ofW _ _, Bst.mk' hB hc, hf, hm, by rw [htw, List.length_cons]; omega, fun _ => ⟨rfl, by rw [htw, List.length_cons]; omega, Bl.put (by rw [hfl]; exact .nil _) hmay hs (by rw [hfl, hs]; omega) hl⟩⟩
end
theorem BB.mem {b q t s : Nat} {vm vm' nv bv pv zv cv gv : Value} {F : Nat → Prop} {N : Nat} (hF : ∀ k, BB b q t s vm nv bv pv zv cv gv k → F k) (hn : ∀ k, InBlk vm' k → InBlk vm k ∨ N ≤ k) : ∀ k, BB b q t s vm' nv bv pv zv cv gv k → F k ∨ N ≤ k := fun k hk => by
 rcases hk with e | e | e | e
 ·exact .inl (hF k (.inl e))
 ·exact .inl (hF k (.inr (.inl e)))
 ·exact (hn k e).imp (fun e => hF k (.inr (.inr (.inl e)))) id
 ·exact .inl (hF k (.inr (.inr (.inr e))))
end Go.Proofs.YtjiaaefpepdoeaaDoor
namespace Go.Proofs.YtjiaaefpepdoeaaDoor
open Go.RowKit Md Go.Proofs.YtjiaaefpepdoeaaDoorW.PrintWords
open Go.Proofs.YtjiaaefpepdoeaaDoor.PSlideMeans (S26 z26 k26)
set_option linter.unusedVariables false
set_option maxRecDepth 100000 in
set_option maxHeartbeats 8000000 in
theorem put_int (d : Nat) (bb : Bool) (f2 : List Int) (nm : ByteArray) (nn : Int) (f5 : List S26) (f6 : List Int) (A2 A5 A6 : Option Addr) (c2 c5 c6 : Nat) (w0 w : World) (b q t s : Nat) (F : Nat → Prop) (ws : List Int) (size : Int) (n : Nat) (hI : PutI (d + 1) ⟨0, bb, f2, nm, nn, f5, f6⟩ [.int .i64 0, .bool bb, .slice A2 f2.length c2, .string nm, .int .i64 nn, .slice A5 f5.length c5, .slice A6 f6.length c6] w0 w F ws size n) (hS : Bst w b q t s F ws size false n) :
  Calls Tryd.prog 34 #[.pointer (some ⟨b, 0, none⟩), .agg #[.int .i64 0, .bool bb, .slice A2 f2.length c2, .string nm, .int .i64 nn, .slice A5 f5.length c5, .slice A6 f6.length c6]] w fun e w' => PutA (d + 1) ⟨0, bb, f2, nm, nn, f5, f6⟩ w w' b q t s F ws size false n e := by
 have hb0 : (w.alloc (.cells #[.int .i64 0, .bool bb, .slice A2 f2.length c2, .string nm, .int .i64 nn, .slice A5 f5.length c5, .slice A6 f6.length c6] 26)).heap[w.heap.size]? = some (.cells #[.int .i64 0, .bool bb, .slice A2 f2.length c2, .string nm, .int .i64 nn, .slice A5 f5.length c5, .slice A6 f6.length c6] 26 (0, 0)) := blk_new _ _ _
 obtain ⟨D, hD⟩ : ∃ D, w.heap.size = D := ⟨_, rfl⟩
 obtain ⟨w1, hw1⟩ : ∃ w1, w.alloc (.cells #[.int .i64 0, .bool bb, .slice A2 f2.length c2, .string nm, .int .i64 nn, .slice A5 f5.length c5, .slice A6 f6.length c6] 26) = w1 := ⟨_, rfl⟩
 have hf1 : Fr w w1 (fun _ => False) := by rw [← hw1]; exact (Fr.refl w _).alloc _
 rw [hw1, hD] at hb0
 obtain ⟨vm, nv, bv, pv, zv, cv, gv, L, B, P, Z, C, G, hB, hFc⟩ := hS
 have HB1 := Lib.hid (hB.fr hf1)
 have HFc := Lib.hid hFc
 have HI := Lib.hid hI
 have HF1 := Lib.hid hf1
 have HD1 := Lib.hid hb0
 have HDs : Hid (D = w.heap.size) := Lib.hid hD.symm
 obtain ⟨b0, b1, b2, b3, b4, bf3, bf4⟩ := (hB.fr hf1).cells
 have k0 : w1.cell? ⟨D, 0, none⟩ = some (.int .i64 0) := by simp [World.cell?, hb0]
 have k1 : w1.cell? ⟨D, 1, none⟩ = some (.bool bb) := by simp [World.cell?, hb0]
 have k2 : w1.cell? ⟨D, 2, none⟩ = some (.slice A2 f2.length c2) := by simp [World.cell?, hb0]
 have k3 : w1.cell? ⟨D, 3, none⟩ = some (.string nm) := by simp [World.cell?, hb0]
 have k4 : w1.cell? ⟨D, 4, none⟩ = some (.int .i64 nn) := by simp [World.cell?, hb0]
 have k5 : w1.cell? ⟨D, 5, none⟩ = some (.slice A5 f5.length c5) := by simp [World.cell?, hb0]
 have k6 : w1.cell? ⟨D, 6, none⟩ = some (.slice A6 f6.length c6) := by simp [World.cell?, hb0]
 clear hb0 hf1 hB hFc hI
 go_enter Tryd.func34, Tryd.ntmps34
 go_upto_region 1 with (fail)
 (try simp only [hw1, hD])
 clear hw1 hD
 go_upto_region 6 with (fail)
 have hb3 : (w1.alloc (.cells #[.bool bb, .slice A2 f2.length c2] 76)).heap[w1.heap.size]? = some (.cells #[.bool bb, .slice A2 f2.length c2] 76 (0, 0)) := blk_new _ _ _
 obtain ⟨E, hE⟩ : ∃ E, w1.heap.size = E := ⟨_, rfl⟩
 obtain ⟨w3, hw3⟩ : ∃ W, w1.alloc (.cells #[.bool bb, .slice A2 f2.length c2] 76) = W := ⟨_, rfl⟩
 have f13 : Fr w1 w3 (fun _ => False) := by rw [← hw3]; exact (Fr.refl w1 _).alloc _
 rw [hw3, hE] at hb3
 have HB3 := Lib.hid (HB1.out.fr f13)
 have HF3 := Lib.hid (HF1.out.trans f13)
 have HD3 := Lib.hid (f13.blk HD1.out (fun h => h))
 obtain ⟨x2, y2, x5, y5, x6, y6, hcs, hr2, hd2, _⟩ := HI.out.tr
 simp only [List.cons.injEq, Value.slice.injEq, and_true, true_and] at hcs
 obtain ⟨⟨rfl, rfl⟩, ⟨rfl, rfl⟩, rfl, rfl⟩ := hcs
 have HO3 : Hid (Rd w3 (.slice A2 f2.length c2) (nw .u32 f2)) := Lib.hid (hr2.keep (HI.out.fr.trans HF3.out) (fun _ _ h => h))
 have HDD : Hid (okD f2) := Lib.hid hd2
 have hm0 := HI.out.may.1 rfl
 have HM0 : Hid (f2.length ≤ 64 ∧ f2 = normD f2) := Lib.hid hm0
 have HL2 : Hid (f2.length ≤ 1048576) := Lib.hid (by have := hm0.1; simp only at this; omega)
 have e0 : w3.cell? ⟨E, 0, none⟩ = some (.bool bb) := by simp [World.cell?, hb3]
 have e1 : w3.cell? ⟨E, 1, none⟩ = some (.slice A2 f2.length c2) := by simp [World.cell?, hb3]
 clear hr2 hd2 hm0 f13 hb3 k0 k1 k2 k3 k4 k5 k6 b0 b1 b2 b3 b4 bf3 bf4
 (try simp only [hw3, hE])
 clear hw3 hE
 cases hsm : smallB bb f2 with
 | true =>
  have HSB := Lib.hid hsm
  have HE : Hid (twM (d + 1) ⟨0, bb, f2, nm, nn, f5, f6⟩ = 0) := Lib.hid (by unfold twM; rw [if_pos rfl]; exact if_pos hsm)
  clear hsm
  go_wp2_with (first
   | (go_at_call 32; (with_reducible refine (small_c bb A2 c2 f2 _ HO3.out HL2.out HDD.out).mono ?_); rintro e w4 ⟨v, rfl, hf⟩; rw [HSB.out]; have HF4 := Lib.hid hf; clear hf)
   | (go_at_call 27; (with_reducible refine (Wd.rof_c 0 v _ _ rfl).mono ?_); rintro e w5 ⟨rfl, n5, rfl⟩))
  go_ret
  exact PutA.imm (HB3.out.fr (HF4.out.drewN _)) (fun k hk => .inl (HFc.out k hk)) ((HF3.out.trans (HF4.out.drewN _)).mono (fun _ h _ => h.elim)) (okW_ofW _ _) HE.out (tag_of_small (by omega))
 | false =>
  have HSB := Lib.hid hsm
  have HE : Hid (twM (d + 1) ⟨0, bb, f2, nm, nn, f5, f6⟩ = 1 + (f2.length : Int)) := Lib.hid (by
   have h1 : twM (d + 1) ⟨0, bb, f2, nm, nn, f5, f6⟩ = 1 + ((normD f2).length : Int) := by unfold twM; rw [if_pos rfl]; exact if_neg (by show ¬ smallB bb f2 = true; rw [hsm]; decide)
   rw [← HM0.out.2] at h1
   exact h1)
  clear hsm
  go_upto_region 9 with (first
   | (go_at_call 32; (with_reducible refine (small_c bb A2 c2 f2 _ HO3.out HL2.out HDD.out).mono ?_); rintro e w4 ⟨v, rfl, hf⟩; rw [HSB.out]; have HF4 := Lib.hid (HF3.out.trans hf); have HB4 := Lib.hid (HB3.out.fr hf); have HD4 := Lib.hid (hf.blk HD3.out (fun h => h)); have HO4 := Lib.hid (HO3.out.keep hf (fun _ _ h => h)); clear hf))
  clear e0 e1 HO3 HB3 HD3 HF3
  have q2 : (f2.length : Int) ≤ 64 := by have := HM0.out.1; omega
  have k0 : w4.cell? ⟨D, 0, none⟩ = some (.int .i64 0) := by simp [World.cell?, HD4.out]
  have k1 : w4.cell? ⟨D, 1, none⟩ = some (.bool bb) := by simp [World.cell?, HD4.out]
  have k2 : w4.cell? ⟨D, 2, none⟩ = some (.slice A2 f2.length c2) := by simp [World.cell?, HD4.out]
  have k3 : w4.cell? ⟨D, 3, none⟩ = some (.string nm) := by simp [World.cell?, HD4.out]
  have k4 : w4.cell? ⟨D, 4, none⟩ = some (.int .i64 nn) := by simp [World.cell?, HD4.out]
  have k5 : w4.cell? ⟨D, 5, none⟩ = some (.slice A5 f5.length c5) := by simp [World.cell?, HD4.out]
  have k6 : w4.cell? ⟨D, 6, none⟩ = some (.slice A6 f6.length c6) := by simp [World.cell?, HD4.out]
  go_wp2
  go_loopg [8, 9] f2.length (fun g a8 a9 wr => ∃ (i : Nat) (Al : Option Addr) (cl : Nat), a8 = .slice Al i cl ∧ a9 = .int .i64 i ∧ g + i = f2.length ∧ Hid (Own wr 39 (.slice Al i cl) (uw (f2.take i))) ∧ Hid (Fr w4 wr (fun _ => False)) ∧ Hid (∀ k, InBlk (.slice Al i cl) k → w4.heap.size ≤ k))
  case atStart => exact ⟨0, none, 0, rfl, rfl, by omega, Lib.hid (Own.nil _ _), Lib.hid (Fr.refl _ _), Lib.hid (fun k hk => by simp [InBlk, Value.ownBlock] at hk)⟩
  case round =>
   clear k0 k1 k2 k3 k4 k5 k6
   obtain ⟨i, Al, cl, rfl, rfl, hgi, HOL, HFR, HNL⟩ := hrel
   have HGI := Lib.hid hgi
   clear hgi
   have HDr := Lib.hid (HFR.out.blk HD4.out (fun h => h))
   have k0 : wr.cell? ⟨D, 0, none⟩ = some (.int .i64 0) := by simp [World.cell?, HDr.out]
   have k1 : wr.cell? ⟨D, 1, none⟩ = some (.bool bb) := by simp [World.cell?, HDr.out]
   have k2 : wr.cell? ⟨D, 2, none⟩ = some (.slice A2 f2.length c2) := by simp [World.cell?, HDr.out]
   have k3 : wr.cell? ⟨D, 3, none⟩ = some (.string nm) := by simp [World.cell?, HDr.out]
   have k4 : wr.cell? ⟨D, 4, none⟩ = some (.int .i64 nn) := by simp [World.cell?, HDr.out]
   have k5 : wr.cell? ⟨D, 5, none⟩ = some (.slice A5 f5.length c5) := by simp [World.cell?, HDr.out]
   have k6 : wr.cell? ⟨D, 6, none⟩ = some (.slice A6 f6.length c6) := by simp [World.cell?, HDr.out]
   by_cases hi : i < f2.length
   ·have HIL := Lib.hid hi
    have d1 : decide (i < f2.length) = true := decide_eq_true hi
    have q1 : (i : Int) < f2.length := by omega
    obtain ⟨ga, off, rfl, hel⟩ := rn_cell (HO4.out.keep HFR.out (fun _ _ h => h)) (by omega)
    have el := hel i hi
    have hdx := okD_get HDD.out i
    obtain ⟨y, hy⟩ : ∃ y, f2.getD i 0 = y := ⟨_, rfl⟩
    rw [hy] at el hdx
    have hy0 := hdx.1
    have hy1 := hdx.2
    have fb : Fr wr (wr.alloc (.cells #[.int .u64 y] 39)) (fun _ => False) := (Fr.refl wr _).alloc _
    obtain ⟨v', W1, hrun, ho1, hf1, hn1⟩ := words_app2 (HOL.out.keep fb (fun _ _ h => h)) (rd_one (M := y) (blk_new wr _ _)) (by rw [List.length_take]; have := HM0.out.1; simp; omega)
    have e2 : f2.take i ++ [y] = f2.take (i + 1) := by rw [List.take_succ_eq_append_getElem hi, ← hy, List.getD_eq_getElem?_getD, List.getElem?_eq_getElem hi]; rfl
    rw [e2] at ho1
    obtain ⟨A1, c1, e3⟩ := ho1.rd.len
    rw [uw_length, List.length_take, Nat.min_eq_left (by omega)] at e3
    subst e3
    have HO1 := Lib.hid ho1
    have HF1' : Hid (Fr w4 W1 (fun _ => False)) := Lib.hid ((HFR.out.trans fb).then_ hf1 (fun k hk hl => by have h1 := HNL.out k hk; omega))
    have HN1 : Hid (∀ k, InBlk (.slice A1 (i + 1) c1) k → w4.heap.size ≤ k) := Lib.hid (fun k hk => (hn1 k hk).elim (HNL.out k) (fun e => by have h2 := HFR.out.size; have h3 := fb.size; omega))
    have HRUN := Lib.hid hrun
    clear hi hel hdx hy fb hrun ho1 hf1 hn1 e2
    have hrun := HRUN.out
    go_wp2_with (at_builtin; refine Lib.wpList_append_run _ rfl _ _ _ _ rfl _ _ rfl rfl _ W1 hrun ?_)
    go_roundg (gk - 1)
    case measure => have := HGI.out; have := HIL.out; omega
    case rel => exact ⟨i + 1, A1, c1, rfl, by first | rfl | go_num, by have := HGI.out; have := HIL.out; omega, HO1, HF1', HN1⟩
   ·have hie : i = f2.length := by have := HGI.out; omega
    have d1 : decide (i < f2.length) = false := decide_eq_false hi
    subst hie
    clear hi HGI
    have ho := HOL.out
    rw [List.take_length] at ho
    have HOF := Lib.hid ho
    have HBr := Lib.hid (HB4.out.fr (HFR.out.trans ((Fr.refl wr (fun _ => False)).drew)))
    obtain ⟨b0, b1, b2, b3, b4, bf3, bf4⟩ := (HB4.out.fr HFR.out).cells
    have HMH : Hid (mayH ⟨2, (f2.length : Int), 1, bb⟩ = true) := Lib.hid (by rw [mayH_iff]; have := HM0.out.1; simp only; omega)
    obtain ⟨M, hM⟩ : ∃ M, makeH ⟨2, (f2.length : Int), 1, bb⟩ = M := ⟨_, rfl⟩
    have HM := Lib.hid hM
    have HOW : Hid (okWs f2) := Lib.hid (fun x hx => by have := HDD.out x hx; unfold okW; omega)
    have HLE : Hid ((ws.length : Int) + 1 + f2.length ≤ size) := Lib.hid (by have h1 := HI.out.room; rw [HE.out] at h1; omega)
    have HAP : Hid (∀ k, InBlk (.slice Al f2.length cl) k → ¬ InBlk vm k) := Lib.hid (fun k hk hv => by have h1 := HNL.out k hk; have h2 := HB4.out.lt k (.inr (.inr (.inl hv))); omega)
    have HFE : Hid (Fr w wr.drew (fun _ => False)) := Lib.hid ((HF4.out.trans HFR.out).trans ((Fr.refl wr (fun _ => False)).drew))
    have HOD : Hid (Rd wr.drew (.slice Al f2.length cl) (uw f2)) := Lib.hid (ho.rd.keep ((Fr.refl wr (fun _ => False)).drew) (fun _ _ h => h))
    clear ho hM
    go_upto_region 14 with (fail)
    go_still_tail 10, (by kernel_rfl)
    change wpList _ _ _ _ _ wr.drew
    go_wp2_with (first
     | (go_at_call 65; (with_reducible refine (mobj_c q vm ws f2 size 2 (f2.length : Int) 1 M bb Al cl _ HBr.out.mem HOD.out HOW.out HM.out HLE.out HAP.out).mono ?_); rintro e w6 ⟨rfl, vm', har, hf, hn⟩; have HAR := Lib.hid har; have HF6 := Lib.hid hf; have HN6 := Lib.hid hn; clear har hf hn))
    go_ret
    have hsz := HFE.out.size
    have hBS := HBr.out.mem' HAR.out HF6.out
    rw [← HM.out] at hBS
    exact PutA.leaf (h := ⟨2, (f2.length : Int), 1, bb⟩) hBS (fun k hk => (BB.mem HFc.out HN6.out k hk).imp id (fun e => Nat.le_trans hsz e)) ((HFE.out.mono (fun _ h _ => h.elim)).then_ HF6.out (fun k hk _ => HFc.out k (hk.elim (fun e => .inr (.inl e)) (fun e => .inr (.inr (.inl e)))))) (by have := twM_nn (d + 1) ⟨0, bb, f2, nm, nn, f5, f6⟩; omega) HE.out HMH.out rfl rfl (by have := HI.out.room; have := HI.out.big; have := twM_nn (d + 1) ⟨0, bb, f2, nm, nn, f5, f6⟩; omega)
end Go.Proofs.YtjiaaefpepdoeaaDoor
namespace Go.Proofs.YtjiaaefpepdoeaaDoor
open Go.RowKit Md Go.Proofs.YtjiaaefpepdoeaaDoorW.PrintWords
open Go.Proofs.YtjiaaefpepdoeaaDoor.PSlideMeans (S26 z26 k26)
set_option linter.unusedVariables false
set_option maxRecDepth 100000 in
set_option maxHeartbeats 8000000 in
theorem put_wrong (d : Nat) (bb : Bool) (f2 : List Int) (nm : ByteArray) (nn : Int) (f5 : List S26) (f6 : List Int) (A2 A5 A6 : Option Addr) (c2 c5 c6 : Nat) (w0 w : World) (b q t s : Nat) (F : Nat → Prop) (ws : List Int) (size : Int) (n : Nat) (k : Int) (hI : PutI (d + 1) ⟨k, bb, f2, nm, nn, f5, f6⟩ [.int .i64 k, .bool bb, .slice A2 f2.length c2, .string nm, .int .i64 nn, .slice A5 f5.length c5, .slice A6 f6.length c6] w0 w F ws size n) (hS : Bst w b q t s F ws size true n) :
  Calls Tryd.prog 34 #[.pointer (some ⟨b, 0, none⟩), .agg #[.int .i64 k, .bool bb, .slice A2 f2.length c2, .string nm, .int .i64 nn, .slice A5 f5.length c5, .slice A6 f6.length c6]] w fun e w' => PutA (d + 1) ⟨k, bb, f2, nm, nn, f5, f6⟩ w w' b q t s F ws size true n e := by
 have hb0 : (w.alloc (.cells #[.int .i64 k, .bool bb, .slice A2 f2.length c2, .string nm, .int .i64 nn, .slice A5 f5.length c5, .slice A6 f6.length c6] 26)).heap[w.heap.size]? = some (.cells #[.int .i64 k, .bool bb, .slice A2 f2.length c2, .string nm, .int .i64 nn, .slice A5 f5.length c5, .slice A6 f6.length c6] 26 (0, 0)) := blk_new _ _ _
 obtain ⟨D, hD⟩ : ∃ D, w.heap.size = D := ⟨_, rfl⟩
 obtain ⟨w1, hw1⟩ : ∃ w1, w.alloc (.cells #[.int .i64 k, .bool bb, .slice A2 f2.length c2, .string nm, .int .i64 nn, .slice A5 f5.length c5, .slice A6 f6.length c6] 26) = w1 := ⟨_, rfl⟩
 have hf1 : Fr w w1 (fun _ => False) := by rw [← hw1]; exact (Fr.refl w _).alloc _
 rw [hw1, hD] at hb0
 obtain ⟨vm, nv, bv, pv, zv, cv, gv, L, B, P, Z, C, G, hB, hFc⟩ := hS
 have HB1 := Lib.hid (hB.fr hf1)
 have HFc := Lib.hid hFc
 have HI := Lib.hid hI
 have HF1 := Lib.hid hf1
 have HD1 := Lib.hid hb0
 have HDs : Hid (D = w.heap.size) := Lib.hid hD.symm
 obtain ⟨b0, b1, b2, b3, b4, bf3, bf4⟩ := (hB.fr hf1).cells
 have k0 : w1.cell? ⟨D, 0, none⟩ = some (.int .i64 k) := by simp [World.cell?, hb0]
 have k1 : w1.cell? ⟨D, 1, none⟩ = some (.bool bb) := by simp [World.cell?, hb0]
 have k2 : w1.cell? ⟨D, 2, none⟩ = some (.slice A2 f2.length c2) := by simp [World.cell?, hb0]
 have k3 : w1.cell? ⟨D, 3, none⟩ = some (.string nm) := by simp [World.cell?, hb0]
 have k4 : w1.cell? ⟨D, 4, none⟩ = some (.int .i64 nn) := by simp [World.cell?, hb0]
 have k5 : w1.cell? ⟨D, 5, none⟩ = some (.slice A5 f5.length c5) := by simp [World.cell?, hb0]
 have k6 : w1.cell? ⟨D, 6, none⟩ = some (.slice A6 f6.length c6) := by simp [World.cell?, hb0]
 clear hb0 hf1 hB hFc hI
 go_enter Tryd.func34, Tryd.ntmps34
 go_upto_region 1 with (fail)
 (try simp only [hw1, hD])
 clear hw1 hD
 go_wp2
 go_ret
 exact PutA.wrong HB1.out (fun k hk => .inl (HFc.out k hk)) (HF1.out.mono (fun _ h _ => h.elim)) (by unfold okW; omega) (by have := twM_nn (d + 1) ⟨k, bb, f2, nm, nn, f5, f6⟩; omega)
set_option maxRecDepth 100000 in
set_option maxHeartbeats 8000000 in
theorem put_pid (d : Nat) (bb : Bool) (f2 : List Int) (nm : ByteArray) (nn : Int) (f5 : List S26) (f6 : List Int) (A2 A5 A6 : Option Addr) (c2 c5 c6 : Nat) (w0 w : World) (b q t s : Nat) (F : Nat → Prop) (ws : List Int) (size : Int) (n : Nat) (hI : PutI (d + 1) ⟨3, bb, f2, nm, nn, f5, f6⟩ [.int .i64 3, .bool bb, .slice A2 f2.length c2, .string nm, .int .i64 nn, .slice A5 f5.length c5, .slice A6 f6.length c6] w0 w F ws size n) (hS : Bst w b q t s F ws size false n) :
  Calls Tryd.prog 34 #[.pointer (some ⟨b, 0, none⟩), .agg #[.int .i64 3, .bool bb, .slice A2 f2.length c2, .string nm, .int .i64 nn, .slice A5 f5.length c5, .slice A6 f6.length c6]] w fun e w' => PutA (d + 1) ⟨3, bb, f2, nm, nn, f5, f6⟩ w w' b q t s F ws size false n e := by
 obtain ⟨r, hr⟩ : ∃ r, ofW 2 nn = r := ⟨_, rfl⟩
 have HR := Lib.hid hr
 clear hr
 have hb0 : (w.alloc (.cells #[.int .i64 3, .bool bb, .slice A2 f2.length c2, .string nm, .int .i64 nn, .slice A5 f5.length c5, .slice A6 f6.length c6] 26)).heap[w.heap.size]? = some (.cells #[.int .i64 3, .bool bb, .slice A2 f2.length c2, .string nm, .int .i64 nn, .slice A5 f5.length c5, .slice A6 f6.length c6] 26 (0, 0)) := blk_new _ _ _
 obtain ⟨D, hD⟩ : ∃ D, w.heap.size = D := ⟨_, rfl⟩
 obtain ⟨w1, hw1⟩ : ∃ w1, w.alloc (.cells #[.int .i64 3, .bool bb, .slice A2 f2.length c2, .string nm, .int .i64 nn, .slice A5 f5.length c5, .slice A6 f6.length c6] 26) = w1 := ⟨_, rfl⟩
 have hf1 : Fr w w1 (fun _ => False) := by rw [← hw1]; exact (Fr.refl w _).alloc _
 rw [hw1, hD] at hb0
 obtain ⟨vm, nv, bv, pv, zv, cv, gv, L, B, P, Z, C, G, hB, hFc⟩ := hS
 have HB1 := Lib.hid (hB.fr hf1)
 have HFc := Lib.hid hFc
 have HI := Lib.hid hI
 have HF1 := Lib.hid hf1
 have HD1 := Lib.hid hb0
 have HDs : Hid (D = w.heap.size) := Lib.hid hD.symm
 obtain ⟨b0, b1, b2, b3, b4, bf3, bf4⟩ := (hB.fr hf1).cells
 have k0 : w1.cell? ⟨D, 0, none⟩ = some (.int .i64 3) := by simp [World.cell?, hb0]
 have k1 : w1.cell? ⟨D, 1, none⟩ = some (.bool bb) := by simp [World.cell?, hb0]
 have k2 : w1.cell? ⟨D, 2, none⟩ = some (.slice A2 f2.length c2) := by simp [World.cell?, hb0]
 have k3 : w1.cell? ⟨D, 3, none⟩ = some (.string nm) := by simp [World.cell?, hb0]
 have k4 : w1.cell? ⟨D, 4, none⟩ = some (.int .i64 nn) := by simp [World.cell?, hb0]
 have k5 : w1.cell? ⟨D, 5, none⟩ = some (.slice A5 f5.length c5) := by simp [World.cell?, hb0]
 have k6 : w1.cell? ⟨D, 6, none⟩ = some (.slice A6 f6.length c6) := by simp [World.cell?, hb0]
 clear hb0 hf1 hB hFc hI
 go_enter Tryd.func34, Tryd.ntmps34
 go_upto_region 1 with (fail)
 (try simp only [hw1, hD])
 clear hw1 hD
 have HE : Hid (twM (d + 1) ⟨3, bb, f2, nm, nn, f5, f6⟩ = 0) := Lib.hid (by unfold twM; simp)
 go_wp2_with (first
  | (go_at_call 27; (with_reducible refine (Wd.rof_c 2 nn r _ HR.out).mono ?_); rintro e w5 ⟨rfl, n5, rfl⟩))
 go_ret
 exact PutA.imm (HB1.out.fr ((Fr.refl w1 _).drewN _)) (fun k hk => .inl (HFc.out k hk)) ((HF1.out.drewN _).mono (fun _ h _ => h.elim)) (by rw [← HR.out]; exact okW_ofW _ _) HE.out (by rw [← HR.out]; exact tag_of_small (by omega))
set_option maxRecDepth 100000 in
set_option maxHeartbeats 8000000 in
theorem put_ref (d : Nat) (bb : Bool) (f2 : List Int) (nm : ByteArray) (nn : Int) (f5 : List S26) (f6 : List Int) (A2 A5 A6 : Option Addr) (c2 c5 c6 : Nat) (w0 w : World) (b q t s : Nat) (F : Nat → Prop) (ws : List Int) (size : Int) (n : Nat) (hI : PutI (d + 1) ⟨2, bb, f2, nm, nn, f5, f6⟩ [.int .i64 2, .bool bb, .slice A2 f2.length c2, .string nm, .int .i64 nn, .slice A5 f5.length c5, .slice A6 f6.length c6] w0 w F ws size n) (hS : Bst w b q t s F ws size false n) :
  Calls Tryd.prog 34 #[.pointer (some ⟨b, 0, none⟩), .agg #[.int .i64 2, .bool bb, .slice A2 f2.length c2, .string nm, .int .i64 nn, .slice A5 f5.length c5, .slice A6 f6.length c6]] w fun e w' => PutA (d + 1) ⟨2, bb, f2, nm, nn, f5, f6⟩ w w' b q t s F ws size false n e := by
 obtain ⟨r, hr⟩ : ∃ r, ofW 3 nn = r := ⟨_, rfl⟩
 have HR := Lib.hid hr
 clear hr
 have hb0 : (w.alloc (.cells #[.int .i64 2, .bool bb, .slice A2 f2.length c2, .string nm, .int .i64 nn, .slice A5 f5.length c5, .slice A6 f6.length c6] 26)).heap[w.heap.size]? = some (.cells #[.int .i64 2, .bool bb, .slice A2 f2.length c2, .string nm, .int .i64 nn, .slice A5 f5.length c5, .slice A6 f6.length c6] 26 (0, 0)) := blk_new _ _ _
 obtain ⟨D, hD⟩ : ∃ D, w.heap.size = D := ⟨_, rfl⟩
 obtain ⟨w1, hw1⟩ : ∃ w1, w.alloc (.cells #[.int .i64 2, .bool bb, .slice A2 f2.length c2, .string nm, .int .i64 nn, .slice A5 f5.length c5, .slice A6 f6.length c6] 26) = w1 := ⟨_, rfl⟩
 have hf1 : Fr w w1 (fun _ => False) := by rw [← hw1]; exact (Fr.refl w _).alloc _
 rw [hw1, hD] at hb0
 obtain ⟨vm, nv, bv, pv, zv, cv, gv, L, B, P, Z, C, G, hB, hFc⟩ := hS
 have HB1 := Lib.hid (hB.fr hf1)
 have HFc := Lib.hid hFc
 have HI := Lib.hid hI
 have HF1 := Lib.hid hf1
 have HD1 := Lib.hid hb0
 have HDs : Hid (D = w.heap.size) := Lib.hid hD.symm
 obtain ⟨b0, b1, b2, b3, b4, bf3, bf4⟩ := (hB.fr hf1).cells
 have k0 : w1.cell? ⟨D, 0, none⟩ = some (.int .i64 2) := by simp [World.cell?, hb0]
 have k1 : w1.cell? ⟨D, 1, none⟩ = some (.bool bb) := by simp [World.cell?, hb0]
 have k2 : w1.cell? ⟨D, 2, none⟩ = some (.slice A2 f2.length c2) := by simp [World.cell?, hb0]
 have k3 : w1.cell? ⟨D, 3, none⟩ = some (.string nm) := by simp [World.cell?, hb0]
 have k4 : w1.cell? ⟨D, 4, none⟩ = some (.int .i64 nn) := by simp [World.cell?, hb0]
 have k5 : w1.cell? ⟨D, 5, none⟩ = some (.slice A5 f5.length c5) := by simp [World.cell?, hb0]
 have k6 : w1.cell? ⟨D, 6, none⟩ = some (.slice A6 f6.length c6) := by simp [World.cell?, hb0]
 clear hb0 hf1 hB hFc hI
 go_enter Tryd.func34, Tryd.ntmps34
 go_upto_region 1 with (fail)
 (try simp only [hw1, hD])
 clear hw1 hD
 have HE : Hid (twM (d + 1) ⟨2, bb, f2, nm, nn, f5, f6⟩ = 0) := Lib.hid (by unfold twM; simp)
 go_wp2_with (first
  | (go_at_call 27; (with_reducible refine (Wd.rof_c 3 nn r _ HR.out).mono ?_); rintro e w5 ⟨rfl, n5, rfl⟩))
 go_ret
 exact PutA.imm (HB1.out.fr ((Fr.refl w1 _).drewN _)) (fun k hk => .inl (HFc.out k hk)) ((HF1.out.drewN _).mono (fun _ h _ => h.elim)) (by rw [← HR.out]; exact okW_ofW _ _) HE.out (by rw [← HR.out]; exact tag_of_small (by omega))
set_option maxRecDepth 100000 in
set_option maxHeartbeats 8000000 in
theorem put_nil (d : Nat) (bb : Bool) (f2 : List Int) (nm : ByteArray) (nn : Int) (f5 : List S26) (f6 : List Int) (A2 A5 A6 : Option Addr) (c2 c5 c6 : Nat) (w0 w : World) (b q t s : Nat) (F : Nat → Prop) (ws : List Int) (size : Int) (n : Nat) (k : Int) (h0 : k ≠ 0) (h1 : k ≠ 1) (h2 : k ≠ 2) (h3 : k ≠ 3) (h4 : k ≠ 4) (h6 : k ≠ 6) (h7 : k ≠ 7) (hI : PutI (d + 1) ⟨k, bb, f2, nm, nn, f5, f6⟩ [.int .i64 k, .bool bb, .slice A2 f2.length c2, .string nm, .int .i64 nn, .slice A5 f5.length c5, .slice A6 f6.length c6] w0 w F ws size n) (hS : Bst w b q t s F ws size false n) :
  Calls Tryd.prog 34 #[.pointer (some ⟨b, 0, none⟩), .agg #[.int .i64 k, .bool bb, .slice A2 f2.length c2, .string nm, .int .i64 nn, .slice A5 f5.length c5, .slice A6 f6.length c6]] w fun e w' => PutA (d + 1) ⟨k, bb, f2, nm, nn, f5, f6⟩ w w' b q t s F ws size false n e := by
 obtain ⟨r, hr⟩ : ∃ r, ofW 4 0 = r := ⟨_, rfl⟩
 have HR := Lib.hid hr
 have HE : Hid (twM (d + 1) ⟨k, bb, f2, nm, nn, f5, f6⟩ = 0) := Lib.hid (by unfold twM; simp [h0, h7, h4, h6])
 have n0 : (k == 0) = false := by simpa using h0
 have n1 : (k == 1) = false := by simpa using h1
 have n2 : (k == 2) = false := by simpa using h2
 have n3 : (k == 3) = false := by simpa using h3
 have n4 : (k == 4) = false := by simpa using h4
 have n6 : (k == 6) = false := by simpa using h6
 have n7 : (k == 7) = false := by simpa using h7
 clear hr
 have hb0 : (w.alloc (.cells #[.int .i64 k, .bool bb, .slice A2 f2.length c2, .string nm, .int .i64 nn, .slice A5 f5.length c5, .slice A6 f6.length c6] 26)).heap[w.heap.size]? = some (.cells #[.int .i64 k, .bool bb, .slice A2 f2.length c2, .string nm, .int .i64 nn, .slice A5 f5.length c5, .slice A6 f6.length c6] 26 (0, 0)) := blk_new _ _ _
 obtain ⟨D, hD⟩ : ∃ D, w.heap.size = D := ⟨_, rfl⟩
 obtain ⟨w1, hw1⟩ : ∃ w1, w.alloc (.cells #[.int .i64 k, .bool bb, .slice A2 f2.length c2, .string nm, .int .i64 nn, .slice A5 f5.length c5, .slice A6 f6.length c6] 26) = w1 := ⟨_, rfl⟩
 have hf1 : Fr w w1 (fun _ => False) := by rw [← hw1]; exact (Fr.refl w _).alloc _
 rw [hw1, hD] at hb0
 obtain ⟨vm, nv, bv, pv, zv, cv, gv, L, B, P, Z, C, G, hB, hFc⟩ := hS
 have HB1 := Lib.hid (hB.fr hf1)
 have HFc := Lib.hid hFc
 have HI := Lib.hid hI
 have HF1 := Lib.hid hf1
 have HD1 := Lib.hid hb0
 have HDs : Hid (D = w.heap.size) := Lib.hid hD.symm
 obtain ⟨b0, b1, b2, b3, b4, bf3, bf4⟩ := (hB.fr hf1).cells
 have k0 : w1.cell? ⟨D, 0, none⟩ = some (.int .i64 k) := by simp [World.cell?, hb0]
 have k1 : w1.cell? ⟨D, 1, none⟩ = some (.bool bb) := by simp [World.cell?, hb0]
 have k2 : w1.cell? ⟨D, 2, none⟩ = some (.slice A2 f2.length c2) := by simp [World.cell?, hb0]
 have k3 : w1.cell? ⟨D, 3, none⟩ = some (.string nm) := by simp [World.cell?, hb0]
 have k4 : w1.cell? ⟨D, 4, none⟩ = some (.int .i64 nn) := by simp [World.cell?, hb0]
 have k5 : w1.cell? ⟨D, 5, none⟩ = some (.slice A5 f5.length c5) := by simp [World.cell?, hb0]
 have k6 : w1.cell? ⟨D, 6, none⟩ = some (.slice A6 f6.length c6) := by simp [World.cell?, hb0]
 clear hb0 hf1 hB hFc hI
 go_enter Tryd.func34, Tryd.ntmps34
 go_upto_region 1 with (fail)
 (try simp only [hw1, hD])
 clear hw1 hD
 go_wp2_with (first
  | (go_at_call 27; (with_reducible refine (Wd.rof_c 4 0 r _ HR.out).mono ?_); rintro e w5 ⟨rfl, n5, rfl⟩))
 go_ret
 exact PutA.imm (HB1.out.fr ((Fr.refl w1 _).drewN _)) (fun k hk => .inl (HFc.out k hk)) ((HF1.out.drewN _).mono (fun _ h _ => h.elim)) (by rw [← HR.out]; exact okW_ofW _ _) HE.out (by rw [← HR.out]; exact tag_of_small (by omega))
set_option maxRecDepth 100000 in
set_option maxHeartbeats 8000000 in
theorem put_atom (d : Nat) (bb : Bool) (f2 : List Int) (nm : ByteArray) (nn : Int) (f5 : List S26) (f6 : List Int) (A2 A5 A6 : Option Addr) (c2 c5 c6 : Nat) (w0 w : World) (b q t s : Nat) (F : Nat → Prop) (ws : List Int) (size : Int) (n : Nat) (hI : PutI (d + 1) ⟨1, bb, f2, nm, nn, f5, f6⟩ [.int .i64 1, .bool bb, .slice A2 f2.length c2, .string nm, .int .i64 nn, .slice A5 f5.length c5, .slice A6 f6.length c6] w0 w F ws size n) (hS : Bst w b q t s F ws size false n) :
  Calls Tryd.prog 34 #[.pointer (some ⟨b, 0, none⟩), .agg #[.int .i64 1, .bool bb, .slice A2 f2.length c2, .string nm, .int .i64 nn, .slice A5 f5.length c5, .slice A6 f6.length c6]] w fun e w' => PutA (d + 1) ⟨1, bb, f2, nm, nn, f5, f6⟩ w w' b q t s F ws size false n e := by
 have hb0 : (w.alloc (.cells #[.int .i64 1, .bool bb, .slice A2 f2.length c2, .string nm, .int .i64 nn, .slice A5 f5.length c5, .slice A6 f6.length c6] 26)).heap[w.heap.size]? = some (.cells #[.int .i64 1, .bool bb, .slice A2 f2.length c2, .string nm, .int .i64 nn, .slice A5 f5.length c5, .slice A6 f6.length c6] 26 (0, 0)) := blk_new _ _ _
 obtain ⟨D, hD⟩ : ∃ D, w.heap.size = D := ⟨_, rfl⟩
 obtain ⟨w1, hw1⟩ : ∃ w1, w.alloc (.cells #[.int .i64 1, .bool bb, .slice A2 f2.length c2, .string nm, .int .i64 nn, .slice A5 f5.length c5, .slice A6 f6.length c6] 26) = w1 := ⟨_, rfl⟩
 have hf1 : Fr w w1 (fun _ => False) := by rw [← hw1]; exact (Fr.refl w _).alloc _
 rw [hw1, hD] at hb0
 obtain ⟨vm, nv, bv, pv, zv, cv, gv, L, B, P, Z, C, G, hB, hFc⟩ := hS
 have HB1 := Lib.hid (hB.fr hf1)
 have HFc := Lib.hid hFc
 have HI := Lib.hid hI
 have HF1 := Lib.hid hf1
 have HD1 := Lib.hid hb0
 have HDs : Hid (D = w.heap.size) := Lib.hid hD.symm
 obtain ⟨b0, b1, b2, b3, b4, bf3, bf4⟩ := (hB.fr hf1).cells
 have k0 : w1.cell? ⟨D, 0, none⟩ = some (.int .i64 1) := by simp [World.cell?, hb0]
 have k1 : w1.cell? ⟨D, 1, none⟩ = some (.bool bb) := by simp [World.cell?, hb0]
 have k2 : w1.cell? ⟨D, 2, none⟩ = some (.slice A2 f2.length c2) := by simp [World.cell?, hb0]
 have k3 : w1.cell? ⟨D, 3, none⟩ = some (.string nm) := by simp [World.cell?, hb0]
 have k4 : w1.cell? ⟨D, 4, none⟩ = some (.int .i64 nn) := by simp [World.cell?, hb0]
 have k5 : w1.cell? ⟨D, 5, none⟩ = some (.slice A5 f5.length c5) := by simp [World.cell?, hb0]
 have k6 : w1.cell? ⟨D, 6, none⟩ = some (.slice A6 f6.length c6) := by simp [World.cell?, hb0]
 clear hb0 hf1 hB hFc hI
 go_enter Tryd.func34, Tryd.ntmps34
 go_upto_region 1 with (fail)
 (try simp only [hw1, hD])
 clear hw1 hD
 have HE : Hid (twM (d + 1) ⟨1, bb, f2, nm, nn, f5, f6⟩ = 0) := Lib.hid (by unfold twM; simp)
 obtain ⟨x2, y2, x5, y5, x6, y6, hcs, _, _, _, _, hsz, _⟩ := HI.out.tr
 have HSZ : Hid (nm.size ≤ 9223372036854775807) := Lib.hid (by have h : nm.size ≤ maxLen := hsz; unfold maxLen at h; omega)
 have HT : Hid (Tabs w1.drew) := Lib.hid (HI.out.tabs.below (HI.out.fr.trans (HF1.out.trans ((Fr.refl w1 (fun _ => False)).drew))).below)
 have HB2 := Lib.hid (HB1.out.fr ((Fr.refl w1 (fun _ => False)).drew))
 have HF2 := Lib.hid (HF1.out.trans ((Fr.refl w1 (fun _ => False)).drew))
 obtain ⟨zn, ze, zl, hz⟩ : ∃ zn ze zl, putM L nm = ⟨zn, ze, zl⟩ := ⟨_, _, _, rfl⟩
 have HZ := Lib.hid hz
 clear hcs hsz hz
 go_upto_region 16 with (fail)
 go_cut [10, 11] (fun a10 a11 wx => a10 = .int .i64 zn ∧ a11 = .int .i64 ze ∧ ∃ nv', Hid (Nb wx t nv' zl) ∧ Hid (Fr w1.drew wx (fun i => i = t ∨ InBlk nv i)) ∧ Hid (∀ k, InBlk nv' k → InBlk nv k ∨ w1.heap.size ≤ k))
 case first =>
  (first | (go_region_with (first
   | (go_at_call 66; (with_reducible refine (mput_c t nv L nm _ HB2.out.nam HSZ.out HT.out).mono ?_); rintro e w3 ⟨rfl, nv', hnb, hf, hn⟩; rw [HZ.out] at hnb ⊢; have HNB := Lib.hid hnb; have HF := Lib.hid hf; have HN := Lib.hid hn; clear hnb hf hn))) | fail)
  all_goals
   go_wp2_with (fail)
   go_meet
   exact ⟨rfl, rfl, nv', HNB, HF, HN⟩
 case rest =>
  obtain ⟨rfl, rfl, nv', HNB, HF, HN⟩ := hcut
  have HB3 := Lib.hid (HB2.out.nam' HNB.out HF.out)
  obtain ⟨r, hr⟩ : ∃ r, ofW 1 zn = r := ⟨_, rfl⟩
  have HR := Lib.hid hr
  clear hr b0 b1 b2 b3 b4 bf3 bf4 k0 k1 k2 k3 k4 k5 k6
  obtain ⟨b0, b1, b2, b3, b4, bf3, bf4⟩ := HB3.out.cells
  have HCV : Hid (∀ k, BB b q t s vm nv' bv pv zv cv gv k → F k ∨ w.heap.size ≤ k) := Lib.hid (fun k hk => by
   have hs := HF2.out.size
   have hs1 : w.heap.size ≤ w1.heap.size := HF1.out.size
   rcases hk with e | e | e | e | e | e
   ·exact .inl (HFc.out k (.inl e))
   ·exact .inl (HFc.out k (.inr (.inl e)))
   ·exact .inl (HFc.out k (.inr (.inr (.inl e))))
   ·exact .inl (HFc.out k (.inr (.inr (.inr (.inl e)))))
   ·exact (HN.out k e).imp (fun e => HFc.out k (.inr (.inr (.inr (.inr (.inl e)))))) (fun e => Nat.le_trans hs1 e)
   ·exact .inl (HFc.out k (.inr (.inr (.inr (.inr (.inr e)))))))
  have HFW : Hid (Fr w wc F) := Lib.hid ((HF2.out.mono (fun _ h _ => h.elim)).then_ HF.out (fun k hk _ => HFc.out k (hk.elim (fun e => .inr (.inr (.inr (.inl e)))) (fun e => .inr (.inr (.inr (.inr (.inl e))))))))
  have HFB : Hid (F b) := Lib.hid (HFc.out b (.inl rfl))
  clear HB1 HB2 HF1 HF2 HF HN HNB
  by_cases hze : ze = 0
  ·subst hze
   have HS4 := Lib.hid (HB3.out.setbad false)
   obtain ⟨w4, hw4⟩ : ∃ W, wc.setCell ⟨b, 3, none⟩ (.bool false) = W := ⟨_, rfl⟩
   rw [hw4] at HS4
   go_upto_region 18 with (fail)
   (try simp only [hw4])
   go_wp2_with (first
    | (go_at_call 27; (with_reducible refine (Wd.rof_c 1 zn r _ HR.out).mono ?_); rintro e w5 ⟨rfl, n5, rfl⟩))
   go_ret
   exact PutA.imm (HS4.out.1.fr ((Fr.refl w4 _).drewN _)) HCV.out ((HFW.out.then_ HS4.out.2 (fun k hk _ => by rw [hk]; exact HFB.out)).drewN _) (by rw [← HR.out]; exact okW_ofW _ _) HE.out (by rw [← HR.out]; exact tag_of_small (by omega))
  ·have n0 : (ze != 0) = true := by simpa using hze
   have n1 : (ze == 0) = false := by simpa using hze
   have HS4 := Lib.hid (HB3.out.setbad true)
   obtain ⟨w4, hw4⟩ : ∃ W, wc.setCell ⟨b, 3, none⟩ (.bool true) = W := ⟨_, rfl⟩
   rw [hw4] at HS4
   go_upto_region 18 with (fail)
   (try simp only [hw4])
   go_wp2_with (first
    | (go_at_call 27; (with_reducible refine (Wd.rof_c 1 zn r _ HR.out).mono ?_); rintro e w5 ⟨rfl, n5, rfl⟩))
   go_ret
   exact PutA.wrong (HS4.out.1.fr ((Fr.refl w4 _).drewN _)) HCV.out ((HFW.out.then_ HS4.out.2 (fun k hk _ => by rw [hk]; exact HFB.out)).drewN _) (by rw [← HR.out]; exact okW_ofW _ _) (by have := twM_nn (d + 1) ⟨1, bb, f2, nm, nn, f5, f6⟩; omega)
end Go.Proofs.YtjiaaefpepdoeaaDoor
