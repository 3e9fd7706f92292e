/-
  What a function that reads the tape and makes memory of its own knows as it goes: the tape, and its own blocks.
-/
import Derived.Test.YtifbcfpaifobjaaGreatDoorTape
import Derived.Test.YtifbcfpaifobjaaGreatDoorMem
import Derived.Deep.WholeRow
namespace Go.Proofs.YtifbcfpaifobjaaGreatDoor
open Go.RowKit
theorem TapeOn.refl {w : World} {b n p : Nat} (h : TapeIs w b n p) : TapeOn w w b n p 0 := ⟨⟨p, Nat.le_refl _, by omega, h⟩, rfl, rfl, rfl, Nat.le_refl _, fun _ _ _ => rfl⟩
theorem TapeOn.below {w W W' : World} {b n p d : Nat} (h : TapeOn w W b n p d) (hb : Below W.heap.size W W') : TapeOn w W' b n p d := by
  obtain ⟨⟨q, q1, q2, hq⟩, h1, h2, h3, h4, h5⟩ := h
  exact ⟨⟨q, q1, q2, hq.keep hb (Nat.le_refl _)⟩, hb.os.trans h1, hb.tape.trans h2, hb.output.trans h3, Nat.le_trans h4 hb.size, fun k hk hne => (hb.block k (Nat.lt_of_lt_of_le hk h4)).trans (h5 k hk hne)⟩
theorem below_alloc (W : World) (o : Obj) : Below W.heap.size W (W.alloc o) := (Below.refl _ _).alloc (Nat.le_refl _) _
structure VSt (w : World) (b n p d : Nat) (bl : List (Nat × Obj)) (W : World) : Prop where
  on : TapeOn w W b n p d
  bls : ∀ x ∈ bl, W.heap[x.1]? = some x.2 ∧ x.1 ≠ b
  lt : b < w.heap.size
theorem VSt.start {w : World} {b n p : Nat} (h : TapeIs w b n p) : VSt w b n p 0 [] w := ⟨TapeOn.refl h, (fun _ hx => by cases hx), h.lt⟩
theorem VSt.below {w W W' : World} {b n p d : Nat} {bl : List (Nat × Obj)} (h : VSt w b n p d bl W) (hb : Below W.heap.size W W') : VSt w b n p d bl W' :=
  ⟨h.on.below hb, fun x hx => ⟨(hb.block _ (Array.getElem?_eq_some_iff.1 (h.bls x hx).1).1).trans (h.bls x hx).1, (h.bls x hx).2⟩, h.lt⟩
theorem VSt.alloc {w W : World} {b n p d : Nat} {bl : List (Nat × Obj)} (h : VSt w b n p d bl W) (o : Obj) : VSt w b n p d ((W.heap.size, o) :: bl) (W.alloc o) := by
  refine ⟨h.on.below (below_alloc W o), fun x hx => ?_, h.lt⟩
  rcases List.mem_cons.1 hx with rfl | hx
  · exact ⟨heap_alloc_last W o, by have := h.on.size; have := h.lt; dsimp only; omega⟩
  · exact (h.below (below_alloc W o)).bls x hx
theorem VSt.tapeOn {w W W' : World} {b n p d q k : Nat} {bl : List (Nat × Obj)} (h : VSt w b n p d bl W) (hq1 : p ≤ q) (hq2 : q ≤ p + d) (ht : TapeOn W W' b n q k) : VSt w b n p (d + k) bl W' := by
  obtain ⟨⟨r, r1, r2, hr⟩, h1, h2, h3, h4, h5⟩ := ht
  obtain ⟨_, g1, g2, g3, g4, g5⟩ := h.on
  refine ⟨⟨⟨r, by omega, by omega, hr⟩, h1.trans g1, h2.trans g2, h3.trans g3, Nat.le_trans g4 h4, fun j hj hne => (h5 j (Nat.lt_of_lt_of_le hj g4) hne).trans (g5 j hj hne)⟩, fun x hx => ⟨?_, (h.bls x hx).2⟩, h.lt⟩
  exact (h5 x.1 (Array.getElem?_eq_some_iff.1 (h.bls x hx).1).1 (h.bls x hx).2).trans (h.bls x hx).1
theorem VSt.size {w W : World} {b n p d : Nat} {bl : List (Nat × Obj)} (h : VSt w b n p d bl W) : w.heap.size ≤ W.heap.size := h.on.size
/-- A number of the tape. -/
theorem Next_st {w W : World} {b n p d : Nat} {bl : List (Nat × Obj)} (m : Int) (h : VSt w b n p d bl W) (h1 : 1 ≤ m) (h2 : m ≤ 1000000) (h3 : p + d ≤ 1000000) :
    Calls Tryz.prog 29 #[.pointer (some ⟨b, 0, none⟩), .int .i64 m] W (SomeInt m (VSt w b n p (d + 1) bl)) := by
  obtain ⟨q, q1, q2, hq⟩ := h.on.tape
  exact (Next_any b n q m W hq h1 h2 (by omega)).mono fun e w' ⟨r, r0, r1, he, ht⟩ => ⟨r, r0, r1, he, h.tapeOn q1 q2 ht⟩
/-- One of some texts, whose row has just been made. -/
theorem One_st {w W : World} {b n p d : Nat} {bl : List (Nat × Obj)} (ss : List ByteArray) (A : Array Value) (T : TypeId) (g k c : Nat) (h : VSt w b n p d bl W) (hA : A.toList = ss.map Value.string) (hk : ss.length = k) (hk0 : 0 < k) (hk1 : k ≤ 1000) (hg : g = W.heap.size) (h3 : p + d ≤ 1000000) :
    Calls Tryz.prog 30 #[.pointer (some ⟨b, 0, none⟩), .slice (some ⟨g, 0, none⟩) k c] (W.alloc (.cells A T)) (SomeStr (· ∈ ss) (VSt w b n p (d + 1) bl)) := by
  subst hk
  subst hg
  have h' := h.below (below_alloc W (.cells A T))
  have hs := h.size
  have hl := h.lt
  obtain ⟨q, q1, q2, hq⟩ := h'.on.tape
  refine (One_any b n q W.heap.size 0 c ss (W.alloc (.cells A T)) hq (by omega) (by omega) hk0 hk1 (fun i s hi => ?_)).mono fun e w' ⟨s, hs, he, ht⟩ => ⟨s, hs, he, h'.tapeOn q1 q2 ht⟩
  rw [Nat.zero_add, cell_of_row _ _ i _ _ _ (heap_alloc_last W _)]
  rw [← Array.getElem?_toList, hA, List.getElem?_map, hi]; rfl
theorem heap_setRow_other (W : World) (g k : Nat) (c : Array Value) (h : k ≠ g) : (W.setRow g c).heap[k]? = W.heap[k]? := by
  unfold World.setRow
  dsimp only
  rw [Array.getElem?_modify, if_neg (fun e => h e.symm)]
/-- A whole row written, in which no number lay. -/
theorem TapeIs.setRow {W : World} {b n q g : Nat} {Z c : Array Value} {t : TypeId} {fr : Nat × Nat} (h : TapeIs W b n q) (hg : W.heap[g]? = some (.cells Z t fr)) (hZ : ∀ v ∈ Z.toList, ∀ k z, v ≠ .int k z) (hne : g ≠ b) : TapeIs (W.setRow g c) b n q := by
  obtain ⟨A, c', t', hb, ba, off, hA, hba, hz⟩ := h.blk
  refine ⟨⟨A, c', t', by rw [heap_setRow_other _ _ _ _ (fun e => hne e.symm)]; exact hb, ba, off, hA, hba, fun i hi => ?_⟩, h.small⟩
  obtain ⟨z, hc, z1, z2⟩ := hz i hi
  by_cases e : ba = g
  · subst e
    rw [cell_of_row _ _ _ _ _ _ hg, ← Array.getElem?_toList] at hc
    exact absurd rfl (hZ _ (List.mem_of_getElem? hc) _ _)
  · exact ⟨z, by rw [World.cell?_of_block (heap_setRow_other W g ba c e)]; exact hc, z1, z2⟩
theorem VSt.setRow {w W : World} {b n p d g : Nat} {bl bl' : List (Nat × Obj)} {Z c : Array Value} {t : TypeId} {fr : Nat × Nat} (h : VSt w b n p d bl W) (hg : W.heap[g]? = some (.cells Z t fr)) (hZ : ∀ v ∈ Z.toList, ∀ k z, v ≠ .int k z) (hw : w.heap.size ≤ g)
    (hbl : ∀ x ∈ bl', x ∈ bl ∧ x.1 ≠ g) : VSt w b n p d bl' (W.setRow g c) := by
  have hl := h.lt
  obtain ⟨⟨q, q1, q2, hq⟩, h1, h2, h3, h4, h5⟩ := h.on
  refine ⟨⟨⟨q, q1, q2, hq.setRow hg hZ (by omega)⟩, h1, h2, h3, ?_, fun k hk hne => (heap_setRow_other _ _ _ _ (by omega)).trans (h5 k hk hne)⟩, fun x hx => ?_, hl⟩
  · unfold World.setRow
    rw [Array.size_modify]; exact h4
  · exact ⟨(heap_setRow_other _ _ _ _ (hbl x hx).2).trans (h.bls x (hbl x hx).1).1, (h.bls x (hbl x hx).1).2⟩
end Go.Proofs.YtifbcfpaifobjaaGreatDoor
