/-
  Contract of the law file's function pieces: some short list of pieces.
  The law file's function pieces, walked.
-/
import Derived.Test.YtifbcfpaifobjaaGreatDoorTemplate
import Derived.Test.YtifbcfpaifobjaaGreatDoorAdd
import Derived.Deep.Cut
import Derived.Deep.CutRange
import Derived.Deep.CutBlock
import Derived.Test.YtifbcfpaifobjaaGreatDoorExpand
namespace Go.Proofs.YtifbcfpaifobjaaGreatDoor
open Go.RowKit
/-- The tape, its numbers below a block. -/
structure TapeB (W : World) (b n q base : Nat) : Prop where
  blk : ∃ A c t, W.heap[b]? = some (.cells #[.slice A n c, .int .i64 q] t (0, 0)) ∧ ∃ ba off, (0 < n → A = some ⟨ba, off, none⟩) ∧ ba ≠ b ∧ (0 < n → ba < base) ∧ ∀ i, i < n → ∃ z : Int, W.cell? ⟨ba, off + i, none⟩ = some (.int .i64 z) ∧ -9223372036854775808 ≤ z ∧ z ≤ 9223372036854775807
  small : n ≤ 9223372036854775807
  lt : b < base
theorem TapeB.is {W : World} {b n q base : Nat} (h : TapeB W b n q base) : TapeIs W b n q := by
  obtain ⟨A, c, t, hh, ba, off, hA, hne, _, hz⟩ := h.blk
  exact ⟨⟨A, c, t, hh, ba, off, hA, hne, hz⟩, h.small⟩
theorem TapeB.of {W : World} {b n q : Nat} (h : TapeIs W b n q) : TapeB W b n q W.heap.size := by
  have hl := h.lt
  obtain ⟨⟨A, c, t, hh, ba, off, hA, hne, hz⟩, hs⟩ := h
  exact ⟨⟨A, c, t, hh, ba, off, hA, hne, fun h0 => by obtain ⟨z, hc, _⟩ := hz 0 h0; exact block_lt_of_cell hc, hz⟩, hs, hl⟩
/-- Where all blocks below stand but the tape's own. -/
theorem TapeB.keep {W W' : World} {b n q q' base : Nat} (h : TapeB W b n q base) (hb : ∀ A c t, W.heap[b]? = some (.cells #[.slice A n c, .int .i64 q] t (0, 0)) → W'.heap[b]? = some (.cells #[.slice A n c, .int .i64 q'] t (0, 0))) (ho : ∀ k, k < base → k ≠ b → W'.heap[k]? = W.heap[k]?) : TapeB W' b n q' base := by
  obtain ⟨A, c, t, hh, ba, off, hA, hne, hlt, hz⟩ := h.blk
  refine ⟨⟨A, c, t, hb A c t hh, ba, off, hA, hne, hlt, fun i hi => ?_⟩, h.small, h.lt⟩
  obtain ⟨z, hc, z1, z2⟩ := hz i hi
  exact ⟨z, by rw [World.cell?_of_block (w := W) (ho ba (hlt (by omega)) hne)]; exact hc, z1, z2⟩
/-- A number has been taken off the tape. -/
def Took (b q : Nat) (W W' : World) : Prop := ∃ k, (W.setCell ⟨b, 1, none⟩ (.int .i64 (q + 1))).drewN k = W'
set_option maxRecDepth 100000 in
set_option maxHeartbeats 400000 in
theorem One_set (b n p g off c : Nat) (ss : List ByteArray) (w : World) (h : TapeIs w b n p) (h3 : p ≤ 1000000) (hg : g ≠ b) (h0 : 0 < ss.length) (h1 : ss.length ≤ 1000)
    (hc : ∀ i s, ss[i]? = some s → w.cell? ⟨g, off + i, none⟩ = some (.string s)) :
    Calls Tryz.prog 30 #[.pointer (some ⟨b, 0, none⟩), .slice (some ⟨g, off, none⟩) ss.length c] w (SomeStr (· ∈ ss) (Took b p w)) := by
  have HN := Next_set b n p (ss.length : Nat) w h (by omega) (by omega) h3
  have H := Lib.hid h
  have HC := Lib.hid hc
  clear h hc
  have hne : ((ss.length : Int) == 0) = false := by simp; intro e; rw [e] at h0; simp at h0
  have h2 : (ss.length : Int) ≤ 1000 := by omega
  go_enter Tryz.func30, Tryz.ntmps30
  go_wp2_with fail
  refine HN.mono ?_
  rintro e w' ⟨r, r0, r1, rfl, hT⟩
  obtain ⟨j, rfl⟩ := Int.eq_ofNat_of_zero_le r0
  have hj : j < ss.length := by omega
  have hcell : w'.cell? ⟨g, off + j, none⟩ = some (.string ss[j]) := by
    have h4 := HC.out j ss[j] (List.getElem?_eq_getElem hj)
    obtain ⟨k, rfl⟩ := hT
    rw [World.cell?_of_block (w := w) (by show ((w.setCell _ _).drewN k).heap[g]? = _; exact heap_setCell_other _ _ _ _ hg)]
    exact h4
  have HT : Hid (Took b p w w') := Lib.hid hT
  clear hT
  generalize hs : ss[j] = s at hcell
  have HS := Lib.hid hs
  clear hs
  go_wp2
  go_ret
  exact ⟨s, by rw [← HS.out]; exact List.getElem_mem _, rfl, HT.out⟩
/-- What pieces knows as it goes: the tape, its list. -/
structure PSt (w0 : World) (b n p d : Nat) (v : Value) (l : List Pc) (W : World) : Prop where
  tape : ∃ q, p ≤ q ∧ q ≤ p + d ∧ TapeB W b n q w0.heap.size
  os : W.os = w0.os
  tp : W.tape = w0.tape
  output : W.output = w0.output
  size : w0.heap.size ≤ W.heap.size
  block : ∀ k, k < w0.heap.size → k ≠ b → W.heap[k]? = w0.heap[k]?
  own : W.ownsRow w0.heap.size 64 4 v l.length (cellsOf encPc l)
theorem PSt.lt {w0 W : World} {b n p d : Nat} {v : Value} {l : List Pc} (h : PSt w0 b n p d v l W) : b < w0.heap.size := by obtain ⟨q, _, _, hq⟩ := h.tape; exact hq.lt
theorem PSt.far {w0 W : World} {b n p d : Nat} {v : Value} {l : List Pc} (h : PSt w0 b n p d v l W) (k : Nat) (hk : k < w0.heap.size) : v.ownBlock ≠ some k := fun he => by
  have := (h.own.lt k he).1
  omega
theorem PSt.more {w0 W : World} {b n p d d' : Nat} {v : Value} {l : List Pc} (h : PSt w0 b n p d v l W) (hd : d ≤ d') : PSt w0 b n p d' v l W := by
  obtain ⟨⟨q, q1, q2, hq⟩, h1, h2, h3, h4, h5, h6⟩ := h
  exact ⟨⟨q, q1, by omega, hq⟩, h1, h2, h3, h4, h5, h6⟩
theorem PSt.start {w0 : World} {b n p : Nat} (h : TapeIs w0 b n p) : PSt w0 b n p 0 (.slice none 0 0) [] w0 :=
  ⟨⟨p, Nat.le_refl _, by omega, .of h⟩, rfl, rfl, rfl, Nat.le_refl _, fun _ _ _ => rfl, ⟨rfl, .inl ⟨rfl, rfl⟩⟩⟩
theorem PSt.below {w0 W W' : World} {b n p d : Nat} {v : Value} {l : List Pc} (h : PSt w0 b n p d v l W) (hb : Below W.heap.size W W') : PSt w0 b n p d v l W' := by
  have hl := h.lt
  obtain ⟨⟨q, q1, q2, hq⟩, h1, h2, h3, h4, h5, h6⟩ := h
  exact ⟨⟨q, q1, q2, hq.keep (fun A c t hh => by rw [hb.block b (by omega)]; exact hh) (fun k hk _ => hb.block k (by omega))⟩, hb.os.trans h1, hb.tape.trans h2, hb.output.trans h3, Nat.le_trans h4 hb.size, fun k hk hne => (hb.block k (by omega)).trans (h5 k hk hne), own_keep h6 hb⟩
theorem PSt.took {w0 W W' : World} {b n p d q : Nat} {v : Value} {l : List Pc} (h : PSt w0 b n p d v l W) (hq : TapeB W b n q w0.heap.size) (q1 : p ≤ q) (q2 : q ≤ p + d) (ht : Took b q W W') : PSt w0 b n p (d + 1) v l W' := by
  have hl := h.lt
  obtain ⟨k, rfl⟩ := ht
  have hblk : ∀ j, j ≠ b → ((W.setCell ⟨b, 1, none⟩ (.int .i64 (q + 1))).drewN k).heap[j]? = W.heap[j]? := fun j hj => heap_setCell_other _ _ _ _ hj
  refine ⟨⟨q + 1, by omega, by omega, hq.keep (fun A c t hh => ?_) (fun j hj hne => hblk j hne)⟩, h.os, h.tp, h.output, ?_, fun j hj hne => (hblk j hne).trans (h.block j hj hne), ?_⟩
  · show (W.setCell _ _).heap[b]? = _
    rw [heap_setCell_same _ _ _ _ _ _ hh]; rfl
  · have := h.size
    simpa [World.setCell] using this
  · refine h.own.kept (row := some b) ⟨rfl, rfl, rfl, by simp [World.setCell], fun j hj hne => hblk j (fun e => hne (by rw [e]))⟩ (.inr (h.far b hl))
/-- A store into a block of its own. -/
theorem PSt.stored {w0 W : World} {b n p d B : Nat} {v : Value} {l : List Pc} (h : PSt w0 b n p d v l W) (hB : w0.heap.size ≤ B) (hv : v.ownBlock ≠ some B) (i : Nat) (u : Value) : PSt w0 b n p d v l (W.setCell ⟨B, i, none⟩ u) := by
  have hl := h.lt
  have hblk : ∀ j, j ≠ B → (W.setCell ⟨B, i, none⟩ u).heap[j]? = W.heap[j]? := fun j hj => heap_setCell_other _ _ _ _ hj
  obtain ⟨⟨q, q1, q2, hq⟩, h1, h2, h3, h4, h5, h6⟩ := h
  refine ⟨⟨q, q1, q2, hq.keep (fun A c t hh => by rw [hblk b (by omega)]; exact hh) (fun j hj _ => hblk j (by omega))⟩, h1, h2, h3, ?_, fun j hj hne => (hblk j (by omega)).trans (h5 j hj hne), ?_⟩
  · simpa [World.setCell] using h4
  · refine h6.kept (row := some B) ⟨rfl, rfl, rfl, by simp [World.setCell], fun j hj hne => hblk j (fun e => hne (by rw [e]))⟩ (.inr hv)
theorem PSt.on {w0 W : World} {b n p d : Nat} {v : Value} {l : List Pc} (h : PSt w0 b n p d v l W) : TapeOn w0 W b n p d := by
  obtain ⟨⟨q, q1, q2, hq⟩, h1, h2, h3, h4, h5, h6⟩ := h
  exact ⟨⟨q, q1, q2, hq.is⟩, h1, h2, h3, h4, h5⟩
/-- The piece in the making. -/
def Bx (W : World) (B : Nat) (x : Pc) : Prop := W.heap[B]? = some (.cells #[.int .i64 x.kind, .string x.text, .int .i64 x.word, .bool x.more] 64 (0, 0))
theorem Bx.cells {W : World} {B : Nat} {x : Pc} (h : Bx W B x) : W.cell? ⟨B, 0, none⟩ = some (.int .i64 x.kind) ∧ W.cell? ⟨B, 1, none⟩ = some (.string x.text) ∧ W.cell? ⟨B, 2, none⟩ = some (.int .i64 x.word) ∧ W.cell? ⟨B, 3, none⟩ = some (.bool x.more) ∧ ∀ i, W.frozen? ⟨B, i, none⟩ = false :=
  ⟨by rw [cell_of_row _ _ 0 _ _ _ h]; rfl, by rw [cell_of_row _ _ 1 _ _ _ h]; rfl, by rw [cell_of_row _ _ 2 _ _ _ h]; rfl, by rw [cell_of_row _ _ 3 _ _ _ h]; rfl, fun i => frozen_of_row _ _ _ _ _ h⟩
/-- Both. -/
structure PB (w0 : World) (b n p d : Nat) (v : Value) (l : List Pc) (B : Nat) (x : Pc) (W : World) : Prop where
  st : PSt w0 b n p d v l W
  bx : Bx W B x
  lo : w0.heap.size ≤ B
  ne : v.ownBlock ≠ some B
theorem PB.more {w0 W : World} {b n p d d' B : Nat} {v : Value} {l : List Pc} {x : Pc} (h : PB w0 b n p d v l B x W) (hd : d ≤ d') : PB w0 b n p d' v l B x W := ⟨h.st.more hd, h.bx, h.lo, h.ne⟩
theorem PB.below {w0 W W' : World} {b n p d B : Nat} {v : Value} {l : List Pc} {x : Pc} (h : PB w0 b n p d v l B x W) (hb : Below W.heap.size W W') : PB w0 b n p d v l B x W' :=
  ⟨h.st.below hb, (hb.block B (blk_lt h.bx)).trans h.bx, h.lo, h.ne⟩
theorem PB.kind {w0 W : World} {b n p d B : Nat} {v : Value} {l : List Pc} {x : Pc} (h : PB w0 b n p d v l B x W) (k : Int) : PB w0 b n p d v l B { x with kind := k } (W.setCell ⟨B, 0, none⟩ (.int .i64 k)) :=
  ⟨h.st.stored h.lo h.ne _ _, by unfold Bx; rw [heap_setCell_same _ _ _ _ _ _ h.bx]; rfl, h.lo, h.ne⟩
theorem PB.text {w0 W : World} {b n p d B : Nat} {v : Value} {l : List Pc} {x : Pc} (h : PB w0 b n p d v l B x W) (t : ByteArray) : PB w0 b n p d v l B { x with text := t } (W.setCell ⟨B, 1, none⟩ (.string t)) :=
  ⟨h.st.stored h.lo h.ne _ _, by unfold Bx; rw [heap_setCell_same _ _ _ _ _ _ h.bx]; rfl, h.lo, h.ne⟩
theorem PB.word {w0 W : World} {b n p d B : Nat} {v : Value} {l : List Pc} {x : Pc} (h : PB w0 b n p d v l B x W) (k : Int) : PB w0 b n p d v l B { x with word := k } (W.setCell ⟨B, 2, none⟩ (.int .i64 k)) :=
  ⟨h.st.stored h.lo h.ne _ _, by unfold Bx; rw [heap_setCell_same _ _ _ _ _ _ h.bx]; rfl, h.lo, h.ne⟩
theorem PB.mored {w0 W : World} {b n p d B : Nat} {v : Value} {l : List Pc} {x : Pc} (h : PB w0 b n p d v l B x W) (m : Bool) : PB w0 b n p d v l B { x with more := m } (W.setCell ⟨B, 3, none⟩ (.bool m)) :=
  ⟨h.st.stored h.lo h.ne _ _, by unfold Bx; rw [heap_setCell_same _ _ _ _ _ _ h.bx]; rfl, h.lo, h.ne⟩
theorem Next_ps {w0 W : World} {b n p d : Nat} {v : Value} {l : List Pc} (m : Int) (h : PSt w0 b n p d v l W) (h1 : 1 ≤ m) (h2 : m ≤ 1000000) (h3 : p + d ≤ 1000000) :
    Calls Tryz.prog 29 #[.pointer (some ⟨b, 0, none⟩), .int .i64 m] W (SomeInt m (PSt w0 b n p (d + 1) v l)) := by
  obtain ⟨q, q1, q2, hq⟩ := h.tape
  exact (Next_set b n q m W hq.is h1 h2 (by omega)).mono fun e w' ⟨r, r0, r1, he, ht⟩ => ⟨r, r0, r1, he, h.took hq q1 q2 ht⟩
theorem Next_pb {w0 W : World} {b n p d B : Nat} {v : Value} {l : List Pc} {x : Pc} (m : Int) (h : PB w0 b n p d v l B x W) (h1 : 1 ≤ m) (h2 : m ≤ 1000000) (h3 : p + d ≤ 1000000) :
    Calls Tryz.prog 29 #[.pointer (some ⟨b, 0, none⟩), .int .i64 m] W (SomeInt m (PB w0 b n p (d + 1) v l B x)) := by
  obtain ⟨q, q1, q2, hq⟩ := h.st.tape
  have hlt := h.st.lt
  have hlo := h.lo
  exact (Next_set b n q m W hq.is h1 h2 (by omega)).mono fun e w' ⟨r, r0, r1, he, ht⟩ => ⟨r, r0, r1, he, h.st.took hq q1 q2 ht, by
    obtain ⟨k, rfl⟩ := ht
    show (W.setCell _ _).heap[B]? = _
    rw [heap_setCell_other _ _ _ _ (by simp; omega)]
    exact h.bx, h.lo, h.ne⟩
/-- One of some texts, whose row has just been made. -/
theorem One_pb {w0 W : World} {b n p d B : Nat} {v : Value} {l : List Pc} {x : Pc} (ss : List ByteArray) (A : Array Value) (T : TypeId) (g k c : Nat) (h : PB w0 b n p d v l B x W) (hA : A.toList = ss.map Value.string) (hk : ss.length = k) (hk0 : 0 < k) (hk1 : k ≤ 1000) (hg : g = W.heap.size) (h3 : p + d ≤ 1000000) :
    Calls Tryz.prog 30 #[.pointer (some ⟨b, 0, none⟩), .slice (some ⟨g, 0, none⟩) k c] (W.alloc (.cells A T)) (SomeStr (· ∈ ss) (PB w0 b n p (d + 1) v l B x)) := by
  subst hk
  subst hg
  have h' := h.below (below_alloc W (.cells A T))
  have hs := h.st.size
  have hlt := h.st.lt
  have hlo := h.lo
  obtain ⟨q, q1, q2, hq⟩ := h'.st.tape
  refine (One_set b n q W.heap.size 0 c ss (W.alloc (.cells A T)) hq.is (by omega) (by omega) hk0 hk1 (fun i s hi => ?_)).mono fun e w' ⟨s, hs, he, ht⟩ => ⟨s, hs, he, h'.st.took hq q1 q2 ht, by
    obtain ⟨k, rfl⟩ := ht
    show ((W.alloc (.cells A T)).setCell _ _).heap[B]? = _
    rw [heap_setCell_other _ _ _ _ (by simp; omega)]
    exact h'.bx, h.lo, h.ne⟩
  rw [Nat.zero_add, cell_of_row _ _ i _ _ _ (heap_alloc_last W _)]
  rw [← Array.getElem?_toList, hA, List.getElem?_map, hi]; rfl
open Go.RowKit
/-- A small piece. -/
def SmallPc (x : Pc) : Prop := -3 ≤ x.kind ∧ x.kind ≤ 20 ∧ x.text.size ≤ 10 ∧ -10 ≤ x.word ∧ x.word ≤ 110
def PcsPost (b n p : Nat) (w : World) (e : Ending) (w' : World) : Prop := ∃ v l, e = .returned v ∧ l.length ≤ 4 ∧ (∀ x ∈ l, SmallPc x) ∧ PSt w b n p 50 v l w'
def pTexts : List ByteArray := [⟨#[97]⟩, ⟨#[65, 36, 37]⟩, ⟨#[123, 49, 125]⟩, ⟨#[45]⟩, ⟨#[122, 57]⟩]
def pWrong : List ByteArray := [⟨#[]⟩, ⟨#[120]⟩, ⟨#[97, 32, 98]⟩, ⟨#[10]⟩]
theorem pTexts_le : (pTexts.all fun x => decide (x.size ≤ 10)) = true := by decide
theorem pWrong_le : (pWrong.all fun x => decide (x.size ≤ 10)) = true := by decide
theorem small_mk {k : Int} {t : ByteArray} {m : Int} {b : Bool} (h1 : -3 ≤ k) (h2 : k ≤ 20) (h3 : t.size ≤ 10) (h4 : -10 ≤ m) (h5 : m ≤ 110) : SmallPc ⟨k, t, m, b⟩ := ⟨h1, h2, h3, h4, h5⟩
theorem PSt.appended {w0 W w2 : World} {b n p d : Nat} {v v' : Value} {l : List Pc} {x : Pc} {o : Obj} (h : PSt w0 b n p d v l W) (hg : (W.alloc o).grownBy w2 v.ownBlock)
    (h2 : w2.ownsRow w0.heap.size 64 4 v' (l.length + 1) (cellsOf encPc l ++ encPc x)) : PSt w0 b n p d v' (l ++ [x]) w2 := by
  have hl := h.lt
  have hb := below_alloc W o
  have hfar := h.far
  have hz := hb.size
  obtain ⟨⟨q, q1, q2, hq⟩, h1, h2', h3, h4, h5, h6⟩ := h
  have hblk : ∀ k, k < w0.heap.size → w2.heap[k]? = W.heap[k]? := fun k hk => by
    rw [hg.block k (by omega) (Ne.symm (hfar k hk)), hb.block k (by omega)]
  have hg1 := hg.os
  have hg2 := hg.tape
  have hg3 := hg.output
  have hg4 := hg.size
  refine ⟨⟨q, q1, q2, hq.keep (fun A c t hh => by rw [hblk b hl]; exact hh) (fun j hj _ => hblk j hj)⟩, ?_, ?_, ?_, by omega, fun j hj hne => (hblk j hj).trans (h5 j hj hne), ?_⟩
  · exact hg1.trans h1
  · exact hg2.trans h2'
  · exact hg3.trans h3
  · have e : cellsOf encPc (l ++ [x]) = cellsOf encPc l ++ encPc x := by simp [cellsOf]
    rw [List.length_append, List.length_singleton, e]
    exact h2
set_option maxRecDepth 100000 in
set_option maxHeartbeats 8000000 in
theorem pieces_any (b n p : Nat) (w : World) (h : TapeIs w b n p) (h3 : p ≤ 100000) :
    Calls Tryz.prog 23 #[.pointer (some ⟨b, 0, none⟩)] w (PcsPost b n p w) := by
  have H0 := Lib.hid (PSt.start h)
  clear h
  go_enter Tryz.func23, Tryz.ntmps23
  go_wp2_with fail
  with_reducible refine (Next_ps 5 H0.out (by omega) (by omega) (by omega)).mono ?_
  rintro e w1 ⟨r, r0, r1, rfl, h1⟩
  obtain ⟨k0, rfl⟩ := Int.eq_ofNat_of_zero_le r0
  have H1 := Lib.hid h1
  have hk0 : k0 ≤ 4 := by omega
  clear h1 r0 r1
  go_wp2_with fail
  go_loopg [3, 4] k0 (fun gk x i wr => ∃ l : List Pc, i = .int .i64 gk ∧ gk ≤ 4 ∧ l.length + gk ≤ 4 ∧ Hid (∀ x ∈ l, SmallPc x) ∧ Hid (PSt w b n p (1 + 10 * (4 - gk)) x l wr))
  case atStart => exact ⟨[], rfl, hk0, by simpa using hk0, Lib.hid (fun x hx => by cases hx), H1.out.more (by omega)⟩
  case round =>
    obtain ⟨l, rfl, hg4, hlen, hsm, hst⟩ := hrel
    by_cases hgt : 0 < gk
    · have hgI : (0 : Int) < (gk : Int) := by omega
      obtain ⟨A, c, rfl⟩ := own_slice hst.out.own
      go_wp2_with fail
      with_reducible refine (Next_ps 11 hst.out (by omega) (by omega) (by omega)).mono ?_
      rintro e w2 ⟨r, r0, r1, rfl, h2⟩
      have hr1 : (1 : Int) + r ≤ 11 := by omega
      have hr0 : (1 : Int) ≤ 1 + r := by omega
      have H2 := Lib.hid h2
      clear h2
      go_upto_block 2 with fail
      have hpb : PB w b n p (1 + 10 * (4 - gk) + 1) (.slice A l.length c) l w2.heap.size ⟨1 + r, ⟨#[]⟩, 0, false⟩ (w2.alloc (.cells #[.int .i64 (1 + r), .string ⟨#[]⟩, .int .i64 0, .bool false] 64)) :=
        ⟨H2.out.below (below_alloc _ _), heap_alloc_last _ _, H2.out.size, fun he => by have := (H2.out.own.lt _ he).2; omega⟩
      obtain ⟨W3, hW3⟩ : ∃ W3, w2.alloc (.cells #[.int .i64 (1 + r), .string ⟨#[]⟩, .int .i64 0, .bool false] 64) = W3 := ⟨_, rfl⟩
      rw [hW3] at hpb ⊢
      obtain ⟨B, hB⟩ : ∃ B, w2.heap.size = B := ⟨_, rfl⟩
      rw [hB] at hpb ⊢
      obtain ⟨b0, b1, b2, b3, bf⟩ := hpb.bx.cells
      dsimp only at b0 b1 b2 b3
      have f0 := bf 0
      have f1 := bf 1
      have f2 := bf 2
      have f3 := bf 3
      have HP := Lib.hid hpb
      clear bf hpb hW3 hB H2
      generalize 1 + r = kd at *
      clear r0 r1
      go_cut [4, 5] from 8 to 71 (fun s4 s5 wx => s4 = .int .i64 gk ∧ s5 = .pointer (some ⟨B, 0, none⟩) ∧ ∃ x, SmallPc x ∧ Hid (PB w b n p (1 + 10 * (4 - gk) + 4) (.slice A l.length c) l B x wx))
      case first =>
        by_cases k1 : kd = 1
        · subst k1
          go_wp2_with fail
          with_reducible refine (One_pb pTexts _ _ _ _ _ HP.out (by simp [pTexts]) (by simp [pTexts]) (by decide) (by decide) (by rfl) (by omega)).mono ?_
          rintro e w4 ⟨s, hs, rfl, h4⟩
          have hsz := size_of_mem hs pTexts_le
          obtain ⟨e0, e1, e2, e3, ef⟩ := h4.bx.cells
          have g1 := ef 1
          have H4 := Lib.hid h4
          clear h4 hs ef
          go_wp2_with fail
          go_meet
          exact ⟨rfl, rfl, ⟨1, s, 0, false⟩, small_mk (by omega) (by omega) hsz (by omega) (by omega), Lib.hid ((H4.out.text s).more (by omega))⟩
        have kb1 : (kd == 1) = false := by simpa using k1
        by_cases k7 : kd = 7
        · subst k7
          go_wp2_with fail
          go_meet
          exact ⟨rfl, rfl, ⟨7, ⟨#[115, 105, 122, 101]⟩, 0, false⟩, small_mk (by omega) (by omega) (by decide) (by omega) (by omega), Lib.hid ((HP.out.text _).more (by omega))⟩
        have kb7 : (kd == 7) = false := by simpa using k7
        by_cases k8 : kd = 8
        · subst k8
          go_wp2_with fail
          go_meet
          exact ⟨rfl, rfl, ⟨8, ⟨#[73, 68, 95, 88]⟩, 0, false⟩, small_mk (by omega) (by omega) (by decide) (by omega) (by omega), Lib.hid ((HP.out.text _).more (by omega))⟩
        have kb8 : (kd == 8) = false := by simpa using k8
        by_cases k9 : kd = 9
        · subst k9
          clear kb1 kb7 kb8 k1 k7 k8
          go_wp2_with fail
          with_reducible refine (Next_pb 4 HP.out (by omega) (by omega) (by omega)).mono ?_
          rintro e w4 ⟨r4, r40, r41, rfl, h4⟩
          have h4w := h4.word r4
          obtain ⟨e0, e1, e2, e3, ef⟩ := h4.bx.cells
          obtain ⟨_, _, u2, _, uf⟩ := h4w.bx.cells
          have g2 := ef 2
          have v3 := uf 3
          have H4 := Lib.hid h4w
          clear h4 h4w ef uf
          by_cases hr4 : 0 < r4
          · go_wp2_with fail
            with_reducible refine (Next_pb 2 H4.out (by omega) (by omega) (by omega)).mono ?_
            rintro e w5 ⟨r5, r50, r51, rfl, h5⟩
            obtain ⟨_, _, _, x3, xf⟩ := h5.bx.cells
            have y3 := xf 3
            have H5 := Lib.hid h5
            clear h5 xf
            go_wp2_with fail
            all_goals
              go_meet
              exact ⟨rfl, rfl, ⟨9, ⟨#[]⟩, r4, _⟩, small_mk (by omega) (by omega) (by decide) (by omega) (by omega), Lib.hid ((H5.out.mored _).more (by omega))⟩
          · have hr4' : (r4 : Int) ≤ 0 := by omega
            obtain ⟨_, _, _, x3, _⟩ := H4.out.bx.cells
            go_wp2_with fail
            all_goals
              go_meet
              exact ⟨rfl, rfl, ⟨9, ⟨#[]⟩, r4, _⟩, small_mk (by omega) (by omega) (by decide) (by omega) (by omega), Lib.hid ((H4.out.mored _).more (by omega))⟩
        have kb9 : (kd == 9) = false := by simpa using k9
        clear k1 k7 k8 k9
        go_wp2_with fail
        go_meet
        exact ⟨rfl, rfl, ⟨kd, ⟨#[]⟩, 0, false⟩, small_mk (by omega) (by omega) (by decide) (by omega) (by omega), Lib.hid (HP.out.more (by omega))⟩
      case rest =>
      obtain ⟨rfl, rfl, ⟨xk, xt, xw, xm⟩, ⟨s1, s2, s3, s4, s5⟩, hpx⟩ := hcut
      dsimp only at s1 s2 s3 s4 s5
      clear HP
      go_wp2_with fail
      with_reducible refine (Next_pb 16 hpx.out (by omega) (by omega) (by omega)).mono ?_
      rintro e w6 ⟨r6, r60, r61, rfl, h6⟩
      obtain ⟨b0, b1, b2, b3, bf⟩ := h6.bx.cells
      dsimp only at b0 b1 b2 b3
      have f0 := bf 0
      have f1 := bf 1
      have f2 := bf 2
      have f3 := bf 3
      have H6 := Lib.hid h6
      clear h6 bf hpx
      go_upto_block 3 with fail
      go_cut [4, 5] from 8 to 71 (fun s4 s5 wx => s4 = .int .i64 gk ∧ s5 = .pointer (some ⟨B, 0, none⟩) ∧ ∃ x, SmallPc x ∧ Hid (PB w b n p (1 + 10 * (4 - gk) + 8) (.slice A l.length c) l B x wx))
      case first =>
        by_cases k0 : r6 = 0
        · subst k0
          go_wp2_with fail
          with_reducible refine (Next_pb 14 H6.out (by omega) (by omega) (by omega)).mono ?_
          rintro e w7 ⟨r7, r70, r71, rfl, h7⟩
          have hq1 : (-1 : Int) ≤ r7 - 1 := by omega
          have hq2 : r7 - 1 ≤ 20 := by omega
          obtain ⟨c0, _, _, _, cf⟩ := h7.bx.cells
          have d0 := cf 0
          have H7 := Lib.hid h7
          clear h7 cf
          go_wp2_with fail
          go_meet
          exact ⟨rfl, rfl, ⟨r7 - 1, xt, xw, xm⟩, small_mk (by omega) (by omega) s3 s4 s5, Lib.hid ((H7.out.kind _).more (by omega))⟩
        have kb0 : (r6 == 0) = false := by simpa using k0
        by_cases k1 : r6 = 1
        · subst k1
          go_wp2_with fail
          with_reducible refine (One_pb pWrong _ _ _ _ _ H6.out (by simp [pWrong]) (by simp [pWrong]) (by decide) (by decide) (by rfl) (by omega)).mono ?_
          rintro e w7 ⟨s, hs, rfl, h7⟩
          have hsz := size_of_mem hs pWrong_le
          obtain ⟨_, c1, _, _, cf⟩ := h7.bx.cells
          have d1 := cf 1
          have H7 := Lib.hid h7
          clear h7 hs cf
          go_wp2_with fail
          go_meet
          exact ⟨rfl, rfl, ⟨xk, s, xw, xm⟩, small_mk s1 s2 hsz s4 s5, Lib.hid ((H7.out.text s).more (by omega))⟩
        have kb1 : (r6 == 1) = false := by simpa using k1
        by_cases k2 : r6 = 2
        · subst k2
          go_wp2_with fail
          with_reducible refine (Next_pb 103 H6.out (by omega) (by omega) (by omega)).mono ?_
          rintro e w7 ⟨r7, r70, r71, rfl, h7⟩
          have hq1 : (-2 : Int) ≤ r7 - 2 := by omega
          have hq2 : r7 - 2 ≤ 110 := by omega
          have H7 := Lib.hid h7
          clear h7
          go_wp2_with fail
          with_reducible refine (Next_pb 2 H7.out (by omega) (by omega) (by omega)).mono ?_
          rintro e w8 ⟨r8, r80, r81, rfl, h8⟩
          obtain ⟨_, _, c2, _, cf⟩ := h8.bx.cells
          have d2 := cf 2
          have h8w := h8.word (r7 - 2)
          obtain ⟨_, _, _, c3, cf3⟩ := h8w.bx.cells
          have d3 := cf3 3
          have H8 := Lib.hid h8w
          clear h8 h8w cf cf3
          go_wp2_with fail
          all_goals
            go_meet
            exact ⟨rfl, rfl, ⟨xk, xt, r7 - 2, _⟩, small_mk s1 s2 s3 (by omega) (by omega), Lib.hid ((H8.out.mored _).more (by omega))⟩
        have kb2 : (r6 == 2) = false := by simpa using k2
        clear k0 k1 k2
        go_wp2_with fail
        go_meet
        exact ⟨rfl, rfl, ⟨xk, xt, xw, xm⟩, small_mk s1 s2 s3 s4 s5, Lib.hid (H6.out.more (by omega))⟩
      case rest =>
      obtain ⟨rfl, rfl, x, hx, hpx⟩ := hcut
      clear H6 s1 s2 s3 s4 s5 f0 f1 f2 f3 b0 b1 b2 b3
      obtain ⟨b0, b1, b2, b3, _⟩ := hpx.out.bx.cells
      obtain ⟨i0, hi0, hz0, hz1, hz2⟩ := info_parts pieceInfo
      have hsz0 := hpx.out.st.size
      have HX := Lib.hid hx
      clear hx
      go_wp2_with (refine wpList_append_lies _ rfl _ _ _ (by rfl) w.heap.size 64 i0 _ 4 40 Tryz.underlying38 hi0 hz0 hz1 hz2 rfl (by omega) (.slice A l.length c) l.length (cellsOf encPc l) (by rfl) (own_keep hpx.out.st.own (below_alloc _ _)) _ 1 1 (encPc x) (by rfl) (by rfl) (by exact World.news_of_block (B := wc.heap.size) (heap_alloc_last wc _)) (encPc_one x) (by omega) (by unfold maxLen; omega) (by omega) (by simp; omega) _ rfl ?_; intro g2 cap w9 hown9 hgrow9 hat9 hlt9)
      have h9 := hpx.out.st.appended hgrow9 hown9
      have H9 := Lib.hid h9
      clear h9 hown9 hgrow9 hat9 hlt9
      go_roundg (gk - 1)
      case measure => omega
      case rel =>
        refine ⟨l ++ [x], by go_num, by omega, by rw [List.length_append, List.length_singleton]; omega, Lib.hid (fun y hy => ?_), H9.out.more (by omega)⟩
        rcases List.mem_append.1 hy with hy | hy
        · exact hsm.out y hy
        · rw [List.mem_singleton.1 hy]; exact HX.out
    · obtain rfl : gk = 0 := by omega
      obtain ⟨A, c, rfl⟩ := own_slice hst.out.own
      go_wp2
      go_ret
      exact ⟨_, l, rfl, by omega, hsm.out, hst.out.more (by omega)⟩
end Go.Proofs.YtifbcfpaifobjaaGreatDoor
