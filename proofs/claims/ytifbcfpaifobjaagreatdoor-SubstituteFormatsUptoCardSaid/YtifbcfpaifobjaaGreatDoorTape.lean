/-
  Contracts of package coldplugmake: Fold, the tape's Next and One.
-/
import Derived.Test.YtifbcfpaifobjaaGreatDoorBase
import Derived.Test.YtifbcfpaifobjaaGreatDoorProg
namespace Go.Proofs.YtifbcfpaifobjaaGreatDoor
open Go.RowKit
def foldS (v n : Int) : Int := if n ≤ 1 then 0 else v % n
theorem foldS_rng (v n : Int) (h : 1 ≤ n) : 0 ≤ foldS v n ∧ foldS v n < n := by
  unfold foldS
  split
  · omega
  · exact ⟨Int.emod_nonneg _ (by omega), Int.emod_lt_of_pos _ (by omega)⟩
theorem tmod_nonneg_eq (v n : Int) (hn : 0 < n) (h : 0 ≤ v.tmod n) : v.tmod n = v % n := by
  rw [Int.tmod_eq_emod] at h ⊢
  split at h
  · simp_all
  · have h1 := Int.emod_nonneg v (show n ≠ 0 by omega)
    have h2 := Int.emod_lt_of_pos v hn
    exfalso; omega
theorem tmod_neg_eq (v n : Int) (hn : 0 < n) (h : v.tmod n < 0) : v.tmod n + n = v % n := by
  rw [Int.tmod_eq_emod] at h ⊢
  split at h
  · have h1 := Int.emod_nonneg v (show n ≠ 0 by omega)
    exfalso; omega
  · rename_i h3
    rw [if_neg h3]
    omega
set_option maxRecDepth 100000 in
set_option maxHeartbeats 400000 in
theorem Fold_any (v n : Int) (w : World) (_h1 : -9223372036854775808 ≤ v) (_h2 : v ≤ 9223372036854775807) (h3 : n ≤ 9223372036854775807) :
    Calls Tryz.prog 12 #[.int .i64 v, .int .i64 n] w fun e w' => e = .returned (.int .i64 (foldS v n)) ∧ w = w' := by
  go_enter Tryz.func12, Tryz.ntmps12
  go_wp2
  · go_ret
    exact ⟨ret_int (by simp [foldS]; omega), rfl⟩
  · go_ret
    have hn : 1 < n := by assumption
    have ht : v.tmod n < 0 := by assumption
    have e := tmod_neg_eq v n (by omega) ht
    have r := foldS_rng v n (by omega)
    rw [foldS, if_neg (by omega)] at r
    exact ⟨ret_int (by rw [e, foldS, if_neg (by omega)]; exact IntWalk.wrap64_in _ ⟨by omega, by omega⟩), rfl⟩
  · go_ret
    have hn : 1 < n := by assumption
    have ht : 0 ≤ v.tmod n := by assumption
    exact ⟨ret_int (by rw [tmod_nonneg_eq v n (by omega) ht, foldS, if_neg (by omega)]), rfl⟩
/-- The tape's block: a list of n numbers that lies elsewhere, and a place. -/
structure TapeIs (w : World) (b : Nat) (n : Nat) (p : Nat) : Prop where
  blk : ∃ A c t, w.heap[b]? = some (.cells #[.slice A n c, .int .i64 p] t (0, 0)) ∧ ∃ ba off, (0 < n → A = some ⟨ba, off, none⟩) ∧ ba ≠ b ∧ ∀ i, i < n → ∃ z : Int, w.cell? ⟨ba, off + i, none⟩ = some (.int .i64 z) ∧ -9223372036854775808 ≤ z ∧ z ≤ 9223372036854775807
  small : n ≤ 9223372036854775807
theorem TapeIs.lt {w : World} {b n p : Nat} (h : TapeIs w b n p) : b < w.heap.size := by
  obtain ⟨A, c, t, hb, _⟩ := h.blk
  rcases Nat.lt_or_ge b w.heap.size with hlt | hge
  · exact hlt
  · rw [Array.getElem?_eq_none hge] at hb; cases hb
theorem TapeIs.drewN {w : World} {b n p : Nat} (h : TapeIs w b n p) (k : Nat) : TapeIs (w.drewN k) b n p := ⟨h.blk, h.small⟩
/-- The tape goes on by one. -/
theorem TapeIs.next {w : World} {b n p : Nat} (h : TapeIs w b n p) : TapeIs (w.setCell ⟨b, 1, none⟩ (.int .i64 (p + 1))) b n (p + 1) := by
  obtain ⟨A, c, t, hb, ba, off, hA, hne, hz⟩ := h.blk
  refine ⟨⟨A, c, t, ?_, ba, off, hA, hne, fun i hi => ?_⟩, h.small⟩
  · rw [heap_setCell_same _ _ _ _ _ _ hb]; rfl
  · obtain ⟨z, hc, z1, z2⟩ := hz i hi
    exact ⟨z, by rw [World.cell?_of_block (heap_setCell_other _ _ _ _ hne)]; exact hc, z1, z2⟩
/-- It lies as it lay where only other, newer blocks have turned. -/
theorem TapeIs.keep {w w' : World} {b n p B : Nat} (h : TapeIs w b n p) (hb : Below B w w') (hB : w.heap.size ≤ B) : TapeIs w' b n p := by
  obtain ⟨A, c, t, hh, ba, off, hA, hne, hz⟩ := h.blk
  refine ⟨⟨A, c, t, by rw [hb.block b (Nat.lt_of_lt_of_le h.lt hB)]; exact hh, ba, off, hA, hne, fun i hi => ?_⟩, h.small⟩
  obtain ⟨z, hc, z1, z2⟩ := hz i hi
  exact ⟨z, by rw [hb.cell (p := ⟨ba, off + i, none⟩) (Nat.lt_of_lt_of_le (block_lt_of_cell hc) hB)]; exact hc, z1, z2⟩
/-- What a function that reads the tape leaves: the tape at a later place, all other old memory as it was. -/
structure TapeOn (w w' : World) (b n p d : Nat) : Prop where
  tape : ∃ q, p ≤ q ∧ q ≤ p + d ∧ TapeIs w' b n q
  os : w'.os = w.os
  tp : w'.tape = w.tape
  output : w'.output = w.output
  size : w.heap.size ≤ w'.heap.size
  block : ∀ k, k < w.heap.size → k ≠ b → w'.heap[k]? = w.heap[k]?
def SomeInt (m : Int) (P : World → Prop) (e : Ending) (w' : World) : Prop := ∃ r : Int, 0 ≤ r ∧ r < m ∧ e = .returned (.int .i64 r) ∧ P w'
set_option maxRecDepth 100000 in
set_option maxHeartbeats 400000 in
theorem Next_set (b n p : Nat) (m : Int) (w : World) (h : TapeIs w b n p) (h1 : 1 ≤ m) (h2 : m ≤ 1000000) (h3 : p ≤ 1000000) :
    Calls Tryz.prog 29 #[.pointer (some ⟨b, 0, none⟩), .int .i64 m] w (SomeInt m fun w' => ∃ k, (w.setCell ⟨b, 1, none⟩ (.int .i64 (p + 1))).drewN k = w') := by
  obtain ⟨⟨A, c, t, hb, ba, off, hA, hne, hz⟩, hs⟩ := h
  have c0 : w.cell? ⟨b, 0, none⟩ = some (.slice A n c) := by rw [cell_of_row _ _ 0 _ _ _ hb]; rfl
  have c1 : w.cell? ⟨b, 1, none⟩ = some (.int .i64 p) := by rw [cell_of_row _ _ 1 _ _ _ hb]; rfl
  have f1 : w.frozen? ⟨b, 1, none⟩ = false := frozen_of_row _ _ _ _ _ hb
  clear hb
  by_cases hlt : p < n
  · obtain rfl := hA (by omega)
    obtain ⟨z, hc, z1, z2⟩ := hz p hlt
    clear hz hA
    go_enter Tryz.func29, Tryz.ntmps29
    go_wp2
    go_quiet (fail)
    go_wp2
    go_quiet (fail)
    go_wp2_with (go_at_call 12; refine (Fold_any _ _ _ (by omega) (by omega) (by omega)).mono ?_; rintro e w' ⟨rfl, rfl⟩)
    go_ret
    exact ⟨_, (foldS_rng _ _ h1).1, (foldS_rng _ _ h1).2, rfl, _, rfl⟩
  · clear hz hA
    go_enter Tryz.func29, Tryz.ntmps29
    go_wp2
    go_quiet (fail)
    go_wp2_with (go_at_call 12; refine (Fold_any _ _ _ (by omega) (by omega) (by omega)).mono ?_; rintro e w' ⟨rfl, rfl⟩)
    go_ret
    exact ⟨_, (foldS_rng _ _ h1).1, (foldS_rng _ _ h1).2, rfl, _, rfl⟩
theorem Next_any (b n p : Nat) (m : Int) (w : World) (h : TapeIs w b n p) (h1 : 1 ≤ m) (h2 : m ≤ 1000000) (h3 : p ≤ 1000000) :
    Calls Tryz.prog 29 #[.pointer (some ⟨b, 0, none⟩), .int .i64 m] w (SomeInt m fun w' => TapeOn w w' b n p 1) :=
  (Next_set b n p m w h h1 h2 h3).mono fun e w' ⟨r, r0, r1, he, k, hw⟩ => ⟨r, r0, r1, he, by
    subst hw
    exact ⟨⟨p + 1, by omega, by omega, h.next.drewN k⟩, rfl, rfl, rfl, by simp [World.setCell], fun j hj hne => heap_setCell_other _ _ _ _ hne⟩⟩
/-- One of these texts. -/
def SomeStr (Q : ByteArray → Prop) (P : World → Prop) (e : Ending) (w' : World) : Prop := ∃ s : ByteArray, Q s ∧ e = .returned (.string s) ∧ P w'
set_option maxRecDepth 100000 in
set_option maxHeartbeats 400000 in
theorem One_any (b n p g off c : Nat) (ss : List ByteArray) (w : World) (h : TapeIs w b n p) (h3 : p ≤ 1000000) (hg : g ≠ b) (h0 : 0 < ss.length) (h1 : ss.length ≤ 1000)
    (hc : ∀ i s, ss[i]? = some s → w.cell? ⟨g, off + i, none⟩ = some (.string s)) :
    Calls Tryz.prog 30 #[.pointer (some ⟨b, 0, none⟩), .slice (some ⟨g, off, none⟩) ss.length c] w (SomeStr (· ∈ ss) fun w' => TapeOn w w' b n p 1) := by
  have HN := Next_any b n p (ss.length : Nat) w h (by omega) (by omega) h3
  have H := Lib.hid h
  have HC := Lib.hid hc
  clear h hc
  have hne : ((ss.length : Int) == 0) = false := by simp; intro e; rw [e] at h0; simp at h0
  have h2 : (ss.length : Int) ≤ 1000 := by omega
  go_enter Tryz.func30, Tryz.ntmps30
  go_wp2_with fail
  refine HN.mono ?_
  rintro e w' ⟨r, r0, r1, rfl, hT⟩
  obtain ⟨j, rfl⟩ := Int.eq_ofNat_of_zero_le r0
  have hj : j < ss.length := by omega
  have hcell : w'.cell? ⟨g, off + j, none⟩ = some (.string ss[j]) := by
    have h4 := HC.out j ss[j] (List.getElem?_eq_getElem hj)
    have h5 := block_lt_of_cell h4
    rw [World.cell?_of_block (w := w) (hT.block g h5 hg)]
    exact h4
  have HT := Lib.hid hT
  clear hT
  generalize hs : ss[j] = s at hcell
  have HS := Lib.hid hs
  clear hs
  go_wp2
  go_ret
  exact ⟨s, by rw [← HS.out]; exact List.getElem_mem _, rfl, HT.out⟩
end Go.Proofs.YtifbcfpaifobjaaGreatDoor
