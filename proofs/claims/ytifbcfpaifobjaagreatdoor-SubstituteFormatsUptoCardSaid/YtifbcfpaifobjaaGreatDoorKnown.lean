/-
  The sanity check of the law file. (Printed by gen_known.py.)
-/
import Derived.Test.YtifbcfpaifobjaaGreatDoorValues
import Derived.Test.YtifbcfpaifobjaaGreatDoorExpand
namespace Go.Proofs.YtifbcfpaifobjaaGreatDoor
open Go.RowKit
/-- Expand at short values. -/
theorem Expand_vs (s : ByteArray) (v : Vs) (M : Nat) (hM : M ≤ 1048576) (W : World) (hE : Env W) (hI : VsIn W W.heap.size v) (hv : VsSmall M v) (hs : s.size ≤ 9223372036854775807) :
    Calls Tryz.prog 13 #[.string s, encVs v] W (ExpPost (expandS (L s) v) W) := by
  have h1 := hv.result
  have h2 := hv.kernel
  refine Expand_any s v W hE hs hI (by omega) (by omega) (fun q hq => ?_)
  have h3 := valueS_small (hv.more hM) (show q.text.size ≤ 1048576 by have := (fits_parseR (L s)).2 q hq; omega)
  omega
def vK (A : Option Addr) : Vs := { kernel := ⟨#[115, 100, 97, 49, 50]⟩, devpath := ⟨#[]⟩, id := ⟨#[]⟩, driver := ⟨#[]⟩, parent := ⟨#[]⟩, name := ⟨#[]⟩, result := ⟨#[97, 32, 32, 98, 32, 99]⟩, attrs := ⟨none, 0, []⟩, above := ⟨none, 0, []⟩, env := ⟨A, 1, [⟨⟨#[73, 68]⟩, ⟨#[55]⟩⟩]⟩ }
theorem vK_small (A : Option Addr) : VsSmall 240 (vK A) := by
  refine ⟨?_, ?_, ?_, ?_, ?_, ?_, ?_, ?_, ?_, ?_⟩
  · show ByteArray.size ⟨#[115, 100, 97, 49, 50]⟩ ≤ 240; decide
  · exact Nat.zero_le _
  · exact Nat.zero_le _
  · exact Nat.zero_le _
  · exact Nat.zero_le _
  · exact Nat.zero_le _
  · show ByteArray.size ⟨#[97, 32, 32, 98, 32, 99]⟩ ≤ 240; decide
  · intro x hx; cases hx
  · intro x hx; cases hx
  · intro x hx
    obtain rfl : x = ⟨⟨#[73, 68]⟩, ⟨#[55]⟩⟩ := by simpa [vK] using hx
    show ByteArray.size ⟨#[55]⟩ ≤ 240; decide
def KnownPost (t : ByteArray) (W : World) (e : Ending) (w' : World) : Prop := e = .returned (.tuple #[.string t, .int .i64 0]) ∧ Below W.heap.size W w'
theorem known_0 (A : Option Addr) (W : World) (hE : Env W) (hI : VsIn W W.heap.size (vK A)) :
    Calls Tryz.prog 13 #[.string ⟨#[100, 105, 115, 107, 47, 36, 107, 101, 114, 110, 101, 108, 45, 37, 110]⟩, .agg #[.string ⟨#[115, 100, 97, 49, 50]⟩, .string ⟨#[]⟩, .string ⟨#[]⟩, .string ⟨#[]⟩, .string ⟨#[]⟩, .string ⟨#[]⟩, .string ⟨#[97, 32, 32, 98, 32, 99]⟩, .slice none 0 0, .slice none 0 0, .slice A 1 1]] W (KnownPost ⟨#[100, 105, 115, 107, 47, 115, 100, 97, 49, 50, 45, 49, 50]⟩ W) := by
  have h := Expand_vs ⟨#[100, 105, 115, 107, 47, 36, 107, 101, 114, 110, 101, 108, 45, 37, 110]⟩ (vK A) 240 (by decide) W hE hI (vK_small A) (by decide)
  rw [show expandS (L ⟨#[100, 105, 115, 107, 47, 36, 107, 101, 114, 110, 101, 108, 45, 37, 110]⟩) (vK A) = (⟨#[100, 105, 115, 107, 47, 115, 100, 97, 49, 50, 45, 49, 50]⟩, 0) from by kernel_rfl] at h
  exact h
theorem known_1 (A : Option Addr) (W : World) (hE : Env W) (hI : VsIn W W.heap.size (vK A)) :
    Calls Tryz.prog 13 #[.string ⟨#[36, 101, 110, 118, 123, 73, 68, 125, 36, 101, 110, 118, 123, 78, 79, 125, 37, 37, 120]⟩, .agg #[.string ⟨#[115, 100, 97, 49, 50]⟩, .string ⟨#[]⟩, .string ⟨#[]⟩, .string ⟨#[]⟩, .string ⟨#[]⟩, .string ⟨#[]⟩, .string ⟨#[97, 32, 32, 98, 32, 99]⟩, .slice none 0 0, .slice none 0 0, .slice A 1 1]] W (KnownPost ⟨#[55, 37, 120]⟩ W) := by
  have h := Expand_vs ⟨#[36, 101, 110, 118, 123, 73, 68, 125, 36, 101, 110, 118, 123, 78, 79, 125, 37, 37, 120]⟩ (vK A) 240 (by decide) W hE hI (vK_small A) (by decide)
  rw [show expandS (L ⟨#[36, 101, 110, 118, 123, 73, 68, 125, 36, 101, 110, 118, 123, 78, 79, 125, 37, 37, 120]⟩) (vK A) = (⟨#[55, 37, 120]⟩, 0) from by kernel_rfl] at h
  exact h
theorem known_2 (A : Option Addr) (W : World) (hE : Env W) (hI : VsIn W W.heap.size (vK A)) :
    Calls Tryz.prog 13 #[.string ⟨#[36, 114, 101, 115, 117, 108, 116, 123, 50, 125, 44, 32, 37, 99, 123, 50, 43, 125, 44, 32, 36, 114, 101, 115, 117, 108, 116, 123, 57, 125]⟩, .agg #[.string ⟨#[115, 100, 97, 49, 50]⟩, .string ⟨#[]⟩, .string ⟨#[]⟩, .string ⟨#[]⟩, .string ⟨#[]⟩, .string ⟨#[]⟩, .string ⟨#[97, 32, 32, 98, 32, 99]⟩, .slice none 0 0, .slice none 0 0, .slice A 1 1]] W (KnownPost ⟨#[98, 44, 32, 98, 32, 99, 44, 32]⟩ W) := by
  have h := Expand_vs ⟨#[36, 114, 101, 115, 117, 108, 116, 123, 50, 125, 44, 32, 37, 99, 123, 50, 43, 125, 44, 32, 36, 114, 101, 115, 117, 108, 116, 123, 57, 125]⟩ (vK A) 240 (by decide) W hE hI (vK_small A) (by decide)
  rw [show expandS (L ⟨#[36, 114, 101, 115, 117, 108, 116, 123, 50, 125, 44, 32, 37, 99, 123, 50, 43, 125, 44, 32, 36, 114, 101, 115, 117, 108, 116, 123, 57, 125]⟩) (vK A) = (⟨#[98, 44, 32, 98, 32, 99, 44, 32]⟩, 0) from by kernel_rfl] at h
  exact h
theorem known_3 (W : World) (hE : Env W) :
    Calls Tryz.prog 19 #[.string ⟨#[36, 107, 101, 114, 110, 101, 108, 115]⟩] W fun e w' => e = .returned (.int .i64 90) ∧ Below W.heap.size W w' := by
  have h := Check_any ⟨#[36, 107, 101, 114, 110, 101, 108, 115]⟩ W hE (by decide)
  rw [show (parseR (L ⟨#[36, 107, 101, 114, 110, 101, 108, 115]⟩)).2 = 90 from by kernel_rfl] at h
  exact h
set_option maxRecDepth 100000 in
set_option maxHeartbeats 2000000 in
theorem known_any (w : World) (hE : Env w) :
    Calls Tryz.prog 11 #[] w fun e w' => e = .returned (.bool true) ∧ Below w.heap.size w w' := by
  have HE := Lib.hid hE
  clear hE
  go_enter Tryz.func11, Tryz.ntmps11
  go_wp2_with fail
  obtain ⟨W1, hW1⟩ : ∃ W1, (w.alloc (.cells #[.string ⟨#[73, 68]⟩, .string ⟨#[55]⟩] 56)).alloc (.cells #[.string ⟨#[115, 100, 97, 49, 50]⟩, .string ⟨#[]⟩, .string ⟨#[]⟩, .string ⟨#[]⟩, .string ⟨#[]⟩, .string ⟨#[]⟩, .string ⟨#[97, 32, 32, 98, 32, 99]⟩, .slice none 0 0, .slice none 0 0, .slice (some ⟨w.heap.size, 0, none⟩) 1 1] 25) = W1 := ⟨_, rfl⟩
  rw [hW1]
  have hB : W1.heap[w.heap.size + 1]? = some (.cells #[.string ⟨#[115, 100, 97, 49, 50]⟩, .string ⟨#[]⟩, .string ⟨#[]⟩, .string ⟨#[]⟩, .string ⟨#[]⟩, .string ⟨#[]⟩, .string ⟨#[97, 32, 32, 98, 32, 99]⟩, .slice none 0 0, .slice none 0 0, .slice (some ⟨w.heap.size, 0, none⟩) 1 1] 25 (0, 0)) := by rw [← hW1]; exact heap_alloc2_new w _ _
  have hA : W1.heap[w.heap.size]? = some (.cells #[.string ⟨#[73, 68]⟩, .string ⟨#[55]⟩] 56 (0, 0)) := by rw [← hW1]; exact heap_alloc2_old w _ _
  have hw1 : Below w.heap.size w W1 := by rw [← hW1]; exact ((Below.refl _ _).alloc (Nat.le_refl _) _).alloc (by simp) _
  have hs1 : w.heap.size + 2 = W1.heap.size := by rw [← hW1]; simp
  have hC : ∀ W', Below W1.heap.size W1 W' → (W'.cell? ⟨w.heap.size + 1, 0, none⟩ = some (.string ⟨#[115, 100, 97, 49, 50]⟩) ∧ W'.cell? ⟨w.heap.size + 1, 1, none⟩ = some (.string ⟨#[]⟩) ∧ W'.cell? ⟨w.heap.size + 1, 2, none⟩ = some (.string ⟨#[]⟩) ∧ W'.cell? ⟨w.heap.size + 1, 3, none⟩ = some (.string ⟨#[]⟩) ∧ W'.cell? ⟨w.heap.size + 1, 4, none⟩ = some (.string ⟨#[]⟩) ∧ W'.cell? ⟨w.heap.size + 1, 5, none⟩ = some (.string ⟨#[]⟩) ∧ W'.cell? ⟨w.heap.size + 1, 6, none⟩ = some (.string ⟨#[97, 32, 32, 98, 32, 99]⟩) ∧ W'.cell? ⟨w.heap.size + 1, 7, none⟩ = some (.slice none 0 0) ∧ W'.cell? ⟨w.heap.size + 1, 8, none⟩ = some (.slice none 0 0) ∧ W'.cell? ⟨w.heap.size + 1, 9, none⟩ = some (.slice (some ⟨w.heap.size, 0, none⟩) 1 1)) := fun W' hb => by
    have hB' := (hb.block _ (blk_lt hB)).trans hB
    refine ⟨?_, ?_, ?_, ?_, ?_, ?_, ?_, ?_, ?_, ?_⟩
    · rw [cell_of_row _ _ 0 _ _ _ hB']; rfl
    · rw [cell_of_row _ _ 1 _ _ _ hB']; rfl
    · rw [cell_of_row _ _ 2 _ _ _ hB']; rfl
    · rw [cell_of_row _ _ 3 _ _ _ hB']; rfl
    · rw [cell_of_row _ _ 4 _ _ _ hB']; rfl
    · rw [cell_of_row _ _ 5 _ _ _ hB']; rfl
    · rw [cell_of_row _ _ 6 _ _ _ hB']; rfl
    · rw [cell_of_row _ _ 7 _ _ _ hB']; rfl
    · rw [cell_of_row _ _ 8 _ _ _ hB']; rfl
    · rw [cell_of_row _ _ 9 _ _ _ hB']; rfl
  have hV : ∀ W', Below W1.heap.size W1 W' → Env W' ∧ VsIn W' W'.heap.size (vK (some ⟨w.heap.size, 0, none⟩)) := fun W' hb => by
    have hA' := (hb.block _ (blk_lt hA)).trans hA
    have hsz := hb.size
    exact ⟨(HE.out.go hw1).go hb, ⟨⟨rfl, fun h => absurd h (Nat.lt_irrefl 0)⟩, ⟨rfl, fun h => absurd h (Nat.lt_irrefl 0)⟩, RowAt.of_block hA' rfl rfl, Nat.zero_le _, Nat.zero_le _, by show (1 : Nat) ≤ 1000000000; omega⟩⟩
  have HC := Lib.hid hC
  have HV := Lib.hid hV
  have Hw1 := Lib.hid hw1
  have hlt : w.heap.size + 1 < W1.heap.size := by omega
  clear hC hV hw1 hA hB hW1 hs1
  with_reducible refine (known_0 _ W1 (HV.out _ (Below.refl _ _)).1 (HV.out _ (Below.refl _ _)).2).mono ?_
  rintro e w2 ⟨rfl, hb2⟩
  have HB2 := Lib.hid hb2
  clear hb2
  obtain ⟨c0, c1, c2, c3, c4, c5, c6, c7, c8, c9⟩ := HC.out w2 HB2.out
  go_wp2_with fail
  clear c0 c1 c2 c3 c4 c5 c6 c7 c8 c9
  with_reducible refine (known_1 _ w2 (HV.out _ HB2.out).1 (HV.out _ HB2.out).2).mono ?_
  rintro e w3 ⟨rfl, hb3⟩
  have HB3 : Hid (Below W1.heap.size W1 w3) := Lib.hid (bt HB2.out hb3)
  clear hb3
  obtain ⟨c0, c1, c2, c3, c4, c5, c6, c7, c8, c9⟩ := HC.out w3 HB3.out
  go_wp2_with fail
  clear c0 c1 c2 c3 c4 c5 c6 c7 c8 c9
  with_reducible refine (known_2 _ w3 (HV.out _ HB3.out).1 (HV.out _ HB3.out).2).mono ?_
  rintro e w4 ⟨rfl, hb4⟩
  have HB4 : Hid (Below W1.heap.size W1 w4) := Lib.hid (bt HB3.out hb4)
  clear hb4
  go_wp2_with (go_at_call 19; refine (known_3 _ (HV.out _ HB4.out).1).mono ?_; rintro e w5 ⟨rfl, hb5⟩; have HB5 := Lib.hid hb5; clear hb5)
  go_ret
  exact ⟨rfl, bt Hw1.out (bt HB4.out HB5.out)⟩
end Go.Proofs.YtifbcfpaifobjaaGreatDoor
