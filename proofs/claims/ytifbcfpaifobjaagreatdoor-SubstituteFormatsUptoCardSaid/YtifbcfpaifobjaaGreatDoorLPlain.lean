/-
  The law SubstitutePlain, walked: a text in which the signs are doubled expands to the text. (Printed by gen_lplain.py.)
-/
import Derived.Test.YtifbcfpaifobjaaGreatDoorLForms
import Derived.Test.YtifbcfpaifobjaaGreatDoorDbl
namespace Go.Proofs.YtifbcfpaifobjaaGreatDoor
open Go.RowKit
theorem flat_len2 (c : UInt8) (d : Str) (hd : d.length ≤ 2) (s : Str) : (s.flatMap fun b => if b = c then d else [b]).length ≤ 2 * s.length := by
  induction s with
  | nil => simp
  | cons b s ih =>
    rw [List.flatMap_cons, List.length_append, List.length_cons]
    split
    · omega
    · rw [List.length_singleton]; omega
theorem Replace1 (s : ByteArray) (c : UInt8) (W : World) (hE : Env W) (hs : s.size ≤ 1000000000) :
    Calls Tryz.prog 20 #[.string s, .string ⟨#[c]⟩, .string ⟨#[c, c]⟩] W fun e w' => e = .returned (.string (bs (Lib.replaceAll (L s) [c] [c, c]))) ∧ (bs (Lib.replaceAll (L s) [c] [c, c])).size ≤ 2 * s.size ∧ Below W.heap.size W w' := by
  obtain ⟨m, hm⟩ := hE.maxLen
  have hc := Lib.countB_le ⟨#[c]⟩ (by show 1 ≤ 1; omega) s.size s (Nat.le_refl _)
  have h := Tryz.strings_ReplaceAll s ⟨#[c]⟩ ⟨#[c, c]⟩ m W (by omega) hm (by show 1 ≤ 1; omega) (by show s.size + _ * 2 ≤ _; omega)
  refine h.mono fun e w' h => ⟨h.1, ?_, h.2⟩
  rw [size_bs, replaceAll1 _ _ _ (by simp)]
  have := flat_len2 c [c, c] (by simp) (L s)
  rw [len_L] at this
  exact this
set_option maxRecDepth 100000 in
set_option maxHeartbeats 4000000 in
theorem lawPlain (s : ByteArray) (v : Vs) (w : World) (hE : Env w) (hs : s.size ≤ 1048576) (hI : VsIn w w.heap.size v) (hv : VsSmall 1048576 v) :
    Calls Tryz.prog 5 #[.string s, encVs v] w fun e w' => e = .returned (.bool true) ∧ Below w.heap.size w w' := by
  unfold encVs Lst.v
  have HE := Lib.hid hE
  have HI := Lib.hid hI
  have Hv := Lib.hid hv
  clear hE hI hv
  go_enter Tryz.func5, Tryz.ntmps5
  go_wp2_with fail
  obtain ⟨W1, hW1⟩ : ∃ W1, w.alloc (.cells #[.string v.kernel, .string v.devpath, .string v.id, .string v.driver, .string v.parent, .string v.name, .string v.result, .slice v.attrs.A v.attrs.l.length v.attrs.c, .slice v.above.A v.above.l.length v.above.c, .slice v.env.A v.env.l.length v.env.c] 25) = W1 := ⟨_, rfl⟩
  rw [hW1]
  have hb0 : W1.heap[w.heap.size]? = some (.cells #[.string v.kernel, .string v.devpath, .string v.id, .string v.driver, .string v.parent, .string v.name, .string v.result, .slice v.attrs.A v.attrs.l.length v.attrs.c, .slice v.above.A v.above.l.length v.above.c, .slice v.env.A v.env.l.length v.env.c] 25 (0, 0)) := by rw [← hW1]; exact heap_alloc_last w _
  have hbw : Below w.heap.size w W1 := by rw [← hW1]; exact below_alloc _ _
  have Hb0 := Lib.hid hb0
  have Hw1 := Lib.hid hbw
  clear hb0 hbw hW1
  go_loop [5] (fun i => ∃ k : Nat, k ≤ s.size ∧ i = .int .i64 k ∧ Hid (printS ((L s).take k) = true)) (fun i => s.size - (intOf i).toNat)
  case atStart => exact ⟨0, Nat.zero_le _, rfl, rfl⟩
  case round =>
    obtain ⟨k, hk, rfl, hp⟩ := hrel
    by_cases hlt : k < s.size
    · have hsn := printS_snoc ((L s).take k) s[k]
      rw [← take_snoc s k hlt, hp.out, Bool.true_and] at hsn
      have HSn := Lib.hid hsn
      clear hsn
      have HK := Lib.hid (known_any W1 (HE.out.go Hw1.out))
      go_wp2_with (go_at_call 11; refine HK.out.mono ?_; rintro e w5 ⟨rfl, hb5⟩; have HB5 := Lib.hid hb5; clear hb5)
      · go_ret
        exact ⟨rfl, bt Hw1.out HB5.out⟩
      · exact ⟨⟨k + 1, by omega, by go_num, by
          have h1 : 32 ≤ (s[k].toNat : Int) := by assumption
          have h2 : 32 ≤ (s[k].toNat : Int) ∧ (s[k].toNat : Int) ≤ 126 := by assumption
          show printS _ = true
          rw [HSn.out]
          simp [pr]
          omega⟩, by simp [intOf]; omega⟩
      · go_ret
        exact ⟨rfl, bt Hw1.out HB5.out⟩
    · obtain rfl : k = s.size := by omega
      have hp' : printS (L s) = true := by have := hp.out; rw [List.take_of_length_le (by rw [len_L]; exact Nat.le_refl _)] at this; exact this
      have HP := Lib.hid hp'
      clear hp hp'
      go_wp2_with fail
      with_reducible refine (Replace1 s 36 _ (HE.out.go Hw1.out) (by omega)).mono ?_
      rintro e w2 ⟨rfl, hz2, hb2⟩
      have HB2 := Lib.hid hb2
      clear hb2
      go_wp2_with fail
      with_reducible refine (Replace1 _ 37 _ ((HE.out.go Hw1.out).go HB2.out) (by omega)).mono ?_
      rintro e w3 ⟨rfl, hz3, hb3⟩
      have HB3 : Hid (Below W1.heap.size W1 w3) := Lib.hid (bt HB2.out hb3)
      clear hb3 hz2 hz3
      rw [L_bs, dbl_eq]
      have hbk := (HB3.out.block _ (blk_lt Hb0.out)).trans Hb0.out
      have c0 : w3.cell? ⟨w.heap.size, 0, none⟩ = some (.string v.kernel) := by rw [cell_of_row _ _ 0 _ _ _ hbk]; rfl
      have c1 : w3.cell? ⟨w.heap.size, 1, none⟩ = some (.string v.devpath) := by rw [cell_of_row _ _ 1 _ _ _ hbk]; rfl
      have c2 : w3.cell? ⟨w.heap.size, 2, none⟩ = some (.string v.id) := by rw [cell_of_row _ _ 2 _ _ _ hbk]; rfl
      have c3 : w3.cell? ⟨w.heap.size, 3, none⟩ = some (.string v.driver) := by rw [cell_of_row _ _ 3 _ _ _ hbk]; rfl
      have c4 : w3.cell? ⟨w.heap.size, 4, none⟩ = some (.string v.parent) := by rw [cell_of_row _ _ 4 _ _ _ hbk]; rfl
      have c5 : w3.cell? ⟨w.heap.size, 5, none⟩ = some (.string v.name) := by rw [cell_of_row _ _ 5 _ _ _ hbk]; rfl
      have c6 : w3.cell? ⟨w.heap.size, 6, none⟩ = some (.string v.result) := by rw [cell_of_row _ _ 6 _ _ _ hbk]; rfl
      have c7 : w3.cell? ⟨w.heap.size, 7, none⟩ = some (.slice v.attrs.A v.attrs.l.length v.attrs.c) := by rw [cell_of_row _ _ 7 _ _ _ hbk]; rfl
      have c8 : w3.cell? ⟨w.heap.size, 8, none⟩ = some (.slice v.above.A v.above.l.length v.above.c) := by rw [cell_of_row _ _ 8 _ _ _ hbk]; rfl
      have c9 : w3.cell? ⟨w.heap.size, 9, none⟩ = some (.slice v.env.A v.env.l.length v.env.c) := by rw [cell_of_row _ _ 9 _ _ _ hbk]; rfl
      have HK := Lib.hid (known_any w3 ((HE.out.go Hw1.out).go HB3.out))
      have hlt3 : w.heap.size < w3.heap.size := blk_lt hbk
      clear hbk
      have hlen : (bs (dbl (L s))).size = (dbl (L s)).length := size_bs _
      by_cases h256 : 256 < (bs (dbl (L s))).size
      · clear hlen
        generalize bs (dbl (L s)) = tw at *
        go_wp2_with (go_at_call 11; refine HK.out.mono ?_; rintro e w5 ⟨rfl, hb5⟩; have HB5 := Lib.hid hb5; clear hb5)
        go_ret
        exact ⟨rfl, bt Hw1.out (bt HB3.out HB5.out)⟩
      · have hX := Expand_vs (bs (dbl (L s))) v 1048576 (Nat.le_refl _) w3 ((HE.out.go Hw1.out).go HB3.out) ((HI.out.keep (bt Hw1.out HB3.out)).more (bt Hw1.out HB3.out).size) Hv.out (by omega)
        rw [L_bs, expandS_dbl (L s) v HP.out (by omega), bs_L] at hX
        unfold encVs Lst.v ExpPost at hX
        dsimp only at hX
        have HX := Lib.hid hX
        have h256' : (bs (dbl (L s))).size ≤ 256 := by omega
        clear hlen hX h256
        generalize bs (dbl (L s)) = tw at *
        have HK2 : Hid (∀ W', Below w3.heap.size w3 W' → Calls Tryz.prog 11 #[] W' fun e w' => e = .returned (.bool true) ∧ Below W'.heap.size W' w') := Lib.hid (fun W' hb => known_any W' (((HE.out.go Hw1.out).go HB3.out).go hb))
        clear HK
        go_wp2_with (first | (go_at_call 13; refine HX.out.mono ?_; rintro e w4 ⟨rfl, hb4⟩; have HB4 := Lib.hid hb4; clear hb4) | (go_at_call 11; refine (HK2.out _ HB4.out).mono ?_; rintro e w5 ⟨rfl, hb5⟩; have HB5 := Lib.hid hb5; clear hb5))
        go_ret
        exact ⟨rfl, bt Hw1.out (bt HB3.out (bt HB4.out HB5.out))⟩
end Go.Proofs.YtifbcfpaifobjaaGreatDoor
