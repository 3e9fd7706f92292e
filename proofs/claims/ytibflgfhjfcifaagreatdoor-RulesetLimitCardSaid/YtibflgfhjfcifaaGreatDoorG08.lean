/-
  Contracts of package name: common, Valid, Key.
  Contracts of the reference's layers 1 and 3: in, Printable, Text, Valid, Key, Number, Get.
  Contracts: the digits at the end of a text (both texts of it); the value of a name in a list (both texts of it).
  Laws of the walk for blocks of many cells: an allocation whose zero value has a name; a store into the midst of the block that was made last. Over any program.
-/
import Derived.Test.YtibflgfhjfcifaaGreatDoorG07
import Derived.Test.YtibflgfhjfcifaaGreatDoorShelf
import Derived.Test.YtibflgfhjfcifaaGreatDoorG00
import Derived.Shelf.Strings.SlTrimAscii
import Derived.Deep.WholeRow
import Derived.Deep.MidRow
import Derived.Laws.EntriesVeiled
namespace Go.Proofs.YtibflgfhjfcifaaGreatDoor
open Go.RowKit
theorem build_none (w : World) : (Instr.build 161 #[]).run Tryz.prog w = .ok (.agg (setA noneS)) w := run_build w 161 #[] (setA noneS) (by kernel_rfl)
def upperL : Str := [65, 66, 67, 68, 69, 70, 71, 72, 73, 74, 75, 76, 77, 78, 79, 80, 81, 82, 83, 84, 85, 86, 87, 88, 89, 90]
def lowerL : Str := [97, 98, 99, 100, 101, 102, 103, 104, 105, 106, 107, 108, 109, 110, 111, 112, 113, 114, 115, 116, 117, 118, 119, 120, 121, 122]
def digitL : Str := [48, 49, 50, 51, 52, 53, 54, 55, 56, 57]
def punctL : Str := [95, 46, 58, 43, 45]
def commonS : Nat → Bool := addS (addS (addS (addS noneS upperL) lowerL) digitL) punctL
def validS (l : Str) : Bool := !l.isEmpty && decide (l.length ≤ 32) && !(l == [46] || l == [46, 46]) && hasS (addS commonS [33]) l
def keyS (l : Str) : Bool := !l.isEmpty && decide (l.length ≤ 32) && hasS (addS noneS upperL) (l.take 1) && hasS (addS (addS (addS noneS upperL) digitL) [95]) l
theorem upper_ascii (j : Nat) (b : UInt8) (h : upperL[j]? = some b) : b.toNat < 128 := by
 have hm : b ∈ upperL := List.mem_of_getElem? h
 revert b
 intro b _ hm
 simp only [upperL, List.mem_cons, List.not_mem_nil, or_false] at hm
 rcases hm with h | h | h | h | h | h | h | h | h | h | h | h | h | h | h | h | h | h | h | h | h | h | h | h | h | h <;> subst h <;> decide
theorem commonS_eq : addS (addS (addS (addS noneS (L ⟨#[65, 66, 67, 68, 69, 70, 71, 72, 73, 74, 75, 76, 77, 78, 79, 80, 81, 82, 83, 84, 85, 86, 87, 88, 89, 90]⟩)) (L ⟨(Lib.toLowerA [65, 66, 67, 68, 69, 70, 71, 72, 73, 74, 75, 76, 77, 78, 79, 80, 81, 82, 83, 84, 85, 86, 87, 88, 89, 90]).toArray⟩)) (L ⟨#[48, 49, 50, 51, 52, 53, 54, 55, 56, 57]⟩)) (L ⟨#[95, 46, 58, 43, 45]⟩) = commonS := by
 have e : Lib.toLowerA [65, 66, 67, 68, 69, 70, 71, 72, 73, 74, 75, 76, 77, 78, 79, 80, 81, 82, 83, 84, 85, 86, 87, 88, 89, 90] = lowerL := by decide
 rw [e]
 rfl
set_option maxRecDepth 100000 in
set_option maxHeartbeats 400000 in
theorem common_any (w : World) :
 Calls Tryz.prog 110 #[] w fun e w' => e = .returned (.agg (setA commonS)) ∧ Below w.heap.size w w' := by
 have hz := (zero_of_info set_info).1
 have hb := build_none
 have Hi := Lib.hid (zero_of_info set_info).2
 go_enter Tryz.func110, Tryz.ntmps110
 have hn := heap_alloc_new w (.cells (setA noneS) 161)
 go_wp2_with fail
 refine (plus_any _ _ _ (by decide)).mono ?_
 rintro e w1 ⟨rfl, h1⟩
 go_wp2_with fail
 refine (Tryz.strings_ToLower_ascii _ _ (by decide) upper_ascii).mono ?_
 rintro e w2 ⟨rfl, h2⟩
 go_wp2_with fail
 refine (plus_any _ _ _ (by decide)).mono ?_
 rintro e w3 ⟨rfl, h3⟩
 go_wp2_with fail
 refine (plus_any _ _ _ (by decide)).mono ?_
 rintro e w4 ⟨rfl, h4⟩
 go_wp2_with fail
 refine (plus_any _ _ _ (by decide)).mono ?_
 rintro e w5 ⟨rfl, h5⟩
 rw [commonS_eq]
 have q1 : Below (w.heap.size + 1) (w.alloc (.cells (setA noneS) 161)) w5 := by
  have s1 := h1.size
  have s2 := h2.size
  have s3 := h3.size
  have s4 := h4.size
  simp only [World.size_alloc] at s1 h1
  exact (((h1.trans (h2.mono s1)).trans (h3.mono (by omega))).trans (h4.mono (by omega))).trans (h5.mono (by omega))
 have q0 : Below w.heap.size w w5 := ((Below.refl w.heap.size w).alloc (Nat.le_refl _) _).trans (q1.mono (by omega))
 have H2 := Lib.hid ((q1.block w.heap.size (by omega)).trans hn)
 have H3 := Lib.hid (size_setA commonS)
 have H4 := Lib.hid (setA_one commonS)
 have H5 := Lib.hid (size_setA noneS)
 have Q0 := Lib.hid q0
 clear q0 q1 hn h1 h2 h3 h4 h5 hz hb
 go_wp2_with (refine wpList_store_row rfl 161 _ _ rfl _ _ rfl rfl _ _ H2.out (by rw [H3.out]; exact Hi.out) (by rw [H3.out, H5.out]) H4.out ?_)
 refine bodyPost_ret (v := .agg (setA commonS)) (results_cell_row rfl _ _ w.heap.size 161 (setA commonS) (0, 0) _ rfl (setRow_heap _ _ _ _ _ _ H2.out) Tryz.underlying161 rfl (by rw [H3.out]; exact Hi.out)) rfl ⟨rfl, ?_⟩
 exact below_setRow Q0.out (Nat.le_refl _) _
theorem zero_set : Tryz.zeroCells161 = setA noneS := by kernel_rfl
set_option maxRecDepth 100000 in
set_option maxHeartbeats 400000 in
theorem dots_any (s : ByteArray) (w : World) :
 Calls Tryz.prog 109 #[.string s] w fun e w' => e = .returned (.bool (L s == [46] || L s == [46, 46])) ∧ w = w' := by
 go_enter Tryz.func109, Tryz.ntmps109
 go_wp2
 · go_ret
   have h : s.toList = [46] := by assumption
   exact ⟨ret_bool (by rw [← tl, h]; rfl), rfl⟩
 · go_ret
   have h : ¬ s.toList = [46] := by assumption
   exact ⟨ret_bool (by rw [← tl]), rfl⟩
set_option maxRecDepth 100000 in
set_option maxHeartbeats 400000 in
theorem Valid_any (s : ByteArray) (w : World) (hs : s.size ≤ 9223372036854775807) :
 Calls Tryz.prog 70 #[.string s] w fun e w' => e = .returned (.bool (validS (L s))) ∧ Below w.heap.size w w' := by
 have HD := dots_any s w
 cases hd : (L s == [46] || L s == [46, 46])
 · rw [hd] at HD
   have Hd := Lib.hid hd
   clear hd
   go_enter Tryz.func70, Tryz.ntmps70
   go_wp2_with (first | (go_at_call 109; refine HD.mono ?_; rintro e w' ⟨rfl, rfl⟩) | (go_at_call 110; refine (common_any _).mono ?_; rintro e w1 ⟨rfl, h1⟩) | (go_at_call 111; refine (plus_any _ _ _ (by decide)).mono ?_; rintro e w2 ⟨rfl, h2⟩) | (go_at_call 112; refine (has_any _ _ _ hs).mono ?_; rintro e w3 ⟨rfl, h3⟩))
   · go_ret
     have h := L_nil (s := s) (by assumption)
     exact ⟨ret_bool (by rw [h]; rfl), Below.refl _ _⟩
   · go_ret
     have h := L_ne (s := s) (by assumption)
     have hz : (s.size : Int) ≤ 32 := by assumption
     refine ⟨ret_bool ?_, (h1.trans (h2.mono h1.size)).trans (h3.mono (Nat.le_trans h1.size h2.size))⟩
     rw [validS, tl, h, Hd.out, len_L]
     simp
     intro _
     omega
   · go_ret
     have hz : 32 < (s.size : Int) := by assumption
     exact ⟨ret_bool (by rw [validS, len_L]; simp; omega), Below.refl _ _⟩
 · rw [hd] at HD
   have Hd := Lib.hid hd
   clear hd
   go_enter Tryz.func70, Tryz.ntmps70
   go_wp2_with (first | (go_at_call 109; refine HD.mono ?_; rintro e w' ⟨rfl, rfl⟩))
   all_goals
    go_ret
    exact ⟨ret_bool (by rw [validS, Hd.out]; simp), Below.refl _ _⟩
set_option maxRecDepth 100000 in
set_option maxHeartbeats 1000000 in
theorem Key_any (s : ByteArray) (w : World) (hs : s.size ≤ 9223372036854775807) :
 Calls Tryz.prog 94 #[.string s] w fun e w' => e = .returned (.bool (keyS (L s))) ∧ Below w.heap.size w w' := by
 have hzc := zero_set
 by_cases h0 : s.toList = []
 · go_enter Tryz.func94, Tryz.ntmps94
   go_wp2
   go_region
   all_goals go_wp2
   all_goals go_ret
   exact ⟨ret_bool (by rw [L_nil h0]; rfl), (Below.refl _ _).drew⟩
 have he : s.toList.isEmpty = false := by rw [tl]; exact L_ne h0
 by_cases h1 : (s.size : Int) ≤ 32
 · have hd : decide ((s.size : Int) ≤ 32) = true := by simpa using h1
   have h2 : (1 : Int) ≤ (s.size : Int) := by
    rcases Nat.eq_zero_or_pos s.size with h | h
    · exfalso; apply h0; rw [tl]; exact List.eq_nil_of_length_eq_zero (by rw [len_L]; exact h)
    · omega
   have e1 : (L (s.extract 0 1)) = (L s).take 1 := by simp [L, ByteArray.data_extract]
   have hz : (s.extract 0 1).size ≤ 9223372036854775807 := by rw [← len_L, e1, List.length_take]; omega
   have HU : ∀ W, Calls Tryz.prog 112 #[.agg (setA (addS noneS upperL)), .string (s.extract 0 1)] W fun e w' => e = .returned (.bool (hasS (addS noneS upperL) ((L s).take 1))) ∧ Below W.heap.size W w' := fun W => by
    have := has_any (addS noneS upperL) (s.extract 0 1) W hz
    rw [e1] at this
    exact this
   clear hz e1
   cases hu : hasS (addS noneS upperL) ((L s).take 1)
   · rw [hu] at HU
     have Hu := Lib.hid hu
     clear hu
     go_enter Tryz.func94, Tryz.ntmps94
     go_wp2
     refine wp_region_held_drew (S := fun _ => True) (by kernel_rfl) ?_ (fun hHeld => ?_)
     · trivial
     refine wpAnyH_take (i := 0) (v := ?_) (by simp only [List.getElem?_toArray, List.getElem?_cons_zero]; rfl) (by kernel_rfl) (by kernel_rfl) (by kernel_rfl) (by exact fun _ _ _ h => h) (Or.inl ⟨by rfl, ?_⟩) (by assumption) ?_
     rotate_left
     · intro w hSw
       go_simp
       try with_reducible rfl
     try simp only [Act.put, List.setIfInBounds_toArray, List.set_cons_zero, List.set_cons_succ]
     refine wpAnyH_take (i := 1) (v := ?_) (by simp only [List.getElem?_toArray, List.getElem?_cons_succ, List.getElem?_cons_zero]; rfl) (by kernel_rfl) (by kernel_rfl) (by kernel_rfl) (by exact fun _ _ _ h => h) (Or.inl ⟨by rfl, ?_⟩) (by assumption) ?_
     rotate_left
     · intro w hSw
       go_simp
       try with_reducible rfl
     try simp only [Act.put, List.setIfInBounds_toArray, List.set_cons_zero, List.set_cons_succ]
     refine wpAnyH_take (i := 2) (v := ?_) (by simp only [List.getElem?_toArray, List.getElem?_cons_succ, List.getElem?_cons_zero]; rfl) (by kernel_rfl) (by kernel_rfl) (by kernel_rfl) (by exact fun _ _ _ h => h) (Or.inl ⟨by rfl, ?_⟩) (by assumption) ?_
     rotate_left
     · intro w hSw
       go_simp
       try with_reducible rfl
     try simp only [Act.put, List.setIfInBounds_toArray, List.set_cons_zero, List.set_cons_succ]
     refine wpAnyH_take (i := 3) (v := ?_) (by simp only [List.getElem?_toArray, List.getElem?_cons_succ, List.getElem?_cons_zero]; rfl) (by kernel_rfl) (by kernel_rfl) (by kernel_rfl) (by exact fun _ _ _ h => h) (Or.inl ⟨by rfl, ?_⟩) (by assumption) ?_
     rotate_left
     · intro w hSw
       go_simp
       try with_reducible rfl
     try simp only [Act.put, List.setIfInBounds_toArray, List.set_cons_zero, List.set_cons_succ]
     refine wpAnyH_take (i := 4) (v := ?_) (by simp only [List.getElem?_toArray, List.getElem?_cons_succ, List.getElem?_cons_zero]; rfl) (by kernel_rfl) (by kernel_rfl) (by kernel_rfl) (by exact fun _ _ _ h => h) (Or.inl ⟨by rfl, ?_⟩) (by assumption) ?_
     rotate_left
     · intro w hSw
       go_simp
       try with_reducible rfl
     try simp only [Act.put, List.setIfInBounds_toArray, List.set_cons_zero, List.set_cons_succ]
     refine wpAnyH_take (i := 5) (v := ?_) (by simp only [List.getElem?_toArray, List.getElem?_cons_succ, List.getElem?_cons_zero]; rfl) (by kernel_rfl) (by kernel_rfl) (by kernel_rfl) (by exact fun _ _ _ h => h) (Or.inl ⟨by rfl, ?_⟩) (by assumption) ?_
     rotate_left
     · intro w hSw
       go_simp
       try with_reducible rfl
     try simp only [Act.put, List.setIfInBounds_toArray, List.set_cons_zero, List.set_cons_succ]
     refine wpAnyH_take (i := 6) (v := ?_) (by simp only [List.getElem?_toArray, List.getElem?_cons_succ, List.getElem?_cons_zero]; rfl) (by kernel_rfl) (by kernel_rfl) (by kernel_rfl) (by exact fun _ _ _ h => h) (Or.inl ⟨by rfl, ?_⟩) (by assumption) ?_
     rotate_left
     · intro w hSw
       go_simp
       try with_reducible rfl
     try simp only [Act.put, List.setIfInBounds_toArray, List.set_cons_zero, List.set_cons_succ]
     refine wpAnyH_take (i := 7) (v := ?_) (by simp only [List.getElem?_toArray, List.getElem?_cons_succ, List.getElem?_cons_zero]; rfl) (by kernel_rfl) (by kernel_rfl) (by kernel_rfl) (by exact fun _ _ _ h => h) (Or.inl ⟨by rfl, ?_⟩) (by assumption) ?_
     rotate_left
     · intro w hSw
       go_simp
       try with_reducible rfl
     try simp only [Act.put, List.setIfInBounds_toArray, List.set_cons_zero, List.set_cons_succ]
     refine wpAnyH_take (i := 8) (v := ?_) (by simp only [List.getElem?_toArray, List.getElem?_cons_succ, List.getElem?_cons_zero]; rfl) (by kernel_rfl) (by kernel_rfl) (by kernel_rfl) (by exact fun _ _ _ h => h) (Or.inl ⟨by rfl, ?_⟩) (by assumption) ?_
     rotate_left
     · intro w hSw
       go_simp
       try with_reducible rfl
     try simp only [Act.put, List.setIfInBounds_toArray, List.set_cons_zero, List.set_cons_succ]
     refine wpAnyH_take (i := 10) (v := ?_) (by simp only [List.getElem?_toArray, List.getElem?_cons_succ, List.getElem?_cons_zero]; rfl) (by kernel_rfl) (by kernel_rfl) (by kernel_rfl) (by exact fun _ _ _ h => h) (Or.inl ⟨by rfl, ?_⟩) (by assumption) ?_
     rotate_left
     · intro w hSw
       go_simp
       try with_reducible rfl
     try simp only [Act.put, List.setIfInBounds_toArray, List.set_cons_zero, List.set_cons_succ]
     refine wpAnyH_take (i := 11) (v := ?_) (by simp only [List.getElem?_toArray, List.getElem?_cons_succ, List.getElem?_cons_zero]; rfl) (by kernel_rfl) (by kernel_rfl) (by kernel_rfl) (by exact fun _ _ _ h => h) (Or.inl ⟨by rfl, ?_⟩) (by assumption) ?_
     rotate_left
     · intro w hSw
       go_simp
       try with_reducible rfl
     try simp only [Act.put, List.setIfInBounds_toArray, List.set_cons_zero, List.set_cons_succ]
     refine wpAnyH_ready (rs := [9]) (by kernel_rfl) (by simp) ?_
     refine AllReadyH.cons (by simp only [List.getElem?_toArray, List.getElem?_cons_succ, List.getElem?_cons_zero]; rfl) (fun K hK => ?_) AllReadyH.nil
     go_simp
     refine (plus_any _ _ _ (by decide)).mono ?_
     rintro e w2 ⟨rfl, h2⟩
     refine hK.out _ _ trivial (fun hHeld => ?_)
     clear hK K
     try simp only [Act.put, List.setIfInBounds_toArray, List.set_cons_zero, List.set_cons_succ]
     refine wpAnyH_ready (rs := [12]) (by kernel_rfl) (by simp) ?_
     refine AllReadyH.cons (by simp only [List.getElem?_toArray, List.getElem?_cons_succ, List.getElem?_cons_zero]; rfl) (fun K hK => ?_) AllReadyH.nil
     go_simp
     refine (HU _).mono ?_
     rintro e w3 ⟨rfl, h3⟩
     refine hK.out _ _ trivial (fun hHeld => ?_)
     clear hK K
     try simp only [Act.put, List.setIfInBounds_toArray, List.set_cons_zero, List.set_cons_succ]
     refine wpAnyH_take (i := 13) (v := ?_) (by simp only [List.getElem?_toArray, List.getElem?_cons_succ, List.getElem?_cons_zero]; rfl) (by kernel_rfl) (by kernel_rfl) (by kernel_rfl) (by exact fun _ _ _ h => h) (Or.inl ⟨by rfl, ?_⟩) (by assumption) ?_
     rotate_left
     · intro w hSw
       go_simp
       try with_reducible rfl
     try simp only [Act.put, List.setIfInBounds_toArray, List.set_cons_zero, List.set_cons_succ]
     refine wpAnyH_take (i := 14) (v := ?_) (by simp only [List.getElem?_toArray, List.getElem?_cons_succ, List.getElem?_cons_zero]; rfl) (by kernel_rfl) (by kernel_rfl) (by kernel_rfl) (by exact fun _ _ _ h => h) (Or.inl ⟨by rfl, ?_⟩) (by assumption) ?_
     rotate_left
     · intro w hSw
       go_simp
       try with_reducible rfl
     try simp only [Act.put, List.setIfInBounds_toArray, List.set_cons_zero, List.set_cons_succ]
     refine wpAnyH_take (i := 15) (by simp only [List.getElem?_toArray, List.getElem?_cons_succ, List.getElem?_cons_zero]; rfl) (by kernel_rfl) (by kernel_rfl) (by kernel_rfl) (by exact fun _ _ _ h => h) (Or.inr ⟨by rfl, rfl⟩) (by assumption) ?_
     try simp only [Act.put, List.setIfInBounds_toArray, List.set_cons_zero, List.set_cons_succ]
     refine wpAnyH_take (i := 16) (by simp only [List.getElem?_toArray, List.getElem?_cons_succ, List.getElem?_cons_zero]; rfl) (by kernel_rfl) (by kernel_rfl) (by kernel_rfl) (by exact fun _ _ _ h => h) (Or.inr ⟨by rfl, rfl⟩) (by assumption) ?_
     try simp only [Act.put, List.setIfInBounds_toArray, List.set_cons_zero, List.set_cons_succ]
     refine wpAnyH_take (i := 17) (by simp only [List.getElem?_toArray, List.getElem?_cons_succ, List.getElem?_cons_zero]; rfl) (by kernel_rfl) (by kernel_rfl) (by kernel_rfl) (by exact fun _ _ _ h => h) (Or.inr ⟨by rfl, rfl⟩) (by assumption) ?_
     try simp only [Act.put, List.setIfInBounds_toArray, List.set_cons_zero, List.set_cons_succ]
     refine wpAnyH_take (i := 18) (by simp only [List.getElem?_toArray, List.getElem?_cons_succ, List.getElem?_cons_zero]; rfl) (by kernel_rfl) (by kernel_rfl) (by kernel_rfl) (by exact fun _ _ _ h => h) (Or.inr ⟨by rfl, rfl⟩) (by assumption) ?_
     try simp only [Act.put, List.setIfInBounds_toArray, List.set_cons_zero, List.set_cons_succ]
     refine wpAnyH_take (i := 19) (by simp only [List.getElem?_toArray, List.getElem?_cons_succ, List.getElem?_cons_zero]; rfl) (by kernel_rfl) (by kernel_rfl) (by kernel_rfl) (by exact fun _ _ _ h => h) (Or.inr ⟨by rfl, rfl⟩) (by assumption) ?_
     try simp only [Act.put, List.setIfInBounds_toArray, List.set_cons_zero, List.set_cons_succ]
     refine wpAnyH_take (i := 20) (by simp only [List.getElem?_toArray, List.getElem?_cons_succ, List.getElem?_cons_zero]; rfl) (by kernel_rfl) (by kernel_rfl) (by kernel_rfl) (by exact fun _ _ _ h => h) (Or.inr ⟨by rfl, rfl⟩) (by assumption) ?_
     try simp only [Act.put, List.setIfInBounds_toArray, List.set_cons_zero, List.set_cons_succ]
     refine wpAnyH_take (i := 21) (v := ?_) (by simp only [List.getElem?_toArray, List.getElem?_cons_succ, List.getElem?_cons_zero]; rfl) (by kernel_rfl) (by kernel_rfl) (by kernel_rfl) (by exact fun _ _ _ h => h) (Or.inl ⟨by rfl, ?_⟩) (by assumption) ?_
     rotate_left
     · intro w hSw
       go_simp
       try with_reducible rfl
     try simp only [Act.put, List.setIfInBounds_toArray, List.set_cons_zero, List.set_cons_succ]
     refine wpAnyH_take (i := 22) (v := ?_) (by simp only [List.getElem?_toArray, List.getElem?_cons_succ, List.getElem?_cons_zero]; rfl) (by kernel_rfl) (by kernel_rfl) (by kernel_rfl) (by exact fun _ _ _ h => h) (Or.inl ⟨by rfl, ?_⟩) (by assumption) ?_
     rotate_left
     · intro w hSw
       go_simp
       try with_reducible rfl
     try simp only [Act.put, List.setIfInBounds_toArray, List.set_cons_zero, List.set_cons_succ]
     refine wpAnyH_done (by kernel_rfl) ?_ _
     go_wp2
     go_ret
     exact ⟨ret_bool (by rw [keyS, Hu.out]; simp), (((Below.refl _ _).drew).trans h2).trans (h3.mono h2.size)⟩
   · rw [hu] at HU
     have Hu := Lib.hid hu
     clear hu
     go_enter Tryz.func94, Tryz.ntmps94
     go_wp2
     go_region_held3 (fun _ => True) (trivial) (first | (go_at_call 111; with_reducible refine (plus_any _ _ _ (by decide)).mono ?_; rintro e w2 ⟨rfl, h2⟩) | (go_at_call_of 112 (s.extract 0 1); refine (HU _).mono ?_; rintro e w3 ⟨rfl, h3⟩) | (go_at_call 112; refine (has_any _ _ _ hs).mono ?_; rintro e w4 ⟨rfl, h4⟩))
     all_goals go_wp2
     go_ret
     refine ⟨ret_bool ?_, by repeat (first | exact (Below.refl _ _).drew | refine bt ?_ (by assumption))⟩
     rw [keyS, len_L, L_ne h0, Hu.out]
     show hasS (addS (addS (addS noneS upperL) digitL) [95]) (L s) = _
     simp
     omega
 · have hd : decide ((s.size : Int) ≤ 32) = false := by simpa using h1
   go_enter Tryz.func94, Tryz.ntmps94
   go_wp2
   go_region
   all_goals go_wp2
   all_goals go_ret
   exact ⟨ret_bool (by rw [keyS, len_L]; simp; omega), (Below.refl _ _).drew⟩
end Go.Proofs.YtibflgfhjfcifaaGreatDoor
namespace Go.Proofs.YtibflgfhjfcifaaGreatDoor
open Go.RowKit
def inS (l set : Str) : Bool := l.all fun b => set.contains b
theorem inS_snoc (l set : Str) (c : UInt8) : inS (l ++ [c]) set = (inS l set && set.contains c) := by simp [inS]
theorem inS_no {set : Str} {k : Nat} (s : ByteArray) (hk : k < s.size) (h : set.contains s[k] = false) : inS (L s) set = false := by
 rw [inS, List.all_eq_false]
 exact ⟨s[k], by rw [← L_get s k hk]; exact List.getElem_mem _, by rw [h]; simp⟩
theorem byte_back (c : UInt8) : ((c.toNat : Int)).toNat.toUInt8 = c := by simp
theorem indexByte_neg (set : Str) (c : UInt8) : (Lib.indexByte set c < 0) ↔ set.contains c = false := by
 have h1 := Lib.indexByte_ge set c
 constructor
 · intro h
   have h2 : Lib.indexByte set c = -1 := by omega
   have h3 := Lib.indexByte_none h2
   cases hc : set.contains c with
   | false => rfl
   | true =>
     have hm : c ∈ set := by simpa using hc
     obtain ⟨k, hk⟩ := List.getElem?_of_mem hm
     exact absurd hk (h3 k)
 · intro h
   rcases (by omega : Lib.indexByte set c < 0 ∨ 0 ≤ Lib.indexByte set c) with h2 | h2
   · exact h2
   · obtain ⟨o, ho⟩ := Int.eq_ofNat_of_zero_le h2
     have h3 := (Lib.indexByte_some ho).1
     have hm : c ∈ set := List.mem_of_getElem? h3
     rw [List.contains_eq_mem] at h
     simp [hm] at h
set_option maxRecDepth 100000 in
set_option maxHeartbeats 400000 in
theorem in_any (s set : ByteArray) (w : World) (hs : s.size ≤ 9223372036854775807) :
 Calls Tryz.prog 100 #[.string s, .string set] w fun e w' => e = .returned (.bool (inS (L s) (L set))) ∧ w = w' := by
 go_enter Tryz.func100, Tryz.ntmps100
 go_wp2
 go_loop [5] (fun i => ∃ k : Nat, k ≤ s.size ∧ i = .int .i64 k ∧ Hid (inS ((L s).take k) (L set) = true)) (fun i => s.size - (intOf i).toNat)
 case atStart => exact ⟨0, Nat.zero_le _, rfl, rfl⟩
 case round =>
  obtain ⟨k, hk, rfl, hp⟩ := hrel
  by_cases hlt : k < s.size
  · have H := indexByte_neg (L set) s[k]
    have HC : ∀ W, Calls Tryz.prog 150 #[.string set, .int .u8 s[k].toNat] W fun e w' => e = .returned (.int .i64 (Lib.indexByte (L set) s[k])) ∧ W = w' := fun W =>
     (Tryz.strings_IndexByte set s[k].toNat W).mono fun e w' h => ⟨by rw [h.1, byte_back], h.2.symm⟩
    generalize Lib.indexByte (L set) s[k] = q at *
    have Hq := Lib.hid H
    clear H
    go_wp2_with (go_at_call 150; refine (HC _).mono ?_; rintro e w' ⟨rfl, rfl⟩)
    · go_ret
      have hq : q < 0 := by assumption
      exact ⟨ret_bool (by rw [inS_no s hlt (Hq.out.1 hq)]), rfl⟩
    · have hq : ¬ q < 0 := by omega
      go_round
      case rel => exact ⟨k + 1, by omega, by go_num, by
       show inS _ _ = true
       rw [take_snoc s k hlt, inS_snoc, hp.out]
       cases hc : (L set).contains s[k] with
       | true => rfl
       | false => exact absurd (Hq.out.2 hc) hq⟩
      case measure => simp [intOf]; omega
  · go_wp2
    go_ret
    have h := hp.out
    rw [take_all s k hlt] at h
    exact ⟨ret_bool (by rw [h]), rfl⟩
theorem addS_at (f : Nat → Bool) (l : Str) (b : UInt8) : addS f l b.toNat = (f b.toNat || l.contains b) := by
 simp only [addS]
 congr 1
 rw [Bool.eq_iff_iff]
 simp only [List.any_eq_true, beq_iff_eq, List.contains_iff_mem]
 constructor
 · rintro ⟨x, hx, e⟩
   have : x = b := UInt8.toNat_inj.1 e
   rw [← this]; exact hx
 · intro h
   exact ⟨b, h, rfl⟩
theorem noneS_at (b : UInt8) : noneS b.toNat = false := by unfold noneS; rfl
theorem hasS_in (f : Nat → Bool) (set l : Str) (h : ∀ b : UInt8, f b.toNat = set.contains b) : hasS f l = inS l set := by
 unfold hasS inS
 congr 1
 funext b
 exact h b
def nameL : Str := [65, 66, 67, 68, 69, 70, 71, 72, 73, 74, 75, 76, 77, 78, 79, 80, 81, 82, 83, 84, 85, 86, 87, 88, 89, 90, 97, 98, 99, 100, 101, 102, 103, 104, 105, 106, 107, 108, 109, 110, 111, 112, 113, 114, 115, 116, 117, 118, 119, 120, 121, 122, 48, 49, 50, 51, 52, 53, 54, 55, 56, 57, 95, 46, 58, 43, 45, 33]
def keyL : Str := [65, 66, 67, 68, 69, 70, 71, 72, 73, 74, 75, 76, 77, 78, 79, 80, 81, 82, 83, 84, 85, 86, 87, 88, 89, 90, 48, 49, 50, 51, 52, 53, 54, 55, 56, 57, 95]
theorem name_in (l : Str) : hasS (addS commonS [33]) l = inS l nameL := by
 apply hasS_in
 intro b
 have e : nameL = upperL ++ (lowerL ++ (digitL ++ (punctL ++ [33]))) := rfl
 simp only [commonS, addS_at, noneS_at, e, List.contains_eq_any_beq, List.any_append, Bool.false_or, Bool.or_assoc]
theorem key_in (l : Str) : hasS (addS (addS (addS noneS upperL) digitL) [95]) l = inS l keyL := by
 apply hasS_in
 intro b
 have e : keyL = upperL ++ (digitL ++ [95]) := rfl
 simp only [addS_at, noneS_at, e, List.contains_eq_any_beq, List.any_append, Bool.false_or, Bool.or_assoc]
theorem upper_in (l : Str) : hasS (addS noneS upperL) l = inS l upperL := by
 apply hasS_in
 intro b
 rw [addS_at, noneS_at, Bool.false_or]
theorem validS_in (l : Str) : validS l = (!l.isEmpty && decide (l.length ≤ 32) && inS l nameL && !(l == [46]) && !(l == [46, 46])) := by
 rw [validS, name_in, Bool.not_or]
 cases (!l.isEmpty) <;> cases decide (l.length ≤ 32) <;> cases inS l nameL <;> cases (l == [46]) <;> cases (l == [46, 46]) <;> rfl
theorem keyS_in (l : Str) : keyS l = (!l.isEmpty && decide (l.length ≤ 32) && inS l keyL && inS (l.take 1) upperL) := by
 rw [keyS, key_in, upper_in]
 cases (!l.isEmpty) <;> cases decide (l.length ≤ 32) <;> cases inS l keyL <;> cases inS (l.take 1) upperL <;> rfl
set_option maxRecDepth 100000 in
set_option maxHeartbeats 400000 in
theorem RPrintable_any (s : ByteArray) (w : World) (hs : s.size ≤ 9223372036854775807) :
 Calls Tryz.prog 265 #[.string s] w fun e w' => e = .returned (.bool (printS (L s))) ∧ w = w' := by
 go_enter Tryz.func265, Tryz.ntmps265
 go_wp2
 go_loop [3] (fun i => ∃ k : Nat, k ≤ s.size ∧ i = .int .i64 k ∧ Hid (printS ((L s).take k) = true)) (fun i => s.size - (intOf i).toNat)
 case atStart => exact ⟨0, Nat.zero_le _, rfl, rfl⟩
 case round =>
  obtain ⟨k, hk, rfl, hp⟩ := hrel
  go_wp2
  case roundEnd =>
   go_round
   case rel => exact ⟨k + 1, by omega, by go_num, by
    show printS _ = true
    rw [take_snoc s k (by omega), printS_snoc, hp.out]
    simp [pr]; omega⟩
   case measure => simp [intOf]; omega
  · go_ret
    exact ⟨ret_bool (by rw [printS_no s (by assumption) rfl (by simp [pr]; omega)]), rfl⟩
  · go_ret
    exact ⟨ret_bool (by rw [printS_no s (by assumption) rfl (by simp [pr]; omega)]), rfl⟩
  · go_ret
    refine ⟨ret_bool ?_, rfl⟩
    have h := hp.out
    rw [take_all s k (by assumption)] at h
    rw [h]
set_option maxRecDepth 100000 in
set_option maxHeartbeats 400000 in
theorem RText_any (s : ByteArray) (w : World) (hs : s.size ≤ 9223372036854775807) :
 Calls Tryz.prog 235 #[.string s] w fun e w' => e = .returned (.bool (textS (L s))) ∧ w = w' := by
 cases hp : printS (L s)
 all_goals
  have HC := RPrintable_any s w hs
  rw [hp] at HC
  have Hp := Lib.hid hp
  clear hp
  go_enter Tryz.func235, Tryz.ntmps235
  go_wp2_with (go_at_call 265; refine HC.mono ?_; rintro e w' ⟨rfl, rfl⟩)
  go_ret
  exact ⟨ret_bool (by rw [textS, Hp.out, len_L]; simp <;> omega), rfl⟩
set_option maxRecDepth 100000 in
set_option maxHeartbeats 400000 in
theorem RValid_any (s : ByteArray) (w : World) (hs : s.size ≤ 9223372036854775807) :
 Calls Tryz.prog 64 #[.string s] w fun e w' => e = .returned (.bool (validS (L s))) ∧ w = w' := by
 have HC := in_any s (bs nameL) w hs
 rw [L_bs] at HC
 have HV := Lib.hid (validS_in (L s))
 cases hp : inS (L s) nameL
 all_goals
  rw [hp] at HC
  have Hp := Lib.hid hp
  clear hp
  go_enter Tryz.func64, Tryz.ntmps64
  go_wp2_with (go_at_call 100; refine HC.mono ?_; rintro e w' ⟨rfl, rfl⟩)
  all_goals
   go_ret
   refine ⟨ret_bool ?_, rfl⟩
   rw [HV.out, Hp.out, len_L]
   clear HV HC Hp
   simp only [tl] at *
   generalize L s = l at *
   first | (have hz : s.size ≤ 32 := by omega) | (have hz : ¬ s.size ≤ 32 := by omega) | have hz := True.intro
   cases hb1 : (l == [46]) <;> cases hb2 : (l == [46, 46]) <;> cases hb3 : l.isEmpty <;> simp_all
set_option maxRecDepth 100000 in
set_option maxHeartbeats 400000 in
theorem RKey_any (s : ByteArray) (w : World) (hs : s.size ≤ 9223372036854775807) :
 Calls Tryz.prog 178 #[.string s] w fun e w' => e = .returned (.bool (keyS (L s))) ∧ w = w' := by
 have HC := in_any s (bs keyL) w hs
 have HD := in_any (s.extract 0 1) (bs upperL) w (by rw [size_extract]; omega)
 rw [L_bs] at HC HD
 rw [L_extract, List.drop_zero] at HD
 have HV := Lib.hid (keyS_in (L s))
 by_cases h0 : s.toList = []
 · go_enter Tryz.func178, Tryz.ntmps178
   go_wp2
   go_ret
   exact ⟨ret_bool (by rw [L_nil h0]; rfl), rfl⟩
 have h1 : (1 : Int) ≤ (s.size : Int) := by
  rcases Nat.eq_zero_or_pos s.size with h | h
  · exfalso; apply h0; rw [tl]; exact List.eq_nil_of_length_eq_zero (by rw [len_L]; exact h)
  · omega
 cases hp : inS (L s) keyL <;> cases hq : inS ((L s).take 1) upperL
 all_goals
  rw [hp] at HC
  rw [hq] at HD
  have Hp := Lib.hid hp
  have Hq := Lib.hid hq
  clear hp hq
  go_enter Tryz.func178, Tryz.ntmps178
  go_wp2_with (first | (go_at_call_of 100 (s.extract 0 1); refine HD.mono ?_; rintro e w' ⟨rfl, rfl⟩) | (go_at_call 100; refine HC.mono ?_; rintro e w' ⟨rfl, rfl⟩))
  all_goals
   go_ret
   refine ⟨ret_bool ?_, rfl⟩
   rw [HV.out, Hp.out, Hq.out, len_L]
   clear HV HC Hp Hq HD
   simp only [tl] at *
   generalize L s = l at *
   first | (have hz : s.size ≤ 32 := by omega) | (have hz : ¬ s.size ≤ 32 := by omega) | have hz := True.intro
   cases hb3 : l.isEmpty <;> simp_all
end Go.Proofs.YtibflgfhjfcifaaGreatDoor
namespace Go.Proofs.YtibflgfhjfcifaaGreatDoor
open Go.RowKit
end Go.Proofs.YtibflgfhjfcifaaGreatDoor
namespace Go.Proofs.YtibflgfhjfcifaaGreatDoor
open Go.RowKit
variable {P : Program}
theorem wp_alloc_known {o : Oper} {a : Act} {w : World} {K : Act → World → Prop} {Q : Exit → Act → World → Prop} (ty : TypeId) (ho : o.op = .alloc ty) (z : Value) (hz : (zeroValue ty).run P w = .ok z w)
 (h : K (a.put o.dst (.pointer (some ⟨w.heap.size, 0, none⟩))) (w.alloc (.cells z.cells ty))) : o.wp P a w K Q := by
 unfold Oper.wp execOp
 simp only [ho, Instr.alloc, Sem.run_bind, hz, Result.andThen_ok, newVar]
 exact h
theorem wpList_alloc_known {ops : Array Oper} {rest : List Oper} {o : Oper} {a : Act} {w : World} {Q : Exit → Act → World → Prop} (hgd : o.guard = none) (ty : TypeId) (ho : o.op = .alloc ty) (z : Value) (hz : (zeroValue ty).run P w = .ok z w)
 (h : wpList P ops Q rest (a.put o.dst (.pointer (some ⟨w.heap.size, 0, none⟩))) (w.alloc (.cells z.cells ty))) : wpList P ops Q (o :: rest) a w :=
 wpList_plain hgd fun _ hK => wp_alloc_known ty ho z hz (hK _ _ h)
def setAll : Array Value → Nat → List Value → Array Value
 | c, _, [] => c
 | c, o, v :: r => setAll (c.setIfInBounds o v) (o + 1) r
theorem size_setAll : ∀ (vs : List Value) (c : Array Value) (o : Nat), (setAll c o vs).size = c.size
 | [], _, _ => rfl
 | v :: r, c, o => by rw [setAll, size_setAll r]; simp
theorem setCell_last (w : World) (c : Array Value) (t : TypeId) (o : Nat) (v : Value) : (w.alloc (.cells c t)).setCell ⟨w.heap.size, o, none⟩ v = w.alloc (.cells (c.setIfInBounds o v) t) := by
 rw [setCell_eq_setRow _ _ _ c t (0, 0) v (heap_alloc_last w _), World.setRow_alloc_new]
theorem setCells_last (w : World) (t : TypeId) : ∀ (vs : List Value) (c : Array Value) (o : Nat), (w.alloc (.cells c t)).setCells w.heap.size o vs = w.alloc (.cells (setAll c o vs) t)
 | [], _, _ => rfl
 | v :: r, c, o => by
   rw [World.setCells, setCell_last, setCells_last w t r]
   rfl
theorem there_last (w : World) (c : Array Value) (t : TypeId) (o n : Nat) (h : o + n ≤ c.size) : (w.alloc (.cells c t)).there w.heap.size o n := fun j hj => by
 refine ⟨?_, frozen_of_row _ _ _ _ _ (heap_alloc_last w _)⟩
 rw [cell_of_row _ _ _ _ _ _ (heap_alloc_last w (.cells c t)), Array.getElem?_eq_getElem (by omega)]
 rfl
theorem wpList_store_last {ops : Array Oper} {rest : List Oper} {op : Oper} {a : Act} {w : World} {Q : Exit → Act → World → Prop} (hgd : op.guard = none) (ty : TypeId) (x y : Operand) (ho : op.op = .store ty x y)
 (c : Array Value) (t : TypeId) (g o : Nat) (cells : Array Value) (hg : w.heap.size = g) (hx : a.eval x = .pointer (some ⟨g, o, none⟩)) (hy : a.eval y = .agg cells)
 (hb : o + cells.size ≤ c.size) (hi : (P.info? ty).map (·.size) = some cells.size) (h1 : cells.all (·.oneCell') = true)
 (h : wpList P ops Q rest (a.put op.dst undef) (w.alloc (.cells (setAll c o cells.toList) t))) : wpList P ops Q (op :: rest) a (w.alloc (.cells c t)) := by
 subst hg
 refine wpList_store_mid hgd ty x y ho w.heap.size o cells hx hy (there_last w c t o cells.size hb) hi h1 ?_
 rw [setCells_last]
 exact h
theorem setAll_get : ∀ (vs : List Value) (c : Array Value) (o j : Nat), o + vs.length ≤ c.size → (setAll c o vs)[j]? = if o ≤ j ∧ j < o + vs.length then vs[j - o]? else c[j]?
 | [], c, o, j, _ => by rw [setAll, if_neg (fun h => by simp at h; omega)]
 | v :: r, c, o, j, h => by
   rw [setAll, setAll_get r _ (o + 1) j (by simp at h ⊢; omega)]
   simp only [List.length_cons] at h ⊢
   by_cases h1 : o + 1 ≤ j ∧ j < o + 1 + r.length
   · rw [if_pos h1, if_pos (by omega), show j - o = (j - (o + 1)) + 1 from by omega, List.getElem?_cons_succ]
   · rw [if_neg h1, Array.getElem?_setIfInBounds]
     by_cases h2 : o = j
     · subst h2
       rw [if_pos rfl, if_pos (by omega), if_pos (by omega), Nat.sub_self]; rfl
     · rw [if_neg h2, if_neg (by omega)]
theorem setAll_whole (c cells : Array Value) (h : cells.size = c.size) : setAll c 0 cells.toList = cells := by
 apply Array.ext_getElem?
 intro j
 rw [setAll_get _ _ _ _ (by simp [h])]
 by_cases hj : j < cells.size
 · rw [if_pos (by simpa using hj)]; simp
 · rw [if_neg (by simp; omega), Array.getElem?_eq_none (by omega), Array.getElem?_eq_none (by omega)]
theorem wpList_store_new {ops : Array Oper} {rest : List Oper} {op : Oper} {a : Act} {w : World} {Q : Exit → Act → World → Prop} (hgd : op.guard = none) (ty : TypeId) (x y : Operand) (ho : op.op = .store ty x y)
 (c : Array Value) (t : TypeId) (g : Nat) (cells : Array Value) (hg : w.heap.size = g) (hx : a.eval x = .pointer (some ⟨g, 0, none⟩)) (hy : a.eval y = .agg cells)
 (hb : cells.size = c.size) (hi : (P.info? ty).map (·.size) = some cells.size) (h1 : cells.all (·.oneCell') = true)
 (h : wpList P ops Q rest (a.put op.dst undef) (w.alloc (.cells cells t))) : wpList P ops Q (op :: rest) a (w.alloc (.cells c t)) := by
 refine wpList_store_last hgd ty x y ho c t g 0 cells hg hx hy (by omega) hi h1 ?_
 rw [setAll_whole c cells hb]
 exact h
theorem one4 {a b c d : Value} (ha : a.oneCell' = true) (hb : b.oneCell' = true) (hc : c.oneCell' = true) (hd : d.oneCell' = true) : (#[a, b, c, d] : Array Value).all (·.oneCell') = true := by simp [ha, hb, hc, hd]
end Go.Proofs.YtibflgfhjfcifaaGreatDoor
