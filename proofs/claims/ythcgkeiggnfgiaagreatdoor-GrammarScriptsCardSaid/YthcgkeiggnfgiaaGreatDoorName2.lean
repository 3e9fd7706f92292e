/-
  Contracts of package name: common, Valid, Key.
-/
import Derived.Test.YthcgkeiggnfgiaaGreatDoorG07
import Derived.Test.YthcgkeiggnfgiaaGreatDoorShelf
namespace Go.Proofs.YthcgkeiggnfgiaaGreatDoor
open Go.RowKit
theorem build_none (w : World) : (Instr.build 149 #[]).run Tryz.prog w = .ok (.agg (setA noneS)) w := run_build w 149 #[] (setA noneS) (by kernel_rfl)
def upperL : Str := [65, 66, 67, 68, 69, 70, 71, 72, 73, 74, 75, 76, 77, 78, 79, 80, 81, 82, 83, 84, 85, 86, 87, 88, 89, 90]
def lowerL : Str := [97, 98, 99, 100, 101, 102, 103, 104, 105, 106, 107, 108, 109, 110, 111, 112, 113, 114, 115, 116, 117, 118, 119, 120, 121, 122]
def digitL : Str := [48, 49, 50, 51, 52, 53, 54, 55, 56, 57]
def punctL : Str := [95, 46, 58, 43, 45]
def commonS : Nat → Bool := addS (addS (addS (addS noneS upperL) lowerL) digitL) punctL
def validS (l : Str) : Bool := !l.isEmpty && decide (l.length ≤ 32) && !(l == [46] || l == [46, 46]) && hasS (addS commonS [33]) l
def keyS (l : Str) : Bool := !l.isEmpty && decide (l.length ≤ 32) && hasS (addS noneS upperL) (l.take 1) && hasS (addS (addS (addS noneS upperL) digitL) [95]) l
theorem upper_ascii (j : Nat) (b : UInt8) (h : upperL[j]? = some b) : b.toNat < 128 := by
  have hm : b ∈ upperL := List.mem_of_getElem? h
  revert b
  intro b _ hm
  simp only [upperL, List.mem_cons, List.not_mem_nil, or_false] at hm
  rcases hm with h | h | h | h | h | h | h | h | h | h | h | h | h | h | h | h | h | h | h | h | h | h | h | h | h | h <;> subst h <;> decide
theorem commonS_eq : addS (addS (addS (addS noneS (L ⟨#[65, 66, 67, 68, 69, 70, 71, 72, 73, 74, 75, 76, 77, 78, 79, 80, 81, 82, 83, 84, 85, 86, 87, 88, 89, 90]⟩)) (L ⟨(Lib.toLowerA [65, 66, 67, 68, 69, 70, 71, 72, 73, 74, 75, 76, 77, 78, 79, 80, 81, 82, 83, 84, 85, 86, 87, 88, 89, 90]).toArray⟩)) (L ⟨#[48, 49, 50, 51, 52, 53, 54, 55, 56, 57]⟩)) (L ⟨#[95, 46, 58, 43, 45]⟩) = commonS := by
  have e : Lib.toLowerA [65, 66, 67, 68, 69, 70, 71, 72, 73, 74, 75, 76, 77, 78, 79, 80, 81, 82, 83, 84, 85, 86, 87, 88, 89, 90] = lowerL := by decide
  rw [e]
  rfl
set_option maxRecDepth 100000 in
set_option maxHeartbeats 400000 in
theorem common_any (w : World) :
    Calls Tryz.prog 98 #[] w fun e w' => e = .returned (.agg (setA commonS)) ∧ Below w.heap.size w w' := by
  have hz := (zero_of_info set_info).1
  have hb := build_none
  have Hi := Lib.hid (zero_of_info set_info).2
  go_enter Tryz.func98, Tryz.ntmps98
  have hn := heap_alloc_new w (.cells (setA noneS) 149)
  go_wp2_with fail
  refine (plus_any _ _ _ (by decide)).mono ?_
  rintro e w1 ⟨rfl, h1⟩
  go_wp2_with fail
  refine (Tryz.strings_ToLower_ascii _ _ (by decide) upper_ascii).mono ?_
  rintro e w2 ⟨rfl, h2⟩
  go_wp2_with fail
  refine (plus_any _ _ _ (by decide)).mono ?_
  rintro e w3 ⟨rfl, h3⟩
  go_wp2_with fail
  refine (plus_any _ _ _ (by decide)).mono ?_
  rintro e w4 ⟨rfl, h4⟩
  go_wp2_with fail
  refine (plus_any _ _ _ (by decide)).mono ?_
  rintro e w5 ⟨rfl, h5⟩
  rw [commonS_eq]
  have q1 : Below (w.heap.size + 1) (w.alloc (.cells (setA noneS) 149)) w5 := by
    have s1 := h1.size
    have s2 := h2.size
    have s3 := h3.size
    have s4 := h4.size
    simp only [World.size_alloc] at s1 h1
    exact (((h1.trans (h2.mono s1)).trans (h3.mono (by omega))).trans (h4.mono (by omega))).trans (h5.mono (by omega))
  have q0 : Below w.heap.size w w5 := ((Below.refl w.heap.size w).alloc (Nat.le_refl _) _).trans (q1.mono (by omega))
  have H2 := Lib.hid ((q1.block w.heap.size (by omega)).trans hn)
  have H3 := Lib.hid (size_setA commonS)
  have H4 := Lib.hid (setA_one commonS)
  have H5 := Lib.hid (size_setA noneS)
  have Q0 := Lib.hid q0
  clear q0 q1 hn h1 h2 h3 h4 h5 hz hb
  go_wp2_with (refine wpList_store_row rfl 149 _ _ rfl _ _ rfl rfl _ _ H2.out (by rw [H3.out]; exact Hi.out) (by rw [H3.out, H5.out]) H4.out ?_)
  refine bodyPost_ret (v := .agg (setA commonS)) (results_cell_row rfl _ _ w.heap.size 149 (setA commonS) (0, 0) _ rfl (setRow_heap _ _ _ _ _ _ H2.out) Tryz.underlying149 rfl (by rw [H3.out]; exact Hi.out)) rfl ⟨rfl, ?_⟩
  exact below_setRow Q0.out (Nat.le_refl _) _
theorem zero_set : Tryz.zeroCells149 = setA noneS := by kernel_rfl
set_option maxRecDepth 100000 in
set_option maxHeartbeats 400000 in
theorem dots_any (s : ByteArray) (w : World) :
    Calls Tryz.prog 97 #[.string s] w fun e w' => e = .returned (.bool (L s == [46] || L s == [46, 46])) ∧ w = w' := by
  go_enter Tryz.func97, Tryz.ntmps97
  go_wp2
  · go_ret
    have h : s.toList = [46] := by assumption
    exact ⟨ret_bool (by rw [← tl, h]; rfl), rfl⟩
  · go_ret
    have h : ¬ s.toList = [46] := by assumption
    exact ⟨ret_bool (by rw [← tl]), rfl⟩
set_option maxRecDepth 100000 in
set_option maxHeartbeats 400000 in
theorem Valid_any (s : ByteArray) (w : World) (hs : s.size ≤ 9223372036854775807) :
    Calls Tryz.prog 57 #[.string s] w fun e w' => e = .returned (.bool (validS (L s))) ∧ Below w.heap.size w w' := by
  have HD := dots_any s w
  cases hd : (L s == [46] || L s == [46, 46])
  · rw [hd] at HD
    have Hd := Lib.hid hd
    clear hd
    go_enter Tryz.func57, Tryz.ntmps57
    go_wp2_with (first | (go_at_call 97; refine HD.mono ?_; rintro e w' ⟨rfl, rfl⟩) | (go_at_call 98; refine (common_any _).mono ?_; rintro e w1 ⟨rfl, h1⟩) | (go_at_call 99; refine (plus_any _ _ _ (by decide)).mono ?_; rintro e w2 ⟨rfl, h2⟩) | (go_at_call 100; refine (has_any _ _ _ hs).mono ?_; rintro e w3 ⟨rfl, h3⟩))
    · go_ret
      have h := L_nil (s := s) (by assumption)
      exact ⟨ret_bool (by rw [h]; rfl), Below.refl _ _⟩
    · go_ret
      have h := L_ne (s := s) (by assumption)
      have hz : (s.size : Int) ≤ 32 := by assumption
      refine ⟨ret_bool ?_, (h1.trans (h2.mono h1.size)).trans (h3.mono (Nat.le_trans h1.size h2.size))⟩
      rw [validS, tl, h, Hd.out, len_L]
      simp
      intro _
      omega
    · go_ret
      have hz : 32 < (s.size : Int) := by assumption
      exact ⟨ret_bool (by rw [validS, len_L]; simp; omega), Below.refl _ _⟩
  · rw [hd] at HD
    have Hd := Lib.hid hd
    clear hd
    go_enter Tryz.func57, Tryz.ntmps57
    go_wp2_with (first | (go_at_call 97; refine HD.mono ?_; rintro e w' ⟨rfl, rfl⟩))
    all_goals
      go_ret
      exact ⟨ret_bool (by rw [validS, Hd.out]; simp), Below.refl _ _⟩
set_option maxRecDepth 100000 in
set_option maxHeartbeats 1000000 in
theorem Key_any (s : ByteArray) (w : World) (hs : s.size ≤ 9223372036854775807) :
    Calls Tryz.prog 117 #[.string s] w fun e w' => e = .returned (.bool (keyS (L s))) ∧ Below w.heap.size w w' := by
  have hzc := zero_set
  by_cases h0 : s.toList = []
  · go_enter Tryz.func117, Tryz.ntmps117
    go_wp2
    go_region
    all_goals go_wp2
    all_goals go_ret
    exact ⟨ret_bool (by rw [L_nil h0]; rfl), (Below.refl _ _).drew⟩
  have he : s.toList.isEmpty = false := by rw [tl]; exact L_ne h0
  by_cases h1 : (s.size : Int) ≤ 32
  · have hd : decide ((s.size : Int) ≤ 32) = true := by simpa using h1
    have h2 : (1 : Int) ≤ (s.size : Int) := by
      rcases Nat.eq_zero_or_pos s.size with h | h
      · exfalso; apply h0; rw [tl]; exact List.eq_nil_of_length_eq_zero (by rw [len_L]; exact h)
      · omega
    have e1 : (L (s.extract 0 1)) = (L s).take 1 := by simp [L, ByteArray.data_extract]
    have hz : (s.extract 0 1).size ≤ 9223372036854775807 := by rw [← len_L, e1, List.length_take]; omega
    have HU : ∀ W, Calls Tryz.prog 100 #[.agg (setA (addS noneS upperL)), .string (s.extract 0 1)] W fun e w' => e = .returned (.bool (hasS (addS noneS upperL) ((L s).take 1))) ∧ Below W.heap.size W w' := fun W => by
      have := has_any (addS noneS upperL) (s.extract 0 1) W hz
      rw [e1] at this
      exact this
    clear hz e1
    cases hu : hasS (addS noneS upperL) ((L s).take 1)
    · rw [hu] at HU
      have Hu := Lib.hid hu
      clear hu
      go_enter Tryz.func117, Tryz.ntmps117
      go_wp2
      refine wp_region_held_drew (S := fun _ => True) (by kernel_rfl) ?_ (fun hHeld => ?_)
      · trivial
      refine wpAnyH_take (i := 0) (v := ?_) (by simp only [List.getElem?_toArray, List.getElem?_cons_zero]; rfl) (by kernel_rfl) (by kernel_rfl) (by kernel_rfl) (by exact fun _ _ _ h => h) (Or.inl ⟨by rfl, ?_⟩) (by assumption) ?_
      rotate_left
      · intro w hSw
        go_simp
        try with_reducible rfl
      try simp only [Act.put, List.setIfInBounds_toArray, List.set_cons_zero, List.set_cons_succ]
      refine wpAnyH_take (i := 1) (v := ?_) (by simp only [List.getElem?_toArray, List.getElem?_cons_succ, List.getElem?_cons_zero]; rfl) (by kernel_rfl) (by kernel_rfl) (by kernel_rfl) (by exact fun _ _ _ h => h) (Or.inl ⟨by rfl, ?_⟩) (by assumption) ?_
      rotate_left
      · intro w hSw
        go_simp
        try with_reducible rfl
      try simp only [Act.put, List.setIfInBounds_toArray, List.set_cons_zero, List.set_cons_succ]
      refine wpAnyH_take (i := 2) (v := ?_) (by simp only [List.getElem?_toArray, List.getElem?_cons_succ, List.getElem?_cons_zero]; rfl) (by kernel_rfl) (by kernel_rfl) (by kernel_rfl) (by exact fun _ _ _ h => h) (Or.inl ⟨by rfl, ?_⟩) (by assumption) ?_
      rotate_left
      · intro w hSw
        go_simp
        try with_reducible rfl
      try simp only [Act.put, List.setIfInBounds_toArray, List.set_cons_zero, List.set_cons_succ]
      refine wpAnyH_take (i := 3) (v := ?_) (by simp only [List.getElem?_toArray, List.getElem?_cons_succ, List.getElem?_cons_zero]; rfl) (by kernel_rfl) (by kernel_rfl) (by kernel_rfl) (by exact fun _ _ _ h => h) (Or.inl ⟨by rfl, ?_⟩) (by assumption) ?_
      rotate_left
      · intro w hSw
        go_simp
        try with_reducible rfl
      try simp only [Act.put, List.setIfInBounds_toArray, List.set_cons_zero, List.set_cons_succ]
      refine wpAnyH_take (i := 4) (v := ?_) (by simp only [List.getElem?_toArray, List.getElem?_cons_succ, List.getElem?_cons_zero]; rfl) (by kernel_rfl) (by kernel_rfl) (by kernel_rfl) (by exact fun _ _ _ h => h) (Or.inl ⟨by rfl, ?_⟩) (by assumption) ?_
      rotate_left
      · intro w hSw
        go_simp
        try with_reducible rfl
      try simp only [Act.put, List.setIfInBounds_toArray, List.set_cons_zero, List.set_cons_succ]
      refine wpAnyH_take (i := 5) (v := ?_) (by simp only [List.getElem?_toArray, List.getElem?_cons_succ, List.getElem?_cons_zero]; rfl) (by kernel_rfl) (by kernel_rfl) (by kernel_rfl) (by exact fun _ _ _ h => h) (Or.inl ⟨by rfl, ?_⟩) (by assumption) ?_
      rotate_left
      · intro w hSw
        go_simp
        try with_reducible rfl
      try simp only [Act.put, List.setIfInBounds_toArray, List.set_cons_zero, List.set_cons_succ]
      refine wpAnyH_take (i := 6) (v := ?_) (by simp only [List.getElem?_toArray, List.getElem?_cons_succ, List.getElem?_cons_zero]; rfl) (by kernel_rfl) (by kernel_rfl) (by kernel_rfl) (by exact fun _ _ _ h => h) (Or.inl ⟨by rfl, ?_⟩) (by assumption) ?_
      rotate_left
      · intro w hSw
        go_simp
        try with_reducible rfl
      try simp only [Act.put, List.setIfInBounds_toArray, List.set_cons_zero, List.set_cons_succ]
      refine wpAnyH_take (i := 7) (v := ?_) (by simp only [List.getElem?_toArray, List.getElem?_cons_succ, List.getElem?_cons_zero]; rfl) (by kernel_rfl) (by kernel_rfl) (by kernel_rfl) (by exact fun _ _ _ h => h) (Or.inl ⟨by rfl, ?_⟩) (by assumption) ?_
      rotate_left
      · intro w hSw
        go_simp
        try with_reducible rfl
      try simp only [Act.put, List.setIfInBounds_toArray, List.set_cons_zero, List.set_cons_succ]
      refine wpAnyH_take (i := 8) (v := ?_) (by simp only [List.getElem?_toArray, List.getElem?_cons_succ, List.getElem?_cons_zero]; rfl) (by kernel_rfl) (by kernel_rfl) (by kernel_rfl) (by exact fun _ _ _ h => h) (Or.inl ⟨by rfl, ?_⟩) (by assumption) ?_
      rotate_left
      · intro w hSw
        go_simp
        try with_reducible rfl
      try simp only [Act.put, List.setIfInBounds_toArray, List.set_cons_zero, List.set_cons_succ]
      refine wpAnyH_take (i := 10) (v := ?_) (by simp only [List.getElem?_toArray, List.getElem?_cons_succ, List.getElem?_cons_zero]; rfl) (by kernel_rfl) (by kernel_rfl) (by kernel_rfl) (by exact fun _ _ _ h => h) (Or.inl ⟨by rfl, ?_⟩) (by assumption) ?_
      rotate_left
      · intro w hSw
        go_simp
        try with_reducible rfl
      try simp only [Act.put, List.setIfInBounds_toArray, List.set_cons_zero, List.set_cons_succ]
      refine wpAnyH_take (i := 11) (v := ?_) (by simp only [List.getElem?_toArray, List.getElem?_cons_succ, List.getElem?_cons_zero]; rfl) (by kernel_rfl) (by kernel_rfl) (by kernel_rfl) (by exact fun _ _ _ h => h) (Or.inl ⟨by rfl, ?_⟩) (by assumption) ?_
      rotate_left
      · intro w hSw
        go_simp
        try with_reducible rfl
      try simp only [Act.put, List.setIfInBounds_toArray, List.set_cons_zero, List.set_cons_succ]
      refine wpAnyH_ready (rs := [9]) (by kernel_rfl) (by simp) ?_
      refine AllReadyH.cons (by simp only [List.getElem?_toArray, List.getElem?_cons_succ, List.getElem?_cons_zero]; rfl) (fun K hK => ?_) AllReadyH.nil
      go_simp
      refine (plus_any _ _ _ (by decide)).mono ?_
      rintro e w2 ⟨rfl, h2⟩
      refine hK.out _ _ trivial (fun hHeld => ?_)
      clear hK K
      try simp only [Act.put, List.setIfInBounds_toArray, List.set_cons_zero, List.set_cons_succ]
      refine wpAnyH_ready (rs := [12]) (by kernel_rfl) (by simp) ?_
      refine AllReadyH.cons (by simp only [List.getElem?_toArray, List.getElem?_cons_succ, List.getElem?_cons_zero]; rfl) (fun K hK => ?_) AllReadyH.nil
      go_simp
      refine (HU _).mono ?_
      rintro e w3 ⟨rfl, h3⟩
      refine hK.out _ _ trivial (fun hHeld => ?_)
      clear hK K
      try simp only [Act.put, List.setIfInBounds_toArray, List.set_cons_zero, List.set_cons_succ]
      refine wpAnyH_take (i := 13) (v := ?_) (by simp only [List.getElem?_toArray, List.getElem?_cons_succ, List.getElem?_cons_zero]; rfl) (by kernel_rfl) (by kernel_rfl) (by kernel_rfl) (by exact fun _ _ _ h => h) (Or.inl ⟨by rfl, ?_⟩) (by assumption) ?_
      rotate_left
      · intro w hSw
        go_simp
        try with_reducible rfl
      try simp only [Act.put, List.setIfInBounds_toArray, List.set_cons_zero, List.set_cons_succ]
      refine wpAnyH_take (i := 14) (v := ?_) (by simp only [List.getElem?_toArray, List.getElem?_cons_succ, List.getElem?_cons_zero]; rfl) (by kernel_rfl) (by kernel_rfl) (by kernel_rfl) (by exact fun _ _ _ h => h) (Or.inl ⟨by rfl, ?_⟩) (by assumption) ?_
      rotate_left
      · intro w hSw
        go_simp
        try with_reducible rfl
      try simp only [Act.put, List.setIfInBounds_toArray, List.set_cons_zero, List.set_cons_succ]
      refine wpAnyH_take (i := 15) (by simp only [List.getElem?_toArray, List.getElem?_cons_succ, List.getElem?_cons_zero]; rfl) (by kernel_rfl) (by kernel_rfl) (by kernel_rfl) (by exact fun _ _ _ h => h) (Or.inr ⟨by rfl, rfl⟩) (by assumption) ?_
      try simp only [Act.put, List.setIfInBounds_toArray, List.set_cons_zero, List.set_cons_succ]
      refine wpAnyH_take (i := 16) (by simp only [List.getElem?_toArray, List.getElem?_cons_succ, List.getElem?_cons_zero]; rfl) (by kernel_rfl) (by kernel_rfl) (by kernel_rfl) (by exact fun _ _ _ h => h) (Or.inr ⟨by rfl, rfl⟩) (by assumption) ?_
      try simp only [Act.put, List.setIfInBounds_toArray, List.set_cons_zero, List.set_cons_succ]
      refine wpAnyH_take (i := 17) (by simp only [List.getElem?_toArray, List.getElem?_cons_succ, List.getElem?_cons_zero]; rfl) (by kernel_rfl) (by kernel_rfl) (by kernel_rfl) (by exact fun _ _ _ h => h) (Or.inr ⟨by rfl, rfl⟩) (by assumption) ?_
      try simp only [Act.put, List.setIfInBounds_toArray, List.set_cons_zero, List.set_cons_succ]
      refine wpAnyH_take (i := 18) (by simp only [List.getElem?_toArray, List.getElem?_cons_succ, List.getElem?_cons_zero]; rfl) (by kernel_rfl) (by kernel_rfl) (by kernel_rfl) (by exact fun _ _ _ h => h) (Or.inr ⟨by rfl, rfl⟩) (by assumption) ?_
      try simp only [Act.put, List.setIfInBounds_toArray, List.set_cons_zero, List.set_cons_succ]
      refine wpAnyH_take (i := 19) (by simp only [List.getElem?_toArray, List.getElem?_cons_succ, List.getElem?_cons_zero]; rfl) (by kernel_rfl) (by kernel_rfl) (by kernel_rfl) (by exact fun _ _ _ h => h) (Or.inr ⟨by rfl, rfl⟩) (by assumption) ?_
      try simp only [Act.put, List.setIfInBounds_toArray, List.set_cons_zero, List.set_cons_succ]
      refine wpAnyH_take (i := 20) (by simp only [List.getElem?_toArray, List.getElem?_cons_succ, List.getElem?_cons_zero]; rfl) (by kernel_rfl) (by kernel_rfl) (by kernel_rfl) (by exact fun _ _ _ h => h) (Or.inr ⟨by rfl, rfl⟩) (by assumption) ?_
      try simp only [Act.put, List.setIfInBounds_toArray, List.set_cons_zero, List.set_cons_succ]
      refine wpAnyH_take (i := 21) (v := ?_) (by simp only [List.getElem?_toArray, List.getElem?_cons_succ, List.getElem?_cons_zero]; rfl) (by kernel_rfl) (by kernel_rfl) (by kernel_rfl) (by exact fun _ _ _ h => h) (Or.inl ⟨by rfl, ?_⟩) (by assumption) ?_
      rotate_left
      · intro w hSw
        go_simp
        try with_reducible rfl
      try simp only [Act.put, List.setIfInBounds_toArray, List.set_cons_zero, List.set_cons_succ]
      refine wpAnyH_take (i := 22) (v := ?_) (by simp only [List.getElem?_toArray, List.getElem?_cons_succ, List.getElem?_cons_zero]; rfl) (by kernel_rfl) (by kernel_rfl) (by kernel_rfl) (by exact fun _ _ _ h => h) (Or.inl ⟨by rfl, ?_⟩) (by assumption) ?_
      rotate_left
      · intro w hSw
        go_simp
        try with_reducible rfl
      try simp only [Act.put, List.setIfInBounds_toArray, List.set_cons_zero, List.set_cons_succ]
      refine wpAnyH_done (by kernel_rfl) ?_ _
      go_wp2
      go_ret
      exact ⟨ret_bool (by rw [keyS, Hu.out]; simp), (((Below.refl _ _).drew).trans h2).trans (h3.mono h2.size)⟩
    · rw [hu] at HU
      have Hu := Lib.hid hu
      clear hu
      go_enter Tryz.func117, Tryz.ntmps117
      go_wp2
      go_region_held3 (fun _ => True) (trivial) (first | (go_at_call 99; with_reducible refine (plus_any _ _ _ (by decide)).mono ?_; rintro e w2 ⟨rfl, h2⟩) | (go_at_call_of 100 (s.extract 0 1); refine (HU _).mono ?_; rintro e w3 ⟨rfl, h3⟩) | (go_at_call 100; refine (has_any _ _ _ hs).mono ?_; rintro e w4 ⟨rfl, h4⟩))
      all_goals go_wp2
      go_ret
      refine ⟨ret_bool ?_, by repeat (first | exact (Below.refl _ _).drew | refine bt ?_ (by assumption))⟩
      rw [keyS, len_L, L_ne h0, Hu.out]
      show hasS (addS (addS (addS noneS upperL) digitL) [95]) (L s) = _
      simp
      omega
  · have hd : decide ((s.size : Int) ≤ 32) = false := by simpa using h1
    go_enter Tryz.func117, Tryz.ntmps117
    go_wp2
    go_region
    all_goals go_wp2
    all_goals go_ret
    exact ⟨ret_bool (by rw [keyS, len_L]; simp; omega), (Below.refl _ _).drew⟩
end Go.Proofs.YthcgkeiggnfgiaaGreatDoor
