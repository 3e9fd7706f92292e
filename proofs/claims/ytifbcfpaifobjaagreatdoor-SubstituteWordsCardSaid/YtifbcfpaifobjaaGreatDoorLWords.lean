/-
  The law SubstituteWords, walked: the words of a result, taken one by one, are all of it. (Printed by gen_lwords.py.)
-/
import Derived.Test.YtifbcfpaifobjaaGreatDoorLForms
namespace Go.Proofs.YtifbcfpaifobjaaGreatDoor
open Go.RowKit
def digs : List ByteArray := [⟨#[49]⟩, ⟨#[50]⟩, ⟨#[51]⟩, ⟨#[52]⟩, ⟨#[53]⟩, ⟨#[54]⟩, ⟨#[55]⟩, ⟨#[56]⟩, ⟨#[57]⟩]
/-- The values of which the result alone is given. -/
def vR (s : ByteArray) : Vs := { kernel := ⟨#[]⟩, devpath := ⟨#[]⟩, id := ⟨#[]⟩, driver := ⟨#[]⟩, parent := ⟨#[]⟩, name := ⟨#[]⟩, result := s, attrs := ⟨none, 0, []⟩, above := ⟨none, 0, []⟩, env := ⟨none, 0, []⟩ }
theorem vR_small {s : ByteArray} (h : s.size ≤ 200) : VsSmall 240 (vR s) :=
  ⟨Nat.zero_le _, Nat.zero_le _, Nat.zero_le _, Nat.zero_le _, Nat.zero_le _, Nat.zero_le _, Nat.le_trans h (by decide), (fun _ hx => by cases hx), (fun _ hx => by cases hx), (fun _ hx => by cases hx)⟩
theorem vR_in (s : ByteArray) (W : World) : VsIn W W.heap.size (vR s) :=
  ⟨⟨rfl, fun h => absurd h (Nat.lt_irrefl 0)⟩, ⟨rfl, fun h => absurd h (Nat.lt_irrefl 0)⟩, ⟨rfl, fun h => absurd h (Nat.lt_irrefl 0)⟩, Nat.zero_le _, Nat.zero_le _, Nat.zero_le _⟩
/-- Pieces of a text as data. -/
def pcsL (l : Str) : List (Int × Str × Int × Bool) := (parseR l).1.map fun p => (p.kind, L p.text, p.word, p.more)
theorem word_pcs : ((List.range 9).all fun k => pcsL ([37, 99, 123] ++ L (digs.getD k ⟨#[]⟩) ++ [125]) == [(9, [], (k : Int) + 1, false)] && decide ((parseR ([37, 99, 123] ++ L (digs.getD k ⟨#[]⟩) ++ [125])).2 = 0) &&
    (pcsL ([37, 99, 123] ++ L (digs.getD k ⟨#[]⟩) ++ [43, 125]) == [(9, [], (k : Int) + 1, true)] && decide ((parseR ([37, 99, 123] ++ L (digs.getD k ⟨#[]⟩) ++ [43, 125])).2 = 0))) = true := by kernel_rfl
theorem out_word (s : ByteArray) (hs : s.size ≤ 200) (k : Nat) (more : Bool) : (outS [⟨9, bs [], (k : Int) + 1, more⟩] (vR s)).extract 0 256 = bs (Lib.join (selW (k + 1) more (wordsS (L s))) [32]) := by
  have h9 : valueS ⟨9, bs [], (k : Int) + 1, more⟩ (vR s) = bs (Lib.join (selW (k + 1) more (wordsS (L s))) [32]) := by
    show bs (resultS ((k : Int) + 1).toNat more (L s)) = _
    rw [show ((k : Int) + 1).toNat = k + 1 from by omega, resultS, if_neg (by omega)]
  have hl := Nat.le_trans (join_selW (k + 1) more (wordsS (L s))) (join_wordsS (L s))
  rw [len_L] at hl
  simp only [outS, List.foldl_cons, List.foldl_nil, h9]
  refine L_inj ?_
  rw [L_extract, L_append, L_bs, List.drop_zero]
  show List.take 256 ([] ++ _) = _
  rw [List.nil_append, List.take_of_length_le (by omega)]
theorem expand_word (s : ByteArray) (hs : s.size ≤ 200) (k : Nat) (hk : k < 9) :
    expandS (L (⟨#[37, 99, 123]⟩ ++ digs.getD k ⟨#[]⟩ ++ ⟨#[125]⟩)) (vR s) = (bs (Lib.join (selW (k + 1) false (wordsS (L s))) [32]), 0) ∧
    expandS (L (⟨#[37, 99, 123]⟩ ++ digs.getD k ⟨#[]⟩ ++ ⟨#[43, 125]⟩)) (vR s) = (bs (Lib.join (selW (k + 1) true (wordsS (L s))) [32]), 0) := by
  have h := List.all_eq_true.1 word_pcs k (List.mem_range.2 hk)
  simp only [Bool.and_eq_true, decide_eq_true_eq, beq_iff_eq] at h
  obtain ⟨⟨h1, h2⟩, h3, h4⟩ := h
  have e1 : L (⟨#[37, 99, 123]⟩ ++ digs.getD k ⟨#[]⟩ ++ ⟨#[125]⟩) = [37, 99, 123] ++ L (digs.getD k ⟨#[]⟩) ++ [125] := by rw [L_append, L_append]
  have e2 : L (⟨#[37, 99, 123]⟩ ++ digs.getD k ⟨#[]⟩ ++ ⟨#[43, 125]⟩) = [37, 99, 123] ++ L (digs.getD k ⟨#[]⟩) ++ [43, 125] := by rw [L_append, L_append]
  have q1 := pcs_inj _ [⟨9, bs [], (k : Int) + 1, false⟩] h1
  have q2 := pcs_inj _ [⟨9, bs [], (k : Int) + 1, true⟩] h3
  rw [e1, e2, expandS, expandS, if_pos h2, if_pos h4, q1, q2, out_word s hs, out_word s hs]
  exact ⟨rfl, rfl⟩
theorem Contains_sp (a : ByteArray) (w : World) : Calls Tryz.prog 14 #[.string a, .string ⟨#[32]⟩] w fun e w' => e = .returned (.bool (decide (0 ≤ Lib.indexByte (L a) 32))) ∧ w = w' :=
  (Tryz.strings_Contains_one a 32 w).mono fun _ _ h => ⟨h.1, h.2.symm⟩
theorem no_space (l : Str) (h : l.contains 32 = false) : decide (0 ≤ Lib.indexByte l 32) = false := by
  have := (indexByte_neg l 32).2 h
  simpa using this
set_option maxRecDepth 100000 in
set_option maxHeartbeats 4000000 in
theorem lawWords (s : ByteArray) (m : Int) (w : World) (hE : Env w) (hs : s.size ≤ 9223372036854775807) (hm1 : -9223372036854775808 ≤ m) (hm2 : m ≤ 9223372036854775807) :
    Calls Tryz.prog 3 #[.string s, .int .i64 m] w fun e w' => e = .returned (.bool true) ∧ Below w.heap.size w w' := by
  by_cases h200 : 200 < s.size
  · have HK := known_any w hE
    clear hE
    have HK2 := Lib.hid HK
    clear HK
    go_enter Tryz.func3, Tryz.ntmps3
    go_wp2_with (go_at_call 11; refine HK2.out.mono ?_; rintro e w5 ⟨rfl, hb5⟩)
    go_ret
    exact ⟨rfl, hb5⟩
  have hs2 : s.size ≤ 200 := by omega
  have HE := Lib.hid hE
  have hr := foldS_rng m 8 (by omega)
  obtain ⟨r, hr0⟩ := Int.eq_ofNat_of_zero_le hr.1
  rw [hr0] at hr
  have HR := Lib.hid hr0
  have hr2 : r < 8 := by omega
  clear hE hr0 hr h200
  go_enter Tryz.func3, Tryz.ntmps3
  go_wp2_with fail
  with_reducible refine (Fold_any _ _ _ hm1 hm2 (by omega)).mono ?_
  rintro e w' ⟨rfl, rfl⟩
  rw [HR.out]
  go_wp2_with fail
  obtain ⟨W2, hW2⟩ : ∃ W2, (w.alloc (.cells #[.string ⟨#[]⟩, .string ⟨#[]⟩, .string ⟨#[]⟩, .string ⟨#[]⟩, .string ⟨#[]⟩, .string ⟨#[]⟩, .string s, .slice none 0 0, .slice none 0 0, .slice none 0 0] 25)).alloc (.cells #[.string ⟨#[49]⟩, .string ⟨#[50]⟩, .string ⟨#[51]⟩, .string ⟨#[52]⟩, .string ⟨#[53]⟩, .string ⟨#[54]⟩, .string ⟨#[55]⟩, .string ⟨#[56]⟩, .string ⟨#[57]⟩] 9) = W2 := ⟨_, rfl⟩
  rw [hW2]
  have hb0 : W2.heap[w.heap.size]? = some (.cells #[.string ⟨#[]⟩, .string ⟨#[]⟩, .string ⟨#[]⟩, .string ⟨#[]⟩, .string ⟨#[]⟩, .string ⟨#[]⟩, .string s, .slice none 0 0, .slice none 0 0, .slice none 0 0] 25 (0, 0)) := by rw [← hW2]; exact heap_alloc2_old w _ _
  have hb1 : W2.heap[w.heap.size + 1]? = some (.cells #[.string ⟨#[49]⟩, .string ⟨#[50]⟩, .string ⟨#[51]⟩, .string ⟨#[52]⟩, .string ⟨#[53]⟩, .string ⟨#[54]⟩, .string ⟨#[55]⟩, .string ⟨#[56]⟩, .string ⟨#[57]⟩] 9 (0, 0)) := by rw [← hW2]; exact heap_alloc2_new w _ _
  have hbw : Below w.heap.size w W2 := by rw [← hW2]; exact ((Below.refl _ _).alloc (Nat.le_refl _) _).alloc (by simp) _
  obtain ⟨N, hN⟩ : ∃ N : Nat, N = r + 1 := ⟨_, rfl⟩
  have hN1 : (1 : Int) + (r : Int) = (N : Int) := by omega
  have hN9 : N < 9 := by omega
  have hNp : 1 ≤ N := by omega
  rw [hN1]
  have hC : ∀ W', Below W2.heap.size W2 W' → (W'.cell? ⟨w.heap.size + 1, r, none⟩ = some (.string (digs.getD r ⟨#[]⟩)) ∧ W'.cell? ⟨w.heap.size + 1, N, none⟩ = some (.string (digs.getD (r + 1) ⟨#[]⟩)) ∧ W'.cell? ⟨w.heap.size, 0, none⟩ = some (.string ⟨#[]⟩) ∧ W'.cell? ⟨w.heap.size, 1, none⟩ = some (.string ⟨#[]⟩) ∧ W'.cell? ⟨w.heap.size, 2, none⟩ = some (.string ⟨#[]⟩) ∧ W'.cell? ⟨w.heap.size, 3, none⟩ = some (.string ⟨#[]⟩) ∧ W'.cell? ⟨w.heap.size, 4, none⟩ = some (.string ⟨#[]⟩) ∧ W'.cell? ⟨w.heap.size, 5, none⟩ = some (.string ⟨#[]⟩) ∧ W'.cell? ⟨w.heap.size, 6, none⟩ = some (.string s) ∧ W'.cell? ⟨w.heap.size, 7, none⟩ = some (.slice none 0 0) ∧ W'.cell? ⟨w.heap.size, 8, none⟩ = some (.slice none 0 0) ∧ W'.cell? ⟨w.heap.size, 9, none⟩ = some (.slice none 0 0)) ∧ Below W2.heap.size W2 W' := fun W' hb => by
    have hB0 := (hb.block _ (blk_lt hb0)).trans hb0
    refine ⟨⟨strs_cell digs ((hb.block _ (blk_lt hb1)).trans hb1) rfl r (by show r < 9; omega), by rw [hN]; exact strs_cell digs ((hb.block _ (blk_lt hb1)).trans hb1) rfl (r + 1) (by show r + 1 < 9; omega), ?_, ?_, ?_, ?_, ?_, ?_, ?_, ?_, ?_, ?_⟩, hb⟩
    · rw [cell_of_row _ _ 0 _ _ _ hB0]; rfl
    · rw [cell_of_row _ _ 1 _ _ _ hB0]; rfl
    · rw [cell_of_row _ _ 2 _ _ _ hB0]; rfl
    · rw [cell_of_row _ _ 3 _ _ _ hB0]; rfl
    · rw [cell_of_row _ _ 4 _ _ _ hB0]; rfl
    · rw [cell_of_row _ _ 5 _ _ _ hB0]; rfl
    · rw [cell_of_row _ _ 6 _ _ _ hB0]; rfl
    · rw [cell_of_row _ _ 7 _ _ _ hB0]; rfl
    · rw [cell_of_row _ _ 8 _ _ _ hB0]; rfl
    · rw [cell_of_row _ _ 9 _ _ _ hB0]; rfl
  have hd1 : (digs.getD r ⟨#[]⟩).size ≤ 100 := size_getD digs r (by decide)
  have hd2 : (digs.getD (r + 1) ⟨#[]⟩).size ≤ 100 := size_getD digs (r + 1) (by decide)
  have hx1 := expand_word s hs2 r (by omega)
  have hx2 := (expand_word s hs2 (r + 1) (by omega)).2
  have hlaw := law_words (wordsS (L s)) (wordsS_words (L s)) (r + 1) (by omega)
  have hX : ∀ W', Below W2.heap.size W2 W' → ∀ t : ByteArray, t.size ≤ 1000 → Calls Tryz.prog 13 #[.string t, .agg #[.string ⟨#[]⟩, .string ⟨#[]⟩, .string ⟨#[]⟩, .string ⟨#[]⟩, .string ⟨#[]⟩, .string ⟨#[]⟩, .string s, .slice none 0 0, .slice none 0 0, .slice none 0 0]] W' (ExpPost (expandS (L t) (vR s)) W') := fun W' hb t ht =>
    Expand_vs t (vR s) 240 (by decide) W' ((HE.out.go hbw).go hb) (vR_in s W') (vR_small hs2) (by omega)
  have hz1 := Nat.le_trans (join_selW (r + 1) false (wordsS (L s))) (join_wordsS (L s))
  have hz2 := Nat.le_trans (join_selW (r + 1 + 1) true (wordsS (L s))) (join_wordsS (L s))
  rw [len_L, ← size_bs] at hz1 hz2
  generalize digs.getD r ⟨#[]⟩ = d1 at *
  generalize digs.getD (r + 1) ⟨#[]⟩ = d2 at *
  generalize Lib.join (selW (r + 1) false (wordsS (L s))) [32] = a at *
  generalize Lib.join (selW (r + 1) true (wordsS (L s))) [32] = cc at *
  generalize Lib.join (selW (r + 1 + 1) true (wordsS (L s))) [32] = b at *
  have hXa : ∀ W', Below W2.heap.size W2 W' → Calls Tryz.prog 13 #[.string (⟨#[37, 99, 123]⟩ ++ d1 ++ ⟨#[125]⟩), .agg #[.string ⟨#[]⟩, .string ⟨#[]⟩, .string ⟨#[]⟩, .string ⟨#[]⟩, .string ⟨#[]⟩, .string ⟨#[]⟩, .string s, .slice none 0 0, .slice none 0 0, .slice none 0 0]] W' (KnownPost (bs a) W') := fun W' hb => by
    have h := hX W' hb (⟨#[37, 99, 123]⟩ ++ d1 ++ ⟨#[125]⟩) (by simp only [ByteArray.size_append]; show 3 + d1.size + 1 ≤ 1000; omega)
    rw [hx1.1] at h
    exact h
  have hXc : ∀ W', Below W2.heap.size W2 W' → Calls Tryz.prog 13 #[.string (⟨#[37, 99, 123]⟩ ++ d1 ++ ⟨#[43, 125]⟩), .agg #[.string ⟨#[]⟩, .string ⟨#[]⟩, .string ⟨#[]⟩, .string ⟨#[]⟩, .string ⟨#[]⟩, .string ⟨#[]⟩, .string s, .slice none 0 0, .slice none 0 0, .slice none 0 0]] W' (KnownPost (bs cc) W') := fun W' hb => by
    have h := hX W' hb (⟨#[37, 99, 123]⟩ ++ d1 ++ ⟨#[43, 125]⟩) (by simp only [ByteArray.size_append]; show 3 + d1.size + 2 ≤ 1000; omega)
    rw [hx1.2] at h
    exact h
  have hXb : ∀ W', Below W2.heap.size W2 W' → Calls Tryz.prog 13 #[.string (⟨#[37, 99, 123]⟩ ++ d2 ++ ⟨#[43, 125]⟩), .agg #[.string ⟨#[]⟩, .string ⟨#[]⟩, .string ⟨#[]⟩, .string ⟨#[]⟩, .string ⟨#[]⟩, .string ⟨#[]⟩, .string s, .slice none 0 0, .slice none 0 0, .slice none 0 0]] W' (KnownPost (bs b) W') := fun W' hb => by
    have h := hX W' hb (⟨#[37, 99, 123]⟩ ++ d2 ++ ⟨#[43, 125]⟩) (by simp only [ByteArray.size_append]; show 3 + d2.size + 2 ≤ 1000; omega)
    rw [hx2] at h
    exact h
  have hCt : ∀ W : World, Calls Tryz.prog 14 #[.string (bs a), .string ⟨#[32]⟩] W fun e w' => e = .returned (.bool false) ∧ W = w' := fun W => by
    have h := Contains_sp (bs a) W
    rw [L_bs, no_space a hlaw.1] at h
    exact h
  obtain ⟨_, hlaw⟩ := hlaw
  have Hw2 := Lib.hid hbw
  have HC := Lib.hid hC
  have HXa := Lib.hid hXa
  have HXb := Lib.hid hXb
  have HXc := Lib.hid hXc
  have HCt := Lib.hid hCt
  have Hlaw := Lib.hid hlaw
  have HN := Lib.hid hN
  have hwr : IntKind.i64.wrap ((N : Int) - 1) = (r : Int) := by rw [IntWalk.i64_in _ (by omega)]; omega
  have hq1 : (9223372036854775807 < 3 + d1.size) = False := by simp; omega
  have hq2 : (9223372036854775807 < 3 + d1.size + 1) = False := by simp; omega
  have hq3 : (9223372036854775807 < 3 + d1.size + 2) = False := by simp; omega
  have hq4 : (9223372036854775807 < 3 + d2.size) = False := by simp; omega
  have hq5 : (9223372036854775807 < 3 + d2.size + 2) = False := by simp; omega
  have hr9 : (r : Int) < 9 := by omega
  have hr99 : r < 9 := by omega
  have hN99 : (N : Int) < 9 := by omega
  clear hd1 hd2
  clear hX hx1 hx2 hXa hXb hXc hCt hC hlaw hbw hb0 hb1 hW2 hN hN1
  go_region_held3 (fun W' => (W'.cell? ⟨w.heap.size + 1, r, none⟩ = some (.string d1) ∧ W'.cell? ⟨w.heap.size + 1, N, none⟩ = some (.string d2) ∧ W'.cell? ⟨w.heap.size, 0, none⟩ = some (.string ⟨#[]⟩) ∧ W'.cell? ⟨w.heap.size, 1, none⟩ = some (.string ⟨#[]⟩) ∧ W'.cell? ⟨w.heap.size, 2, none⟩ = some (.string ⟨#[]⟩) ∧ W'.cell? ⟨w.heap.size, 3, none⟩ = some (.string ⟨#[]⟩) ∧ W'.cell? ⟨w.heap.size, 4, none⟩ = some (.string ⟨#[]⟩) ∧ W'.cell? ⟨w.heap.size, 5, none⟩ = some (.string ⟨#[]⟩) ∧ W'.cell? ⟨w.heap.size, 6, none⟩ = some (.string s) ∧ W'.cell? ⟨w.heap.size, 7, none⟩ = some (.slice none 0 0) ∧ W'.cell? ⟨w.heap.size, 8, none⟩ = some (.slice none 0 0) ∧ W'.cell? ⟨w.heap.size, 9, none⟩ = some (.slice none 0 0)) ∧ Below W2.heap.size W2 W') (first | exact HC.out _ (Below.refl _ _).drew | exact HC.out _ (((Below.refl _ _).drew).trans hba)) ((go_at_call 13; refine (HXa.out _ (Below.refl _ _).drew).mono ?_; rintro e wa ⟨rfl, hba⟩))
  have HBa : Hid (Below W2.heap.size W2 wa) := Lib.hid (((Below.refl _ _).drew).trans hba)
  clear hba
  go_wp2
  go_region_held3 (fun W' => (W'.cell? ⟨w.heap.size + 1, r, none⟩ = some (.string d1) ∧ W'.cell? ⟨w.heap.size + 1, N, none⟩ = some (.string d2) ∧ W'.cell? ⟨w.heap.size, 0, none⟩ = some (.string ⟨#[]⟩) ∧ W'.cell? ⟨w.heap.size, 1, none⟩ = some (.string ⟨#[]⟩) ∧ W'.cell? ⟨w.heap.size, 2, none⟩ = some (.string ⟨#[]⟩) ∧ W'.cell? ⟨w.heap.size, 3, none⟩ = some (.string ⟨#[]⟩) ∧ W'.cell? ⟨w.heap.size, 4, none⟩ = some (.string ⟨#[]⟩) ∧ W'.cell? ⟨w.heap.size, 5, none⟩ = some (.string ⟨#[]⟩) ∧ W'.cell? ⟨w.heap.size, 6, none⟩ = some (.string s) ∧ W'.cell? ⟨w.heap.size, 7, none⟩ = some (.slice none 0 0) ∧ W'.cell? ⟨w.heap.size, 8, none⟩ = some (.slice none 0 0) ∧ W'.cell? ⟨w.heap.size, 9, none⟩ = some (.slice none 0 0)) ∧ Below W2.heap.size W2 W') (first | exact HC.out _ HBa.out.drew | exact HC.out _ (bt HBa.out.drew hbb)) ((go_at_call 13; refine (HXb.out _ HBa.out.drew).mono ?_; rintro e wb ⟨rfl, hbb⟩))
  have HBb : Hid (Below W2.heap.size W2 wb) := Lib.hid (bt HBa.out.drew hbb)
  clear hbb
  go_wp2
  go_region_held3 (fun W' => (W'.cell? ⟨w.heap.size + 1, r, none⟩ = some (.string d1) ∧ W'.cell? ⟨w.heap.size + 1, N, none⟩ = some (.string d2) ∧ W'.cell? ⟨w.heap.size, 0, none⟩ = some (.string ⟨#[]⟩) ∧ W'.cell? ⟨w.heap.size, 1, none⟩ = some (.string ⟨#[]⟩) ∧ W'.cell? ⟨w.heap.size, 2, none⟩ = some (.string ⟨#[]⟩) ∧ W'.cell? ⟨w.heap.size, 3, none⟩ = some (.string ⟨#[]⟩) ∧ W'.cell? ⟨w.heap.size, 4, none⟩ = some (.string ⟨#[]⟩) ∧ W'.cell? ⟨w.heap.size, 5, none⟩ = some (.string ⟨#[]⟩) ∧ W'.cell? ⟨w.heap.size, 6, none⟩ = some (.string s) ∧ W'.cell? ⟨w.heap.size, 7, none⟩ = some (.slice none 0 0) ∧ W'.cell? ⟨w.heap.size, 8, none⟩ = some (.slice none 0 0) ∧ W'.cell? ⟨w.heap.size, 9, none⟩ = some (.slice none 0 0)) ∧ Below W2.heap.size W2 W') (first | exact HC.out _ HBb.out.drew | exact HC.out _ (bt HBb.out.drew hbc)) ((go_at_call 13; refine (HXc.out _ HBb.out.drew).mono ?_; rintro e wc ⟨rfl, hbc⟩))
  have HBc : Hid (Below W2.heap.size W2 wc) := Lib.hid (bt HBb.out.drew hbc)
  clear hbc hwr hq1 hq2 hq3 hq4 hq5
  have hK : ∀ W', Below W2.heap.size W2 W' → Calls Tryz.prog 11 #[] W' fun e w' => e = .returned (.bool true) ∧ Below W'.heap.size W' w' := fun W' hb => known_any W' ((HE.out.go Hw2.out).go hb)
  have HK := Lib.hid hK
  clear hK
  by_cases hb : b = []
  · subst hb
    obtain rfl : a = cc := by have := Hlaw.out; simpa using this
    rw [show bs ([] : Str) = ⟨#[]⟩ from rfl]
    clear hz1 hz2
    go_wp2_with (first | (go_at_call 14; refine (HCt.out _).mono ?_; rintro e w' ⟨rfl, rfl⟩) | (go_at_call 11; refine (HK.out _ HBc.out).mono ?_; rintro e w5 ⟨rfl, hb5⟩; have HB5 := Lib.hid hb5; clear hb5))
    go_ret
    exact ⟨rfl, bt Hw2.out (bt HBc.out HB5.out)⟩
  · obtain rfl : a ++ ([32] ++ b) = cc := by have := Hlaw.out; rw [if_neg hb] at this; exact this
    have e3 : bs (a ++ ([32] ++ b)) = bs a ++ (⟨#[32]⟩ ++ bs b) := by rw [← bs_append, ← bs_append]; rfl
    rw [e3]
    have hbl : (bs b).toList = b := by rw [tl, L_bs]
    have hb1 : ¬ (bs b).toList = [] := by rw [hbl]; exact hb
    have hb2 : (bs b).toList.isEmpty = false := by rw [hbl]; cases b with | nil => exact absurd rfl hb | cons x y => rfl
    have hq1 : (9223372036854775807 < 1 + (bs b).size) = False := by simp; omega
    have hq2 : (9223372036854775807 < (bs a).size + (1 + (bs b).size)) = False := by simp; omega
    generalize bs b = B at *
    clear hbl hb hz1 hz2 e3
    go_wp2_with (first | (go_at_call 14; refine (HCt.out _).mono ?_; rintro e w' ⟨rfl, rfl⟩) | (go_at_call 11; refine (HK.out _ HBc.out).mono ?_; rintro e w5 ⟨rfl, hb5⟩; have HB5 := Lib.hid hb5; clear hb5))
    go_ret
    exact ⟨rfl, bt Hw2.out (bt HBc.out HB5.out)⟩
end Go.Proofs.YtifbcfpaifobjaaGreatDoor
