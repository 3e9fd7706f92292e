/-
  Contract of the law file's function values: some values, all of them short. (Printed by gen_values.py.)
-/
import Derived.Test.YtifbcfpaifobjaaGreatDoorVSt
import Derived.Test.YtifbcfpaifobjaaGreatDoorSmall
namespace Go.Proofs.YtifbcfpaifobjaaGreatDoor
open Go.RowKit
/-- What values gives: short values that lie in memory. -/
def ValsPost (w : World) (b n p d : Nat) (e : Ending) (w' : World) : Prop := ∃ v : Vs, e = .returned (encVs v) ∧ VsIn w' w'.heap.size v ∧ VsSmall 240 v ∧ ∃ bl, VSt w b n p d bl w'
theorem RowAt.of_block {w : World} {g : Nat} {A : Array Value} {t : TypeId} {k n : Nat} {xs : List Value} (h : w.heap[g]? = some (.cells A t (0, 0))) (hA : A.toList = xs) (hl : xs.length = n * k) : RowAt w w.heap.size (some ⟨g, 0, none⟩) k n xs := by
  refine ⟨hl, fun _ => ⟨g, 0, rfl, blk_lt h, fun j u hu => ?_⟩⟩
  rw [Nat.zero_add, cell_of_row _ _ j _ _ _ h, ← Array.getElem?_toList, hA]
  exact hu
theorem size_of_mem {s : ByteArray} {ss : List ByteArray} {M : Nat} (h : s ∈ ss) (ha : (ss.all fun x => decide (x.size ≤ M)) = true) : s.size ≤ M := by simpa using List.all_eq_true.1 ha s h
theorem vals_size : (Tryz.prog.info? 25).map (·.size) = some 10 := by kernel_rfl
theorem Repeat_w (W : World) : Calls Tryz.prog 22 #[.string ⟨#[119, 32]⟩, .int .i64 120] W fun e w' => ∃ x : ByteArray, e = .returned (.string x) ∧ x.size ≤ 240 ∧ Below W.heap.size W w' := by
  have h := Tryz.strings_Repeat ⟨#[119, 32]⟩ 120 W (by decide) (by decide)
  exact h.mono fun e w' h => ⟨_, h.1, by
    show (Lib.repeatL [119, 32] 120).length ≤ 240
    rw [Lib.repeatL_length]; decide, h.2⟩
set_option maxRecDepth 100000 in
set_option maxHeartbeats 4000000 in
theorem values_any (b n p d0 : Nat) (bl0 : List (Nat × Obj)) (w0 w : World) (h : VSt w0 b n p d0 bl0 w) (h3 : p + d0 ≤ 100000) :
    Calls Tryz.prog 21 #[.pointer (some ⟨b, 0, none⟩)] w (ValsPost w0 b n p (d0 + 10)) := by
  have H0 := Lib.hid h
  clear h
  go_enter Tryz.func21, Tryz.ntmps21
  go_wp2_with fail
  have K0 := Lib.hid (H0.out.alloc (.cells #[.string ⟨#[]⟩, .string ⟨#[]⟩, .string ⟨#[]⟩, .string ⟨#[]⟩, .string ⟨#[]⟩, .string ⟨#[]⟩, .string ⟨#[]⟩, .slice none 0 0, .slice none 0 0, .slice none 0 0] 25))
  with_reducible refine (One_st (n := n) (p := p) [⟨#[115, 100, 97]⟩, ⟨#[115, 100, 97, 49, 50]⟩, ⟨#[101, 116, 104, 48]⟩, ⟨#[]⟩] _ _ _ _ _ K0.out (by simp) (by simp) (by decide) (by decide) (by simp) (by omega)).mono ?_
  rintro e w1 ⟨s1, hs1, rfl, h1⟩
  have S1 := Lib.hid hs1
  have K1 := Lib.hid h1
  clear hs1 h1
  have Z1 : s1.size ≤ 240 := size_of_mem S1.out (by decide)
  go_wp2_with fail
  with_reducible refine (One_st (n := n) (p := p) [⟨#[47, 112, 99, 105, 48, 47, 115, 100, 97]⟩, ⟨#[47, 117, 115, 98]⟩] _ _ _ _ _ K1.out (by simp) (by simp) (by decide) (by decide) (by simp) (by omega)).mono ?_
  rintro e w2 ⟨s2, hs2, rfl, h2⟩
  have S2 := Lib.hid hs2
  have K2 := Lib.hid h2
  clear hs2 h2
  have Z2 : s2.size ≤ 240 := size_of_mem S2.out (by decide)
  go_wp2_with fail
  with_reducible refine (One_st (n := n) (p := p) [⟨#[117, 115, 98, 49]⟩, ⟨#[49, 45, 49]⟩] _ _ _ _ _ K2.out (by simp) (by simp) (by decide) (by decide) (by simp) (by omega)).mono ?_
  rintro e w3 ⟨s3, hs3, rfl, h3⟩
  have S3 := Lib.hid hs3
  have K3 := Lib.hid h3
  clear hs3 h3
  have Z3 : s3.size ≤ 240 := size_of_mem S3.out (by decide)
  go_wp2_with fail
  with_reducible refine (One_st (n := n) (p := p) [⟨#[]⟩, ⟨#[104, 105, 100]⟩] _ _ _ _ _ K3.out (by simp) (by simp) (by decide) (by decide) (by simp) (by omega)).mono ?_
  rintro e w4 ⟨s4, hs4, rfl, h4⟩
  have S4 := Lib.hid hs4
  have K4 := Lib.hid h4
  clear hs4 h4
  have Z4 : s4.size ≤ 240 := size_of_mem S4.out (by decide)
  go_wp2_with fail
  with_reducible refine (One_st (n := n) (p := p) [⟨#[]⟩, ⟨#[115, 100, 97]⟩] _ _ _ _ _ K4.out (by simp) (by simp) (by decide) (by decide) (by simp) (by omega)).mono ?_
  rintro e w5 ⟨s5, hs5, rfl, h5⟩
  have S5 := Lib.hid hs5
  have K5 := Lib.hid h5
  clear hs5 h5
  have Z5 : s5.size ≤ 240 := size_of_mem S5.out (by decide)
  go_wp2_with fail
  with_reducible refine (One_st (n := n) (p := p) [⟨#[108, 97, 110, 48]⟩, ⟨#[101, 116, 104, 48]⟩] _ _ _ _ _ K5.out (by simp) (by simp) (by decide) (by decide) (by simp) (by omega)).mono ?_
  rintro e w6 ⟨s6, hs6, rfl, h6⟩
  have S6 := Lib.hid hs6
  have K6 := Lib.hid h6
  clear hs6 h6
  have Z6 : s6.size ≤ 240 := size_of_mem S6.out (by decide)
  go_wp2_with fail
  with_reducible refine (Repeat_w _).mono ?_
  rintro e wr ⟨x, rfl, hx, hr⟩
  have Kr := Lib.hid (K6.out.below hr)
  clear hr
  go_wp2_with fail
  with_reducible refine (One_st (n := n) (p := p) [⟨#[]⟩, ⟨#[111, 110, 101]⟩, ⟨#[97, 32, 32, 98, 32, 99]⟩, ⟨#[32, 120, 32, 121, 32]⟩, x] _ _ _ _ _ Kr.out (by simp) (by simp) (by decide) (by decide) (by simp) (by omega)).mono ?_
  rintro e w7 ⟨s7, hs7, rfl, h7⟩
  have S7 := Lib.hid hs7
  have K7 := Lib.hid h7
  clear hs7 h7
  have Z7 : s7.size ≤ 240 := size_of_mem S7.out (by simp only [List.all_cons, List.all_nil, Bool.and_true, Bool.and_eq_true, decide_eq_true_eq]; exact ⟨by decide, by decide, by decide, by decide, hx⟩)
  go_wp2_with fail
  with_reducible refine (One_st (n := n) (p := p) [⟨#[49]⟩, ⟨#[50, 50]⟩] _ _ _ _ _ K7.out (by simp) (by simp) (by decide) (by decide) (by simp) (by omega)).mono ?_
  rintro e w8 ⟨s8, hs8, rfl, h8⟩
  have S8 := Lib.hid hs8
  have K8 := Lib.hid h8
  clear hs8 h8
  have Z8 : s8.size ≤ 240 := size_of_mem S8.out (by decide)
  go_wp2_with fail
  have Ka := Lib.hid (K8.out.alloc (.cells #[.string ⟨#[115, 105, 122, 101]⟩, .string s8] 56))
  with_reducible refine (One_st (n := n) (p := p) [⟨#[97, 99, 109, 101]⟩, ⟨#[98, 32, 99]⟩] _ _ _ _ _ Ka.out (by simp) (by simp) (by decide) (by decide) (by simp) (by omega)).mono ?_
  rintro e w9 ⟨s9, hs9, rfl, h9⟩
  have S9 := Lib.hid hs9
  have K9 := Lib.hid h9
  clear hs9 h9
  have Z9 : s9.size ≤ 240 := size_of_mem S9.out (by decide)
  go_wp2_with fail
  have Kb := Lib.hid (K9.out.alloc (.cells #[.string ⟨#[115, 105, 122, 101]⟩, .string ⟨#[57, 57]⟩, .string ⟨#[118, 101, 110, 100, 111, 114]⟩, .string s9] 56))
  with_reducible refine (One_st (n := n) (p := p) [⟨#[55]⟩, ⟨#[105, 100]⟩] _ _ _ _ _ Kb.out (by simp) (by simp) (by decide) (by decide) (by simp) (by omega)).mono ?_
  rintro e w10 ⟨s10, hs10, rfl, h10⟩
  have S10 := Lib.hid hs10
  have K10 := Lib.hid h10
  clear hs10 h10
  have Z10 : s10.size ≤ 240 := size_of_mem S10.out (by decide)
  have Kc := Lib.hid (K10.out.alloc (.cells #[.string ⟨#[73, 68]⟩, .string s10] 56))
  have HR := Lib.hid (Kc.out.bls _ (List.mem_cons_of_mem _ (List.mem_cons_of_mem _ (List.mem_cons_of_mem _ List.mem_cons_self)))).1
  have hs8 : w.heap.size < w8.heap.size := blk_lt (K8.out.bls _ List.mem_cons_self).1
  have hs9 : w8.heap.size < w9.heap.size := blk_lt (K9.out.bls _ List.mem_cons_self).1
  have hs10 : w9.heap.size < w10.heap.size := blk_lt (K10.out.bls _ List.mem_cons_self).1
  try dsimp only at hs8 hs9 hs10
  go_wp2_with (refine wpList_store_row rfl 25 _ _ rfl _ _ rfl rfl _ _ HR.out (by exact vals_size) rfl (by simp [Value.oneCell']) ?_)
  have hS := H0.out.size
  refine bodyPost_ret (v := .agg #[.string s1, .string s2, .string s3, .string s4, .string s5, .string s6, .string s7, .slice (some ⟨w8.heap.size, 0, none⟩) 1 1, .slice (some ⟨w9.heap.size, 0, none⟩) 2 2, .slice (some ⟨w10.heap.size, 0, none⟩) 1 1]) (results_cell_row rfl _ _ w.heap.size 25 _ (0, 0) _ rfl (setRow_heap _ _ _ _ _ _ HR.out) Tryz.underlying25 rfl (by exact vals_size)) rfl ?_
  have hV := Kc.out.setRow (bl' := [(w10.heap.size, .cells #[.string ⟨#[73, 68]⟩, .string s10] 56), (w9.heap.size, .cells #[.string ⟨#[115, 105, 122, 101]⟩, .string ⟨#[57, 57]⟩, .string ⟨#[118, 101, 110, 100, 111, 114]⟩, .string s9] 56), (w8.heap.size, .cells #[.string ⟨#[115, 105, 122, 101]⟩, .string s8] 56)]) (c := #[.string s1, .string s2, .string s3, .string s4, .string s5, .string s6, .string s7, .slice (some ⟨w8.heap.size, 0, none⟩) 1 1, .slice (some ⟨w9.heap.size, 0, none⟩) 2 2, .slice (some ⟨w10.heap.size, 0, none⟩) 1 1]) HR.out (by simp) hS (fun x hx => by
    simp only [List.mem_cons, List.not_mem_nil, or_false] at hx
    rcases hx with rfl | rfl | rfl
    · exact ⟨List.mem_cons_self, by dsimp only; omega⟩
    · exact ⟨List.mem_cons_of_mem _ List.mem_cons_self, by dsimp only; omega⟩
    · exact ⟨List.mem_cons_of_mem _ (List.mem_cons_of_mem _ List.mem_cons_self), by dsimp only; omega⟩)
  refine ⟨{ kernel := s1, devpath := s2, id := s3, driver := s4, parent := s5, name := s6, result := s7, attrs := ⟨some ⟨w8.heap.size, 0, none⟩, 1, [⟨⟨#[115, 105, 122, 101]⟩, s8⟩]⟩, above := ⟨some ⟨w9.heap.size, 0, none⟩, 2, [⟨⟨#[115, 105, 122, 101]⟩, ⟨#[57, 57]⟩⟩, ⟨⟨#[118, 101, 110, 100, 111, 114]⟩, s9⟩]⟩, env := ⟨some ⟨w10.heap.size, 0, none⟩, 1, [⟨⟨#[73, 68]⟩, s10⟩]⟩ }, rfl, ⟨?_, ?_, ?_, by simp, by simp, by simp⟩, ⟨Z1, Z2, Z3, Z4, Z5, Z6, Z7, ?_, ?_, ?_⟩, _, hV⟩
  · exact RowAt.of_block (hV.bls _ (List.mem_cons_of_mem _ (List.mem_cons_of_mem _ List.mem_cons_self))).1 rfl rfl
  · exact RowAt.of_block (hV.bls _ (List.mem_cons_of_mem _ List.mem_cons_self)).1 rfl rfl
  · exact RowAt.of_block (hV.bls _ List.mem_cons_self).1 rfl rfl
  · intro x hx
    simp only [List.mem_cons, List.not_mem_nil, or_false] at hx
    subst hx; exact Z8
  · intro x hx
    simp only [List.mem_cons, List.not_mem_nil, or_false] at hx
    rcases hx with rfl | rfl
    · show ByteArray.size ⟨#[57, 57]⟩ ≤ 240; decide
    · exact Z9
  · intro x hx
    simp only [List.mem_cons, List.not_mem_nil, or_false] at hx
    subst hx; exact Z10
end Go.Proofs.YtifbcfpaifobjaaGreatDoor
