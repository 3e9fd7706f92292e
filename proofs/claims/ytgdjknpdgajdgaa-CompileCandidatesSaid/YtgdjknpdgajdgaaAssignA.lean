/-
  Contract of coldplugworld's Assigns where the first number of the tape is 4. (Printed by gen_assigns.py.)
-/
import Derived.Test.YtgdjknpdgajdgaaG01
namespace Go.Proofs.Ytgdjknpdgajdgaa
open Go.RowKit
set_option maxRecDepth 100000 in
set_option maxHeartbeats 16000000 in
theorem Assigns_4 {w0 w : World} {b n p d : Nat} (h : TSt w0 b n p d w) (h3 : p + d ≤ 100000)
    (hF0 : ∀ W1, Below w.heap.size w W1 → Calls Try.prog 13 #[.pointer (some ⟨b, 0, none⟩), .int .i64 14] W1 fun e w' => e = .returned (.int .i64 4) ∧ TNx w0 b n p (d + 1) W1 w') :
    Calls Try.prog 35 #[.pointer (some ⟨b, 0, none⟩)] w (SomeTm 60 (TNx w0 b n p (d + 10) w)) := by
  have hwb : w.heap.size ≠ b := by have := h.lt; have := h.size; omega
  have hws := h.size
  have HF0 := Lib.hid hF0
  clear h hF0
  go_enter Try.func35, Try.ntmps35
  go_wp2_with fail
  with_reducible refine (HF0.out _ (by go_grown)).mono ?_
  rintro e w2 ⟨rfl, hT2⟩
  have HT := Lib.hid hT2
  clear hT2
  have hb2 : b < w2.heap.size := by have := HT.out.st.size; have := HT.out.st.lt; omega
  have hw2c : w2.heap.size + 1 ≠ b := by omega
  have hw2b : w2.heap.size ≠ b := by omega
  obtain ⟨q, q0, q1, hF⟩ := Next_fix 2 HT.out.st (by omega) (by omega) (by omega)
  obtain ⟨j, rfl⟩ := Int.eq_ofNat_of_zero_le q0
  have hj : j < 2 := by omega
  obtain ⟨v, v0, v1, hA⟩ := intCells_at (lo := 3) (hi := 6) (A := #[.int .i64 3, .int .i64 6]) (j := j) (by decide) hj
  have hA3 : ([.int .i64 3, .int .i64 6] : List Value)[j]'hj = .int .i64 v := by
    rw [List.getElem?_toArray, List.getElem?_eq_getElem hj] at hA
    exact Option.some.inj hA
  have HF := Lib.hid hF
  clear hF q0
  go_wp2
  go_region_with (first
    | (go_at_call 13; (with_reducible refine (HF.out _ (by go_grown)).mono ?_); rintro e wN ⟨rfl, hT⟩; have hzN := hT.gr.size; have hzn : w2.heap.size ≤ wN.heap.size := (by (try simp at hzN); omega); (first
        | (have hv := cellOf (j := j) (u := .int .i64 v) (hT.stay _ _ (heap_alloc_new w2 _) hw2b) hA; have hz := blk_lt' (hT.stay _ _ (heap_alloc_new w2 _) hw2b))
        | (have hv := cellOf (j := j) (u := .int .i64 v) (hT.stay _ _ (heap_alloc2_old w2 _ _) hw2b) hA; have hz := blk_lt' (hT.stay _ _ (heap_alloc2_old w2 _ _) hw2b); have HR := Lib.hid (hT.stay _ _ (heap_alloc2_new w2 _ _) hw2c))
        | (have hv := cellOf (j := j) (u := .int .i64 v) (hT.stay _ _ (heap_alloc2_new w2 _ _) hw2c) hA; have hz := blk_lt' (hT.stay _ _ (heap_alloc2_new w2 _ _) hw2c); have HR := Lib.hid (hT.stay _ _ (heap_alloc2_old w2 _ _) hw2b))
        | (have HR := Lib.hid (hT.stay _ _ (heap_alloc_new w2 _) hw2b))
        | skip); have HT := Lib.hid (HT.out.trans (hT.of_below (by go_grown))); clear hT)
    | (go_at_call 14; (with_reducible refine (One_k (n := n) (p := p) 60 _ _ _ _ _ (HT.out.st.below (by go_grown)) (by first | exact heap_alloc_new wN _ | exact heap_alloc2_new wN _ _ | exact heap_alloc2_old wN _ _ | exact HR.out | exact (heap_alloc_old wN _ (blk_lt' HR.out)).trans HR.out) (by decide) (by simp) (by decide) (by decide) (by first | assumption | omega) (by omega)).mono ?_); rintro e wM ⟨s, hs, rfl, hT⟩; (first
        | have hv := (hT.of_below (W := wN) (by go_grown)).gr.cell hv (fun e => by first | exact hw2b (Option.some.inj e) | exact hw2c (Option.some.inj e))
        | have hv := cellOf (j := j) (u := .int .i64 v) (hT.stay _ _ (heap_alloc_new wN _) (by omega)) hA
        | have hv := cellOf (j := j) (u := .int .i64 v) (hT.stay _ _ (heap_alloc2_old wN _ _) (by omega)) hA
        | have hv := cellOf (j := j) (u := .int .i64 v) (hT.stay _ _ (heap_alloc2_new wN _ _) (by omega)) hA
        | skip); have HT := Lib.hid (HT.out.trans (hT.of_below (by go_grown))); clear hT; have hzw := blk_lt' (HT.out.blk (heap_alloc_new w _) hwb); obtain ⟨⟨c0, c1, c2, c3⟩, f0, f1, f2, f3⟩ := res4 (HT.out.blk (heap_alloc_new w _) hwb)))
  all_goals
    go_wp2
    refine bodyPost_ret (v := .agg #[.int .i64 15, .string ⟨#[]⟩, .int .i64 v, .string s]) (by simp [results, Try.results35, go_sem, *]) rfl ?_
    exact ⟨⟨_, _, _, _⟩, ⟨by dsimp only; decide, by dsimp only; assumption, by simp, by simp, by dsimp only; omega, by dsimp only; omega⟩, rfl, by
      repeat (first | exact (TNx.alloc HT.out).more (by omega) | refine TNx.setCellR ?_ (Nat.le_refl _) hws | refine TNx.allocR ?_ | refine TNx.drewR ?_)⟩
end Go.Proofs.Ytgdjknpdgajdgaa
