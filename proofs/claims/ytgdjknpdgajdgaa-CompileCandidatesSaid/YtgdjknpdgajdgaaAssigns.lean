/-
  Contract of coldplugworld's Assigns: some short term. (Printed by gen_assigns.py.)
-/
import Derived.Test.YtgdjknpdgajdgaaAssignA
import Derived.Test.YtgdjknpdgajdgaaAssignB
import Derived.Test.YtgdjknpdgajdgaaAssignC
namespace Go.Proofs.Ytgdjknpdgajdgaa
open Go.RowKit
set_option maxRecDepth 100000 in
set_option maxHeartbeats 8000000 in
theorem Assigns_any {w0 w : World} {b n p d : Nat} (h : TSt w0 b n p d w) (h3 : p + d ≤ 100000) :
    Calls Try.prog 35 #[.pointer (some ⟨b, 0, none⟩)] w (SomeTm 60 (TNx w0 b n p (d + 10) w)) := by
  obtain ⟨r, r0, r1, hF0⟩ := Next_fix 14 h (by omega) (by omega) (by omega)
  have hr : r = 4 ∨ r = 9 ∨ r = 10 ∨ r = 0 ∨ r = 1 ∨ r = 2 ∨ r = 3 ∨ r = 5 ∨ r = 6 ∨ r = 7 ∨ r = 8 ∨ r = 11 ∨ r = 12 ∨ r = 13 := by omega
  clear r0 r1
  rcases hr with rfl | rfl | rfl | hr
  · exact Assigns_4 h h3 hF0
  · exact Assigns_9 h h3 hF0
  · exact Assigns_10 h h3 hF0
  have hwb : w.heap.size ≠ b := by have := h.lt; have := h.size; omega
  have hws := h.size
  have HF0 := Lib.hid hF0
  clear h hF0
  rcases hr with rfl | rfl | rfl | rfl | rfl | rfl | rfl | rfl | rfl | rfl | rfl
  all_goals
    go_enter Try.func35, Try.ntmps35
    go_wp2_with fail
    with_reducible refine (HF0.out _ (by go_grown)).mono ?_
    rintro e w2 ⟨rfl, hT2⟩
    have HT := Lib.hid hT2
    clear hT2
    go_wp2_with (first | (go_at_call 13; (with_reducible refine (Next_t (n := n) (p := p) _ HT.out.st (by omega) (by omega) (by omega)).mono ?_); rintro e wN ⟨q, q0, q1, rfl, hT⟩; have HT := Lib.hid (HT.out.trans hT); clear hT) | (go_at_call 14; (with_reducible refine (One_b (n := n) (p := p) 60 _ _ _ _ _ HT.out.st (by decide) (by simp) (by decide) (by decide) (by simp) (by omega)).mono ?_); rintro e wN ⟨s, hs, rfl, hT⟩; have HT := Lib.hid (HT.out.trans hT); clear hT) | (refine wpList_store_row rfl 43 _ _ rfl _ _ rfl rfl _ _ (HT.out.blk (heap_alloc_new w _) hwb) (by exact term_size) rfl (by simp [Value.oneCell']) ?_))
  all_goals
    refine post_cellrow rfl (by rfl) (HT.out.blk (heap_alloc_new w _) hwb) Try.underlying43 rfl (by exact term_size) (by rfl) ?_
    exact ⟨⟨_, _, _, _⟩, ⟨by dsimp only; first | assumption | decide, by dsimp only; first | assumption | decide, by first | (simp; done) | (dsimp only; omega), by first | (simp; done) | (dsimp only; omega), by first | (simp; done) | (dsimp only; omega), by first | (simp; done) | (dsimp only; omega)⟩, rfl, ((TNx.alloc HT.out).more (by omega)).setRow (Nat.le_refl _) hws _⟩
end Go.Proofs.Ytgdjknpdgajdgaa
