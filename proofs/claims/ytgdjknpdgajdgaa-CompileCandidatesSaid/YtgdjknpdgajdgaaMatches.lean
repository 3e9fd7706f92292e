/-
  Contract of coldplugworld's Matches: some short term.
-/
import Derived.Test.YtgdjknpdgajdgaaG01
namespace Go.Proofs.Ytgdjknpdgajdgaa
open Go.RowKit
set_option maxRecDepth 100000 in
set_option maxHeartbeats 8000000 in
theorem Matches_any {w0 w : World} {b n p d : Nat} (h : TSt w0 b n p d w) (h3 : p + d ≤ 100000) :
    Calls Try.prog 34 #[.pointer (some ⟨b, 0, none⟩)] w (SomeTm 60 (TNx w0 b n p (d + 10) w)) := by
  have hwb : w.heap.size ≠ b := by have := h.lt; have := h.size; omega
  have hws := h.size
  have H := Lib.hid h
  clear h
  go_enter Try.func34, Try.ntmps34
  go_wp2_with fail
  with_reducible refine (Next_t (n := n) (p := p) _ (H.out.alloc _) (by omega) (by omega) (by omega)).mono ?_
  rintro e w1 ⟨r, r0, r1, rfl, hT1⟩
  have H1 := Lib.hid hT1
  clear hT1
  go_upto_if 6 with fail
  go_cut [3] from 4 to 6 (fun s3 wx => ∃ o : Int, s3 = .int .i64 o ∧ 1 ≤ o ∧ o ≤ 2 ∧ w1 = wx)
  case first =>
    go_wp2
    · go_meet
      exact ⟨2, rfl, by omega, by omega, rfl⟩
    · go_meet
      exact ⟨1, rfl, by omega, by omega, rfl⟩
  case rest =>
  obtain ⟨o, rfl, ho1, ho2, rfl⟩ := hcut
  clear r0 r1
  go_wp2_with fail
  with_reducible refine (Next_t (n := n) (p := p) _ H1.out.st (by omega) (by omega) (by omega)).mono ?_
  rintro e w2 ⟨r2, r0, r1, rfl, hT2⟩
  have HT := Lib.hid (H1.out.trans hT2)
  clear hT2
  have hr : r2 = 0 ∨ r2 = 1 ∨ r2 = 2 ∨ r2 = 3 ∨ r2 = 4 ∨ r2 = 5 ∨ r2 = 6 ∨ r2 = 7 ∨ r2 = 8 ∨ r2 = 9 ∨ r2 = 10 ∨ r2 = 11 ∨ r2 = 12 ∨ r2 = 13 ∨ r2 = 14 ∨ r2 = 15 := by omega
  clear r0 r1
  rcases hr with rfl | rfl | rfl | rfl | rfl | rfl | rfl | rfl | rfl | rfl | rfl | rfl | rfl | rfl | rfl | rfl
  all_goals
    go_wp2_with (first | (go_at_call 13; (with_reducible refine (Next_t (n := n) (p := p) _ HT.out.st (by omega) (by omega) (by omega)).mono ?_); rintro e wN ⟨q, q0, q1, rfl, hT⟩; have HT := Lib.hid (HT.out.trans hT); clear hT) | (go_at_call 14; (with_reducible refine (One_b (n := n) (p := p) 60 _ _ _ _ _ HT.out.st (by decide) (by simp) (by decide) (by decide) (by simp) (by omega)).mono ?_); rintro e wN ⟨s, hs, rfl, hT⟩; have HT := Lib.hid (HT.out.trans hT); clear hT) | (refine wpList_store_row rfl 43 _ _ rfl _ _ rfl rfl _ _ (HT.out.blk (heap_alloc_new w _) hwb) (by exact term_size) rfl (by simp [Value.oneCell']) ?_))
  all_goals
    refine post_cellrow rfl (by rfl) (HT.out.blk (heap_alloc_new w _) hwb) Try.underlying43 rfl (by exact term_size) (by rfl) ?_
    exact ⟨⟨_, _, _, _⟩, ⟨by dsimp only; first | assumption | decide, by dsimp only; first | assumption | decide, by simp, by simp, by first | (simp; done) | (dsimp only; omega), by first | (simp; done) | (dsimp only; omega)⟩, rfl, ((TNx.alloc HT.out).more (by omega)).setRow (Nat.le_refl _) hws _⟩
end Go.Proofs.Ytgdjknpdgajdgaa
