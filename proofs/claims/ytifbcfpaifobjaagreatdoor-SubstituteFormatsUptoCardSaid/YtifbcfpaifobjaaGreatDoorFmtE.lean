/-
  The reference's tail at pieces that a parse can give.
-/
import Derived.Test.YtifbcfpaifobjaaGreatDoorFmtB
namespace Go.Proofs.YtifbcfpaifobjaaGreatDoor
open Go.RowKit Go.Lib
set_option maxRecDepth 100000 in
theorem Rtail_bra (tx : ByteArray) (kd : Int) (w : World) (hk : kd = 7 ∨ kd = 8) (ht : tx.size ≤ 100000000) (hn : L tx ≠ []) :
    Calls Tryz.prog 52 #[encP ⟨kd, tx, 0, false⟩] w (ValPost (bs (inBracesS ⟨kd, tx, 0, false⟩)) w) := by
  rw [in_text kd tx 0 false (by decide) (fun h => hn h.1)]
  unfold encP
  dsimp only
  have HB := Lib.hid (below_alloc w (.cells #[.int .i64 kd, .string tx, .int .i64 0, .bool false] 64))
  clear hn
  rcases hk with rfl | rfl
  · go_enter Tryz.func52, Tryz.ntmps52
    go_wp2
    go_ret
    exact ⟨rfl, HB.out⟩
  · go_enter Tryz.func52, Tryz.ntmps52
    go_wp2
    go_ret
    exact ⟨rfl, HB.out⟩
set_option maxRecDepth 100000 in
theorem Rtail_word (tx : ByteArray) (m : Nat) (mo : Bool) (w : World) (h0 : 0 < m) (h1 : m < 100) :
    Calls Tryz.prog 52 #[encP ⟨9, tx, m, mo⟩] w (ValPost (bs (inBracesS ⟨9, tx, m, mo⟩)) w) := by
  have HI := fun W => itoa_small m h1 W
  have hd := digits_at h1
  have hl : (bs (Lib.decDigits m)).size ≤ 10 := by rw [size_bs]; exact hd.2
  rw [in_word 9 tx m mo (by omega) hd.1]
  unfold encP
  dsimp only
  have HB := Lib.hid (below_alloc w (.cells #[.int .i64 9, .string tx, .int .i64 m, .bool mo] 64))
  clear hd
  generalize bs (Lib.decDigits m) = ds at *
  cases mo with
  | true =>
    have he : (⟨#[123]⟩ ++ ds) ++ ⟨#[43, 125]⟩ = ⟨#[123]⟩ ++ (ds ++ ⟨#[43]⟩) ++ (⟨#[125]⟩ : ByteArray) := L_inj (by simp only [L_append, List.append_assoc]; rfl)
    rw [if_pos rfl, ← he]
    clear he
    go_enter Tryz.func52, Tryz.ntmps52
    go_wp2_with (go_at_call 94; refine (HI _).mono ?_; rintro e w' ⟨rfl, rfl⟩)
    go_ret
    exact ⟨rfl, HB.out⟩
  | false =>
    rw [if_neg (by decide)]
    go_enter Tryz.func52, Tryz.ntmps52
    go_wp2_with (go_at_call 94; refine (HI _).mono ?_; rintro e w' ⟨rfl, rfl⟩)
    go_ret
    exact ⟨rfl, HB.out⟩
set_option maxRecDepth 100000 in
theorem Rtail_none (tx : ByteArray) (kd : Int) (w : World) (h7 : kd ≠ 7) (h8 : kd ≠ 8) (hn : L tx = []) :
    Calls Tryz.prog 52 #[encP ⟨kd, tx, 0, false⟩] w (ValPost (bs (inBracesS ⟨kd, tx, 0, false⟩)) w) := by
  rw [in_none kd tx 0 (by decide) hn]
  unfold encP
  dsimp only
  have HB := Lib.hid (below_alloc w (.cells #[.int .i64 kd, .string tx, .int .i64 0, .bool false] 64))
  have k7 : (kd == 7) = false := by simpa using h7
  have k8 : (kd == 8) = false := by simpa using h8
  clear hn
  by_cases h9 : kd = 9
  · subst h9
    go_enter Tryz.func52, Tryz.ntmps52
    go_wp2
    go_ret
    exact ⟨rfl, HB.out⟩
  · have k9 : (kd == 9) = false := by simpa using h9
    go_enter Tryz.func52, Tryz.ntmps52
    go_wp2
    go_ret
    exact ⟨rfl, HB.out⟩
end Go.Proofs.YtifbcfpaifobjaaGreatDoor
