/-
  Contracts of the reference's Static, Upward, holds and Device of a term.
-/
import Derived.Test.YtgdjknpdgajdgaaG04
import Derived.Test.YtgdjknpdgajdgaaMatchT
import Derived.Test.YtgdjknpdgajdgaaG08
import Derived.Deep.RegionHeld3
namespace Go.Proofs.Ytgdjknpdgajdgaa
open Go.RowKit
theorem rdBDr {w W : World} (h : Below w.heap.size w W) : Below w.heap.size w W.drew := h.drew
set_option maxRecDepth 100000 in
set_option maxHeartbeats 2000000 in
theorem RStatic_any (t : Tm) (w : World) : Calls Try.prog 54 #[tmV t] w fun e w' => e = .returned (.bool (staticB t)) ∧ Below w.heap.size w w' := by
  have hM := RMatch_any t (w.alloc (.cells #[.int .i64 t.key, .string t.name, .int .i64 t.op, .string t.value] 43))
  have HM := Lib.hid hM
  clear hM
  unfold tmV at HM ⊢
  cases hm : matchB t.op with
  | false =>
    rw [hm] at HM
    have HR : Hid (staticB t = false) := Lib.hid (by unfold staticB; rw [hm]; rfl)
    clear hm
    go_enter Try.func54, Try.ntmps54
    go_wp2_with (go_at_call 69; refine HM.out.mono ?_; rintro e w1 ⟨rfl, hb⟩; obtain ⟨c0, c1, c2, c3⟩ := box4 hb)
    go_ret
    exact ⟨ret_bool (by rw [HR.out]), bt (below_alloc _ _) hb⟩
  | true =>
    rw [hm] at HM
    have HR : Hid (staticB t = (t.key == 2 || t.key == 3 || t.key == 4 || t.key == 5)) := Lib.hid (by unfold staticB; rw [hm]; rfl)
    clear hm
    generalize t.key = k at *
    by_cases h2 : k = 2
    · subst h2
      go_enter Try.func54, Try.ntmps54
      go_wp2_with (go_at_call 69; refine HM.out.mono ?_; rintro e w1 ⟨rfl, hb⟩; obtain ⟨c0, c1, c2, c3⟩ := box4 hb)
      go_ret
      exact ⟨ret_bool (by rw [HR.out]; rfl), bt (below_alloc _ _) hb⟩
    have e2 : (k == 2) = false := by simp [h2]
    by_cases h3 : k = 3
    · subst h3
      go_enter Try.func54, Try.ntmps54
      go_wp2_with (go_at_call 69; refine HM.out.mono ?_; rintro e w1 ⟨rfl, hb⟩; obtain ⟨c0, c1, c2, c3⟩ := box4 hb)
      go_ret
      exact ⟨ret_bool (by rw [HR.out]; rfl), bt (below_alloc _ _) hb⟩
    have e3 : (k == 3) = false := by simp [h3]
    by_cases h4 : k = 4
    · subst h4
      go_enter Try.func54, Try.ntmps54
      go_wp2_with (go_at_call 69; refine HM.out.mono ?_; rintro e w1 ⟨rfl, hb⟩; obtain ⟨c0, c1, c2, c3⟩ := box4 hb)
      go_ret
      exact ⟨ret_bool (by rw [HR.out]; rfl), bt (below_alloc _ _) hb⟩
    have e4 : (k == 4) = false := by simp [h4]
    have HR2 : Hid (staticB t = (k == 5)) := Lib.hid (by rw [HR.out, e2, e3, e4]; rfl)
    clear h2 h3 h4
    go_enter Try.func54, Try.ntmps54
    go_wp2_with (go_at_call 69; refine HM.out.mono ?_; rintro e w1 ⟨rfl, hb⟩; obtain ⟨c0, c1, c2, c3⟩ := box4 hb)
    go_ret
    exact ⟨ret_bool (by rw [HR2.out]), bt (below_alloc _ _) hb⟩
set_option maxRecDepth 100000 in
set_option maxHeartbeats 2000000 in
theorem RUpward_any (t : Tm) (w : World) : Calls Try.prog 55 #[tmV t] w fun e w' => e = .returned (.bool (upB t)) ∧ Below w.heap.size w w' := by
  have hM := RMatch_any t (w.alloc (.cells #[.int .i64 t.key, .string t.name, .int .i64 t.op, .string t.value] 43))
  have HM := Lib.hid hM
  clear hM
  unfold tmV at HM ⊢
  cases hm : matchB t.op with
  | false =>
    rw [hm] at HM
    have HR : Hid (upB t = false) := Lib.hid (by unfold upB; rw [hm]; rfl)
    clear hm
    go_enter Try.func55, Try.ntmps55
    go_wp2_with (go_at_call 69; refine HM.out.mono ?_; rintro e w1 ⟨rfl, hb⟩; obtain ⟨c0, c1, c2, c3⟩ := box4 hb)
    go_ret
    exact ⟨ret_bool (by rw [HR.out]), bt (below_alloc _ _) hb⟩
  | true =>
    rw [hm] at HM
    have HR : Hid (upB t = (t.key == 8 || t.key == 9 || t.key == 10 || t.key == 11)) := Lib.hid (by unfold upB; rw [hm]; rfl)
    clear hm
    generalize t.key = k at *
    by_cases h2 : k = 8
    · subst h2
      go_enter Try.func55, Try.ntmps55
      go_wp2_with (go_at_call 69; refine HM.out.mono ?_; rintro e w1 ⟨rfl, hb⟩; obtain ⟨c0, c1, c2, c3⟩ := box4 hb)
      go_ret
      exact ⟨ret_bool (by rw [HR.out]; rfl), bt (below_alloc _ _) hb⟩
    have e2 : (k == 8) = false := by simp [h2]
    by_cases h3 : k = 9
    · subst h3
      go_enter Try.func55, Try.ntmps55
      go_wp2_with (go_at_call 69; refine HM.out.mono ?_; rintro e w1 ⟨rfl, hb⟩; obtain ⟨c0, c1, c2, c3⟩ := box4 hb)
      go_ret
      exact ⟨ret_bool (by rw [HR.out]; rfl), bt (below_alloc _ _) hb⟩
    have e3 : (k == 9) = false := by simp [h3]
    by_cases h4 : k = 10
    · subst h4
      go_enter Try.func55, Try.ntmps55
      go_wp2_with (go_at_call 69; refine HM.out.mono ?_; rintro e w1 ⟨rfl, hb⟩; obtain ⟨c0, c1, c2, c3⟩ := box4 hb)
      go_ret
      exact ⟨ret_bool (by rw [HR.out]; rfl), bt (below_alloc _ _) hb⟩
    have e4 : (k == 10) = false := by simp [h4]
    have HR2 : Hid (upB t = (k == 11)) := Lib.hid (by rw [HR.out, e2, e3, e4]; rfl)
    clear h2 h3 h4
    go_enter Try.func55, Try.ntmps55
    go_wp2_with (go_at_call 69; refine HM.out.mono ?_; rintro e w1 ⟨rfl, hb⟩; obtain ⟨c0, c1, c2, c3⟩ := box4 hb)
    go_ret
    exact ⟨ret_bool (by rw [HR2.out]), bt (below_alloc _ _) hb⟩
set_option maxRecDepth 100000 in
set_option maxHeartbeats 2000000 in
theorem RHolds_any (t : Tm) (v : ByteArray) (w : World) (hp : t.value.size ≤ 4611686018427387904) (hv : v.size ≤ 4611686018427387904) : Calls Try.prog 56 #[tmV t, .string v] w fun e w' => e = .returned (.bool (holdsB t v)) ∧ Below w.heap.size w w' := by
  have HM := Lib.hid (fun W => RGMatch_any t.value v W hp hv)
  have HR : Hid (holdsB t v = (globM (L t.value) (L v) == (t.op == 1))) := Lib.hid rfl
  unfold tmV
  generalize globM (L t.value) (L v) = b at *
  obtain ⟨w1, hw1⟩ : ∃ w1, (w.alloc (.cells #[.int .i64 t.key, .string t.name, .int .i64 t.op, .string t.value] 43)) = w1 := ⟨_, rfl⟩
  have HSx : Hid (∀ W, Below w1.heap.size w1 W → W.cell? ⟨w.heap.size, 2, none⟩ = some (.int .i64 t.op) ∧ W.cell? ⟨w.heap.size, 3, none⟩ = some (.string t.value)) := Lib.hid fun W hW => by
    rw [← hw1] at hW
    obtain ⟨_, _, c2, c3⟩ := box4 hW
    exact ⟨c2, c3⟩
  have HB1 : Hid (Below w.heap.size w w1) := Lib.hid (by rw [← hw1]; exact below_alloc _ _)
  have HW1 := Lib.hid hw1
  clear hw1
  go_enter Try.func56, Try.ntmps56
  go_upto_region 1 with fail
  rw [HW1.out]
  obtain ⟨c2, c3⟩ := HSx.out w1 (Below.refl _ _)
  go_region_held3 (fun W' => W'.cell? ⟨w.heap.size, 2, none⟩ = some (.int .i64 t.op) ∧ W'.cell? ⟨w.heap.size, 3, none⟩ = some (.string t.value)) ((refine HSx.out _ ?_; first | exact rdBDr (Below.refl _ _) | exact hB2)) ((go_at_call 70; refine (HM.out _).mono ?_; rintro e w2 ⟨rfl, hb2⟩; (have hB2 : Below w1.heap.size w1 w2 := bt (rdBDr (Below.refl _ _)) hb2)))
  all_goals
    go_wp2
    go_ret
    exact ⟨ret_bool (by rw [HR.out]), bt HB1.out hB2⟩
end Go.Proofs.Ytgdjknpdgajdgaa
