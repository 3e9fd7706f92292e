/-
  Contract of the reference's right: is the value of a term right.
-/
import Derived.Test.YthcgkeiggnfgiaaGreatDoorG27
namespace Go.Proofs.YthcgkeiggnfgiaaGreatDoor
open Go.RowKit
theorem right14b (v : Str) (p : Bool) (h : (v == pathL || v == contentL || v == netL) = p) (op : Int) : rightB 14 op builtinL v = p := by rw [← h]; rfl
set_option maxRecDepth 100000 in
set_option maxHeartbeats 8000000 in
theorem RRight_any (t : Tm) (w : World) (hE : Env0 w) (hn : t.name.size ≤ 9223372036854775807) (hv : t.value.size ≤ 9223372036854775807) :
    Calls Tryz.prog 68 #[tmV t] w fun e w' => e = .returned (.bool (rightB t.key t.op (L t.name) (L t.value))) ∧ Below w.heap.size w w' := by
  have HM := fun W => RMatch_any t W
  obtain ⟨k, nm, op, v⟩ := t
  unfold tmV at HM ⊢
  dsimp only at hn hv HM ⊢
  have hbox : ∀ W', Below (w.heap.size + 1) (w.alloc (.cells #[.int .i64 k, .string nm, .int .i64 op, .string v] 49)) W' → Below w.heap.size w W' := fun W' h => ((Below.refl _ _).alloc (Nat.le_refl _) _).trans (h.mono (by omega))
  have HBx := Lib.hid hbox
  have HE := Lib.hid (hE.go (below_alloc w (.cells #[.int .i64 k, .string nm, .int .i64 op, .string v] 49)))
  clear hbox hE
  by_cases h22 : k = 22
  · subst h22
    have HR : Hid (rightB 22 op (L nm) (L v) = priS (L v)) := Lib.hid rfl
    have HP := Lib.hid (RPriority_any v _ HE.out hv)
    clear HM
    go_enter Tryz.func68, Tryz.ntmps68
    go_wp2_with (go_at_call 27; refine HP.out.mono ?_; rintro e w1 ⟨n, rfl, hb⟩)
    go_ret
    exact ⟨ret_bool (by rw [HR.out]), HBx.out _ (by simpa using hb)⟩
  by_cases h23 : k = 23 ∨ k = 24
  · have HR : Hid (rightB k op (L nm) (L v) = validS (L v)) := Lib.hid (by rw [rightB, if_neg h22, if_pos h23])
    have HV := Lib.hid (fun W => RValid_any v W hv)
    clear HM h22
    rcases h23 with rfl | rfl
    all_goals
      go_enter Tryz.func68, Tryz.ntmps68
      go_wp2_with (go_at_call 58; refine (HV.out _).mono ?_; rintro e w1 ⟨rfl, rfl⟩)
      go_ret
      exact ⟨ret_bool (by rw [HR.out]), by go_grown⟩
  have n22 : (k == 22) = false := by simp [h22]
  have n23 : (k == 23) = false := by simp only [not_or] at h23; simp [h23]
  have n24 : (k == 24) = false := by simp only [not_or] at h23; simp [h23]
  have HT := Lib.hid (RTCheck_any v _ HE.out hv)
  have HG := Lib.hid (RGCheck_any v (w.alloc (.cells #[.int .i64 k, .string nm, .int .i64 op, .string v] 49)) hv)
  by_cases h14 : k = 14
  · subst h14
    clear h22 h23 n22 n23 n24 HM
    by_cases hb1 : nm.toList = builtinL
    · rw [show L nm = builtinL from by rw [← tl]; exact hb1]
      clear HT HG
      by_cases e1 : v.toList = pathL
      · have HR : Hid (rightB 14 op builtinL (L v) = true) := Lib.hid (right14b _ _ (by rw [← tl, e1]; rfl) op)
        unfold pathL at e1
        unfold builtinL at hb1
        go_enter Tryz.func68, Tryz.ntmps68
        go_wp2
        go_ret
        exact ⟨ret_bool (by rw [HR.out]), by go_grown⟩
      · by_cases e2 : v.toList = contentL
        · have HR : Hid (rightB 14 op builtinL (L v) = true) := Lib.hid (right14b _ _ (by rw [← tl, e2]; rfl) op)
          unfold contentL at e2
          unfold pathL at e1
          unfold builtinL at hb1
          go_enter Tryz.func68, Tryz.ntmps68
          go_wp2
          go_ret
          exact ⟨ret_bool (by rw [HR.out]), by go_grown⟩
        · have HR : Hid (rightB 14 op builtinL (L v) = (v.toList == netL)) := Lib.hid (right14b _ _ (by rw [← tl]; simp [e1, e2]) op)
          unfold contentL at e2
          unfold pathL at e1
          unfold builtinL at hb1
          go_enter Tryz.func68, Tryz.ntmps68
          go_wp2
          go_ret
          exact ⟨ret_bool (by rw [HR.out]; simp [netL, e1, e2]), by go_grown⟩
    · by_cases hp1 : nm.toList = programL
      · have HR : Hid (rightB 14 op (L nm) (L v) = ((parseR (L v)).2 == 0)) := Lib.hid (by rw [← tl nm, hp1]; rfl)
        generalize (parseR (L v)).2 = cc at *
        have f1 : (nm.toList == [98, 117, 105, 108, 116, 105, 110]) = false := by rw [hp1]; decide
        have f2 : (nm.toList == [112, 114, 111, 103, 114, 97, 109]) = true := by rw [hp1]; decide
        have f3 : ¬ nm.toList = [98, 117, 105, 108, 116, 105, 110] := by rw [hp1]; decide
        have HP1 := Lib.hid hp1
        clear hp1 hb1
        go_enter Tryz.func68, Tryz.ntmps68
        go_wp2_with (go_at_call 108; refine HT.out.mono ?_; rintro e w1 ⟨rfl, hb⟩)
        go_ret
        exact ⟨ret_bool (by rw [HR.out]), HBx.out _ (by simpa using hb)⟩
      · have HR : Hid (rightB 14 op (L nm) (L v) = (globE (L v) == 0)) := Lib.hid (by
          have h1 : L nm ≠ builtinL := by rw [← tl]; exact hb1
          have h2 : L nm ≠ programL := by rw [← tl]; exact hp1
          rw [rightB, if_neg (by decide), if_neg (by decide), if_pos rfl, if_neg h1, if_neg h2]; rfl)
        generalize globE (L v) = cc at *
        have f1 : (nm.toList == [98, 117, 105, 108, 116, 105, 110]) = false := by simpa [builtinL] using hb1
        have f2 : (nm.toList == [112, 114, 111, 103, 114, 97, 109]) = false := by simpa [programL] using hp1
        clear hb1 hp1
        go_enter Tryz.func68, Tryz.ntmps68
        go_wp2_with (go_at_call 109; refine HG.out.mono ?_; rintro e w1 ⟨rfl, hb⟩)
        go_ret
        exact ⟨ret_bool (by rw [HR.out]), HBx.out _ (by simpa using hb)⟩
  have n14 : (k == 14) = false := by simp [h14]
  clear HT HG
  have HT := Lib.hid (fun W (hW : Env0 W) => RTCheck_any v W hW hv)
  have HG := Lib.hid (fun W => RGCheck_any v W hv)
  have HM := Lib.hid HM
  have hrest : rightB k op (L nm) (L v) = if matchB op = true ∧ k ≠ 12 then patB (L v) else tmplB (L v) := by
    rw [rightB, if_neg h22, if_neg h23, if_neg h14]
  by_cases hmk : matchB op = true ∧ k ≠ 12
  · have HR : Hid (rightB k op (L nm) (L v) = (globE (L v) == 0)) := Lib.hid (by rw [hrest, if_pos hmk]; rfl)
    have n12 : (k == 12) = false := by simp [hmk.2]
    have m12 : (k != 12) = true := by simp [hmk.2]
    have hmo := hmk.1
    generalize globE (L v) = cc at *
    generalize matchB op = mo at *
    subst hmo
    clear hrest h22 h23 h14 hmk
    go_enter Tryz.func68, Tryz.ntmps68
    go_wp2_with (first | (go_at_call 33; refine (HM.out _).mono ?_; rintro e w1 ⟨rfl, hb⟩; obtain ⟨c0, c1, c2, c3⟩ := box4 hb) | (go_at_call 109; refine (HG.out _).mono ?_; rintro e w2 ⟨rfl, hb2⟩))
    go_ret
    exact ⟨ret_bool (by rw [HR.out]), HBx.out _ (by simpa using bt hb hb2)⟩
  · have HR : Hid (rightB k op (L nm) (L v) = ((parseR (L v)).2 == 0)) := Lib.hid (by rw [hrest, if_neg hmk]; rfl)
    generalize (parseR (L v)).2 = cc at *
    by_cases hmo : matchB op = true
    · have hk : k = 12 := by
        by_cases h : k = 12
        · exact h
        · exact absurd ⟨hmo, h⟩ hmk
      subst hk
      generalize matchB op = mo at *
      subst hmo
      clear hrest h22 h23 h14 hmk n22 n23 n24 n14
      go_enter Tryz.func68, Tryz.ntmps68
      go_wp2_with (first | (go_at_call 33; refine (HM.out _).mono ?_; rintro e w1 ⟨rfl, hb⟩; obtain ⟨c0, c1, c2, c3⟩ := box4 hb) | (go_at_call 108; refine (HT.out _ (HE.out.go hb)).mono ?_; rintro e w2 ⟨rfl, hb2⟩))
      go_ret
      exact ⟨ret_bool (by rw [HR.out]), HBx.out _ (by simpa using bt hb hb2)⟩
    · have hmo : matchB op = false := by simpa using hmo
      generalize matchB op = mo at *
      subst hmo
      clear hrest h22 h23 h14 hmk
      go_enter Tryz.func68, Tryz.ntmps68
      go_wp2_with (first | (go_at_call 33; refine (HM.out _).mono ?_; rintro e w1 ⟨rfl, hb⟩; obtain ⟨c0, c1, c2, c3⟩ := box4 hb) | (go_at_call 108; refine (HT.out _ (HE.out.go hb)).mono ?_; rintro e w2 ⟨rfl, hb2⟩))
      go_ret
      exact ⟨ret_bool (by rw [HR.out]), HBx.out _ (by simpa using bt hb hb2)⟩
end Go.Proofs.YthcgkeiggnfgiaaGreatDoor
