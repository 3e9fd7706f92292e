/-
  The reference's Cut and Expand. (Printed by gen_rexp.py.)
-/
import Derived.Test.YtifbcfpaifobjaaGreatDoorRefU
import Derived.Test.YtifbcfpaifobjaaGreatDoorRefR
namespace Go.Proofs.YtifbcfpaifobjaaGreatDoor
open Go.RowKit
theorem RCut_any (s : ByteArray) (w : World) (hs : s.size ≤ 9223372036854775807) :
    Calls Tryz.prog 55 #[.string s] w fun e w' => e = .returned (.string (s.extract 0 256)) ∧ w = w' := by
  by_cases h : 256 < s.size
  · go_enter Tryz.func55, Tryz.ntmps55
    go_wp2
    go_ret
    exact ⟨rfl, rfl⟩
  · have he : s.extract 0 256 = s := by
      refine L_inj ?_
      rw [L_extract, List.drop_zero, List.take_of_length_le (by rw [len_L]; omega)]
    rw [he]
    clear he
    go_enter Tryz.func55, Tryz.ntmps55
    go_wp2
    go_ret
    exact ⟨rfl, rfl⟩
set_option maxRecDepth 100000 in
set_option maxHeartbeats 4000000 in
theorem RExpand_any (s : ByteArray) (v : Vs) (w : World) (hE : Env w) (hs : s.size ≤ 9223372036854775807) (hI : VsIn w w.heap.size v) (hres : v.result.size ≤ 4000000) (hker : v.kernel.size ≤ 9223372036854775807)
    (hM : ∀ q ∈ (parseR (L s)).1, (valueS q v).size ≤ 100000000) :
    Calls Tryz.prog 26 #[.string s, encVs v] w (ExpPost (expandS (L s) v) w) := by
  have HP := fun W (hW : Below w.heap.size w W) => RParse_any s W (hE.go hW) hs
  unfold encVs Lst.v
  by_cases h0 : (parseR (L s)).2 = 0
  · have hx : expandS (L s) v = ((outS (parseR (L s)).1 v).extract 0 256, 0) := by rw [expandS, if_pos h0]
    rw [hx]
    have hwf := wf_parseR (L s)
    have hfit := fits_parseR (L s)
    have HP' : ∀ W, Below w.heap.size w W → Calls Tryz.prog 17 #[.string s] W fun e w' => ∃ v, e = .returned (.tuple #[v, .int .i64 0]) ∧ w'.ownsRow W.heap.size 64 4 v (parseR (L s)).1.length (cellsOf encPc (parseR (L s)).1) ∧ Below W.heap.size W w' := fun W hW => (HP W hW).mono fun e w' h => by
      obtain ⟨v, h1, h2, h3⟩ := h
      exact ⟨v, by rw [← h0]; exact h1, h2, h3⟩
    generalize (parseR (L s)).1 = ps at *
    have hb := (Below.refl w.heap.size w).alloc (Nat.le_refl _) (.cells #[.string v.kernel, .string v.devpath, .string v.id, .string v.driver, .string v.parent, .string v.name, .string v.result, .slice v.attrs.A v.attrs.l.length v.attrs.c, .slice v.above.A v.above.l.length v.above.c, .slice v.env.A v.env.l.length v.env.c] 25)
    have HP2 := HP' _ hb
    have Hb := Lib.hid hb
    have HE := Lib.hid hE
    have HI := Lib.hid hI
    have HM := Lib.hid hM
    have HWf := Lib.hid hwf
    have Hfit := Lib.hid hfit
    clear HP' hb hx HP hM hI hE h0 hwf hfit
    have hv0 := heap_alloc_new w (.cells #[.string v.kernel, .string v.devpath, .string v.id, .string v.driver, .string v.parent, .string v.name, .string v.result, .slice v.attrs.A v.attrs.l.length v.attrs.c, .slice v.above.A v.above.l.length v.above.c, .slice v.env.A v.env.l.length v.env.c] 25)
    have Hv0 := Lib.hid hv0
    clear hv0
    go_enter Tryz.func26, Tryz.ntmps26
    go_wp2_with (go_at_call 17; refine HP2.mono ?_; rintro e W4 ⟨r, rfl, ho, hb2⟩; obtain ⟨A, c, rfl⟩ := own_slice ho; have HO := Lib.hid ho; have HB2 := Lib.hid hb2; clear ho hb2)
    have hwB : w.heap.size < W4.heap.size := by have h1 := HB2.out.size; simp at h1; omega
    have hvb : W4.heap[w.heap.size]? = some (.cells #[.string v.kernel, .string v.devpath, .string v.id, .string v.driver, .string v.parent, .string v.name, .string v.result, .slice v.attrs.A v.attrs.l.length v.attrs.c, .slice v.above.A v.above.l.length v.above.c, .slice v.env.A v.env.l.length v.env.c] 25 (0, 0)) := by
      rw [HB2.out.block _ (by simp)]
      exact Hv0.out
    have hB4 : Below w.heap.size w W4 := Hb.out.trans (HB2.out.mono (by simp))
    have hrow := RowAt.of_own HO.out
    have HRow := Lib.hid hrow
    have v0 : ∀ i, W4.cell? ⟨w.heap.size, i, none⟩ = #[.string v.kernel, .string v.devpath, .string v.id, .string v.driver, .string v.parent, .string v.name, .string v.result, .slice v.attrs.A v.attrs.l.length v.attrs.c, .slice v.above.A v.above.l.length v.above.c, .slice v.env.A v.env.l.length v.env.c][i]? := fun i => cell_of_row _ _ i _ _ _ hvb
    have HV0 := Lib.hid v0
    have HB4 := Lib.hid hB4
    clear hvb hB4 hrow v0 HP2 HO HB2 Hv0 Hb
    have hn : ps.length ≤ 256 := by have := Hfit.out.1; omega
    generalize hN : ps.length = N at *
    have HN := Lib.hid hN
    clear hN
    go_loopg [8, 9] N (fun gk o i wr => ∃ k : Nat, k + gk = N ∧ i = .int .i64 k ∧ o = .string (outS (ps.take k) v) ∧ Hid (Below W4.heap.size W4 wr))
    case atStart => exact ⟨0, by omega, rfl, rfl, Below.refl _ _⟩
    case round =>
      obtain ⟨k, hk, rfl, rfl, hbr⟩ := hrel
      by_cases hlt : k < N
      · have hlt' : k < ps.length := by rw [HN.out]; exact hlt
        have hrow := HRow.out
        rw [← HN.out] at hrow
        obtain ⟨ba, off, hA, hbaw, hcc⟩ := hrow.cell encPc_len hlt'
        obtain ⟨x, hx⟩ : ∃ x, ps[k]? = some x := ⟨_, List.getElem?_eq_getElem hlt'⟩
        have hmem : x ∈ ps := List.mem_of_getElem? hx
        have p0 : W4.cell? ⟨ba, off + k * 4, none⟩ = some (.int .i64 x.kind) := hcc k x hx 0 _ rfl
        have p1 : W4.cell? ⟨ba, off + k * 4 + 1, none⟩ = some (.string x.text) := hcc k x hx 1 _ rfl
        have p2 : W4.cell? ⟨ba, off + k * 4 + 2, none⟩ = some (.int .i64 x.word) := hcc k x hx 2 _ rfl
        have p3 : W4.cell? ⟨ba, off + k * 4 + 3, none⟩ = some (.bool x.more) := hcc k x hx 3 _ rfl
        have hos : (outS (ps.take k) v).size ≤ 25600000000 := by
          have h1 := outS_size v 100000000 (ps.take k) ⟨#[]⟩ (fun q hq => HM.out q (List.mem_of_mem_take hq))
          have h2 : (ps.take k).length ≤ 256 := by rw [List.length_take]; omega
          have h3 := Nat.mul_le_mul_right 100000000 h2
          have h4 : (⟨#[]⟩ : ByteArray).size = 0 := rfl
          show (List.foldl (fun a p => a ++ valueS p v) ⟨#[]⟩ (ps.take k)).size ≤ _
          omega
        have hsnoc : outS (ps.take (k + 1)) v = outS (ps.take k) v ++ valueS x v := by
          rw [← outS_snoc]
          congr 1
          rw [List.take_add_one, hx]; rfl
        have HSn := Lib.hid hsnoc
        clear hsnoc
        generalize outS (ps.take k) v = ot at *
        subst hA
        have hxm := HM.out x hmem
        have hwf := HWf.out x hmem
        have hB5 : Below w.heap.size w wr := HB4.out.trans (hbr.out.mono (Nat.le_of_lt hwB))
        have hcall := fun W (hW : Below wr.heap.size wr W) => RValue_any x v W hwf (HE.out.go (hB5.trans (hW.mono hB5.size))) ((HI.out.keep (hB5.trans (hW.mono hB5.size))).more (hB5.trans (hW.mono hB5.size)).size) hker hres
        clear hrow hcc hx hmem hlt' hB5 hwf
        obtain ⟨kd, tx, wd, mo⟩ := x
        unfold encP encVs Lst.v at hcall
        generalize valueS ⟨kd, tx, wd, mo⟩ v = val at *
        dsimp only at hcall p0 p1 p2 p3
        have v0 : W4.cell? ⟨w.heap.size, 0, none⟩ = some (.string v.kernel) := HV0.out 0
        have v1 : W4.cell? ⟨w.heap.size, 1, none⟩ = some (.string v.devpath) := HV0.out 1
        have v2 : W4.cell? ⟨w.heap.size, 2, none⟩ = some (.string v.id) := HV0.out 2
        have v3 : W4.cell? ⟨w.heap.size, 3, none⟩ = some (.string v.driver) := HV0.out 3
        have v4 : W4.cell? ⟨w.heap.size, 4, none⟩ = some (.string v.parent) := HV0.out 4
        have v5 : W4.cell? ⟨w.heap.size, 5, none⟩ = some (.string v.name) := HV0.out 5
        have v6 : W4.cell? ⟨w.heap.size, 6, none⟩ = some (.string v.result) := HV0.out 6
        have v7 : W4.cell? ⟨w.heap.size, 7, none⟩ = some (.slice v.attrs.A v.attrs.l.length v.attrs.c) := HV0.out 7
        have v8 : W4.cell? ⟨w.heap.size, 8, none⟩ = some (.slice v.above.A v.above.l.length v.above.c) := HV0.out 8
        have v9 : W4.cell? ⟨w.heap.size, 9, none⟩ = some (.slice v.env.A v.env.l.length v.env.c) := HV0.out 9
        have hS : ∀ W', Below W4.heap.size W4 W' → (W'.cell? ⟨ba, off + k * 4, none⟩ = some (.int .i64 kd) ∧ W'.cell? ⟨ba, off + k * 4 + 1, none⟩ = some (.string tx) ∧ W'.cell? ⟨ba, off + k * 4 + 2, none⟩ = some (.int .i64 wd) ∧ W'.cell? ⟨ba, off + k * 4 + 3, none⟩ = some (.bool mo) ∧ W'.cell? ⟨w.heap.size, 0, none⟩ = some (.string v.kernel) ∧ W'.cell? ⟨w.heap.size, 1, none⟩ = some (.string v.devpath) ∧ W'.cell? ⟨w.heap.size, 2, none⟩ = some (.string v.id) ∧ W'.cell? ⟨w.heap.size, 3, none⟩ = some (.string v.driver) ∧ W'.cell? ⟨w.heap.size, 4, none⟩ = some (.string v.parent) ∧ W'.cell? ⟨w.heap.size, 5, none⟩ = some (.string v.name) ∧ W'.cell? ⟨w.heap.size, 6, none⟩ = some (.string v.result) ∧ W'.cell? ⟨w.heap.size, 7, none⟩ = some (.slice v.attrs.A v.attrs.l.length v.attrs.c) ∧ W'.cell? ⟨w.heap.size, 8, none⟩ = some (.slice v.above.A v.above.l.length v.above.c) ∧ W'.cell? ⟨w.heap.size, 9, none⟩ = some (.slice v.env.A v.env.l.length v.env.c)) ∧ Below W4.heap.size W4 W' := fun W' hb => ⟨⟨(hb.cell (p := ⟨ba, off + k * 4, none⟩) hbaw).trans p0, (hb.cell (p := ⟨ba, off + k * 4 + 1, none⟩) hbaw).trans p1, (hb.cell (p := ⟨ba, off + k * 4 + 2, none⟩) hbaw).trans p2, (hb.cell (p := ⟨ba, off + k * 4 + 3, none⟩) hbaw).trans p3, (hb.cell (p := ⟨w.heap.size, 0, none⟩) hwB).trans v0, (hb.cell (p := ⟨w.heap.size, 1, none⟩) hwB).trans v1, (hb.cell (p := ⟨w.heap.size, 2, none⟩) hwB).trans v2, (hb.cell (p := ⟨w.heap.size, 3, none⟩) hwB).trans v3, (hb.cell (p := ⟨w.heap.size, 4, none⟩) hwB).trans v4, (hb.cell (p := ⟨w.heap.size, 5, none⟩) hwB).trans v5, (hb.cell (p := ⟨w.heap.size, 6, none⟩) hwB).trans v6, (hb.cell (p := ⟨w.heap.size, 7, none⟩) hwB).trans v7, (hb.cell (p := ⟨w.heap.size, 8, none⟩) hwB).trans v8, (hb.cell (p := ⟨w.heap.size, 9, none⟩) hwB).trans v9⟩, hb⟩
        have HS := Lib.hid hS
        have HV := Lib.hid hcall
        clear hS p0 p1 p2 p3 v0 v1 v2 v3 v4 v5 v6 v7 v8 v9 hcall
        have hov : (9223372036854775807 < ot.size + val.size) = False := by simp; omega
        have hw4 : W4.heap.size ≤ wr.heap.size := hbr.out.size
        go_wp2
        go_region_held3 (fun W' => (W'.cell? ⟨ba, off + k * 4, none⟩ = some (.int .i64 kd) ∧ W'.cell? ⟨ba, off + k * 4 + 1, none⟩ = some (.string tx) ∧ W'.cell? ⟨ba, off + k * 4 + 2, none⟩ = some (.int .i64 wd) ∧ W'.cell? ⟨ba, off + k * 4 + 3, none⟩ = some (.bool mo) ∧ W'.cell? ⟨w.heap.size, 0, none⟩ = some (.string v.kernel) ∧ W'.cell? ⟨w.heap.size, 1, none⟩ = some (.string v.devpath) ∧ W'.cell? ⟨w.heap.size, 2, none⟩ = some (.string v.id) ∧ W'.cell? ⟨w.heap.size, 3, none⟩ = some (.string v.driver) ∧ W'.cell? ⟨w.heap.size, 4, none⟩ = some (.string v.parent) ∧ W'.cell? ⟨w.heap.size, 5, none⟩ = some (.string v.name) ∧ W'.cell? ⟨w.heap.size, 6, none⟩ = some (.string v.result) ∧ W'.cell? ⟨w.heap.size, 7, none⟩ = some (.slice v.attrs.A v.attrs.l.length v.attrs.c) ∧ W'.cell? ⟨w.heap.size, 8, none⟩ = some (.slice v.above.A v.above.l.length v.above.c) ∧ W'.cell? ⟨w.heap.size, 9, none⟩ = some (.slice v.env.A v.env.l.length v.env.c)) ∧ Below W4.heap.size W4 W') (first | exact HS.out _ hbr.out.drew | exact HS.out _ (hbr.out.drew.trans (hb0.mono hw4))) ((go_at_call 54; refine (HV.out _ (Below.refl _ _).drew).mono ?_; rintro e w0 ⟨rfl, hb0⟩))
        have hbf : Below W4.heap.size W4 w0 := hbr.out.drew.trans (hb0.mono hw4)
        go_wp2
        go_roundg (gk - 1)
        case measure => omega
        case rel => exact ⟨k + 1, by omega, by go_num, by rw [HSn.out], hbf⟩
      · have hall : ps.take k = ps := List.take_of_length_le (by rw [HN.out]; omega)
        rw [hall]
        have hos : (outS ps v).size ≤ 25600000000 := by
          have h1 := outS_size v 100000000 ps ⟨#[]⟩ (fun q hq => HM.out q hq)
          have h2 : ps.length ≤ 256 := by rw [HN.out]; exact hn
          have h3 := Nat.mul_le_mul_right 100000000 h2
          have h4 : (⟨#[]⟩ : ByteArray).size = 0 := rfl
          show (List.foldl (fun a p => a ++ valueS p v) ⟨#[]⟩ ps).size ≤ _
          omega
        generalize outS ps v = out at *
        have HC := fun W => RCut_any out W (by omega)
        go_wp2_with (go_at_call 55; refine (HC _).mono ?_; rintro e w' ⟨rfl, rfl⟩)
        go_ret2
        exact ⟨rfl, HB4.out.trans (hbr.out.mono (Nat.le_of_lt hwB))⟩
  · have hx : expandS (L s) v = (⟨#[]⟩, (parseR (L s)).2) := by rw [expandS, if_neg h0]
    have h0' : ((parseR (L s)).2 == 0) = false := by simpa using h0
    rw [hx]
    have HP' : ∀ W, Below w.heap.size w W → Calls Tryz.prog 17 #[.string s] W fun e w' => ∃ v, e = .returned (.tuple #[v, .int .i64 (parseR (L s)).2]) ∧ Below W.heap.size W w' := fun W hW => (HP W hW).mono fun e w' h => by
      obtain ⟨v, h1, _, h3⟩ := h
      exact ⟨v, h1, h3⟩
    generalize (parseR (L s)).2 = code at *
    clear hx HP hM hI hE
    have hb := (Below.refl w.heap.size w).alloc (Nat.le_refl _) (.cells #[.string v.kernel, .string v.devpath, .string v.id, .string v.driver, .string v.parent, .string v.name, .string v.result, .slice v.attrs.A v.attrs.l.length v.attrs.c, .slice v.above.A v.above.l.length v.above.c, .slice v.env.A v.env.l.length v.env.c] 25)
    have HP2 := HP' _ hb
    have Hb := Lib.hid hb
    clear HP' hb
    go_enter Tryz.func26, Tryz.ntmps26
    go_wp2_with (go_at_call 17; refine HP2.mono ?_; rintro e w2 ⟨r, rfl, hb2⟩)
    go_ret2
    exact ⟨rfl, Hb.out.trans (hb2.mono (by simp))⟩
end Go.Proofs.YtifbcfpaifobjaaGreatDoor
