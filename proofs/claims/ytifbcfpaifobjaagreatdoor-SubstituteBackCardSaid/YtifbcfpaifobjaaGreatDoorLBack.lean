/-
  The law SubstituteBack, walked: the pieces of a template of pieces are these pieces, and both templates expand alike.
-/
import Derived.Test.YtifbcfpaifobjaaGreatDoorPcsW
import Derived.Test.YtifbcfpaifobjaaGreatDoorFmtF
import Derived.Test.YtifbcfpaifobjaaGreatDoorLParses
import Derived.Test.YtifbcfpaifobjaaGreatDoorKnown
namespace Go.Proofs.YtifbcfpaifobjaaGreatDoor
open Go.RowKit
theorem formatR_size (l : List Pc) : (formatR l).1.size ≤ 256 := by
  unfold formatR
  cases fmtF l with
  | none => exact Nat.zero_le _
  | some s =>
    dsimp only
    by_cases h : 256 < s.length
    · rw [if_pos h]; exact Nat.zero_le _
    · rw [if_neg h, size_bs]; omega
theorem Parse_back (l : List Pc) (h : (formatR l).2 = 0) (W : World) (hE : Env W) :
    Calls Tryz.prog 16 #[.string (formatR l).1] W fun e w' => ∃ v, e = .returned (.tuple #[v, .int .i64 0]) ∧ w'.ownsRow W.heap.size 64 4 v l.length (cellsOf encPc l) ∧ Below W.heap.size W w' := by
  have hz := formatR_size l
  have := Parse_any (formatR l).1 W hE (by omega)
  unfold ParsePost at this
  rw [format_back l h] at this
  exact this
theorem expandS_code {s : Str} (h : (parseR s).2 = 0) (v : Vs) : expandS s v = ((outS (parseR s).1 v).extract 0 256, 0) := by rw [expandS, if_pos h]
set_option maxRecDepth 100000 in
set_option maxHeartbeats 8000000 in
theorem lawBack (A : Option Addr) (n c : Nat) (w : World) (hE : Env w) (hl : IntsIn w A n) :
    Calls Tryz.prog 10 #[.slice A n c] w fun e w' => e = .returned (.bool true) ∧ Below w.heap.size w w' := by
  have hT0 := hl.tape c 37
  have HT := Lib.hid hT0
  have Hw := Lib.hid (below_alloc w (.cells #[.slice A n c, .int .i64 0] 37))
  have HE := Lib.hid hE
  clear hl hE hT0
  go_enter Tryz.func10, Tryz.ntmps10
  go_wp2_with fail
  with_reducible refine (pieces_any _ _ 0 _ HT.out (by omega)).mono ?_
  rintro e w2 ⟨v, l, rfl, hlen, hsm, hps⟩
  obtain ⟨A1, c1, rfl⟩ := own_slice hps.own
  have hst : VSt _ w.heap.size n 0 50 [] w2 := ⟨hps.on, (fun _ hx => by cases hx), hps.lt⟩
  have hb2 := hst.back Hw.out
  have hrow : RowAt w2 w2.heap.size A1 4 l.length (cellsOf encPc l) := RowAt.of_own hps.own
  obtain ⟨⟨q, q1, q2, hq⟩, _⟩ := hst.on
  have hm : ∀ x ∈ l, x.text.size ≤ 100000000 := fun x hx => by have := (hsm x hx).2.2.1; omega
  have HB2 := Lib.hid hb2
  have HRow := Lib.hid hrow
  have HQ := Lib.hid hq
  have HF := Lib.hid (Format_any l A1 l.length c1 w2 (HE.out.go hb2) rfl hrow (by omega) hm)
  have Hsame := Lib.hid (fun (W : World) (hb : Below w2.heap.size w2 W) (A2 : Option Addr) (c2 : Nat) (h2 : RowAt W W.heap.size A2 4 l.length (cellsOf encPc l)) => Same_yes A1 A2 c1 c2 l W (by omega) ((hrow.keep hb).more hb.size) h2)
  clear hps hst hb2 hrow hq hm hsm
  have HPa : Hid ((formatR l).2 = 0 → ∀ W, Below w2.heap.size w2 W → Calls Tryz.prog 16 #[.string (formatR l).1] W fun e w' => ∃ v, e = .returned (.tuple #[v, .int .i64 0]) ∧ w'.ownsRow W.heap.size 64 4 v l.length (cellsOf encPc l) ∧ Below W.heap.size W w') :=
    Lib.hid (fun h W hb => Parse_back l h W ((HE.out.go HB2.out).go hb))
  unfold ExpPost at HF
  generalize (formatR l).1 = fs at *
  generalize (formatR l).2 = fc at *
  go_wp2_with fail
  with_reducible refine HF.out.mono ?_
  rintro e w3 ⟨rfl, hb3⟩
  have HB3 := Lib.hid hb3
  clear hb3
  go_upto_if 30 with fail
  go_cut [3] from 19 to 89 (fun s3 wx => s3 = .pointer (some ⟨w.heap.size, 0, none⟩) ∧ Hid (Below w2.heap.size w2 wx))
  case first =>
    by_cases hfc : fc = 0
    · have hpa := HPa.out hfc
      subst hfc
      have HP := Lib.hid hpa
      clear hpa HPa
      go_wp2_with fail
      refine (HP.out w3 HB3.out).mono ?_
      rintro e w4 ⟨v, rfl, ho, hb4⟩
      obtain ⟨A2, c2, rfl⟩ := own_slice ho
      have hr2 := RowAt.of_own ho
      have HS := Lib.hid (Hsame.out w4 (bt HB3.out hb4) A2 c2 hr2)
      have HB4 := Lib.hid (bt HB3.out hb4)
      clear ho hb4 hr2
      go_wp2_with (go_at_call 18; refine HS.out.mono ?_; rintro e w5 ⟨rfl, hb5⟩; have HB5 := Lib.hid (bt HB4.out hb5); clear hb5)
      go_meet
      exact ⟨rfl, HB5.out⟩
    · have hf0 : (fc == 0) = false := by simpa using hfc
      clear hfc HPa
      go_wp2_with fail
      go_meet
      exact ⟨rfl, HB3.out⟩
  case rest =>
  obtain ⟨rfl, hb5⟩ := hcut
  have HB5 := Lib.hid (bt HB2.out hb5.out)
  have hst5 := VSt.start (HQ.out.keep hb5.out (Nat.le_refl _))
  clear HF Hsame HPa HB3 HRow HQ hb5
  have HT5 := Lib.hid hst5
  clear hst5 HT Hw
  go_wp2_with fail
  with_reducible refine (template_any _ _ q 0 _ _ _ HT5.out (by omega)).mono ?_
  rintro e w6 ⟨tm, htm, rfl, hst6⟩
  have hb6 := hst6.back HB5.out
  obtain ⟨⟨q6, q61, q62, hq6⟩, _⟩ := hst6.on
  have HB6 := Lib.hid hb6
  have HQ6 := Lib.hid hq6
  have HP6 := Lib.hid (Parse_any tm w6 (HE.out.go hb6) (by omega))
  have hfit := fits_parseR (L tm)
  clear hst6 hb6 hq6
  unfold ParsePost at HP6
  have HX : Hid ((parseR (L tm)).2 = 0 → ∀ u, expandS (L tm) u = ((outS (parseR (L tm)).1 u).extract 0 256, 0)) := Lib.hid (fun h u => expandS_code h u)
  have HFm : Hid ((parseR (L tm)).2 = 0 → ∀ (A2 : Option Addr) (c2 : Nat) (W : World), Env W → RowAt W W.heap.size A2 4 (parseR (L tm)).1.length (cellsOf encPc (parseR (L tm)).1) → Calls Tryz.prog 24 #[.slice A2 (parseR (L tm)).1.length c2] W (ExpPost (formatR (parseR (L tm)).1) W)) :=
    Lib.hid (fun _ A2 c2 W hEW hr => Format_any _ A2 _ c2 W hEW rfl hr (by have := hfit.1; omega) (fun x hx => by have := hfit.2 x hx; omega))
  have HXf : Hid ((parseR (L tm)).2 = 0 → (formatR (parseR (L tm)).1).2 = 0 → ∀ u, expandS (L (formatR (parseR (L tm)).1).1) u = expandS (L tm) u) :=
    Lib.hid (fun h hf u => expandS_of ((format_back _ hf).trans (Prod.ext rfl h.symm)) u)
  have hus := formatR_size (parseR (L tm)).1
  clear hfit
  unfold ExpPost at HFm
  generalize (formatR (parseR (L tm)).1).1 = us at *
  generalize (formatR (parseR (L tm)).1).2 = uc at *
  by_cases hpc : (parseR (L tm)).2 = 0
  · have hfm := HFm.out hpc
    have hxf := HXf.out hpc
    have hx := HX.out hpc
    rw [hpc] at HP6
    generalize (parseR (L tm)).1 = ys at *
    have HFm2 := Lib.hid hfm
    clear HFm HXf HX hpc hfm
    go_wp2_with fail
    refine HP6.out.mono ?_
    rintro e w7 ⟨v, rfl, ho, hb7⟩
    obtain ⟨A2, c2, rfl⟩ := own_slice ho
    have HB7 := Lib.hid (bt HB6.out hb7)
    have HF7 := Lib.hid (HFm2.out A2 c2 w7 (HE.out.go HB7.out) (RowAt.of_own ho))
    have HQ7 := Lib.hid (HQ6.out.keep hb7 (Nat.le_refl _))
    clear ho hb7 HQ6 HFm2
    go_wp2_with fail
    refine HF7.out.mono ?_
    rintro e w8 ⟨rfl, hb8⟩
    have HB8 := Lib.hid (bt HB7.out hb8)
    have HQ8 := Lib.hid (VSt.start (HQ7.out.keep hb8 (Nat.le_refl _)))
    clear hb8 HQ7
    by_cases huc : uc = 0
    · have hxu := hxf huc
      subst huc
      have HX := Lib.hid hx
      have HXu := Lib.hid hxu
      clear hxf hx hxu
      go_wp2_with fail
      with_reducible refine (values_any _ _ q6 0 _ _ _ HQ8.out (by omega)).mono ?_
      rintro e w9 ⟨u, rfl, hI9, hv9, bl, hst9⟩
      unfold encVs Lst.v
      have HB9 := Lib.hid (hst9.back HB8.out)
      have HI9 := Lib.hid hI9
      have Hv9 := Lib.hid hv9
      clear hst9 hI9 hv9 HQ8
      go_upto_region 16 with fail
      obtain ⟨W, hW⟩ : ∃ W, w9.alloc (.cells #[.string u.kernel, .string u.devpath, .string u.id, .string u.driver, .string u.parent, .string u.name, .string u.result, .slice u.attrs.A u.attrs.l.length u.attrs.c, .slice u.above.A u.above.l.length u.above.c, .slice u.env.A u.env.l.length u.env.c] 25) = W := ⟨_, rfl⟩
      rw [hW]
      have hbW : Below w9.heap.size w9 W := by rw [← hW]; exact below_alloc _ _
      have hu : W.heap[w9.heap.size]? = some (.cells #[.string u.kernel, .string u.devpath, .string u.id, .string u.driver, .string u.parent, .string u.name, .string u.result, .slice u.attrs.A u.attrs.l.length u.attrs.c, .slice u.above.A u.above.l.length u.above.c, .slice u.env.A u.env.l.length u.env.c] 25 (0, 0)) := by rw [← hW]; exact heap_alloc_last _ _
      have hEW := HE.out.go (bt HB9.out hbW)
      have hIW : VsIn W W.heap.size u := (HI9.out.keep hbW).more hbW.size
      have HBW := Lib.hid (bt HB9.out hbW)
      generalize w9.heap.size = UB at *
      have hE1 : ∀ W', Below W.heap.size W W' → Calls Tryz.prog 13 #[.string tm, .agg #[.string u.kernel, .string u.devpath, .string u.id, .string u.driver, .string u.parent, .string u.name, .string u.result, .slice u.attrs.A u.attrs.l.length u.attrs.c, .slice u.above.A u.above.l.length u.above.c, .slice u.env.A u.env.l.length u.env.c]] W' (ExpPost ((outS ys u).extract 0 256, 0) W') := fun W' hb => by
        rw [← HX.out u]
        exact Expand_vs tm u 240 (by decide) W' (hEW.go hb) ((hIW.keep hb).more hb.size) Hv9.out (by omega)
      have hE2 : ∀ W', Below W.heap.size W W' → Calls Tryz.prog 13 #[.string us, .agg #[.string u.kernel, .string u.devpath, .string u.id, .string u.driver, .string u.parent, .string u.name, .string u.result, .slice u.attrs.A u.attrs.l.length u.attrs.c, .slice u.above.A u.above.l.length u.above.c, .slice u.env.A u.env.l.length u.env.c]] W' (ExpPost ((outS ys u).extract 0 256, 0) W') := fun W' hb => by
        rw [← HX.out u, ← HXu.out u]
        exact Expand_vs us u 240 (by decide) W' (hEW.go hb) ((hIW.keep hb).more hb.size) Hv9.out (by omega)
      have hC : ∀ W', Below W.heap.size W W' → W'.cell? ⟨UB, 0, none⟩ = some (.string u.kernel) ∧ W'.cell? ⟨UB, 1, none⟩ = some (.string u.devpath) ∧ W'.cell? ⟨UB, 2, none⟩ = some (.string u.id) ∧ W'.cell? ⟨UB, 3, none⟩ = some (.string u.driver) ∧ W'.cell? ⟨UB, 4, none⟩ = some (.string u.parent) ∧ W'.cell? ⟨UB, 5, none⟩ = some (.string u.name) ∧ W'.cell? ⟨UB, 6, none⟩ = some (.string u.result) ∧ W'.cell? ⟨UB, 7, none⟩ = some (.slice u.attrs.A u.attrs.l.length u.attrs.c) ∧ W'.cell? ⟨UB, 8, none⟩ = some (.slice u.above.A u.above.l.length u.above.c) ∧ W'.cell? ⟨UB, 9, none⟩ = some (.slice u.env.A u.env.l.length u.env.c) := fun W' hb => by
        have hbk := (hb.block _ (blk_lt hu)).trans hu
        exact ⟨by rw [cell_of_row _ _ 0 _ _ _ hbk]; rfl, by rw [cell_of_row _ _ 1 _ _ _ hbk]; rfl, by rw [cell_of_row _ _ 2 _ _ _ hbk]; rfl, by rw [cell_of_row _ _ 3 _ _ _ hbk]; rfl, by rw [cell_of_row _ _ 4 _ _ _ hbk]; rfl, by rw [cell_of_row _ _ 5 _ _ _ hbk]; rfl, by rw [cell_of_row _ _ 6 _ _ _ hbk]; rfl, by rw [cell_of_row _ _ 7 _ _ _ hbk]; rfl, by rw [cell_of_row _ _ 8 _ _ _ hbk]; rfl, by rw [cell_of_row _ _ 9 _ _ _ hbk]; rfl⟩
      unfold ExpPost at hE1 hE2
      generalize (outS ys u).extract 0 256 = ex at *
      have HE1 := Lib.hid hE1
      have HE2 := Lib.hid hE2
      have HC := Lib.hid hC
      obtain ⟨z0, z1, z2, z3, z4, z5, z6, z7, z8, z9⟩ := hC W (Below.refl _ _)
      clear hE1 hE2 hC hbW hu hEW hIW hW HX HXu HI9 Hv9
      go_wp2_with fail
      refine (HE1.out W (Below.refl _ _)).mono ?_
      rintro e w10 ⟨rfl, hb10⟩
      obtain ⟨y0, y1, y2, y3, y4, y5, y6, y7, y8, y9⟩ := HC.out w10 hb10
      have HB10 := Lib.hid hb10
      clear hb10
      go_wp2_with fail
      refine (HE2.out w10 HB10.out).mono ?_
      rintro e w11 ⟨rfl, hb11⟩
      have HB11 := Lib.hid (bt HBW.out (bt HB10.out hb11))
      clear hb11
      go_wp2_with (go_at_call 11; refine (known_any _ (HE.out.go HB11.out)).mono ?_; rintro e w5 ⟨rfl, hb5⟩; have HBk := Lib.hid (bt HB11.out hb5); clear hb5)
      go_ret
      exact ⟨rfl, HBk.out⟩
    · have hu0 : (uc == 0) = false := by simpa using huc
      have hu1 : (uc != 0) = true := by simpa using huc
      clear huc hxf hx
      go_wp2_with (go_at_call 11; refine (known_any _ (HE.out.go HB8.out)).mono ?_; rintro e w5 ⟨rfl, hb5⟩; have HBk := Lib.hid (bt HB8.out hb5); clear hb5)
      go_ret
      exact ⟨rfl, HBk.out⟩
  · have hu0 : ((parseR (L tm)).2 == 0) = false := by simpa using hpc
    have hu1 : ((parseR (L tm)).2 != 0) = true := by simpa using hpc
    generalize (parseR (L tm)).2 = pc at *
    clear hpc HX HFm HXf
    go_wp2_with fail
    refine HP6.out.mono ?_
    rintro e w7 ⟨v, rfl, ho, hb7⟩
    obtain ⟨A2, c2, rfl⟩ := own_slice ho
    have HB7 := Lib.hid (bt HB6.out hb7)
    clear ho hb7
    go_wp2_with (go_at_call 11; refine (known_any _ (HE.out.go HB7.out)).mono ?_; rintro e w5 ⟨rfl, hb5⟩; have HBk := Lib.hid (bt HB7.out hb5); clear hb5)
    go_ret
    exact ⟨rfl, HBk.out⟩
end Go.Proofs.YtifbcfpaifobjaaGreatDoor
