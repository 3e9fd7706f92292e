/-
  Contract of the reference's Device of a term. (Printed by gen_dev.py.)
-/
import Derived.Test.YtgdjknpdgajdgaaRDev
namespace Go.Proofs.Ytgdjknpdgajdgaa
open Go.RowKit
/-- A device whose texts have a length. -/
structure DvOk (d : Dv) : Prop where
  og : d.og.size ≤ 4611686018427387904
  sb : d.sb.size ≤ 4611686018427387904
  dr : d.dr.size ≤ 4611686018427387904
  ats : ∀ x ∈ d.ats.l, x.val.size ≤ 4611686018427387904
  len : d.ats.l.length ≤ 4611686018427387904
abbrev DvAt (w : World) (B : Nat) (d : Dv) : Prop := RowAt w B d.ats.A 2 d.ats.l.length (cellsOf encAt d.ats.l)
theorem getV_is (l : List At) (n : Str) : getV (findF l n) = .tuple #[.string (attrS l n), .bool (findF l n).isSome] := by
  unfold attrS
  cases findF l n <;> rfl
theorem attrS_size {l : List At} (h : ∀ x ∈ l, x.val.size ≤ 4611686018427387904) (n : Str) : (attrS l n).size ≤ 4611686018427387904 := by
  unfold attrS
  cases hf : findF l n with
  | none => exact Nat.zero_le _
  | some x => exact h x (findF_name hf).2
theorem devB_no {t : Tm} {d : Dv} (h : staticB t = false) (h2 : upB t = false) : devB t d = false := by
  unfold staticB at h
  unfold upB at h2
  unfold devB seenV
  cases hm : matchB t.op with
  | false => rfl
  | true =>
    rw [hm] at h h2
    simp only [Bool.true_and, Bool.or_eq_false_iff, beq_eq_false_iff_ne] at h h2
    rw [if_neg (by omega), if_neg (by omega), if_neg (by omega), if_neg (by omega)]
    rfl
theorem devB_at {t : Tm} {d : Dv} (hm : matchB t.op = true) (v : ByteArray) (h : seenV t d = some v) : devB t d = holdsB t v := by
  unfold devB
  rw [hm, h]; rfl
set_option maxRecDepth 100000 in
set_option maxHeartbeats 8000000 in
theorem RDevice_any (t : Tm) (d : Dv) (w : World) (hp : t.value.size ≤ 4611686018427387904) (hd : DvOk d) (h : DvAt w w.heap.size d) :
    Calls Try.prog 45 #[tmV t, dvV d] w fun e w' => e = .returned (.bool (devB t d)) ∧ Below w.heap.size w w' := by
  obtain ⟨ky, nmm, op, vl⟩ := t
  dsimp only at hp
  have HSt := Lib.hid (fun W => RStatic_any (⟨ky, nmm, op, vl⟩ : Tm) W)
  have HUp := Lib.hid (fun W => RUpward_any (⟨ky, nmm, op, vl⟩ : Tm) W)
  have HHo := Lib.hid (fun v (hv : v.size ≤ 4611686018427387904) W => RHolds_any (⟨ky, nmm, op, vl⟩ : Tm) v W hp hv)
  have hgv := getV_is d.ats.l (L nmm)
  have HGe : Hid (∀ W, Below w.heap.size w W → Calls Try.prog 57 #[.slice d.ats.A d.ats.l.length d.ats.c, .string nmm] W (GetPost (findF d.ats.l (L nmm)) W)) := Lib.hid fun W hW => RGet_any d.ats.A d.ats.c d.ats.l nmm W ((h.keep hW).up hW.size) hd.len
  unfold GetPost at HGe
  rw [hgv] at HGe
  have HO := Lib.hid hd
  have HOa := Lib.hid (attrS_size hd.ats (L nmm))
  clear hgv hd h hp
  obtain ⟨w1, hw1⟩ : ∃ w1, (w.alloc (.cells #[.int .i64 ky, .string nmm, .int .i64 op, .string vl] 43)).alloc (.cells #[.int .i64 d.ix, .int .i64 d.pa, .string d.nam, .string d.og, .string d.sb, .string d.dr, .string d.al, .int .i64 d.kd, .int .i64 d.nb, .slice d.ats.A d.ats.l.length d.ats.c] 25) = w1 := ⟨_, rfl⟩
  have hT : w1.heap[w.heap.size]? = some (.cells #[.int .i64 ky, .string nmm, .int .i64 op, .string vl] 43) := by rw [← hw1, heap_alloc_old _ _ (by simp)]; exact heap_alloc_new _ _
  have hD : w1.heap[w.heap.size + 1]? = some (.cells #[.int .i64 d.ix, .int .i64 d.pa, .string d.nam, .string d.og, .string d.sb, .string d.dr, .string d.al, .int .i64 d.kd, .int .i64 d.nb, .slice d.ats.A d.ats.l.length d.ats.c] 25) := by rw [← hw1]; have := heap_alloc_new (w.alloc (.cells #[.int .i64 ky, .string nmm, .int .i64 op, .string vl] 43)) (.cells #[.int .i64 d.ix, .int .i64 d.pa, .string d.nam, .string d.og, .string d.sb, .string d.dr, .string d.al, .int .i64 d.kd, .int .i64 d.nb, .slice d.ats.A d.ats.l.length d.ats.c] 25); simpa using this
  have HSx : Hid (∀ W, Below w1.heap.size w1 W → W.cell? ⟨w.heap.size, 0, none⟩ = some (.int .i64 ky) ∧ W.cell? ⟨w.heap.size, 1, none⟩ = some (.string nmm) ∧ W.cell? ⟨w.heap.size, 2, none⟩ = some (.int .i64 op) ∧ W.cell? ⟨w.heap.size, 3, none⟩ = some (.string vl) ∧ W.cell? ⟨w.heap.size + 1, 0, none⟩ = some (.int .i64 d.ix) ∧ W.cell? ⟨w.heap.size + 1, 1, none⟩ = some (.int .i64 d.pa) ∧ W.cell? ⟨w.heap.size + 1, 2, none⟩ = some (.string d.nam) ∧ W.cell? ⟨w.heap.size + 1, 3, none⟩ = some (.string d.og) ∧ W.cell? ⟨w.heap.size + 1, 4, none⟩ = some (.string d.sb) ∧ W.cell? ⟨w.heap.size + 1, 5, none⟩ = some (.string d.dr) ∧ W.cell? ⟨w.heap.size + 1, 6, none⟩ = some (.string d.al) ∧ W.cell? ⟨w.heap.size + 1, 7, none⟩ = some (.int .i64 d.kd) ∧ W.cell? ⟨w.heap.size + 1, 8, none⟩ = some (.int .i64 d.nb) ∧ W.cell? ⟨w.heap.size + 1, 9, none⟩ = some (.slice d.ats.A d.ats.l.length d.ats.c)) := Lib.hid fun W hW => by
    have h1 := (hW.block _ (blk_lt' hT)).trans hT
    have h2 := (hW.block _ (blk_lt' hD)).trans hD
    exact ⟨cellOf h1 rfl, cellOf h1 rfl, cellOf h1 rfl, cellOf h1 rfl, cellOf h2 rfl, cellOf h2 rfl, cellOf h2 rfl, cellOf h2 rfl, cellOf h2 rfl, cellOf h2 rfl, cellOf h2 rfl, cellOf h2 rfl, cellOf h2 rfl, cellOf h2 rfl⟩
  have HB1 : Hid (Below w.heap.size w w1) := Lib.hid (by rw [← hw1]; exact bt (below_alloc _ _) (below_alloc _ _))
  have HSz : Hid (w1.heap.size = w.heap.size + 2) := Lib.hid (by rw [← hw1]; simp)
  have HW1 := Lib.hid hw1
  clear hw1 hT hD
  by_cases hno : staticB (⟨ky, nmm, op, vl⟩ : Tm) = false ∧ upB (⟨ky, nmm, op, vl⟩ : Tm) = false
  · have HR := Lib.hid (devB_no (t := ⟨ky, nmm, op, vl⟩) (d := d) hno.1 hno.2)
    rw [hno.1] at HSt
    rw [hno.2] at HUp
    clear hno
    unfold tmV dvV at *
    dsimp only at *
    go_enter Try.func45, Try.ntmps45
    go_upto_region 1 with fail
    rw [HW1.out]
    obtain ⟨c0, c1, c2, c3, c4, c5, c6, c7, c8, c9, c10, c11, c12, c13⟩ := HSx.out w1 (Below.refl _ _)
    go_wp2_with (first
      | (go_at_call 54; refine (HSt.out _).mono ?_; rintro e w2 ⟨rfl, hb2⟩; have HB2 := Lib.hid hb2; clear hb2; obtain ⟨d0, d1, d2, d3, d4, d5, d6, d7, d8, d9, d10, d11, d12, d13⟩ := HSx.out w2 HB2.out)
      | (go_at_call 55; refine (HUp.out _).mono ?_; rintro e w3 ⟨rfl, hb3⟩; have HB3 := Lib.hid (bt HB2.out hb3); clear hb3; obtain ⟨e0, e1, e2, e3, e4, e5, e6, e7, e8, e9, e10, e11, e12, e13⟩ := HSx.out w3 HB3.out))
    go_ret
    exact ⟨ret_bool (by rw [HR.out]), bt HB1.out HB3.out⟩
  have hm : matchB op = true := by
    cases hm : matchB op with
    | true => rfl
    | false => exact absurd ⟨by unfold staticB; rw [hm]; rfl, by unfold upB; rw [hm]; rfl⟩ hno
  have hk : ky = 2 ∨ ky = 3 ∨ ky = 4 ∨ ky = 5 ∨ ky = 8 ∨ ky = 9 ∨ ky = 10 ∨ ky = 11 := by
    refine Classical.byContradiction fun h => hno ⟨?_, ?_⟩
    · unfold staticB; rw [hm]; simp; omega
    · unfold upB; rw [hm]; simp; omega
  have HAt := Lib.hid (fun v h => devB_at (t := ⟨ky, nmm, op, vl⟩) (d := d) hm v h)
  clear hno
  rcases hk with rfl | rfl | rfl | rfl | rfl | rfl | rfl | rfl
  · have HR := Lib.hid (HAt.out (d.og) (by rfl))
    have HHv := Lib.hid (HHo.out (d.og) (by exact HO.out.og))
    have hs : staticB (⟨2, nmm, op, vl⟩ : Tm) = true := by unfold staticB; rw [hm]; rfl
    rw [hs] at HSt
    generalize holdsB (⟨2, nmm, op, vl⟩ : Tm) (d.og) = hb at *
    clear hs hm HAt HHo
    unfold tmV dvV at *
    dsimp only at *
    go_enter Try.func45, Try.ntmps45
    go_upto_region 1 with fail
    rw [HW1.out]
    obtain ⟨c0, c1, c2, c3, c4, c5, c6, c7, c8, c9, c10, c11, c12, c13⟩ := HSx.out w1 (Below.refl _ _)
    go_wp2_with (first
      | (go_at_call 54; refine (HSt.out _).mono ?_; rintro e w2 ⟨rfl, hb2⟩; have HB2 := Lib.hid hb2; clear hb2; obtain ⟨d0, d1, d2, d3, d4, d5, d6, d7, d8, d9, d10, d11, d12, d13⟩ := HSx.out w2 HB2.out)
      | (go_at_call 56; refine (HHv.out _).mono ?_; rintro e w5 ⟨rfl, hb5⟩; have HB5 := Lib.hid (bt HB2.out hb5); clear hb5))
    go_ret
    exact ⟨ret_bool (by rw [HR.out]), bt HB1.out HB5.out⟩
  · have HR := Lib.hid (HAt.out (d.sb) (by rfl))
    have HHv := Lib.hid (HHo.out (d.sb) (by exact HO.out.sb))
    have hs : staticB (⟨3, nmm, op, vl⟩ : Tm) = true := by unfold staticB; rw [hm]; rfl
    rw [hs] at HSt
    generalize holdsB (⟨3, nmm, op, vl⟩ : Tm) (d.sb) = hb at *
    clear hs hm HAt HHo
    unfold tmV dvV at *
    dsimp only at *
    go_enter Try.func45, Try.ntmps45
    go_upto_region 1 with fail
    rw [HW1.out]
    obtain ⟨c0, c1, c2, c3, c4, c5, c6, c7, c8, c9, c10, c11, c12, c13⟩ := HSx.out w1 (Below.refl _ _)
    go_wp2_with (first
      | (go_at_call 54; refine (HSt.out _).mono ?_; rintro e w2 ⟨rfl, hb2⟩; have HB2 := Lib.hid hb2; clear hb2; obtain ⟨d0, d1, d2, d3, d4, d5, d6, d7, d8, d9, d10, d11, d12, d13⟩ := HSx.out w2 HB2.out)
      | (go_at_call 56; refine (HHv.out _).mono ?_; rintro e w5 ⟨rfl, hb5⟩; have HB5 := Lib.hid (bt HB2.out hb5); clear hb5))
    go_ret
    exact ⟨ret_bool (by rw [HR.out]), bt HB1.out HB5.out⟩
  · have HR := Lib.hid (HAt.out (d.dr) (by rfl))
    have HHv := Lib.hid (HHo.out (d.dr) (by exact HO.out.dr))
    have hs : staticB (⟨4, nmm, op, vl⟩ : Tm) = true := by unfold staticB; rw [hm]; rfl
    rw [hs] at HSt
    generalize holdsB (⟨4, nmm, op, vl⟩ : Tm) (d.dr) = hb at *
    clear hs hm HAt HHo
    unfold tmV dvV at *
    dsimp only at *
    go_enter Try.func45, Try.ntmps45
    go_upto_region 1 with fail
    rw [HW1.out]
    obtain ⟨c0, c1, c2, c3, c4, c5, c6, c7, c8, c9, c10, c11, c12, c13⟩ := HSx.out w1 (Below.refl _ _)
    go_wp2_with (first
      | (go_at_call 54; refine (HSt.out _).mono ?_; rintro e w2 ⟨rfl, hb2⟩; have HB2 := Lib.hid hb2; clear hb2; obtain ⟨d0, d1, d2, d3, d4, d5, d6, d7, d8, d9, d10, d11, d12, d13⟩ := HSx.out w2 HB2.out)
      | (go_at_call 56; refine (HHv.out _).mono ?_; rintro e w5 ⟨rfl, hb5⟩; have HB5 := Lib.hid (bt HB2.out hb5); clear hb5))
    go_ret
    exact ⟨ret_bool (by rw [HR.out]), bt HB1.out HB5.out⟩
  · have HR := Lib.hid (HAt.out (attrS d.ats.l (L nmm)) (by rfl))
    have HHv := Lib.hid (HHo.out (attrS d.ats.l (L nmm)) (by exact HOa.out))
    have hs : staticB (⟨5, nmm, op, vl⟩ : Tm) = true := by unfold staticB; rw [hm]; rfl
    rw [hs] at HSt
    generalize attrS d.ats.l (L nmm) = av at *
    generalize (findF d.ats.l (L nmm)).isSome = ab at *
    generalize holdsB (⟨5, nmm, op, vl⟩ : Tm) av = hb at *
    clear hs hm HAt HHo
    unfold tmV dvV at *
    dsimp only at *
    go_enter Try.func45, Try.ntmps45
    go_upto_region 1 with fail
    rw [HW1.out]
    obtain ⟨c0, c1, c2, c3, c4, c5, c6, c7, c8, c9, c10, c11, c12, c13⟩ := HSx.out w1 (Below.refl _ _)
    go_wp2_with (first
      | (go_at_call 54; refine (HSt.out _).mono ?_; rintro e w2 ⟨rfl, hb2⟩; have HB2 := Lib.hid hb2; clear hb2; obtain ⟨d0, d1, d2, d3, d4, d5, d6, d7, d8, d9, d10, d11, d12, d13⟩ := HSx.out w2 HB2.out)
      | (go_at_call 57; refine (HGe.out _ (bt HB1.out HB2.out)).mono ?_; rintro e w4 ⟨rfl, hb4⟩; have HB2 := Lib.hid (bt HB2.out hb4); clear hb4; obtain ⟨f0, f1, f2, f3, f4, f5, f6, f7, f8, f9, f10, f11, f12, f13⟩ := HSx.out w4 HB2.out)
      | (go_at_call 56; refine (HHv.out _).mono ?_; rintro e w5 ⟨rfl, hb5⟩; have HB5 := Lib.hid (bt HB2.out hb5); clear hb5))
    go_ret
    exact ⟨ret_bool (by rw [HR.out]), bt HB1.out HB5.out⟩
  · have HR := Lib.hid (HAt.out (d.og) (by rfl))
    have HHv := Lib.hid (HHo.out (d.og) (by exact HO.out.og))
    have hs : staticB (⟨8, nmm, op, vl⟩ : Tm) = false := by unfold staticB; rw [hm]; rfl
    rw [hs] at HSt
    have hu : upB (⟨8, nmm, op, vl⟩ : Tm) = true := by unfold upB; rw [hm]; rfl
    rw [hu] at HUp
    clear hu
    generalize holdsB (⟨8, nmm, op, vl⟩ : Tm) (d.og) = hb at *
    clear hs hm HAt HHo
    unfold tmV dvV at *
    dsimp only at *
    go_enter Try.func45, Try.ntmps45
    go_upto_region 1 with fail
    rw [HW1.out]
    obtain ⟨c0, c1, c2, c3, c4, c5, c6, c7, c8, c9, c10, c11, c12, c13⟩ := HSx.out w1 (Below.refl _ _)
    go_wp2_with (first
      | (go_at_call 54; refine (HSt.out _).mono ?_; rintro e w2 ⟨rfl, hb2⟩; have HB2 := Lib.hid hb2; clear hb2; obtain ⟨d0, d1, d2, d3, d4, d5, d6, d7, d8, d9, d10, d11, d12, d13⟩ := HSx.out w2 HB2.out)
      | (go_at_call 55; refine (HUp.out _).mono ?_; rintro e w3 ⟨rfl, hb3⟩; have HB2 := Lib.hid (bt HB2.out hb3); clear hb3; obtain ⟨e0, e1, e2, e3, e4, e5, e6, e7, e8, e9, e10, e11, e12, e13⟩ := HSx.out w3 HB2.out)
      | (go_at_call 56; refine (HHv.out _).mono ?_; rintro e w5 ⟨rfl, hb5⟩; have HB5 := Lib.hid (bt HB2.out hb5); clear hb5))
    go_ret
    exact ⟨ret_bool (by rw [HR.out]), bt HB1.out HB5.out⟩
  · have HR := Lib.hid (HAt.out (d.sb) (by rfl))
    have HHv := Lib.hid (HHo.out (d.sb) (by exact HO.out.sb))
    have hs : staticB (⟨9, nmm, op, vl⟩ : Tm) = false := by unfold staticB; rw [hm]; rfl
    rw [hs] at HSt
    have hu : upB (⟨9, nmm, op, vl⟩ : Tm) = true := by unfold upB; rw [hm]; rfl
    rw [hu] at HUp
    clear hu
    generalize holdsB (⟨9, nmm, op, vl⟩ : Tm) (d.sb) = hb at *
    clear hs hm HAt HHo
    unfold tmV dvV at *
    dsimp only at *
    go_enter Try.func45, Try.ntmps45
    go_upto_region 1 with fail
    rw [HW1.out]
    obtain ⟨c0, c1, c2, c3, c4, c5, c6, c7, c8, c9, c10, c11, c12, c13⟩ := HSx.out w1 (Below.refl _ _)
    go_wp2_with (first
      | (go_at_call 54; refine (HSt.out _).mono ?_; rintro e w2 ⟨rfl, hb2⟩; have HB2 := Lib.hid hb2; clear hb2; obtain ⟨d0, d1, d2, d3, d4, d5, d6, d7, d8, d9, d10, d11, d12, d13⟩ := HSx.out w2 HB2.out)
      | (go_at_call 55; refine (HUp.out _).mono ?_; rintro e w3 ⟨rfl, hb3⟩; have HB2 := Lib.hid (bt HB2.out hb3); clear hb3; obtain ⟨e0, e1, e2, e3, e4, e5, e6, e7, e8, e9, e10, e11, e12, e13⟩ := HSx.out w3 HB2.out)
      | (go_at_call 56; refine (HHv.out _).mono ?_; rintro e w5 ⟨rfl, hb5⟩; have HB5 := Lib.hid (bt HB2.out hb5); clear hb5))
    go_ret
    exact ⟨ret_bool (by rw [HR.out]), bt HB1.out HB5.out⟩
  · have HR := Lib.hid (HAt.out (d.dr) (by rfl))
    have HHv := Lib.hid (HHo.out (d.dr) (by exact HO.out.dr))
    have hs : staticB (⟨10, nmm, op, vl⟩ : Tm) = false := by unfold staticB; rw [hm]; rfl
    rw [hs] at HSt
    have hu : upB (⟨10, nmm, op, vl⟩ : Tm) = true := by unfold upB; rw [hm]; rfl
    rw [hu] at HUp
    clear hu
    generalize holdsB (⟨10, nmm, op, vl⟩ : Tm) (d.dr) = hb at *
    clear hs hm HAt HHo
    unfold tmV dvV at *
    dsimp only at *
    go_enter Try.func45, Try.ntmps45
    go_upto_region 1 with fail
    rw [HW1.out]
    obtain ⟨c0, c1, c2, c3, c4, c5, c6, c7, c8, c9, c10, c11, c12, c13⟩ := HSx.out w1 (Below.refl _ _)
    go_wp2_with (first
      | (go_at_call 54; refine (HSt.out _).mono ?_; rintro e w2 ⟨rfl, hb2⟩; have HB2 := Lib.hid hb2; clear hb2; obtain ⟨d0, d1, d2, d3, d4, d5, d6, d7, d8, d9, d10, d11, d12, d13⟩ := HSx.out w2 HB2.out)
      | (go_at_call 55; refine (HUp.out _).mono ?_; rintro e w3 ⟨rfl, hb3⟩; have HB2 := Lib.hid (bt HB2.out hb3); clear hb3; obtain ⟨e0, e1, e2, e3, e4, e5, e6, e7, e8, e9, e10, e11, e12, e13⟩ := HSx.out w3 HB2.out)
      | (go_at_call 56; refine (HHv.out _).mono ?_; rintro e w5 ⟨rfl, hb5⟩; have HB5 := Lib.hid (bt HB2.out hb5); clear hb5))
    go_ret
    exact ⟨ret_bool (by rw [HR.out]), bt HB1.out HB5.out⟩
  · have HR := Lib.hid (HAt.out (attrS d.ats.l (L nmm)) (by rfl))
    have HHv := Lib.hid (HHo.out (attrS d.ats.l (L nmm)) (by exact HOa.out))
    have hs : staticB (⟨11, nmm, op, vl⟩ : Tm) = false := by unfold staticB; rw [hm]; rfl
    rw [hs] at HSt
    have hu : upB (⟨11, nmm, op, vl⟩ : Tm) = true := by unfold upB; rw [hm]; rfl
    rw [hu] at HUp
    clear hu
    generalize attrS d.ats.l (L nmm) = av at *
    generalize (findF d.ats.l (L nmm)).isSome = ab at *
    generalize holdsB (⟨11, nmm, op, vl⟩ : Tm) av = hb at *
    clear hs hm HAt HHo
    unfold tmV dvV at *
    dsimp only at *
    go_enter Try.func45, Try.ntmps45
    go_upto_region 1 with fail
    rw [HW1.out]
    obtain ⟨c0, c1, c2, c3, c4, c5, c6, c7, c8, c9, c10, c11, c12, c13⟩ := HSx.out w1 (Below.refl _ _)
    go_wp2_with (first
      | (go_at_call 54; refine (HSt.out _).mono ?_; rintro e w2 ⟨rfl, hb2⟩; have HB2 := Lib.hid hb2; clear hb2; obtain ⟨d0, d1, d2, d3, d4, d5, d6, d7, d8, d9, d10, d11, d12, d13⟩ := HSx.out w2 HB2.out)
      | (go_at_call 55; refine (HUp.out _).mono ?_; rintro e w3 ⟨rfl, hb3⟩; have HB2 := Lib.hid (bt HB2.out hb3); clear hb3; obtain ⟨e0, e1, e2, e3, e4, e5, e6, e7, e8, e9, e10, e11, e12, e13⟩ := HSx.out w3 HB2.out)
      | (go_at_call 57; refine (HGe.out _ (bt HB1.out HB2.out)).mono ?_; rintro e w4 ⟨rfl, hb4⟩; have HB2 := Lib.hid (bt HB2.out hb4); clear hb4; obtain ⟨f0, f1, f2, f3, f4, f5, f6, f7, f8, f9, f10, f11, f12, f13⟩ := HSx.out w4 HB2.out)
      | (go_at_call 56; refine (HHv.out _).mono ?_; rintro e w5 ⟨rfl, hb5⟩; have HB5 := Lib.hid (bt HB2.out hb5); clear hb5))
    go_ret
    exact ⟨ret_bool (by rw [HR.out]), bt HB1.out HB5.out⟩
end Go.Proofs.Ytgdjknpdgajdgaa
