/-
  The law SubstituteExpands, walked: the program's Expand and the reference's answer alike. (Printed by gen_lexp.py.)
-/
import Derived.Test.YtifbcfpaifobjaaGreatDoorRefE
import Derived.Test.YtifbcfpaifobjaaGreatDoorTemplate
import Derived.Test.YtifbcfpaifobjaaGreatDoorLParses
namespace Go.Proofs.YtifbcfpaifobjaaGreatDoor
open Go.RowKit
theorem RExpand_vs (s : ByteArray) (v : Vs) (M : Nat) (hM : M ≤ 1048576) (W : World) (hE : Env W) (hI : VsIn W W.heap.size v) (hv : VsSmall M v) (hs : s.size ≤ 9223372036854775807) :
    Calls Tryz.prog 26 #[.string s, encVs v] W (ExpPost (expandS (L s) v) W) := by
  have h1 := hv.result
  have h2 := hv.kernel
  refine RExpand_any s v W hE hs hI (by omega) (by omega) (fun q hq => ?_)
  have h3 := valueS_small (hv.more hM) (show q.text.size ≤ 1048576 by have := (fits_parseR (L s)).2 q hq; omega)
  omega
theorem IntsIn.go {w W : World} {A : Option Addr} {n : Nat} (h : IntsIn w A n) (hb : Below w.heap.size w W) : IntsIn W A n := by
  obtain ⟨h0, ba, off, hA, hlt, hz⟩ := h
  refine ⟨h0, ba, off, hA, Nat.lt_of_lt_of_le hlt hb.size, fun i hi => ?_⟩
  obtain ⟨z, hc, z1, z2⟩ := hz i hi
  exact ⟨z, (hb.cell (p := ⟨ba, off + i, none⟩) hlt).trans hc, z1, z2⟩
set_option maxRecDepth 100000 in
set_option maxHeartbeats 4000000 in
theorem lawExpands (raw : ByteArray) (v : Vs) (A : Option Addr) (n c : Nat) (w : World) (hE : Env w) (hs : raw.size ≤ 1048576) (hI : VsIn w w.heap.size v) (hv : VsSmall 1048576 v) (hl : IntsIn w A n) :
    Calls Tryz.prog 9 #[.string raw, encVs v, .slice A n c] w fun e w' => e = .returned (.bool true) ∧ Below w.heap.size w w' := by
  unfold encVs Lst.v
  have hla := hI.la
  have hlb := hI.lb
  have hle := hI.le
  have hlr := hv.result
  by_cases h600 : 600 < raw.size
  · have HK := Lib.hid (known_any (w.alloc (.cells #[.string v.kernel, .string v.devpath, .string v.id, .string v.driver, .string v.parent, .string v.name, .string v.result, .slice v.attrs.A v.attrs.l.length v.attrs.c, .slice v.above.A v.above.l.length v.above.c, .slice v.env.A v.env.l.length v.env.c] 25)) (hE.go (below_alloc _ _)))
    clear hE hl hI hv
    go_enter Tryz.func9, Tryz.ntmps9
    go_wp2_with (go_at_call 11; refine HK.out.mono ?_; rintro e w5 ⟨rfl, hb5⟩)
    go_ret
    exact ⟨rfl, bt (below_alloc _ _) hb5⟩
  by_cases h3000 : 3000 < v.result.size
  · have HK := Lib.hid (known_any (w.alloc (.cells #[.string v.kernel, .string v.devpath, .string v.id, .string v.driver, .string v.parent, .string v.name, .string v.result, .slice v.attrs.A v.attrs.l.length v.attrs.c, .slice v.above.A v.above.l.length v.above.c, .slice v.env.A v.env.l.length v.env.c] 25)) (hE.go (below_alloc _ _)))
    clear hE hl hI hv
    go_enter Tryz.func9, Tryz.ntmps9
    go_wp2_with (go_at_call 11; refine HK.out.mono ?_; rintro e w5 ⟨rfl, hb5⟩)
    go_ret
    exact ⟨rfl, bt (below_alloc _ _) hb5⟩
  by_cases h100 : 100 < v.attrs.l.length + v.above.l.length + v.env.l.length
  · have HK := Lib.hid (known_any (w.alloc (.cells #[.string v.kernel, .string v.devpath, .string v.id, .string v.driver, .string v.parent, .string v.name, .string v.result, .slice v.attrs.A v.attrs.l.length v.attrs.c, .slice v.above.A v.above.l.length v.above.c, .slice v.env.A v.env.l.length v.env.c] 25)) (hE.go (below_alloc _ _)))
    clear hE hl hI hv
    go_enter Tryz.func9, Tryz.ntmps9
    go_wp2_with (go_at_call 11; refine HK.out.mono ?_; rintro e w5 ⟨rfl, hb5⟩)
    go_ret
    exact ⟨rfl, bt (below_alloc _ _) hb5⟩
  have hb1 := below_alloc w (.cells #[.string v.kernel, .string v.devpath, .string v.id, .string v.driver, .string v.parent, .string v.name, .string v.result, .slice v.attrs.A v.attrs.l.length v.attrs.c, .slice v.above.A v.above.l.length v.above.c, .slice v.env.A v.env.l.length v.env.c] 25)
  have HE := Lib.hid (hE.go hb1)
  have HI := Lib.hid ((hI.keep hb1).more hb1.size)
  have Hv := Lib.hid hv
  have hv0 := heap_alloc_last w (.cells #[.string v.kernel, .string v.devpath, .string v.id, .string v.driver, .string v.parent, .string v.name, .string v.result, .slice v.attrs.A v.attrs.l.length v.attrs.c, .slice v.above.A v.above.l.length v.above.c, .slice v.env.A v.env.l.length v.env.c] 25)
  have hlI := hl.go hb1
  have HS1 : Hid ((w.alloc (.cells #[.string v.kernel, .string v.devpath, .string v.id, .string v.driver, .string v.parent, .string v.name, .string v.result, .slice v.attrs.A v.attrs.l.length v.attrs.c, .slice v.above.A v.above.l.length v.above.c, .slice v.env.A v.env.l.length v.env.c] 25)).heap.size = w.heap.size + 1) := Lib.hid (by simp)
  generalize hW1 : w.alloc (.cells #[.string v.kernel, .string v.devpath, .string v.id, .string v.driver, .string v.parent, .string v.name, .string v.result, .slice v.attrs.A v.attrs.l.length v.attrs.c, .slice v.above.A v.above.l.length v.above.c, .slice v.env.A v.env.l.length v.env.c] 25) = W1 at *
  have HT := Lib.hid (VSt.start (hlI.tape c 37))
  have Hw := Lib.hid (below_alloc W1 (.cells #[.slice A n c, .int .i64 0] 37))
  have HW1 := Lib.hid hW1
  have Hb1 := Lib.hid hb1
  have Hv0 := Lib.hid hv0
  clear hl hE hI hv hlI hW1 hb1 hv0
  go_enter Tryz.func9, Tryz.ntmps9
  go_wp2_with fail
  rw [HW1.out, ← HS1.out]
  with_reducible refine (template_any _ _ 0 0 _ _ _ HT.out (by omega)).mono ?_
  rintro e w1 ⟨tm, htm, rfl, hst⟩
  go_wp2_with fail
  have hbk := hst.back Hw.out
  have hw1 : W1.heap.size < w1.heap.size := by have h1 := hst.size; simp at h1; omega
  obtain ⟨⟨q, q1, q2, hq⟩, _⟩ := hst.on
  have hst4 := VSt.start (hq.keep (below_alloc w1 (.cells #[.string raw, .string tm] 9)) (Nat.le_refl _))
  have hb4 : Below W1.heap.size W1 (w1.alloc (.cells #[.string raw, .string tm] 9)) := bt hbk (below_alloc _ _)
  have hL4 := heap_alloc_last w1 (.cells #[.string raw, .string tm] 9)
  obtain ⟨W4, hW4⟩ : ∃ W4, w1.alloc (.cells #[.string raw, .string tm] 9) = W4 := ⟨_, rfl⟩
  rw [hW4] at hst4 hb4 hL4 ⊢
  have Hst := Lib.hid hst4
  have HB4 := Lib.hid hb4
  have HL4 := Lib.hid hL4
  clear hst hbk hq hst4 hb4 hL4 hW4 HT Hw
  with_reducible refine (values_any _ _ q 0 _ _ _ Hst.out (by omega)).mono ?_
  rintro e w2 ⟨u, rfl, hI2, hv2, bl, hst2⟩
  unfold encVs Lst.v
  have hb2 := hst2.back HB4.out
  have hL2 : w2.heap[w1.heap.size]? = some (.cells #[.string raw, .string tm] 9 (0, 0)) := by
    obtain ⟨_, _, _, _, _, h5⟩ := hst2.on
    rw [h5 _ (blk_lt HL4.out) (by omega)]
    exact HL4.out
  have HI2 := Lib.hid hI2
  have Hv2 := Lib.hid hv2
  have HB2 := Lib.hid hb2
  have HL2 := Lib.hid hL2
  clear hst2 Hst HB4 HL4 hI2 hv2 hb2 hL2
  go_wp2_with fail
  obtain ⟨W6, hW6⟩ : ∃ W6, w2.alloc (.cells #[.string u.kernel, .string u.devpath, .string u.id, .string u.driver, .string u.parent, .string u.name, .string u.result, .slice u.attrs.A u.attrs.l.length u.attrs.c, .slice u.above.A u.above.l.length u.above.c, .slice u.env.A u.env.l.length u.env.c] 25) = W6 := ⟨_, rfl⟩
  rw [hW6]
  have hb6 : Below w2.heap.size w2 W6 := by rw [← hW6]; exact below_alloc _ _
  have hu : W6.heap[w2.heap.size]? = some (.cells #[.string u.kernel, .string u.devpath, .string u.id, .string u.driver, .string u.parent, .string u.name, .string u.result, .slice u.attrs.A u.attrs.l.length u.attrs.c, .slice u.above.A u.above.l.length u.above.c, .slice u.env.A u.env.l.length u.env.c] 25 (0, 0)) := by rw [← hW6]; exact heap_alloc_last _ _
  have hB6 : Below W1.heap.size W1 W6 := bt HB2.out hb6
  have hL6 := (hb6.block _ (blk_lt HL2.out)).trans HL2.out
  have hv6 : W6.heap[w.heap.size]? = some (.cells #[.string v.kernel, .string v.devpath, .string v.id, .string v.driver, .string v.parent, .string v.name, .string v.result, .slice v.attrs.A v.attrs.l.length v.attrs.c, .slice v.above.A v.above.l.length v.above.c, .slice v.env.A v.env.l.length v.env.c] 25 (0, 0)) := (hB6.block _ (by have := HS1.out; omega)).trans Hv0.out
  have ult := blk_lt hu
  have vlt := blk_lt hv6
  have hE6 : Env W6 := HE.out.go hB6
  have hIv : VsIn W6 W6.heap.size v := (HI.out.keep hB6).more hB6.size
  have hIu : VsIn W6 W6.heap.size u := (HI2.out.keep hb6).more hb6.size
  have hX1 : ∀ W', Below W6.heap.size W6 W' → ∀ s : ByteArray, s.size ≤ 600 → Calls Tryz.prog 13 #[.string s, .agg #[.string v.kernel, .string v.devpath, .string v.id, .string v.driver, .string v.parent, .string v.name, .string v.result, .slice v.attrs.A v.attrs.l.length v.attrs.c, .slice v.above.A v.above.l.length v.above.c, .slice v.env.A v.env.l.length v.env.c]] W' (ExpPost (expandS (L s) v) W') := fun W' hb s hs => Expand_vs s v 1048576 (Nat.le_refl _) W' (hE6.go hb) ((hIv.keep hb).more hb.size) Hv.out (by omega)
  have hX2 : ∀ W', Below W6.heap.size W6 W' → ∀ s : ByteArray, s.size ≤ 600 → Calls Tryz.prog 26 #[.string s, .agg #[.string v.kernel, .string v.devpath, .string v.id, .string v.driver, .string v.parent, .string v.name, .string v.result, .slice v.attrs.A v.attrs.l.length v.attrs.c, .slice v.above.A v.above.l.length v.above.c, .slice v.env.A v.env.l.length v.env.c]] W' (ExpPost (expandS (L s) v) W') := fun W' hb s hs => RExpand_vs s v 1048576 (Nat.le_refl _) W' (hE6.go hb) ((hIv.keep hb).more hb.size) Hv.out (by omega)
  have hX3 : ∀ W', Below W6.heap.size W6 W' → ∀ s : ByteArray, s.size ≤ 600 → Calls Tryz.prog 13 #[.string s, .agg #[.string u.kernel, .string u.devpath, .string u.id, .string u.driver, .string u.parent, .string u.name, .string u.result, .slice u.attrs.A u.attrs.l.length u.attrs.c, .slice u.above.A u.above.l.length u.above.c, .slice u.env.A u.env.l.length u.env.c]] W' (ExpPost (expandS (L s) u) W') := fun W' hb s hs => Expand_vs s u 240 (by decide) W' (hE6.go hb) ((hIu.keep hb).more hb.size) Hv2.out (by omega)
  have hX4 : ∀ W', Below W6.heap.size W6 W' → ∀ s : ByteArray, s.size ≤ 600 → Calls Tryz.prog 26 #[.string s, .agg #[.string u.kernel, .string u.devpath, .string u.id, .string u.driver, .string u.parent, .string u.name, .string u.result, .slice u.attrs.A u.attrs.l.length u.attrs.c, .slice u.above.A u.above.l.length u.above.c, .slice u.env.A u.env.l.length u.env.c]] W' (ExpPost (expandS (L s) u) W') := fun W' hb s hs => RExpand_vs s u 240 (by decide) W' (hE6.go hb) ((hIu.keep hb).more hb.size) Hv2.out (by omega)
  have hc : ∀ W', Below W6.heap.size W6 W' → ∀ k, k < 2 → W'.cell? ⟨w1.heap.size, k, none⟩ = some (.string (([raw, tm] : List ByteArray).getD k ⟨#[]⟩)) := fun W' hb k hk => strs_cell [raw, tm] ((hb.block _ (blk_lt hL6)).trans hL6) rfl k hk
  have hsz : ∀ k, k < 2 → (([raw, tm] : List ByteArray).getD k ⟨#[]⟩).size ≤ 600 := fun k hk => by
    have : k = 0 ∨ k = 1 := by omega
    rcases this with rfl | rfl
    · show raw.size ≤ _; omega
    · show tm.size ≤ _; omega
  have hcu : ∀ i, W6.cell? ⟨w2.heap.size, i, none⟩ = #[.string u.kernel, .string u.devpath, .string u.id, .string u.driver, .string u.parent, .string u.name, .string u.result, .slice u.attrs.A u.attrs.l.length u.attrs.c, .slice u.above.A u.above.l.length u.above.c, .slice u.env.A u.env.l.length u.env.c][i]? := fun i => cell_of_row _ _ i _ _ _ hu
  have hcv : ∀ i, W6.cell? ⟨w.heap.size, i, none⟩ = #[.string v.kernel, .string v.devpath, .string v.id, .string v.driver, .string v.parent, .string v.name, .string v.result, .slice v.attrs.A v.attrs.l.length v.attrs.c, .slice v.above.A v.above.l.length v.above.c, .slice v.env.A v.env.l.length v.env.c][i]? := fun i => cell_of_row _ _ i _ _ _ hv6
  have HX1 := Lib.hid hX1
  have HX2 := Lib.hid hX2
  have HX3 := Lib.hid hX3
  have HX4 := Lib.hid hX4
  have HC := Lib.hid hc
  have Hsz := Lib.hid hsz
  have HCu := Lib.hid hcu
  have HCv := Lib.hid hcv
  have HE6 := Lib.hid hE6
  have HB6 : Hid (Below w.heap.size w W6) := Lib.hid (bt Hb1.out hB6)
  generalize w1.heap.size = LB at *
  generalize w2.heap.size = UB at *
  clear hb6 hu hB6 hL6 hv6 hE6 hIv hIu hX1 hX2 hX3 hX4 hc hsz hcu hcv HE HI Hv HI2 Hv2 HB2 HL2 hW6 HS1 Hb1 Hv0 HW1
  go_loopg [10] 2 (fun gk i wr => ∃ k : Nat, k + gk = 2 ∧ i = .int .i64 k ∧ Hid (Below W6.heap.size W6 wr))
  case atStart => exact ⟨0, by omega, rfl, Below.refl _ _⟩
  case round =>
    obtain ⟨k, hk, rfl, hbr⟩ := hrel
    by_cases hlt : k < 2
    · have hL := fun W' hb => HC.out W' hb k hlt
      have hz := Hsz.out k hlt
      generalize ([raw, tm] : List ByteArray).getD k ⟨#[]⟩ = sk at *
      have hX1 := fun W' hb => HX1.out W' hb sk hz
      have hX2 := fun W' hb => HX2.out W' hb sk hz
      have hX3 := fun W' hb => HX3.out W' hb sk hz
      have hX4 := fun W' hb => HX4.out W' hb sk hz
      generalize expandS (L sk) v = T1 at *
      generalize expandS (L sk) u = T2 at *
      obtain ⟨a1, c1⟩ := T1
      obtain ⟨a2, c2⟩ := T2
      unfold ExpPost at hX1 hX2 hX3 hX4
      dsimp only at hX1 hX2 hX3 hX4
      clear HX1 HX2 HX3 HX4
      have HX1 := Lib.hid hX1
      have HX2 := Lib.hid hX2
      have HX3 := Lib.hid hX3
      have HX4 := Lib.hid hX4
      have HSv : Hid (∀ W', Below W6.heap.size W6 W' → (W'.cell? ⟨LB, k, none⟩ = some (.string sk) ∧ W'.cell? ⟨w.heap.size, 0, none⟩ = some (.string v.kernel) ∧ W'.cell? ⟨w.heap.size, 1, none⟩ = some (.string v.devpath) ∧ W'.cell? ⟨w.heap.size, 2, none⟩ = some (.string v.id) ∧ W'.cell? ⟨w.heap.size, 3, none⟩ = some (.string v.driver) ∧ W'.cell? ⟨w.heap.size, 4, none⟩ = some (.string v.parent) ∧ W'.cell? ⟨w.heap.size, 5, none⟩ = some (.string v.name) ∧ W'.cell? ⟨w.heap.size, 6, none⟩ = some (.string v.result) ∧ W'.cell? ⟨w.heap.size, 7, none⟩ = some (.slice v.attrs.A v.attrs.l.length v.attrs.c) ∧ W'.cell? ⟨w.heap.size, 8, none⟩ = some (.slice v.above.A v.above.l.length v.above.c) ∧ W'.cell? ⟨w.heap.size, 9, none⟩ = some (.slice v.env.A v.env.l.length v.env.c)) ∧ Below W6.heap.size W6 W') := Lib.hid (fun W' hb => ⟨⟨hL W' hb, (hb.cell (p := ⟨w.heap.size, 0, none⟩) vlt).trans (HCv.out 0), (hb.cell (p := ⟨w.heap.size, 1, none⟩) vlt).trans (HCv.out 1), (hb.cell (p := ⟨w.heap.size, 2, none⟩) vlt).trans (HCv.out 2), (hb.cell (p := ⟨w.heap.size, 3, none⟩) vlt).trans (HCv.out 3), (hb.cell (p := ⟨w.heap.size, 4, none⟩) vlt).trans (HCv.out 4), (hb.cell (p := ⟨w.heap.size, 5, none⟩) vlt).trans (HCv.out 5), (hb.cell (p := ⟨w.heap.size, 6, none⟩) vlt).trans (HCv.out 6), (hb.cell (p := ⟨w.heap.size, 7, none⟩) vlt).trans (HCv.out 7), (hb.cell (p := ⟨w.heap.size, 8, none⟩) vlt).trans (HCv.out 8), (hb.cell (p := ⟨w.heap.size, 9, none⟩) vlt).trans (HCv.out 9)⟩, hb⟩)
      have HSu : Hid (∀ W', Below W6.heap.size W6 W' → (W'.cell? ⟨LB, k, none⟩ = some (.string sk) ∧ W'.cell? ⟨UB, 0, none⟩ = some (.string u.kernel) ∧ W'.cell? ⟨UB, 1, none⟩ = some (.string u.devpath) ∧ W'.cell? ⟨UB, 2, none⟩ = some (.string u.id) ∧ W'.cell? ⟨UB, 3, none⟩ = some (.string u.driver) ∧ W'.cell? ⟨UB, 4, none⟩ = some (.string u.parent) ∧ W'.cell? ⟨UB, 5, none⟩ = some (.string u.name) ∧ W'.cell? ⟨UB, 6, none⟩ = some (.string u.result) ∧ W'.cell? ⟨UB, 7, none⟩ = some (.slice u.attrs.A u.attrs.l.length u.attrs.c) ∧ W'.cell? ⟨UB, 8, none⟩ = some (.slice u.above.A u.above.l.length u.above.c) ∧ W'.cell? ⟨UB, 9, none⟩ = some (.slice u.env.A u.env.l.length u.env.c)) ∧ Below W6.heap.size W6 W') := Lib.hid (fun W' hb => ⟨⟨hL W' hb, (hb.cell (p := ⟨UB, 0, none⟩) ult).trans (HCu.out 0), (hb.cell (p := ⟨UB, 1, none⟩) ult).trans (HCu.out 1), (hb.cell (p := ⟨UB, 2, none⟩) ult).trans (HCu.out 2), (hb.cell (p := ⟨UB, 3, none⟩) ult).trans (HCu.out 3), (hb.cell (p := ⟨UB, 4, none⟩) ult).trans (HCu.out 4), (hb.cell (p := ⟨UB, 5, none⟩) ult).trans (HCu.out 5), (hb.cell (p := ⟨UB, 6, none⟩) ult).trans (HCu.out 6), (hb.cell (p := ⟨UB, 7, none⟩) ult).trans (HCu.out 7), (hb.cell (p := ⟨UB, 8, none⟩) ult).trans (HCu.out 8), (hb.cell (p := ⟨UB, 9, none⟩) ult).trans (HCu.out 9)⟩, hb⟩)
      clear hX1 hX2 hX3 hX4 hL hz
      go_wp2
      go_region_held3 (fun W' => (W'.cell? ⟨LB, k, none⟩ = some (.string sk) ∧ W'.cell? ⟨w.heap.size, 0, none⟩ = some (.string v.kernel) ∧ W'.cell? ⟨w.heap.size, 1, none⟩ = some (.string v.devpath) ∧ W'.cell? ⟨w.heap.size, 2, none⟩ = some (.string v.id) ∧ W'.cell? ⟨w.heap.size, 3, none⟩ = some (.string v.driver) ∧ W'.cell? ⟨w.heap.size, 4, none⟩ = some (.string v.parent) ∧ W'.cell? ⟨w.heap.size, 5, none⟩ = some (.string v.name) ∧ W'.cell? ⟨w.heap.size, 6, none⟩ = some (.string v.result) ∧ W'.cell? ⟨w.heap.size, 7, none⟩ = some (.slice v.attrs.A v.attrs.l.length v.attrs.c) ∧ W'.cell? ⟨w.heap.size, 8, none⟩ = some (.slice v.above.A v.above.l.length v.above.c) ∧ W'.cell? ⟨w.heap.size, 9, none⟩ = some (.slice v.env.A v.env.l.length v.env.c)) ∧ Below W6.heap.size W6 W') (first | exact HSv.out _ hbr.out.drew | exact HSv.out _ (bt hbr.out.drew hb1)) ((go_at_call 13; refine (HX1.out _ hbr.out.drew).mono ?_; rintro e x1 ⟨rfl, hb1⟩))
      have HB1 : Hid (Below W6.heap.size W6 x1) := Lib.hid (bt hbr.out.drew hb1)
      clear hb1
      go_wp2
      go_region_held3 (fun W' => (W'.cell? ⟨LB, k, none⟩ = some (.string sk) ∧ W'.cell? ⟨w.heap.size, 0, none⟩ = some (.string v.kernel) ∧ W'.cell? ⟨w.heap.size, 1, none⟩ = some (.string v.devpath) ∧ W'.cell? ⟨w.heap.size, 2, none⟩ = some (.string v.id) ∧ W'.cell? ⟨w.heap.size, 3, none⟩ = some (.string v.driver) ∧ W'.cell? ⟨w.heap.size, 4, none⟩ = some (.string v.parent) ∧ W'.cell? ⟨w.heap.size, 5, none⟩ = some (.string v.name) ∧ W'.cell? ⟨w.heap.size, 6, none⟩ = some (.string v.result) ∧ W'.cell? ⟨w.heap.size, 7, none⟩ = some (.slice v.attrs.A v.attrs.l.length v.attrs.c) ∧ W'.cell? ⟨w.heap.size, 8, none⟩ = some (.slice v.above.A v.above.l.length v.above.c) ∧ W'.cell? ⟨w.heap.size, 9, none⟩ = some (.slice v.env.A v.env.l.length v.env.c)) ∧ Below W6.heap.size W6 W') (first | exact HSv.out _ HB1.out.drew | exact HSv.out _ (bt HB1.out.drew hb2)) ((go_at_call 26; refine (HX2.out _ HB1.out.drew).mono ?_; rintro e x2 ⟨rfl, hb2⟩))
      have HB2 : Hid (Below W6.heap.size W6 x2) := Lib.hid (bt HB1.out.drew hb2)
      clear hb2
      go_wp2
      go_region_held3 (fun W' => (W'.cell? ⟨LB, k, none⟩ = some (.string sk) ∧ W'.cell? ⟨UB, 0, none⟩ = some (.string u.kernel) ∧ W'.cell? ⟨UB, 1, none⟩ = some (.string u.devpath) ∧ W'.cell? ⟨UB, 2, none⟩ = some (.string u.id) ∧ W'.cell? ⟨UB, 3, none⟩ = some (.string u.driver) ∧ W'.cell? ⟨UB, 4, none⟩ = some (.string u.parent) ∧ W'.cell? ⟨UB, 5, none⟩ = some (.string u.name) ∧ W'.cell? ⟨UB, 6, none⟩ = some (.string u.result) ∧ W'.cell? ⟨UB, 7, none⟩ = some (.slice u.attrs.A u.attrs.l.length u.attrs.c) ∧ W'.cell? ⟨UB, 8, none⟩ = some (.slice u.above.A u.above.l.length u.above.c) ∧ W'.cell? ⟨UB, 9, none⟩ = some (.slice u.env.A u.env.l.length u.env.c)) ∧ Below W6.heap.size W6 W') (first | exact HSu.out _ HB2.out.drew | exact HSu.out _ (bt HB2.out.drew hb3)) ((go_at_call 13; refine (HX3.out _ HB2.out.drew).mono ?_; rintro e x3 ⟨rfl, hb3⟩))
      have HB3 : Hid (Below W6.heap.size W6 x3) := Lib.hid (bt HB2.out.drew hb3)
      clear hb3
      go_wp2
      go_region_held3 (fun W' => (W'.cell? ⟨LB, k, none⟩ = some (.string sk) ∧ W'.cell? ⟨UB, 0, none⟩ = some (.string u.kernel) ∧ W'.cell? ⟨UB, 1, none⟩ = some (.string u.devpath) ∧ W'.cell? ⟨UB, 2, none⟩ = some (.string u.id) ∧ W'.cell? ⟨UB, 3, none⟩ = some (.string u.driver) ∧ W'.cell? ⟨UB, 4, none⟩ = some (.string u.parent) ∧ W'.cell? ⟨UB, 5, none⟩ = some (.string u.name) ∧ W'.cell? ⟨UB, 6, none⟩ = some (.string u.result) ∧ W'.cell? ⟨UB, 7, none⟩ = some (.slice u.attrs.A u.attrs.l.length u.attrs.c) ∧ W'.cell? ⟨UB, 8, none⟩ = some (.slice u.above.A u.above.l.length u.above.c) ∧ W'.cell? ⟨UB, 9, none⟩ = some (.slice u.env.A u.env.l.length u.env.c)) ∧ Below W6.heap.size W6 W') (first | exact HSu.out _ HB3.out.drew | exact HSu.out _ (bt HB3.out.drew hb4)) ((go_at_call 26; refine (HX4.out _ HB3.out.drew).mono ?_; rintro e x4 ⟨rfl, hb4⟩))
      have HB4 : Hid (Below W6.heap.size W6 x4) := Lib.hid (bt HB3.out.drew hb4)
      clear hb4
      go_wp2
      go_roundg (gk - 1)
      case measure => omega
      case rel => exact ⟨k + 1, by omega, by go_num, HB4.out⟩
    · go_wp2_with (go_at_call 11; refine (known_any _ (HE6.out.go hbr.out)).mono ?_; rintro e w3 ⟨rfl, hb3⟩; have HB3 := Lib.hid hb3; clear hb3)
      go_ret
      exact ⟨rfl, bt HB6.out (bt hbr.out HB3.out)⟩
end Go.Proofs.YtifbcfpaifobjaaGreatDoor
