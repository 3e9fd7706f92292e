/-
  The law SubstituteCuts, walked: a text is cut after 256 bytes. (Printed by gen_lcuts.py.)
-/
import Derived.Test.YtifbcfpaifobjaaGreatDoorLForms
namespace Go.Proofs.YtifbcfpaifobjaaGreatDoor
open Go.RowKit
theorem cuts_pcs : (pcs ⟨#[37, 99, 45, 37, 99, 45, 37, 99]⟩ == [(9, [], 0, false), (1, [45], 0, false), (9, [], 0, false), (1, [45], 0, false), (9, [], 0, false)] && decide ((parseR (L ⟨#[37, 99, 45, 37, 99, 45, 37, 99]⟩)).2 = 0)) = true := by kernel_rfl
theorem expand_cuts (v : Vs) : expandS (L ⟨#[37, 99, 45, 37, 99, 45, 37, 99]⟩) v = ((v.result ++ ⟨#[45]⟩ ++ v.result ++ ⟨#[45]⟩ ++ v.result).extract 0 256, 0) := by
  have h := cuts_pcs
  simp only [Bool.and_eq_true, decide_eq_true_eq, beq_iff_eq] at h
  have h3 : (parseR (L ⟨#[37, 99, 45, 37, 99, 45, 37, 99]⟩)).1 = [⟨9, bs [], 0, false⟩, ⟨1, bs [45], 0, false⟩, ⟨9, bs [], 0, false⟩, ⟨1, bs [45], 0, false⟩, ⟨9, bs [], 0, false⟩] := pcs_inj _ _ (by rw [show ((parseR (L ⟨#[37, 99, 45, 37, 99, 45, 37, 99]⟩)).1.map fun p => (p.kind, L p.text, p.word, p.more)) = pcs ⟨#[37, 99, 45, 37, 99, 45, 37, 99]⟩ from rfl, h.1]; rfl)
  rw [expandS, if_pos h.2, h3]
  have h9 : valueS ⟨9, bs [], 0, false⟩ v = v.result := by
    show bs (resultS 0 false (L v.result)) = v.result
    rw [resultS, if_pos rfl, bs_L]
  have h1 : valueS ⟨1, bs [45], 0, false⟩ v = ⟨#[45]⟩ := rfl
  have e : (⟨#[]⟩ : ByteArray) ++ v.result = v.result := L_inj (by rw [L_append]; rfl)
  simp only [outS, List.foldl_cons, List.foldl_nil, h9, h1, e]
theorem Repeat_r (r : Nat) (hr : r < 200) (W : World) : Calls Tryz.prog 22 #[.string ⟨#[114]⟩, .int .i64 r] W fun e w' => ∃ x : ByteArray, e = .returned (.string x) ∧ x.size ≤ 200 ∧ Below W.heap.size W w' := by
  have h := Tryz.strings_Repeat ⟨#[114]⟩ r W (by omega) (by show 1 * r ≤ _; omega)
  exact h.mono fun e w' h => ⟨_, h.1, by
    show (Lib.repeatL [114] r).length ≤ 200
    rw [Lib.repeatL_length]; simp; omega, h.2⟩
theorem cut_len256 (a : ByteArray) : (if 256 < a.size then a.extract 0 256 else a) = a.extract 0 256 := by
  split
  · rfl
  · refine L_inj ?_
    rw [L_extract, List.drop_zero, List.take_of_length_le (by rw [len_L]; omega)]
set_option maxRecDepth 100000 in
set_option maxHeartbeats 4000000 in
theorem lawCuts (A : Option Addr) (n c : Nat) (m : Int) (w : World) (hE : Env w) (hl : IntsIn w A n) (hm1 : -9223372036854775808 ≤ m) (hm2 : m ≤ 9223372036854775807) :
    Calls Tryz.prog 7 #[.slice A n c, .int .i64 m] w fun e w' => e = .returned (.bool true) ∧ Below w.heap.size w w' := by
  have HE := Lib.hid hE
  have HT := Lib.hid (VSt.start (hl.tape c 37))
  have Hw := Lib.hid (below_alloc w (.cells #[.slice A n c, .int .i64 0] 37))
  have hr := foldS_rng m 200 (by omega)
  obtain ⟨r, hr0⟩ := Int.eq_ofNat_of_zero_le hr.1
  rw [hr0] at hr
  have HR := Lib.hid hr0
  have hr2 : r < 200 := by omega
  clear hl hE hr0 hr
  go_enter Tryz.func7, Tryz.ntmps7
  go_wp2_with fail
  with_reducible refine (values_any _ _ 0 0 _ _ _ HT.out (by omega)).mono ?_
  rintro e w1 ⟨v, rfl, hI, hv, bl, hst⟩
  have HI := Lib.hid hI
  have Hv := Lib.hid hv
  have Hb1 := Lib.hid (hst.back Hw.out)
  clear hI hv hst
  unfold encVs Lst.v
  go_wp2_with fail
  with_reducible refine (Fold_any _ _ _ hm1 hm2 (by omega)).mono ?_
  rintro e w' ⟨rfl, rfl⟩
  rw [HR.out]
  go_wp2_with fail
  with_reducible refine (Repeat_r r hr2 _).mono ?_
  rintro e w2 ⟨x, rfl, hx, hb2⟩
  have hbk := hb2.block w1.heap.size (by simp)
  rw [heap_alloc_last] at hbk
  have hsz2 := hb2.size
  simp only [World.size_alloc] at hsz2
  have hlt2 : w1.heap.size < w2.heap.size := by omega
  have c0 : w2.cell? ⟨w1.heap.size, 0, none⟩ = some (.string v.kernel) := by rw [cell_of_row _ _ 0 _ _ _ hbk]; rfl
  have c1 : w2.cell? ⟨w1.heap.size, 1, none⟩ = some (.string v.devpath) := by rw [cell_of_row _ _ 1 _ _ _ hbk]; rfl
  have c2 : w2.cell? ⟨w1.heap.size, 2, none⟩ = some (.string v.id) := by rw [cell_of_row _ _ 2 _ _ _ hbk]; rfl
  have c3 : w2.cell? ⟨w1.heap.size, 3, none⟩ = some (.string v.driver) := by rw [cell_of_row _ _ 3 _ _ _ hbk]; rfl
  have c4 : w2.cell? ⟨w1.heap.size, 4, none⟩ = some (.string v.parent) := by rw [cell_of_row _ _ 4 _ _ _ hbk]; rfl
  have c5 : w2.cell? ⟨w1.heap.size, 5, none⟩ = some (.string v.name) := by rw [cell_of_row _ _ 5 _ _ _ hbk]; rfl
  have c6 : w2.cell? ⟨w1.heap.size, 6, none⟩ = some (.string v.result) := by rw [cell_of_row _ _ 6 _ _ _ hbk]; rfl
  have c7 : w2.cell? ⟨w1.heap.size, 7, none⟩ = some (.slice v.attrs.A v.attrs.l.length v.attrs.c) := by rw [cell_of_row _ _ 7 _ _ _ hbk]; rfl
  have c8 : w2.cell? ⟨w1.heap.size, 8, none⟩ = some (.slice v.above.A v.above.l.length v.above.c) := by rw [cell_of_row _ _ 8 _ _ _ hbk]; rfl
  have c9 : w2.cell? ⟨w1.heap.size, 9, none⟩ = some (.slice v.env.A v.env.l.length v.env.c) := by rw [cell_of_row _ _ 9 _ _ _ hbk]; rfl
  have f6 : w2.frozen? ⟨w1.heap.size, 6, none⟩ = false := frozen_of_row _ _ _ _ _ hbk
  have hcell6 : (w2.setCell ⟨w1.heap.size, 6, none⟩ (.string x)).cell? ⟨w1.heap.size, 6, none⟩ = some (.string x) := by rw [cell_of_row _ _ 6 _ _ _ (heap_setCell_same _ _ _ _ _ _ hbk)]; rfl
  have HB2 := Lib.hid (bt (below_alloc w1 (.cells #[.string v.kernel, .string v.devpath, .string v.id, .string v.driver, .string v.parent, .string v.name, .string v.result, .slice v.attrs.A v.attrs.l.length v.attrs.c, .slice v.above.A v.above.l.length v.above.c, .slice v.env.A v.env.l.length v.env.c] 25)) hb2)
  clear hbk hb2
  go_wp2_with fail
  clear c0 c1 c2 c3 c4 c5 c6 c7 c8 c9
  have hb6 : Below w1.heap.size w1 (w2.setCell ⟨w1.heap.size, 6, none⟩ (.string x)) := HB2.out.setCell (p := ⟨w1.heap.size, 6, none⟩) (Nat.le_refl _) _
  have hc6 : (w2.setCell ⟨w1.heap.size, 6, none⟩ (.string x)).cell? ⟨w1.heap.size, 6, none⟩ = some (.string x) := hcell6
  have hz3 : w1.heap.size < (w2.setCell ⟨w1.heap.size, 6, none⟩ (.string x)).heap.size := by simpa [World.setCell] using hlt2
  have hX := Expand_vs ⟨#[37, 99, 45, 37, 99, 45, 37, 99]⟩ { v with result := x } 240 (by decide) (w2.setCell ⟨w1.heap.size, 6, none⟩ (.string x)) ((HE.out.go Hb1.out).go hb6) (let h := (HI.out.keep hb6).more hb6.size; ⟨h.attrs, h.above, h.env, h.la, h.lb, h.le⟩) (let h := Hv.out; ⟨h.kernel, h.devpath, h.id, h.driver, h.parent, h.name, Nat.le_trans hx (by decide), h.attrs, h.above, h.env⟩) (by decide)
  rw [expand_cuts] at hX
  unfold encVs Lst.v ExpPost at hX
  dsimp only at hX
  generalize w2.setCell ⟨w1.heap.size, 6, none⟩ (.string x) = W3 at *
  have HB6 := Lib.hid (bt Hb1.out hb6)
  clear hb6 f6
  with_reducible refine hX.mono ?_
  rintro e w4 ⟨rfl, hb4⟩
  have hc6' : w4.cell? ⟨w1.heap.size, 6, none⟩ = some (.string x) := (hb4.cell (p := ⟨w1.heap.size, 6, none⟩) hz3).trans hc6
  have HB4 := Lib.hid hb4
  have hex : x.size + 1 + x.size + 1 + x.size ≤ 256 → (x ++ ⟨#[45]⟩ ++ x ++ ⟨#[45]⟩ ++ x).extract 0 256 = x ++ ⟨#[45]⟩ ++ x ++ ⟨#[45]⟩ ++ x := fun h => by
    refine L_inj ?_
    have e1 : (⟨#[45]⟩ : ByteArray).size = 1 := rfl
    rw [L_extract, List.drop_zero, List.take_of_length_le (by rw [len_L]; simp only [ByteArray.size_append, e1]; omega)]
  have HX3 := Lib.hid hex
  clear hc6 hb4 hX hex
  go_wp2_with (go_at_call 11; refine (known_any _ ((HE.out.go HB6.out).go HB4.out)).mono ?_; rintro e w5 ⟨rfl, hb5⟩; have HB5 := Lib.hid hb5; clear hb5)
  · go_ret
    exact ⟨rfl, bt HB6.out (bt HB4.out HB5.out)⟩
  · go_ret
    exact ⟨rfl, bt HB6.out (bt HB4.out HB5.out)⟩
  · have h1 : (x.size : Int) + 1 + x.size + 1 + x.size ≤ 256 := by assumption
    exact absurd (congrArg ByteArray.toList (HX3.out (by omega))) (by assumption)
end Go.Proofs.YtifbcfpaifobjaaGreatDoor
