/-
  The program's proper, walked.
  The program's proper at pieces that stand for something.
-/
import Derived.Test.YtifbcfpaifobjaaGreatDoorFmtB
namespace Go.Proofs.YtifbcfpaifobjaaGreatDoor
open Go.RowKit Go.Lib
def BoolPost (b : Bool) (w : World) (e : Ending) (w' : World) : Prop := e = .returned (.bool b) ∧ Below w.heap.size w w'
theorem eql_func (n : Nat) (w : World) : (binOp .eql 57 (.func (.func n) #[] #[]) .nilFunc).run Tryz.prog w = .ok (.bool false) w := by kernel_rfl
theorem eql_nil (w : World) : (binOp .eql 57 .nilFunc .nilFunc).run Tryz.prog w = .ok (.bool true) w := by kernel_rfl
def boxPc (kd : Int) (tx : ByteArray) (wd : Int) (mo : Bool) : Obj := .cells #[.int .i64 kd, .string tx, .int .i64 wd, .bool mo] 64 (0, 0)
set_option maxRecDepth 100000 in
theorem proper_out (p : Pc) (w : World) (h : p.kind < 1 ∨ 11 < p.kind) :
    Calls Tryz.prog 47 #[encP p] w (BoolPost false w) := by
  obtain ⟨kd, tx, wd, mo⟩ := p
  unfold encP
  dsimp only at h ⊢
  have HB := Lib.hid (below_alloc w (.cells #[.int .i64 kd, .string tx, .int .i64 wd, .bool mo] 64))
  rcases h with h | h
  · go_enter Tryz.func47, Tryz.ntmps47
    go_wp2
    go_ret
    exact ⟨rfl, HB.out⟩
  · have h1 : ¬ kd < 1 := by omega
    go_enter Tryz.func47, Tryz.ntmps47
    go_wp2
    go_ret
    exact ⟨rfl, HB.out⟩
set_option maxRecDepth 100000 in
set_option maxHeartbeats 2000000 in
theorem proper_text (p : Pc) (w : World) (h : p.kind = 1) :
    Calls Tryz.prog 47 #[encP p] w (BoolPost (!(L p.text).isEmpty && printS (L p.text) && p.word == 0 && !p.more) w) := by
  obtain ⟨kd, tx, wd, mo⟩ := p
  unfold encP
  dsimp only at h ⊢
  subst h
  have HB := Lib.hid (below_alloc w (.cells #[.int .i64 1, .string tx, .int .i64 wd, .bool mo] 64))
  have HC := fun W => Contains_odd tx W
  by_cases he : L tx = []
  · have ht2 : tx.toList = [] := by rw [tl]; exact he
    have ht3 : tx.toList.isEmpty = true := by rw [ht2]; rfl
    rw [he]
    clear he
    go_enter Tryz.func47, Tryz.ntmps47
    go_wp2
    go_ret
    exact ⟨rfl, HB.out⟩
  · obtain ⟨n1, n2⟩ := not_empty he
    have hee : (L tx).isEmpty = false := by rw [← tl]; exact n1
    rw [hee]
    have hq1 : ∀ W', Below (w.alloc (.cells #[.int .i64 1, .string tx, .int .i64 wd, .bool mo] 64)).heap.size (w.alloc (.cells #[.int .i64 1, .string tx, .int .i64 wd, .bool mo] 64)) W' → W'.cell? ⟨w.heap.size, 2, none⟩ = some (.int .i64 wd) ∧ W'.cell? ⟨w.heap.size, 3, none⟩ = some (.bool mo) := fun W' hb => by
      have hbk := (hb.block w.heap.size (by simp)).trans (heap_alloc_new w (.cells #[.int .i64 1, .string tx, .int .i64 wd, .bool mo] 64))
      exact ⟨by rw [cell_of_row _ _ 2 _ _ _ hbk]; rfl, by rw [cell_of_row _ _ 3 _ _ _ hbk]; rfl⟩
    have HQ1 := Lib.hid hq1
    clear he hee hq1
    generalize printS (L tx) = pb at *
    cases pb with
    | false =>
      go_enter Tryz.func47, Tryz.ntmps47
      go_wp2_with (go_at_call 89; refine (HC _).mono ?_; rintro e w2 ⟨rfl, hb2⟩; have HB2 := Lib.hid hb2; clear hb2)
      go_ret
      exact ⟨rfl, bt HB.out HB2.out⟩
    | true =>
      by_cases hw : wd = 0
      · subst hw
        go_enter Tryz.func47, Tryz.ntmps47
        go_wp2_with (go_at_call 89; refine (HC _).mono ?_; rintro e w2 ⟨rfl, hb2⟩; have HB2 := Lib.hid hb2; obtain ⟨q2, q3⟩ := HQ1.out _ hb2; clear hb2)
        go_ret
        exact ⟨rfl, bt HB.out HB2.out⟩
      · have hw2 : (wd == 0) = false := by simpa using hw
        rw [hw2]
        go_enter Tryz.func47, Tryz.ntmps47
        go_wp2_with (go_at_call 89; refine (HC _).mono ?_; rintro e w2 ⟨rfl, hb2⟩; have HB2 := Lib.hid hb2; obtain ⟨q2, q3⟩ := HQ1.out _ hb2; clear hb2)
        go_ret
        exact ⟨rfl, bt HB.out HB2.out⟩
open Go.RowKit Go.Lib
set_option maxRecDepth 100000 in
set_option maxHeartbeats 4000000 in
theorem proper_nil (p : Pc) (k : Nat) (w : World) (hk : p.kind = k) (h2 : 2 ≤ k) (h12 : k < 12) (h7 : k ≠ 7) (h8 : k ≠ 8) :
    Calls Tryz.prog 47 #[encP p] w (BoolPost ((L p.text).isEmpty && if (k : Int) ≠ 9 ∨ p.word = 0 then p.word == 0 && !p.more else decide (1 ≤ p.word ∧ p.word ≤ 99)) w) := by
  obtain ⟨kd, tx, wd, mo⟩ := p
  unfold encP
  dsimp only at hk ⊢
  subst hk
  have hrow := forms_row k h12
  rw [braV_nil h7 h8] at hrow
  have hfield := field_bra
  have hneq := neq_nil
  have heql := eql_nil
  have k1 : ((k : Int) == 1) = false := by simp; omega
  have klo : ¬ (k : Int) < 1 := by omega
  have khi : ¬ 11 < (k : Int) := by omega
  have hb0 := below_alloc w (.cells #[.int .i64 k, .string tx, .int .i64 wd, .bool mo] 64)
  have hblk0 := heap_alloc_new w (.cells #[.int .i64 k, .string tx, .int .i64 wd, .bool mo] 64)
  generalize hR : ((L tx).isEmpty && if (k : Int) ≠ 9 ∨ wd = 0 then wd == 0 && !mo else decide (1 ≤ wd ∧ wd ≤ 99)) = rb
  have HR := Lib.hid hR
  clear hR
  go_enter Tryz.func47, Tryz.ntmps47
  go_wp2
  obtain ⟨W3, hW3⟩ : ∃ W3, w.alloc (.cells #[.int .i64 k, .string tx, .int .i64 wd, .bool mo] 64) = W3 := ⟨_, rfl⟩
  rw [hW3] at hb0 hblk0 ⊢
  have hPB : w.heap.size < W3.heap.size := blk_lt hblk0
  have q0 : W3.cell? ⟨w.heap.size, 0, none⟩ = some (.int .i64 k) := by rw [cell_of_row _ _ 0 _ _ _ hblk0]; rfl
  have HBlk := Lib.hid hblk0
  have HB0 := Lib.hid hb0
  clear hblk0 hb0 hW3
  go_region_held3 (fun w' => w'.cell? ⟨w.heap.size, 0, none⟩ = some (.int .i64 k) ∧ Below W3.heap.size W3 w') (first | exact ⟨q0, (Below.refl _ _).drew⟩ | exact ⟨(hb0.cell (p := ⟨w.heap.size, 0, none⟩) (by simpa using hPB)).trans q0, ((Below.refl _ _).drew).trans hb0⟩) (first | (go_at_call 27; refine (forms_any _).mono ?_; rintro e w0 ⟨rfl, hb0⟩))
  have hW : Below W3.heap.size W3 w0 := ((Below.refl _ _).drew).trans hb0
  have hblk := (hW.block _ hPB).trans HBlk.out
  have HW := Lib.hid (bt HB0.out hW)
  have q0' : w0.cell? ⟨w.heap.size, 0, none⟩ = some (.int .i64 k) := by rw [cell_of_row _ _ 0 _ _ _ hblk]; rfl
  have q1 : w0.cell? ⟨w.heap.size, 1, none⟩ = some (.string tx) := by rw [cell_of_row _ _ 1 _ _ _ hblk]; rfl
  have q2 : w0.cell? ⟨w.heap.size, 2, none⟩ = some (.int .i64 wd) := by rw [cell_of_row _ _ 2 _ _ _ hblk]; rfl
  have q3 : w0.cell? ⟨w.heap.size, 3, none⟩ = some (.bool mo) := by rw [cell_of_row _ _ 3 _ _ _ hblk]; rfl
  have hPB0 : w.heap.size < w0.heap.size := blk_lt hblk
  clear hb0 hW q0 HBlk HB0 hPB hblk
  by_cases he : L tx = []
  · have ht2 : tx.toList = [] := by rw [tl]; exact he
    have ht3 : tx.toList.isEmpty = true := by rw [ht2]; rfl
    have hr := HR.out
    rw [he] at hr
    simp only [List.isEmpty_nil, Bool.true_and] at hr
    clear he HR
    by_cases h9 : k = 9
    · subst h9
      by_cases h0 : wd = 0
      · rw [if_pos (.inr h0)] at hr
        subst h0
        have HR := Lib.hid hr
        clear hr
        go_wp2
        go_ret
        exact ⟨by rw [← HR.out]; rfl, HW.out⟩
      · rw [if_neg (fun h => h.elim (fun h => h rfl) h0)] at hr
        have h0' : (wd == 0) = false := by simpa using h0
        have HR := Lib.hid hr
        clear hr
        by_cases h1 : 1 ≤ wd
        · go_wp2
          go_ret
          refine ⟨?_, HW.out⟩
          rw [← HR.out]
          simp [h1]
        · go_wp2
          go_ret
          refine ⟨?_, HW.out⟩
          rw [← HR.out]
          simp
          omega
    · have h9' : ((k : Int) == 9) = false := by simp; omega
      rw [if_pos (.inl (by omega))] at hr
      by_cases h0 : wd = 0
      · subst h0
        have HR := Lib.hid hr
        clear hr
        go_wp2
        go_ret
        exact ⟨by rw [← HR.out]; rfl, HW.out⟩
      · have h0' : (wd == 0) = false := by simpa using h0
        rw [h0'] at hr
        have HR := Lib.hid hr
        clear hr
        go_wp2
        go_ret
        exact ⟨by rw [← HR.out]; rfl, HW.out⟩
  · obtain ⟨n1, n2⟩ := not_empty he
    have hee : (L tx).isEmpty = false := by rw [← tl]; exact n1
    have hr := HR.out
    rw [hee] at hr
    have HR2 := Lib.hid hr
    clear he hee hr HR
    go_wp2
    go_ret
    exact ⟨by rw [← HR2.out]; rfl, HW.out⟩
set_option maxRecDepth 100000 in
set_option maxHeartbeats 4000000 in
theorem proper_7 (p : Pc) (w : World) (hk : p.kind = 7) (ht : p.text.size ≤ 100000000) :
    Calls Tryz.prog 47 #[encP p] w (BoolPost (validS (L p.text) && (p.word == 0 && !p.more)) w) := by
  obtain ⟨kd, tx, wd, mo⟩ := p
  unfold encP
  dsimp only at hk ht ⊢
  have hV := fun W => Valid_any tx W (by omega)
  subst hk
  have hrow := forms_row 7 (by omega)
  rw [show braV 7 = .func (.func 63) #[] #[] from rfl] at hrow
  simp only [Int.cast_ofNat_Int] at hrow
  have hfield := field_bra
  have hneq := neq_func 63
  have heql := eql_func 63
  have hb0 := below_alloc w (.cells #[.int .i64 7, .string tx, .int .i64 wd, .bool mo] 64)
  have hblk0 := heap_alloc_new w (.cells #[.int .i64 7, .string tx, .int .i64 wd, .bool mo] 64)
  generalize validS (L tx) = vb at *
  have HV := Lib.hid hV
  clear hV
  go_enter Tryz.func47, Tryz.ntmps47
  go_wp2
  obtain ⟨W3, hW3⟩ : ∃ W3, w.alloc (.cells #[.int .i64 7, .string tx, .int .i64 wd, .bool mo] 64) = W3 := ⟨_, rfl⟩
  rw [hW3] at hb0 hblk0 ⊢
  have hPB : w.heap.size < W3.heap.size := blk_lt hblk0
  have q0 : W3.cell? ⟨w.heap.size, 0, none⟩ = some (.int .i64 7) := by rw [cell_of_row _ _ 0 _ _ _ hblk0]; rfl
  have HBlk := Lib.hid hblk0
  have HB0 := Lib.hid hb0
  clear hblk0 hb0 hW3
  go_region_held3 (fun w' => w'.cell? ⟨w.heap.size, 0, none⟩ = some (.int .i64 7) ∧ Below W3.heap.size W3 w') (first | exact ⟨q0, (Below.refl _ _).drew⟩ | exact ⟨(hb0.cell (p := ⟨w.heap.size, 0, none⟩) (by simpa using hPB)).trans q0, ((Below.refl _ _).drew).trans hb0⟩) (first | (go_at_call 27; refine (forms_any _).mono ?_; rintro e w0 ⟨rfl, hb0⟩))
  have hW : Below W3.heap.size W3 w0 := ((Below.refl _ _).drew).trans hb0
  have hblk := (hW.block _ hPB).trans HBlk.out
  have HW := Lib.hid (bt HB0.out hW)
  have q1 : w0.cell? ⟨w.heap.size, 1, none⟩ = some (.string tx) := by rw [cell_of_row _ _ 1 _ _ _ hblk]; rfl
  have hPB0 : w.heap.size < w0.heap.size := blk_lt hblk
  have hQ : ∀ W', Below w0.heap.size w0 W' → W'.cell? ⟨w.heap.size, 0, none⟩ = some (.int .i64 7) ∧ W'.cell? ⟨w.heap.size, 2, none⟩ = some (.int .i64 wd) ∧ W'.cell? ⟨w.heap.size, 3, none⟩ = some (.bool mo) := fun W' hb => by
    have hbk := (hb.block _ hPB0).trans hblk
    exact ⟨by rw [cell_of_row _ _ 0 _ _ _ hbk]; rfl, by rw [cell_of_row _ _ 2 _ _ _ hbk]; rfl, by rw [cell_of_row _ _ 3 _ _ _ hbk]; rfl⟩
  have HQ := Lib.hid hQ
  clear hb0 hW q0 HBlk HB0 hPB hblk hQ
  cases vb with
  | false =>
    go_wp2_with (go_at_call 63; refine (HV.out _).mono ?_; rintro e w5 ⟨rfl, hb5⟩; obtain ⟨q0, q2, q3⟩ := HQ.out _ hb5; have HB5 := Lib.hid (bt HW.out hb5); clear hb5)
    go_ret
    exact ⟨rfl, HB5.out⟩
  | true =>
    by_cases h0 : wd = 0
    · subst h0
      go_wp2_with (go_at_call 63; refine (HV.out _).mono ?_; rintro e w5 ⟨rfl, hb5⟩; obtain ⟨q0, q2, q3⟩ := HQ.out _ hb5; have HB5 := Lib.hid (bt HW.out hb5); clear hb5)
      go_ret
      exact ⟨rfl, HB5.out⟩
    · have h0' : (wd == 0) = false := by simpa using h0
      go_wp2_with (go_at_call 63; refine (HV.out _).mono ?_; rintro e w5 ⟨rfl, hb5⟩; obtain ⟨q0, q2, q3⟩ := HQ.out _ hb5; have HB5 := Lib.hid (bt HW.out hb5); clear hb5)
      go_ret
      exact ⟨by rw [h0']; rfl, HB5.out⟩
set_option maxRecDepth 100000 in
set_option maxHeartbeats 4000000 in
theorem proper_8 (p : Pc) (w : World) (hk : p.kind = 8) (ht : p.text.size ≤ 100000000) :
    Calls Tryz.prog 47 #[encP p] w (BoolPost (keyS (L p.text) && (p.word == 0 && !p.more)) w) := by
  obtain ⟨kd, tx, wd, mo⟩ := p
  unfold encP
  dsimp only at hk ht ⊢
  have hV := fun W => Key_any tx W (by omega)
  subst hk
  have hrow := forms_row 8 (by omega)
  rw [show braV 8 = .func (.func 66) #[] #[] from rfl] at hrow
  simp only [Int.cast_ofNat_Int] at hrow
  have hfield := field_bra
  have hneq := neq_func 66
  have heql := eql_func 66
  have hb0 := below_alloc w (.cells #[.int .i64 8, .string tx, .int .i64 wd, .bool mo] 64)
  have hblk0 := heap_alloc_new w (.cells #[.int .i64 8, .string tx, .int .i64 wd, .bool mo] 64)
  generalize keyS (L tx) = vb at *
  have HV := Lib.hid hV
  clear hV
  go_enter Tryz.func47, Tryz.ntmps47
  go_wp2
  obtain ⟨W3, hW3⟩ : ∃ W3, w.alloc (.cells #[.int .i64 8, .string tx, .int .i64 wd, .bool mo] 64) = W3 := ⟨_, rfl⟩
  rw [hW3] at hb0 hblk0 ⊢
  have hPB : w.heap.size < W3.heap.size := blk_lt hblk0
  have q0 : W3.cell? ⟨w.heap.size, 0, none⟩ = some (.int .i64 8) := by rw [cell_of_row _ _ 0 _ _ _ hblk0]; rfl
  have HBlk := Lib.hid hblk0
  have HB0 := Lib.hid hb0
  clear hblk0 hb0 hW3
  go_region_held3 (fun w' => w'.cell? ⟨w.heap.size, 0, none⟩ = some (.int .i64 8) ∧ Below W3.heap.size W3 w') (first | exact ⟨q0, (Below.refl _ _).drew⟩ | exact ⟨(hb0.cell (p := ⟨w.heap.size, 0, none⟩) (by simpa using hPB)).trans q0, ((Below.refl _ _).drew).trans hb0⟩) (first | (go_at_call 27; refine (forms_any _).mono ?_; rintro e w0 ⟨rfl, hb0⟩))
  have hW : Below W3.heap.size W3 w0 := ((Below.refl _ _).drew).trans hb0
  have hblk := (hW.block _ hPB).trans HBlk.out
  have HW := Lib.hid (bt HB0.out hW)
  have q1 : w0.cell? ⟨w.heap.size, 1, none⟩ = some (.string tx) := by rw [cell_of_row _ _ 1 _ _ _ hblk]; rfl
  have hPB0 : w.heap.size < w0.heap.size := blk_lt hblk
  have hQ : ∀ W', Below w0.heap.size w0 W' → W'.cell? ⟨w.heap.size, 0, none⟩ = some (.int .i64 8) ∧ W'.cell? ⟨w.heap.size, 2, none⟩ = some (.int .i64 wd) ∧ W'.cell? ⟨w.heap.size, 3, none⟩ = some (.bool mo) := fun W' hb => by
    have hbk := (hb.block _ hPB0).trans hblk
    exact ⟨by rw [cell_of_row _ _ 0 _ _ _ hbk]; rfl, by rw [cell_of_row _ _ 2 _ _ _ hbk]; rfl, by rw [cell_of_row _ _ 3 _ _ _ hbk]; rfl⟩
  have HQ := Lib.hid hQ
  clear hb0 hW q0 HBlk HB0 hPB hblk hQ
  cases vb with
  | false =>
    go_wp2_with (go_at_call 66; refine (HV.out _).mono ?_; rintro e w5 ⟨rfl, hb5⟩; obtain ⟨q0, q2, q3⟩ := HQ.out _ hb5; have HB5 := Lib.hid (bt HW.out hb5); clear hb5)
    go_ret
    exact ⟨rfl, HB5.out⟩
  | true =>
    by_cases h0 : wd = 0
    · subst h0
      go_wp2_with (go_at_call 66; refine (HV.out _).mono ?_; rintro e w5 ⟨rfl, hb5⟩; obtain ⟨q0, q2, q3⟩ := HQ.out _ hb5; have HB5 := Lib.hid (bt HW.out hb5); clear hb5)
      go_ret
      exact ⟨rfl, HB5.out⟩
    · have h0' : (wd == 0) = false := by simpa using h0
      go_wp2_with (go_at_call 66; refine (HV.out _).mono ?_; rintro e w5 ⟨rfl, hb5⟩; obtain ⟨q0, q2, q3⟩ := HQ.out _ hb5; have HB5 := Lib.hid (bt HW.out hb5); clear hb5)
      go_ret
      exact ⟨by rw [h0']; rfl, HB5.out⟩
/-- Whether a piece is one that a parse can give. -/
theorem proper_any (p : Pc) (w : World) (ht : p.text.size ≤ 100000000) :
    Calls Tryz.prog 47 #[encP p] w (BoolPost (properS p) w) := by
  by_cases h0 : p.kind < 1 ∨ 11 < p.kind
  · rw [show properS p = false by unfold properS; rw [if_pos h0]]
    exact proper_out p w h0
  by_cases h1 : p.kind = 1
  · rw [show properS p = (!(L p.text).isEmpty && printS (L p.text) && p.word == 0 && !p.more) by unfold properS; rw [if_neg h0, if_pos h1]]
    exact proper_text p w h1
  obtain ⟨k, hk⟩ : ∃ k : Nat, p.kind = k := ⟨p.kind.toNat, by omega⟩
  have hb : ∀ (b : Bool) (x : Bool), (if b = true then false else x) = (!b && x) := fun b x => by cases b <;> rfl
  by_cases h7 : k = 7
  · subst h7
    rw [show properS p = (validS (L p.text) && (p.word == 0 && !p.more)) by
      unfold properS; rw [if_neg h0, if_neg h1, hk, hb, if_pos (show ((7 : Nat) : Int) = 7 from rfl), if_pos (show ((7 : Nat) : Int) ≠ 9 ∨ p.word = 0 from .inl (by omega)), Bool.not_not]]
    exact proper_7 p w hk ht
  by_cases h8 : k = 8
  · subst h8
    rw [show properS p = (keyS (L p.text) && (p.word == 0 && !p.more)) by
      unfold properS; rw [if_neg h0, if_neg h1, hk, hb, if_neg (show ¬ ((8 : Nat) : Int) = 7 by omega), if_pos (show ((8 : Nat) : Int) = 8 from rfl), if_pos (show ((8 : Nat) : Int) ≠ 9 ∨ p.word = 0 from .inl (by omega)), Bool.not_not]]
    exact proper_8 p w hk ht
  rw [show properS p = ((L p.text).isEmpty && if (k : Int) ≠ 9 ∨ p.word = 0 then p.word == 0 && !p.more else decide (1 ≤ p.word ∧ p.word ≤ 99)) by
    unfold properS; rw [if_neg h0, if_neg h1, hk, hb, if_neg (show ¬ (k : Int) = 7 by omega), if_neg (show ¬ (k : Int) = 8 by omega), Bool.not_not]]
  exact proper_nil p k w hk (by omega) (by omega) h7 h8
end Go.Proofs.YtifbcfpaifobjaaGreatDoor
