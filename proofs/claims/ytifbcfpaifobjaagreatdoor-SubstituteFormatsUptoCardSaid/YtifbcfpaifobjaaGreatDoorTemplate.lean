/-
  Contract of the law file's function template: some short text. (Printed by gen_template.py.)
-/
import Derived.Test.YtifbcfpaifobjaaGreatDoorValues
namespace Go.Proofs.YtifbcfpaifobjaaGreatDoor
open Go.RowKit
theorem VSt.more {w W : World} {b n p d d' : Nat} {bl : List (Nat × Obj)} (h : VSt w b n p d bl W) (hd : d ≤ d') : VSt w b n p d' bl W := by
  obtain ⟨⟨⟨q, q1, q2, hq⟩, h1, h2, h3, h4, h5⟩, hb, hl⟩ := h
  exact ⟨⟨⟨q, q1, by omega, hq⟩, h1, h2, h3, h4, h5⟩, hb, hl⟩
def tBig : List ByteArray := [⟨#[36, 107, 101, 114, 110, 101, 108]⟩, ⟨#[37, 107]⟩, ⟨#[36, 110, 117, 109, 98, 101, 114]⟩, ⟨#[37, 110]⟩, ⟨#[36, 100, 101, 118, 112, 97, 116, 104]⟩, ⟨#[37, 112]⟩, ⟨#[36, 105, 100]⟩, ⟨#[37, 98]⟩, ⟨#[36, 100, 114, 105, 118, 101, 114]⟩, ⟨#[37, 100]⟩, ⟨#[36, 97, 116, 116, 114, 123, 115, 105, 122, 101, 125]⟩, ⟨#[37, 115, 123, 118, 101, 110, 100, 111, 114, 125]⟩, ⟨#[36, 101, 110, 118, 123, 73, 68, 125]⟩, ⟨#[37, 69, 123, 73, 68, 95, 88, 125]⟩, ⟨#[36, 114, 101, 115, 117, 108, 116]⟩, ⟨#[37, 99]⟩, ⟨#[36, 114, 101, 115, 117, 108, 116, 123, 49, 125]⟩, ⟨#[37, 99, 123, 50, 43, 125]⟩, ⟨#[36, 114, 101, 115, 117, 108, 116, 123, 49, 48, 125]⟩, ⟨#[36, 112, 97, 114, 101, 110, 116]⟩, ⟨#[37, 80]⟩, ⟨#[36, 110, 97, 109, 101]⟩, ⟨#[36, 36]⟩, ⟨#[37, 37]⟩, ⟨#[65]⟩, ⟨#[45, 98]⟩, ⟨#[47]⟩, ⟨#[32]⟩, ⟨#[123, 49, 125]⟩]
def tSep : List ByteArray := [⟨#[]⟩, ⟨#[45]⟩, ⟨#[46]⟩, ⟨#[57]⟩]
def tWrong : List ByteArray := [⟨#[]⟩, ⟨#[36]⟩, ⟨#[37]⟩, ⟨#[123]⟩, ⟨#[125]⟩, ⟨#[120]⟩, ⟨#[48]⟩, ⟨#[43]⟩]
theorem tBig_le : (tBig.all fun x => decide (x.size ≤ 11)) = true := by decide
theorem tSep_le : (tSep.all fun x => decide (x.size ≤ 1)) = true := by decide
theorem tWrong_le : (tWrong.all fun x => decide (x.size ≤ 1)) = true := by decide
/-- Some text of at most m bytes. -/
def ShortStr (m : Nat) (P : World → Prop) (e : Ending) (w' : World) : Prop := ∃ s : ByteArray, s.size ≤ m ∧ e = .returned (.string s) ∧ P w'
theorem One_short {w W : World} {b n p d : Nat} {bl : List (Nat × Obj)} (ss : List ByteArray) (m : Nat) (hm : (ss.all fun x => decide (x.size ≤ m)) = true) (A : Array Value) (T : TypeId) (g k c : Nat) (h : VSt w b n p d bl W) (hA : A.toList = ss.map Value.string) (hk : ss.length = k) (hk0 : 0 < k) (hk1 : k ≤ 1000) (hg : g = W.heap.size) (h3 : p + d ≤ 1000000) :
    Calls Tryz.prog 30 #[.pointer (some ⟨b, 0, none⟩), .slice (some ⟨g, 0, none⟩) k c] (W.alloc (.cells A T)) (ShortStr m (VSt w b n p (d + 1) bl)) :=
  (One_st ss A T g k c h hA hk hk0 hk1 hg h3).mono fun _ _ ⟨s, hs, he, hP⟩ => ⟨s, size_of_mem hs hm, he, hP⟩
set_option maxRecDepth 100000 in
set_option maxHeartbeats 4000000 in
theorem template_any (b n p d0 : Nat) (bl : List (Nat × Obj)) (w0 w : World) (h : VSt w0 b n p d0 bl w) (h3 : p + d0 ≤ 100000) :
    Calls Tryz.prog 15 #[.pointer (some ⟨b, 0, none⟩), .bool true] w (ShortStr 61 (VSt w0 b n p (d0 + 20) bl)) := by
  have H0 := Lib.hid h
  clear h
  go_enter Tryz.func15, Tryz.ntmps15
  go_wp2_with fail
  with_reducible refine (Next_st 6 H0.out (by omega) (by omega) (by omega)).mono ?_
  rintro e w1 ⟨r, r0, r1, rfl, h1⟩
  obtain ⟨k0, rfl⟩ := Int.eq_ofNat_of_zero_le r0
  have H1 := Lib.hid h1
  have hk0 : k0 ≤ 5 := by omega
  clear h1 r0 r1
  go_wp2_with fail
  go_loopg [5, 6] k0 (fun gk x i wr => ∃ s : ByteArray, x = .string s ∧ i = .int .i64 gk ∧ gk ≤ 5 ∧ s.size + 12 * gk ≤ 60 ∧ Hid (VSt w0 b n p (d0 + (11 - 2 * gk)) bl wr))
  case atStart => exact ⟨⟨#[]⟩, rfl, rfl, hk0, by show 0 + 12 * k0 ≤ 60; omega, H1.out.more (by omega)⟩
  case round =>
    obtain ⟨s, rfl, rfl, hg5, hsz, hst⟩ := hrel
    by_cases hgt : 0 < gk
    · have hgI : (0 : Int) < (gk : Int) := by omega
      go_wp2_with fail
      with_reducible refine (One_short tBig 11 tBig_le _ _ _ _ _ hst.out (by simp [tBig]) (by simp [tBig]) (by decide) (by decide) (by rfl) (by omega)).mono ?_
      rintro e w2 ⟨x, hx, rfl, h2⟩
      have H2 := Lib.hid h2
      have hq1 : (9223372036854775807 < s.size + x.size) = False := by simp; omega
      clear h2
      have hyz : (s ++ x).size ≤ s.size + 11 := by rw [ByteArray.size_append]; omega
      by_cases hy : s.size + x.size = 0
      · have he : (s ++ x).toList.isEmpty = true := by
          rw [tl]
          have : (L (s ++ x)).length = 0 := by rw [len_L, ByteArray.size_append]; exact hy
          rw [List.length_eq_zero_iff.1 this]; rfl
        go_wp2_with fail
        go_roundg (gk - 1)
        case measure => omega
        case rel => exact ⟨s ++ x, rfl, by go_num, by omega, by omega, H2.out.more (by omega)⟩
      · have hI1 : (1 : Int) ≤ (s.size : Int) + (x.size : Int) := by omega
        have hI2 : (s.size : Int) + (x.size : Int) - 1 < (s.size : Int) + (x.size : Int) := by omega
        have he : (s ++ x).toList.isEmpty = false := by
          rw [tl]
          cases hl : L (s ++ x) with
          | nil => exact absurd (by have := len_L (s ++ x); rw [hl, ByteArray.size_append] at this; exact this.symm) hy
          | cons a b => rfl
        have hne : ¬ (s ++ x).toList = [] := fun e => by rw [e] at he; cases he
        clear hy
        go_wp2_with fail
        · with_reducible refine (One_short tSep 1 tSep_le _ _ _ _ _ H2.out (by simp [tSep]) (by simp [tSep]) (by decide) (by decide) (by rfl) (by omega)).mono ?_
          rintro e w3 ⟨y, hy2, rfl, h3'⟩
          have H3 := Lib.hid h3'
          have hq3 : (9223372036854775807 < s.size + x.size + y.size) = False := by simp; omega
          have hyy : (s ++ x ++ y).size ≤ s.size + 12 := by rw [ByteArray.size_append, ByteArray.size_append]; omega
          clear h3'
          go_wp2_with fail
          go_roundg (gk - 1)
          case measure => omega
          case rel => exact ⟨s ++ x ++ y, rfl, by go_num, by omega, by omega, H3.out.more (by omega)⟩
        all_goals
          go_roundg (gk - 1)
          case measure => omega
          case rel => exact ⟨s ++ x, rfl, by go_num, by omega, by omega, H2.out.more (by omega)⟩
    · obtain rfl : gk = 0 := by omega
      by_cases hs0 : s.size = 0
      · have hz : ((s.size : Int) == 0) = true := by simp [hs0]
        go_wp2_with fail
        go_ret
        exact ⟨s, by omega, rfl, hst.out.more (by omega)⟩
      · have hz : ((s.size : Int) == 0) = false := by rw [beq_eq_false_iff_ne]; omega
        go_wp2_with fail
        with_reducible refine (Next_st 2 hst.out (by omega) (by omega) (by omega)).mono ?_
        rintro e w2 ⟨r, r0, r1, rfl, h2⟩
        have H2 := Lib.hid h2
        clear h2
        by_cases hr : r = 0
        · subst hr
          go_wp2_with fail
          go_ret
          exact ⟨s, by omega, rfl, H2.out.more (by omega)⟩
        · have hr' : (r == 0) = false := by simpa using hr
          go_wp2_with fail
          with_reducible refine (Next_st (s.size : Int) H2.out (by omega) (by omega) (by omega)).mono ?_
          rintro e w3 ⟨q, q0, q1, rfl, h3'⟩
          obtain ⟨k, rfl⟩ := Int.eq_ofNat_of_zero_le q0
          have H3 := Lib.hid h3'
          have hk1 : (k : Int) ≤ (s.size : Int) := by omega
          have hk2 : k ≤ s.size := by omega
          have hk3 : k < s.size := by omega
          clear h3' hr r0 r1
          go_wp2_with fail
          have HX := Lib.hid (fun (W : World) (hW : VSt w0 b n p (d0 + (11 - 2 * 0) + 1 + 1) bl W) => One_short tWrong 1 tWrong_le #[.string ⟨#[]⟩, .string ⟨#[36]⟩, .string ⟨#[37]⟩, .string ⟨#[123]⟩, .string ⟨#[125]⟩, .string ⟨#[120]⟩, .string ⟨#[48]⟩, .string ⟨#[43]⟩] 9 W.heap.size 8 8 hW (by simp [tWrong]) (by simp [tWrong]) (by decide) (by decide) rfl (by omega))
          go_region_held3 (fun _ => True) (exact trivial) (first | (go_at_call 30; refine (HX.out _ (H3.out.below (Below.refl _ _).drew)).mono ?_; rintro e w4 ⟨y, hy2, rfl, h4⟩; have hqa : (9223372036854775807 < k + y.size) = False := (by simp; omega); have hqb : (9223372036854775807 < min k s.size + y.size) = False := (by simp; omega); have hqc : (9223372036854775807 < (s.extract 0 k).size + y.size) = False := (by rw [size_extract]; simp; omega)) | (go_at_call 29; refine (Next_st 2 h4 (by omega) (by omega) (by omega)).mono ?_; rintro e w5 ⟨j, j0, j1, rfl, h5⟩; have hj1 : (k : Int) + j ≤ (s.size : Int) := (by omega); have hj2 : (0 : Int) ≤ (k : Int) + j := (by omega); have hj3 : IntKind.i64.wrap ((k : Int) + j) = (k : Int) + j := (IntWalk.i64_in _ (by omega)); have hj4 : ((k : Int) + j).toNat ≤ s.size := (by omega); have hqd : (9223372036854775807 < k + y.size + (s.size - ((k : Int) + j).toNat)) = False := (by simp; omega); have hqe : (9223372036854775807 < min k s.size + y.size + (s.size - ((k : Int) + j).toNat)) = False := (by simp; omega); have H5 := Lib.hid h5; clear h5))
          have hfz : (s.extract 0 k ++ y ++ s.extract ((k : Int) + j).toNat s.size).size ≤ 61 := by
            rw [ByteArray.size_append, ByteArray.size_append, size_extract, size_extract]
            omega
          clear hj1 hj2 hj3 hj4 hqd hqe hqa hqb hqc
          go_wp2
          go_ret
          exact ⟨_, hfz, rfl, H5.out.more (by omega)⟩
end Go.Proofs.YtifbcfpaifobjaaGreatDoor
