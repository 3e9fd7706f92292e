/-
  The small functions of the program's Format: a text's runes, how a text is written, the braces.
  The program's inBraces, walked.
-/
import Derived.Test.YtifbcfpaifobjaaGreatDoorFmt
import Derived.Test.YtifbcfpaifobjaaGreatDoorLPlain
namespace Go.Proofs.YtifbcfpaifobjaaGreatDoor
open Go.RowKit Go.Lib
/-- A rune that may not stand in a text. -/
def odd (x : Nat) : Bool := decide ((x : Int) < 32) || decide (126 < (x : Int))
theorem odd_from (s : ByteArray) : ∀ (f pos : Nat), s.size ≤ pos + f → (idxFuncFrom odd true s f pos = -1 ↔ ∀ i (h : i < s.size), pos ≤ i → pr s[i] = true)
  | 0, pos, hf => by
    rw [idxFuncFrom_end _ _ _ _ _ (by omega)]
    exact ⟨fun _ i h hp => absurd h (by omega), fun _ => rfl⟩
  | f + 1, pos, hf => by
    by_cases hp : pos < s.size
    · rw [idxFuncFrom, if_pos hp]
      by_cases ha : s[pos].toNat < 128
      · rw [decode_ascii s pos hp ha]
        have hpr : odd s[pos].toNat = !pr s[pos] := by
          unfold odd pr
          rw [Bool.eq_iff_iff]
          simp
          try omega
        by_cases h : pr s[pos] = true
        · rw [hpr, h]
          have ih := odd_from s f (pos + 1) (by omega)
          simp only [Bool.not_true]
          rw [if_neg (by decide), ih]
          refine ⟨fun h2 i hi hpi => ?_, fun h2 i hi hpi => h2 i hi (by omega)⟩
          by_cases e : i = pos
          · subst e; exact h
          · exact h2 i hi (by omega)
        · rw [hpr, Bool.eq_false_iff.2 h]
          simp only [Bool.not_false, if_true]
          exact ⟨fun h2 => by omega, fun h2 => absurd (h2 pos hp (Nat.le_refl _)) h⟩
      · have hh := (decode_high s pos hp (by omega)).1
        have ho : odd (Utf8.decode s pos).1 = true := by unfold odd; simp; omega
        rw [ho]
        simp only [if_true]
        refine ⟨fun h2 => by omega, fun h2 => absurd (h2 pos hp (Nat.le_refl _)) ?_⟩
        unfold pr
        simp
        omega
    · rw [idxFuncFrom_end _ _ _ _ _ hp]
      exact ⟨fun _ i h hpi => absurd h (by omega), fun _ => rfl⟩
theorem odd_print (s : ByteArray) : decide (0 ≤ idxFunc odd true s) = !printS (L s) := by
  have h := odd_from s s.size 0 (by omega)
  have hr := idxFunc_range odd true s
  by_cases hp : printS (L s) = true
  · rw [hp]
    have : idxFunc odd true s = -1 := h.2 fun i hi _ => by
      have := List.all_eq_true.1 hp s[i] (by unfold L; rw [Array.mem_toList_iff]; exact Array.getElem_mem hi)
      exact this
    rw [this]; rfl
  · rw [Bool.eq_false_iff.2 hp]
    have : idxFunc odd true s ≠ -1 := fun e => hp (List.all_eq_true.2 fun b hb => by
      obtain ⟨i, hi, rfl⟩ := List.mem_iff_getElem.1 hb
      exact h.1 e i (by rw [← len_L]; exact hi) (Nat.zero_le _))
    simp; omega
theorem odd_at (w : World) : PredAt Tryz.prog 90 #[] encR odd w := by
  intro W x _
  unfold FnGives odd encR
  go_enter Tryz.func90, Tryz.ntmps90
  go_wp2
  all_goals
    go_ret
    exact ⟨rfl, 0, rfl⟩
set_option maxRecDepth 100000 in
theorem Contains_odd (s : ByteArray) (w : World) :
    Calls Tryz.prog 89 #[.string s, .func (.func 90) #[] #[]] w fun e w' => e = .returned (.bool (!printS (L s))) ∧ Below w.heap.size w w' := by
  rw [← odd_print]
  exact Tryz.strings_ContainsFunc 90 #[] (fun _ _ => rfl) odd s w (odd_at w)
theorem text_any (s : ByteArray) (w : World) (hE : Env w) (hs : s.size ≤ 100000000) :
    Calls Tryz.prog 91 #[.string s] w fun e w' => e = .returned (.string (bs (dbl (L s)))) ∧ Below w.heap.size w w' := by
  have H1 := Lib.hid (Replace1 s 36 w hE (by omega))
  have HE := Lib.hid hE
  clear hE
  go_enter Tryz.func91, Tryz.ntmps91
  go_wp2_with fail
  with_reducible refine H1.out.mono ?_
  rintro e w2 ⟨rfl, hz2, hb2⟩
  have HB2 := Lib.hid hb2
  clear hb2
  go_wp2_with fail
  with_reducible refine (Replace1 _ 37 _ (HE.out.go HB2.out) (by omega)).mono ?_
  rintro e w3 ⟨rfl, hz3, hb3⟩
  rw [L_bs, dbl_eq]
  have HB3 := Lib.hid (bt HB2.out hb3)
  clear hb3 hz2 hz3
  go_wp2
  go_ret
  exact ⟨rfl, HB3.out⟩
open Go.RowKit Go.Lib
theorem itoa_small (m : Nat) (hm : m < 100) (w : World) : Calls Tryz.prog 94 #[.int .i64 m] w fun e w' => e = .returned (.string (bs (Lib.decDigits m))) ∧ w' = w := Tryz.strconv_Itoa_small m hm w
theorem digits_all : ((List.range 100).all fun m => !(Lib.decDigits m).isEmpty && decide ((Lib.decDigits m).length ≤ 10)) = true := by kernel_rfl
theorem digits_at {m : Nat} (h : m < 100) : Lib.decDigits m ≠ [] ∧ (Lib.decDigits m).length ≤ 10 := by
  have := List.all_eq_true.1 digits_all m (List.mem_range.2 h)
  simp at this
  exact this
theorem not_empty {s : ByteArray} (h : L s ≠ []) : s.toList.isEmpty = false ∧ ¬ s.toList = [] := by
  rw [tl]
  exact ⟨by cases hl : L s with
    | nil => exact absurd hl h
    | cons a l => rfl, h⟩
theorem L_one (c : UInt8) : L ⟨#[c]⟩ = [c] := rfl
theorem in_word (kd : Int) (tx : ByteArray) (m : Nat) (mo : Bool) (h0 : 0 < (m : Int)) (hne : Lib.decDigits m ≠ []) :
    bs (inBracesS ⟨kd, tx, m, mo⟩) = ⟨#[123]⟩ ++ (if mo = true then bs (Lib.decDigits m) ++ ⟨#[43]⟩ else bs (Lib.decDigits m)) ++ ⟨#[125]⟩ := by
  refine L_inj ?_
  unfold inBracesS insideS
  dsimp only
  rw [if_pos h0, Int.toNat_natCast, if_neg (by simp [hne]), L_bs]
  cases mo <;> simp [L_bs]
theorem in_text (kd : Int) (tx : ByteArray) (wd : Int) (mo : Bool) (h0 : ¬ 0 < wd) (hne : ¬ (L tx = [] ∧ mo = false)) :
    bs (inBracesS ⟨kd, tx, wd, mo⟩) = ⟨#[123]⟩ ++ (if mo = true then tx ++ ⟨#[43]⟩ else tx) ++ ⟨#[125]⟩ := by
  refine L_inj ?_
  unfold inBracesS insideS
  dsimp only
  rw [if_neg h0, if_neg (fun h => hne (by cases mo <;> simp at h ⊢; exact h)), L_bs]
  cases mo <;> simp
theorem in_none (kd : Int) (tx : ByteArray) (wd : Int) (h0 : ¬ 0 < wd) (h : L tx = []) : bs (inBracesS ⟨kd, tx, wd, false⟩) = ⟨#[]⟩ := by
  unfold inBracesS insideS
  dsimp only
  rw [if_neg h0, h]
  rfl
set_option maxRecDepth 100000 in
theorem inBraces_any (p : Pc) (w : World) (h99 : p.word ≤ 99) (ht : p.text.size ≤ 100000000) :
    Calls Tryz.prog 92 #[encP p] w (ValPost (bs (inBracesS p)) w) := by
  obtain ⟨kd, tx, wd, mo⟩ := p
  unfold encP
  dsimp only at h99 ht ⊢
  have HB := Lib.hid (below_alloc w (.cells #[.int .i64 kd, .string tx, .int .i64 wd, .bool mo] 64))
  by_cases h0 : 0 < wd
  · obtain ⟨m, rfl⟩ : ∃ m : Nat, wd = m := ⟨wd.toNat, by omega⟩
    have HI := fun W => itoa_small m (by omega) W
    have hd := digits_at (m := m) (by omega)
    have hl : (bs (Lib.decDigits m)).size ≤ 10 := by rw [size_bs]; exact hd.2
    rw [in_word kd tx m mo h0 hd.1]
    obtain ⟨n1, n2⟩ := not_empty (s := bs (Lib.decDigits m)) (by rw [L_bs]; exact hd.1)
    obtain ⟨n3, n4⟩ := not_empty (s := bs (Lib.decDigits m) ++ ⟨#[43]⟩) (by rw [L_append, L_one]; simp)
    clear hd
    generalize bs (Lib.decDigits m) = ds at *
    cases mo with
    | true =>
      go_enter Tryz.func92, Tryz.ntmps92
      go_wp2_with (go_at_call 94; refine (HI _).mono ?_; rintro e w' ⟨rfl, rfl⟩)
      go_ret
      exact ⟨rfl, HB.out⟩
    | false =>
      go_enter Tryz.func92, Tryz.ntmps92
      go_wp2_with (go_at_call 94; refine (HI _).mono ?_; rintro e w' ⟨rfl, rfl⟩)
      go_ret
      exact ⟨rfl, HB.out⟩
  · by_cases hn : L tx = [] ∧ mo = false
    · obtain ⟨hn, rfl⟩ := hn
      rw [in_none kd tx wd h0 hn]
      have ht2 : tx.toList = [] := by rw [tl]; exact hn
      have ht3 : tx.toList.isEmpty = true := by rw [ht2]; rfl
      clear hn
      go_enter Tryz.func92, Tryz.ntmps92
      go_wp2
      go_ret
      exact ⟨rfl, HB.out⟩
    · rw [in_text kd tx wd mo h0 hn]
      cases mo with
      | true =>
        obtain ⟨n3, n4⟩ := not_empty (s := tx ++ ⟨#[43]⟩) (by rw [L_append, L_one]; simp)
        clear hn
        go_enter Tryz.func92, Tryz.ntmps92
        go_wp2
        go_ret
        exact ⟨rfl, HB.out⟩
      | false =>
        obtain ⟨n1, n2⟩ := not_empty (s := tx) (fun e => hn ⟨e, rfl⟩)
        clear hn
        go_enter Tryz.func92, Tryz.ntmps92
        go_wp2
        go_ret
        exact ⟨rfl, HB.out⟩
end Go.Proofs.YtifbcfpaifobjaaGreatDoor
