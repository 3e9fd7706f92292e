/-
  Contracts of the reference's layers 1 and 3: in, Printable, Text, Valid, Key, Number, Get.
  Contracts: the digits at the end of a text (both texts of it); the value of a name in a list (both texts of it).
  Laws of the walk for blocks of many cells: an allocation whose zero value has a name; a store into the midst of the block that was made last. Over any program.
-/
import Derived.Test.YthcgkeiggnfgiaaGreatDoorName2
import Derived.Test.YthcgkeiggnfgiaaGreatDoorG00
import Derived.Shelf.Strings.SlTrimAscii
import Derived.Deep.WholeRow
import Derived.Deep.MidRow
import Derived.Laws.EntriesVeiled
namespace Go.Proofs.YthcgkeiggnfgiaaGreatDoor
open Go.RowKit
def inS (l set : Str) : Bool := l.all fun b => set.contains b
theorem inS_snoc (l set : Str) (c : UInt8) : inS (l ++ [c]) set = (inS l set && set.contains c) := by simp [inS]
theorem inS_no {set : Str} {k : Nat} (s : ByteArray) (hk : k < s.size) (h : set.contains s[k] = false) : inS (L s) set = false := by
  rw [inS, List.all_eq_false]
  exact ⟨s[k], by rw [← L_get s k hk]; exact List.getElem_mem _, by rw [h]; simp⟩
theorem byte_back (c : UInt8) : ((c.toNat : Int)).toNat.toUInt8 = c := by simp
theorem indexByte_neg (set : Str) (c : UInt8) : (Lib.indexByte set c < 0) ↔ set.contains c = false := by
  have h1 := Lib.indexByte_ge set c
  constructor
  · intro h
    have h2 : Lib.indexByte set c = -1 := by omega
    have h3 := Lib.indexByte_none h2
    cases hc : set.contains c with
    | false => rfl
    | true =>
      have hm : c ∈ set := by simpa using hc
      obtain ⟨k, hk⟩ := List.getElem?_of_mem hm
      exact absurd hk (h3 k)
  · intro h
    rcases (by omega : Lib.indexByte set c < 0 ∨ 0 ≤ Lib.indexByte set c) with h2 | h2
    · exact h2
    · obtain ⟨o, ho⟩ := Int.eq_ofNat_of_zero_le h2
      have h3 := (Lib.indexByte_some ho).1
      have hm : c ∈ set := List.mem_of_getElem? h3
      rw [List.contains_eq_mem] at h
      simp [hm] at h
set_option maxRecDepth 100000 in
set_option maxHeartbeats 400000 in
theorem in_any (s set : ByteArray) (w : World) (hs : s.size ≤ 9223372036854775807) :
    Calls Tryz.prog 101 #[.string s, .string set] w fun e w' => e = .returned (.bool (inS (L s) (L set))) ∧ w = w' := by
  go_enter Tryz.func101, Tryz.ntmps101
  go_wp2
  go_loop [5] (fun i => ∃ k : Nat, k ≤ s.size ∧ i = .int .i64 k ∧ Hid (inS ((L s).take k) (L set) = true)) (fun i => s.size - (intOf i).toNat)
  case atStart => exact ⟨0, Nat.zero_le _, rfl, rfl⟩
  case round =>
    obtain ⟨k, hk, rfl, hp⟩ := hrel
    by_cases hlt : k < s.size
    · have H := indexByte_neg (L set) s[k]
      have HC : ∀ W, Calls Tryz.prog 160 #[.string set, .int .u8 s[k].toNat] W fun e w' => e = .returned (.int .i64 (Lib.indexByte (L set) s[k])) ∧ W = w' := fun W =>
        (Tryz.strings_IndexByte set s[k].toNat W).mono fun e w' h => ⟨by rw [h.1, byte_back], h.2.symm⟩
      generalize Lib.indexByte (L set) s[k] = q at *
      have Hq := Lib.hid H
      clear H
      go_wp2_with (go_at_call 160; refine (HC _).mono ?_; rintro e w' ⟨rfl, rfl⟩)
      · go_ret
        have hq : q < 0 := by assumption
        exact ⟨ret_bool (by rw [inS_no s hlt (Hq.out.1 hq)]), rfl⟩
      · have hq : ¬ q < 0 := by omega
        go_round
        case rel => exact ⟨k + 1, by omega, by go_num, by
          show inS _ _ = true
          rw [take_snoc s k hlt, inS_snoc, hp.out]
          cases hc : (L set).contains s[k] with
          | true => rfl
          | false => exact absurd (Hq.out.2 hc) hq⟩
        case measure => simp [intOf]; omega
    · go_wp2
      go_ret
      have h := hp.out
      rw [take_all s k hlt] at h
      exact ⟨ret_bool (by rw [h]), rfl⟩
theorem addS_at (f : Nat → Bool) (l : Str) (b : UInt8) : addS f l b.toNat = (f b.toNat || l.contains b) := by
  simp only [addS]
  congr 1
  rw [Bool.eq_iff_iff]
  simp only [List.any_eq_true, beq_iff_eq, List.contains_iff_mem]
  constructor
  · rintro ⟨x, hx, e⟩
    have : x = b := UInt8.toNat_inj.1 e
    rw [← this]; exact hx
  · intro h
    exact ⟨b, h, rfl⟩
theorem noneS_at (b : UInt8) : noneS b.toNat = false := by unfold noneS; rfl
theorem hasS_in (f : Nat → Bool) (set l : Str) (h : ∀ b : UInt8, f b.toNat = set.contains b) : hasS f l = inS l set := by
  unfold hasS inS
  congr 1
  funext b
  exact h b
def nameL : Str := [65, 66, 67, 68, 69, 70, 71, 72, 73, 74, 75, 76, 77, 78, 79, 80, 81, 82, 83, 84, 85, 86, 87, 88, 89, 90, 97, 98, 99, 100, 101, 102, 103, 104, 105, 106, 107, 108, 109, 110, 111, 112, 113, 114, 115, 116, 117, 118, 119, 120, 121, 122, 48, 49, 50, 51, 52, 53, 54, 55, 56, 57, 95, 46, 58, 43, 45, 33]
def keyL : Str := [65, 66, 67, 68, 69, 70, 71, 72, 73, 74, 75, 76, 77, 78, 79, 80, 81, 82, 83, 84, 85, 86, 87, 88, 89, 90, 48, 49, 50, 51, 52, 53, 54, 55, 56, 57, 95]
theorem name_in (l : Str) : hasS (addS commonS [33]) l = inS l nameL := by
  apply hasS_in
  intro b
  have e : nameL = upperL ++ (lowerL ++ (digitL ++ (punctL ++ [33]))) := rfl
  simp only [commonS, addS_at, noneS_at, e, List.contains_eq_any_beq, List.any_append, Bool.false_or, Bool.or_assoc]
theorem key_in (l : Str) : hasS (addS (addS (addS noneS upperL) digitL) [95]) l = inS l keyL := by
  apply hasS_in
  intro b
  have e : keyL = upperL ++ (digitL ++ [95]) := rfl
  simp only [addS_at, noneS_at, e, List.contains_eq_any_beq, List.any_append, Bool.false_or, Bool.or_assoc]
theorem upper_in (l : Str) : hasS (addS noneS upperL) l = inS l upperL := by
  apply hasS_in
  intro b
  rw [addS_at, noneS_at, Bool.false_or]
theorem validS_in (l : Str) : validS l = (!l.isEmpty && decide (l.length ≤ 32) && inS l nameL && !(l == [46]) && !(l == [46, 46])) := by
  rw [validS, name_in, Bool.not_or]
  cases (!l.isEmpty) <;> cases decide (l.length ≤ 32) <;> cases inS l nameL <;> cases (l == [46]) <;> cases (l == [46, 46]) <;> rfl
theorem keyS_in (l : Str) : keyS l = (!l.isEmpty && decide (l.length ≤ 32) && inS l keyL && inS (l.take 1) upperL) := by
  rw [keyS, key_in, upper_in]
  cases (!l.isEmpty) <;> cases decide (l.length ≤ 32) <;> cases inS l keyL <;> cases inS (l.take 1) upperL <;> rfl
set_option maxRecDepth 100000 in
set_option maxHeartbeats 400000 in
theorem RPrintable_any (s : ByteArray) (w : World) (hs : s.size ≤ 9223372036854775807) :
    Calls Tryz.prog 250 #[.string s] w fun e w' => e = .returned (.bool (printS (L s))) ∧ w = w' := by
  go_enter Tryz.func250, Tryz.ntmps250
  go_wp2
  go_loop [3] (fun i => ∃ k : Nat, k ≤ s.size ∧ i = .int .i64 k ∧ Hid (printS ((L s).take k) = true)) (fun i => s.size - (intOf i).toNat)
  case atStart => exact ⟨0, Nat.zero_le _, rfl, rfl⟩
  case round =>
    obtain ⟨k, hk, rfl, hp⟩ := hrel
    go_wp2
    case roundEnd =>
      go_round
      case rel => exact ⟨k + 1, by omega, by go_num, by
        show printS _ = true
        rw [take_snoc s k (by omega), printS_snoc, hp.out]
        simp [pr]; omega⟩
      case measure => simp [intOf]; omega
    · go_ret
      exact ⟨ret_bool (by rw [printS_no s (by assumption) rfl (by simp [pr]; omega)]), rfl⟩
    · go_ret
      exact ⟨ret_bool (by rw [printS_no s (by assumption) rfl (by simp [pr]; omega)]), rfl⟩
    · go_ret
      refine ⟨ret_bool ?_, rfl⟩
      have h := hp.out
      rw [take_all s k (by assumption)] at h
      rw [h]
set_option maxRecDepth 100000 in
set_option maxHeartbeats 400000 in
theorem RText_any (s : ByteArray) (w : World) (hs : s.size ≤ 9223372036854775807) :
    Calls Tryz.prog 214 #[.string s] w fun e w' => e = .returned (.bool (textS (L s))) ∧ w = w' := by
  cases hp : printS (L s)
  all_goals
    have HC := RPrintable_any s w hs
    rw [hp] at HC
    have Hp := Lib.hid hp
    clear hp
    go_enter Tryz.func214, Tryz.ntmps214
    go_wp2_with (go_at_call 250; refine HC.mono ?_; rintro e w' ⟨rfl, rfl⟩)
    go_ret
    exact ⟨ret_bool (by rw [textS, Hp.out, len_L]; simp <;> omega), rfl⟩
set_option maxRecDepth 100000 in
set_option maxHeartbeats 400000 in
theorem RValid_any (s : ByteArray) (w : World) (hs : s.size ≤ 9223372036854775807) :
    Calls Tryz.prog 58 #[.string s] w fun e w' => e = .returned (.bool (validS (L s))) ∧ w = w' := by
  have HC := in_any s (bs nameL) w hs
  rw [L_bs] at HC
  have HV := Lib.hid (validS_in (L s))
  cases hp : inS (L s) nameL
  all_goals
    rw [hp] at HC
    have Hp := Lib.hid hp
    clear hp
    go_enter Tryz.func58, Tryz.ntmps58
    go_wp2_with (go_at_call 101; refine HC.mono ?_; rintro e w' ⟨rfl, rfl⟩)
    all_goals
      go_ret
      refine ⟨ret_bool ?_, rfl⟩
      rw [HV.out, Hp.out, len_L]
      clear HV HC Hp
      simp only [tl] at *
      generalize L s = l at *
      first | (have hz : s.size ≤ 32 := by omega) | (have hz : ¬ s.size ≤ 32 := by omega) | have hz := True.intro
      cases hb1 : (l == [46]) <;> cases hb2 : (l == [46, 46]) <;> cases hb3 : l.isEmpty <;> simp_all
set_option maxRecDepth 100000 in
set_option maxHeartbeats 400000 in
theorem RKey_any (s : ByteArray) (w : World) (hs : s.size ≤ 9223372036854775807) :
    Calls Tryz.prog 107 #[.string s] w fun e w' => e = .returned (.bool (keyS (L s))) ∧ w = w' := by
  have HC := in_any s (bs keyL) w hs
  have HD := in_any (s.extract 0 1) (bs upperL) w (by rw [size_extract]; omega)
  rw [L_bs] at HC HD
  rw [L_extract, List.drop_zero] at HD
  have HV := Lib.hid (keyS_in (L s))
  by_cases h0 : s.toList = []
  · go_enter Tryz.func107, Tryz.ntmps107
    go_wp2
    go_ret
    exact ⟨ret_bool (by rw [L_nil h0]; rfl), rfl⟩
  have h1 : (1 : Int) ≤ (s.size : Int) := by
    rcases Nat.eq_zero_or_pos s.size with h | h
    · exfalso; apply h0; rw [tl]; exact List.eq_nil_of_length_eq_zero (by rw [len_L]; exact h)
    · omega
  cases hp : inS (L s) keyL <;> cases hq : inS ((L s).take 1) upperL
  all_goals
    rw [hp] at HC
    rw [hq] at HD
    have Hp := Lib.hid hp
    have Hq := Lib.hid hq
    clear hp hq
    go_enter Tryz.func107, Tryz.ntmps107
    go_wp2_with (first | (go_at_call_of 101 (s.extract 0 1); refine HD.mono ?_; rintro e w' ⟨rfl, rfl⟩) | (go_at_call 101; refine HC.mono ?_; rintro e w' ⟨rfl, rfl⟩))
    all_goals
      go_ret
      refine ⟨ret_bool ?_, rfl⟩
      rw [HV.out, Hp.out, Hq.out, len_L]
      clear HV HC Hp Hq HD
      simp only [tl] at *
      generalize L s = l at *
      first | (have hz : s.size ≤ 32 := by omega) | (have hz : ¬ s.size ≤ 32 := by omega) | have hz := True.intro
      cases hb3 : l.isEmpty <;> simp_all
end Go.Proofs.YthcgkeiggnfgiaaGreatDoor
namespace Go.Proofs.YthcgkeiggnfgiaaGreatDoor
open Go.RowKit
theorem digit_ascii (j : Nat) (b : UInt8) (h : digitL[j]? = some b) : b.toNat < 128 := by
  have hm : b ∈ digitL := List.mem_of_getElem? h
  simp only [digitL, List.mem_cons, List.not_mem_nil, or_false] at hm
  rcases hm with h | h | h | h | h | h | h | h | h | h <;> subst h <;> decide
/-- The digits at the end. -/
def numS (l : Str) : Str := l.drop (Lib.trimRightS l digitL).length
theorem numS_at (l : Str) (k : Nat) (hk : k ≤ l.length) (h1 : ∀ (j : Nat) b, k ≤ j → l[j]? = some b → digitL.contains b = true) (h2 : ∀ b, 0 < k → l[k - 1]? = some b → digitL.contains b = false) : numS l = l.drop k := by
  rw [numS, Lib.trimRightS_take l digitL k hk h1 h2, List.length_take, Nat.min_eq_left hk]
set_option maxRecDepth 100000 in
theorem digit_iff (b : UInt8) : digitL.contains b = (decide (48 ≤ (b.toNat : Int)) && decide ((b.toNat : Int) ≤ 57)) := by
  revert b
  have h : ∀ n : Fin 256, digitL.contains (UInt8.ofNat n.val) = (decide (48 ≤ ((UInt8.ofNat n.val).toNat : Int)) && decide (((UInt8.ofNat n.val).toNat : Int) ≤ 57)) := by decide
  intro b
  have := h ⟨b.toNat, b.toNat_lt⟩
  simpa using this
set_option maxRecDepth 100000 in
set_option maxHeartbeats 400000 in
theorem Number_any (s : ByteArray) (w : World) (hs : s.size ≤ 9223372036854775807) :
    Calls Tryz.prog 297 #[.string s] w fun e w' => e = .returned (.string (bs (numS (L s)))) ∧ Below w.heap.size w w' := by
  have HT := Any.strings_TrimRight_laid Tryz.lays162 (by kernel_rfl) s ⟨#[48, 49, 50, 51, 52, 53, 54, 55, 56, 57]⟩ w hs (by decide) digit_ascii
  have hl : (Lib.trimRightS s.data.toList digitL).length ≤ s.size := by
    rw [Lib.trimRightS, List.length_reverse]
    have := (List.dropWhile_sublist (digitL.contains ·) (l := s.data.toList.reverse)).length_le
    rw [List.length_reverse] at this
    rw [← len_L]; exact this
  have HN : Hid (∀ q, q = (Lib.trimRightS s.data.toList digitL).length → L (s.extract q s.size) = numS (L s)) := fun q hq => by
    rw [hq, L_extract, numS, List.take_of_length_le (by rw [len_L]; exact Nat.le_refl _)]
  have HZ := Lib.hid (size_bs (Lib.trimRightS s.data.toList digitL))
  change Calls Tryz.prog 310 #[.string s, .string ⟨#[48, 49, 50, 51, 52, 53, 54, 55, 56, 57]⟩] w (fun e w' => e = .returned (.string (bs (Lib.trimRightS s.data.toList digitL))) ∧ Below w.heap.size w w') at HT
  generalize bs (Lib.trimRightS s.data.toList digitL) = r at *
  generalize (Lib.trimRightS s.data.toList digitL).length = q at *
  have hr : r.size ≤ s.size := by rw [HZ.out]; exact hl
  clear hl
  go_enter Tryz.func297, Tryz.ntmps297
  go_wp2_with (go_at_call 310; refine HT.mono ?_; rintro e w' ⟨rfl, hb⟩)
  go_ret
  exact ⟨ret_str (eq_bs (HN.out _ HZ.out)), hb⟩
/-- The value of a name: nothing where there is none. -/
def getV (l : List At) (nm : Str) : ByteArray := (getA l nm).getD ⟨#[]⟩
theorem getA_hit (l : List At) (nm : Str) (k : Nat) (x : At) (hx : l[k]? = some x) (hno : ∀ j y, j < k → l[j]? = some y → (L y.name == nm) = false) (hyes : (L x.name == nm) = true) : getA l nm = some x.val := by
  induction l generalizing k with
  | nil => simp at hx
  | cons y l ih =>
    cases k with
    | zero =>
      simp at hx
      subst hx
      simp [getA, hyes]
    | succ k =>
      have h0 := hno 0 y (by omega) (by simp)
      have := ih k (by simpa using hx) (fun j z hj hz => hno (j + 1) z (by omega) (by simpa using hz))
      simp only [getA, List.find?_cons, h0] at this ⊢
      exact this
theorem getA_miss (l : List At) (nm : Str) (hno : ∀ (j : Nat) (y : At), l[j]? = some y → (L y.name == nm) = false) : getA l nm = none := by
  unfold getA
  rw [List.find?_eq_none.2 (fun x hx => by
    obtain ⟨j, hj⟩ := List.getElem?_of_mem hx
    rw [hno j x hj]; simp)]
  rfl
/-- A list of named values as it lies in memory. -/
structure Lst where
  A : Option Addr
  c : Nat
  l : List At
/-- The value of a name in the first list that has it. -/
def firstV : List Lst → Str → ByteArray
  | [], _ => ⟨#[]⟩
  | x :: ls, nm => match getA x.l nm with
    | some v => v
    | none => firstV ls nm
theorem firstV_hit (ls : List Lst) (nm : Str) (k : Nat) (x : Lst) (v : ByteArray) (hx : ls[k]? = some x) (hno : ∀ (j : Nat) (y : Lst), j < k → ls[j]? = some y → getA y.l nm = none) (hv : getA x.l nm = some v) : firstV ls nm = v := by
  induction ls generalizing k with
  | nil => simp at hx
  | cons y ls ih =>
    cases k with
    | zero =>
      simp at hx
      subst hx
      simp [firstV, hv]
    | succ k =>
      have h0 := hno 0 y (by omega) (by simp)
      simp only [firstV, h0]
      exact ih k (by simpa using hx) (fun j z hj hz => hno (j + 1) z (by omega) (by simpa using hz))
theorem firstV_miss (ls : List Lst) (nm : Str) (hno : ∀ (j : Nat) (y : Lst), ls[j]? = some y → getA y.l nm = none) : firstV ls nm = ⟨#[]⟩ := by
  induction ls with
  | nil => rfl
  | cons y ls ih =>
    simp only [firstV, hno 0 y (by simp)]
    exact ih (fun j z hz => hno (j + 1) z (by simpa using hz))
set_option maxRecDepth 100000 in
set_option maxHeartbeats 1000000 in
theorem first_any (g off c : Nat) (ls : List Lst) (nm : ByteArray) (w : World) (hg : g < w.heap.size) (ho : ∀ (i : Nat) (x : Lst), ls[i]? = some x → w.cell? ⟨g, off + i, none⟩ = some (.slice x.A x.l.length x.c))
    (hi : ∀ x ∈ ls, RowAt w w.heap.size x.A 2 x.l.length (cellsOf encAt x.l) ∧ x.l.length ≤ 4611686018427387904) (h0 : ls.length ≤ 1000) :
    Calls Tryz.prog 302 #[.string nm, .slice (some ⟨g, off, none⟩) ls.length c] w fun e w' => e = .returned (.string (firstV ls (L nm))) ∧ Below w.heap.size w w' := by
  have HO := Lib.hid ho
  have HI := Lib.hid hi
  clear ho hi
  generalize hM : ls.length = M at h0 ⊢
  have HM := Lib.hid hM
  clear hM
  go_enter Tryz.func302, Tryz.ntmps302
  go_wp2
  go_loopg [11] M (fun gk i wr => ∃ k : Nat, k + gk = M ∧ i = .int .i64 k ∧ Hid (∀ (j : Nat) (y : Lst), j < k → ls[j]? = some y → getA y.l (L nm) = none) ∧ Hid (Below w.heap.size w wr))
  case atStart => exact ⟨0, by omega, rfl, fun j y hj => absurd hj (by omega), Below.refl _ _⟩
  case round =>
    obtain ⟨k, hk, rfl, hp, hb⟩ := hrel
    have hk' : k ≤ M := by omega
    have HK := Lib.hid hk
    clear hk
    by_cases hlt : k < M
    · have hlt' : k < ls.length := by rw [HM.out]; exact hlt
      obtain ⟨x, hx⟩ : ∃ x, ls[k]? = some x := ⟨_, List.getElem?_eq_getElem hlt'⟩
      have hc : wr.cell? ⟨g, off + k, none⟩ = some (.slice x.A x.l.length x.c) := by
        rw [hb.out.cell (p := ⟨g, off + k, none⟩) hg]
        exact HO.out k x hx
      have hx2 := HI.out x (List.mem_of_getElem? hx)
      have HX := Lib.hid hx
      have HR := Lib.hid hx2.1
      have hN := hx2.2
      clear hx hx2 hlt'
      generalize hNN : x.l.length = N at *
      have HN := Lib.hid hNN
      clear hNN
      go_wp2
      obtain ⟨wo, rfl⟩ : ∃ wo : World, wo = wr := ⟨_, rfl⟩
      go_loopg [17] N (fun gi i wi => ∃ m : Nat, m + gi = N ∧ i = .int .i64 m ∧ Hid (∀ (j : Nat) (y : At), j < m → x.l[j]? = some y → (L y.name == L nm) = false) ∧ Hid (Below w.heap.size w wi))
      case atStart => exact ⟨0, by omega, rfl, fun j y hj => absurd hj (by omega), hb⟩
      case round =>
        obtain ⟨m, hm, rfl, hq, hbi⟩ := hrel
        have hm' : m ≤ N := by omega
        have HMm := Lib.hid hm
        clear hm
        by_cases hlm : m < N
        · have hlm' : m < x.l.length := by rw [HN.out]; exact hlm
          have hrow := HR.out
          rw [← HN.out] at hrow
          obtain ⟨ba, off', hA, hB, hcc⟩ := hrow.cell encAt_len hlm'
          obtain ⟨y, hy⟩ : ∃ y, x.l[m]? = some y := ⟨_, List.getElem?_eq_getElem hlm'⟩
          have c0 : wr.cell? ⟨ba, off' + m * 2, none⟩ = some (.string y.name) := by
            rw [hbi.out.cell (p := ⟨ba, off' + m * 2, none⟩) hB]; exact hcc m y hy 0 _ rfl
          have c1 : wr.cell? ⟨ba, off' + m * 2 + 1, none⟩ = some (.string y.val) := by
            rw [hbi.out.cell (p := ⟨ba, off' + m * 2 + 1, none⟩) hB]; exact hcc m y hy 1 _ rfl
          have HY := Lib.hid hy
          clear hy hcc hB hlm' hrow
          rw [hA]
          have HA := Lib.hid hA
          clear hA
          cases hq2 : (y.name.toList == nm.toList)
          · go_wp2
            have hm := HMm.out
            rw [← HA.out]
            go_roundg (gk - 1)
            case measure => omega
            case rel =>
              refine ⟨m + 1, by omega, by go_num, fun j z hj hz => ?_, ?_⟩
              · rcases (by omega : j = m ∨ j < m) with e | e
                · subst e
                  rw [HY.out] at hz
                  injection hz with hz
                  rw [← hz, ← tl, ← tl]
                  exact hq2
                · exact hq.out j z e hz
              · exact hbi.out.alloc hbi.out.size _
          · go_wp2
            go_ret
            refine ⟨?_, hbi.out.alloc hbi.out.size _⟩
            rw [firstV_hit ls (L nm) k x y.val HX.out hp.out (getA_hit x.l (L nm) m y HY.out hq.out (by rw [← tl, ← tl]; exact hq2))]
            rfl
        · go_wp2
          have hk := HK.out
          go_roundg (M - (k + 1))
          case measure => omega
          case rel =>
            refine ⟨k + 1, by omega, by go_num, fun j z hj hz => ?_, hbi⟩
            rcases (by omega : j = k ∨ j < k) with e | e
            · subst e
              rw [HX.out] at hz
              injection hz with hz
              rw [← hz]
              exact getA_miss x.l (L nm) fun j' y' hy' => hq.out j' y' (by have := (List.getElem?_eq_some_iff.1 hy').1; rw [HN.out] at this; omega) hy'
            · exact hp.out j z e hz
    · go_wp2
      go_ret
      refine ⟨?_, hb.out⟩
      rw [firstV_miss ls (L nm) (fun j y hy => hp.out j y (by have := (List.getElem?_eq_some_iff.1 hy).1; rw [HM.out] at this; omega) hy)]
      rfl
end Go.Proofs.YthcgkeiggnfgiaaGreatDoor
namespace Go.Proofs.YthcgkeiggnfgiaaGreatDoor
open Go.RowKit
variable {P : Program}
theorem wp_alloc_known {o : Oper} {a : Act} {w : World} {K : Act → World → Prop} {Q : Exit → Act → World → Prop} (ty : TypeId) (ho : o.op = .alloc ty) (z : Value) (hz : (zeroValue ty).run P w = .ok z w)
    (h : K (a.put o.dst (.pointer (some ⟨w.heap.size, 0, none⟩))) (w.alloc (.cells z.cells ty))) : o.wp P a w K Q := by
  unfold Oper.wp execOp
  simp only [ho, Instr.alloc, Sem.run_bind, hz, Result.andThen_ok, newVar]
  exact h
theorem wpList_alloc_known {ops : Array Oper} {rest : List Oper} {o : Oper} {a : Act} {w : World} {Q : Exit → Act → World → Prop} (hgd : o.guard = none) (ty : TypeId) (ho : o.op = .alloc ty) (z : Value) (hz : (zeroValue ty).run P w = .ok z w)
    (h : wpList P ops Q rest (a.put o.dst (.pointer (some ⟨w.heap.size, 0, none⟩))) (w.alloc (.cells z.cells ty))) : wpList P ops Q (o :: rest) a w :=
  wpList_plain hgd fun _ hK => wp_alloc_known ty ho z hz (hK _ _ h)
/-- Cells written one behind the other. -/
def setAll : Array Value → Nat → List Value → Array Value
  | c, _, [] => c
  | c, o, v :: r => setAll (c.setIfInBounds o v) (o + 1) r
theorem size_setAll : ∀ (vs : List Value) (c : Array Value) (o : Nat), (setAll c o vs).size = c.size
  | [], _, _ => rfl
  | v :: r, c, o => by rw [setAll, size_setAll r]; simp
theorem setCell_last (w : World) (c : Array Value) (t : TypeId) (o : Nat) (v : Value) : (w.alloc (.cells c t)).setCell ⟨w.heap.size, o, none⟩ v = w.alloc (.cells (c.setIfInBounds o v) t) := by
  rw [setCell_eq_setRow _ _ _ c t (0, 0) v (heap_alloc_last w _), World.setRow_alloc_new]
theorem setCells_last (w : World) (t : TypeId) : ∀ (vs : List Value) (c : Array Value) (o : Nat), (w.alloc (.cells c t)).setCells w.heap.size o vs = w.alloc (.cells (setAll c o vs) t)
  | [], _, _ => rfl
  | v :: r, c, o => by
    rw [World.setCells, setCell_last, setCells_last w t r]
    rfl
theorem there_last (w : World) (c : Array Value) (t : TypeId) (o n : Nat) (h : o + n ≤ c.size) : (w.alloc (.cells c t)).there w.heap.size o n := fun j hj => by
  refine ⟨?_, frozen_of_row _ _ _ _ _ (heap_alloc_last w _)⟩
  rw [cell_of_row _ _ _ _ _ _ (heap_alloc_last w (.cells c t)), Array.getElem?_eq_getElem (by omega)]
  rfl
theorem wpList_store_last {ops : Array Oper} {rest : List Oper} {op : Oper} {a : Act} {w : World} {Q : Exit → Act → World → Prop} (hgd : op.guard = none) (ty : TypeId) (x y : Operand) (ho : op.op = .store ty x y)
    (c : Array Value) (t : TypeId) (g o : Nat) (cells : Array Value) (hg : w.heap.size = g) (hx : a.eval x = .pointer (some ⟨g, o, none⟩)) (hy : a.eval y = .agg cells)
    (hb : o + cells.size ≤ c.size) (hi : (P.info? ty).map (·.size) = some cells.size) (h1 : cells.all (·.oneCell') = true)
    (h : wpList P ops Q rest (a.put op.dst undef) (w.alloc (.cells (setAll c o cells.toList) t))) : wpList P ops Q (op :: rest) a (w.alloc (.cells c t)) := by
  subst hg
  refine wpList_store_mid hgd ty x y ho w.heap.size o cells hx hy (there_last w c t o cells.size hb) hi h1 ?_
  rw [setCells_last]
  exact h
theorem setAll_get : ∀ (vs : List Value) (c : Array Value) (o j : Nat), o + vs.length ≤ c.size → (setAll c o vs)[j]? = if o ≤ j ∧ j < o + vs.length then vs[j - o]? else c[j]?
  | [], c, o, j, _ => by rw [setAll, if_neg (fun h => by simp at h; omega)]
  | v :: r, c, o, j, h => by
    rw [setAll, setAll_get r _ (o + 1) j (by simp at h ⊢; omega)]
    simp only [List.length_cons] at h ⊢
    by_cases h1 : o + 1 ≤ j ∧ j < o + 1 + r.length
    · rw [if_pos h1, if_pos (by omega), show j - o = (j - (o + 1)) + 1 from by omega, List.getElem?_cons_succ]
    · rw [if_neg h1, Array.getElem?_setIfInBounds]
      by_cases h2 : o = j
      · subst h2
        rw [if_pos rfl, if_pos (by omega), if_pos (by omega), Nat.sub_self]; rfl
      · rw [if_neg h2, if_neg (by omega)]
theorem setAll_whole (c cells : Array Value) (h : cells.size = c.size) : setAll c 0 cells.toList = cells := by
  apply Array.ext_getElem?
  intro j
  rw [setAll_get _ _ _ _ (by simp [h])]
  by_cases hj : j < cells.size
  · rw [if_pos (by simpa using hj)]; simp
  · rw [if_neg (by simp; omega), Array.getElem?_eq_none (by omega), Array.getElem?_eq_none (by omega)]
/-- A whole value stored into the block that was made last, for it. -/
theorem wpList_store_new {ops : Array Oper} {rest : List Oper} {op : Oper} {a : Act} {w : World} {Q : Exit → Act → World → Prop} (hgd : op.guard = none) (ty : TypeId) (x y : Operand) (ho : op.op = .store ty x y)
    (c : Array Value) (t : TypeId) (g : Nat) (cells : Array Value) (hg : w.heap.size = g) (hx : a.eval x = .pointer (some ⟨g, 0, none⟩)) (hy : a.eval y = .agg cells)
    (hb : cells.size = c.size) (hi : (P.info? ty).map (·.size) = some cells.size) (h1 : cells.all (·.oneCell') = true)
    (h : wpList P ops Q rest (a.put op.dst undef) (w.alloc (.cells cells t))) : wpList P ops Q (op :: rest) a (w.alloc (.cells c t)) := by
  refine wpList_store_last hgd ty x y ho c t g 0 cells hg hx hy (by omega) hi h1 ?_
  rw [setAll_whole c cells hb]
  exact h
theorem one4 {a b c d : Value} (ha : a.oneCell' = true) (hb : b.oneCell' = true) (hc : c.oneCell' = true) (hd : d.oneCell' = true) : (#[a, b, c, d] : Array Value).all (·.oneCell') = true := by simp [ha, hb, hc, hd]
end Go.Proofs.YthcgkeiggnfgiaaGreatDoor
