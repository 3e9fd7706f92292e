/-
  Contracts of the reference's layers 1 and 3: in, Printable, Text, Valid, Key, Number, Get.
-/
import Derived.Test.YtifbcfpaifobjaaGreatDoorName2
import Derived.Test.YtifbcfpaifobjaaGreatDoorMem
namespace Go.Proofs.YtifbcfpaifobjaaGreatDoor
open Go.RowKit
def inS (l set : Str) : Bool := l.all fun b => set.contains b
theorem inS_snoc (l set : Str) (c : UInt8) : inS (l ++ [c]) set = (inS l set && set.contains c) := by simp [inS]
theorem inS_no {set : Str} {k : Nat} (s : ByteArray) (hk : k < s.size) (h : set.contains s[k] = false) : inS (L s) set = false := by
  rw [inS, List.all_eq_false]
  exact ⟨s[k], by rw [← L_get s k hk]; exact List.getElem_mem _, by rw [h]; simp⟩
theorem byte_back (c : UInt8) : ((c.toNat : Int)).toNat.toUInt8 = c := by simp
theorem indexByte_neg (set : Str) (c : UInt8) : (Lib.indexByte set c < 0) ↔ set.contains c = false := by
  have h1 := Lib.indexByte_ge set c
  constructor
  · intro h
    have h2 : Lib.indexByte set c = -1 := by omega
    have h3 := Lib.indexByte_none h2
    cases hc : set.contains c with
    | false => rfl
    | true =>
      have hm : c ∈ set := by simpa using hc
      obtain ⟨k, hk⟩ := List.getElem?_of_mem hm
      exact absurd hk (h3 k)
  · intro h
    rcases (by omega : Lib.indexByte set c < 0 ∨ 0 ≤ Lib.indexByte set c) with h2 | h2
    · exact h2
    · obtain ⟨o, ho⟩ := Int.eq_ofNat_of_zero_le h2
      have h3 := (Lib.indexByte_some ho).1
      have hm : c ∈ set := List.mem_of_getElem? h3
      rw [List.contains_eq_mem] at h
      simp [hm] at h
set_option maxRecDepth 100000 in
set_option maxHeartbeats 400000 in
theorem in_any (s set : ByteArray) (w : World) (hs : s.size ≤ 9223372036854775807) :
    Calls Tryz.prog 93 #[.string s, .string set] w fun e w' => e = .returned (.bool (inS (L s) (L set))) ∧ w = w' := by
  go_enter Tryz.func93, Tryz.ntmps93
  go_wp2
  go_loop [5] (fun i => ∃ k : Nat, k ≤ s.size ∧ i = .int .i64 k ∧ Hid (inS ((L s).take k) (L set) = true)) (fun i => s.size - (intOf i).toNat)
  case atStart => exact ⟨0, Nat.zero_le _, rfl, rfl⟩
  case round =>
    obtain ⟨k, hk, rfl, hp⟩ := hrel
    by_cases hlt : k < s.size
    · have H := indexByte_neg (L set) s[k]
      have HC : ∀ W, Calls Tryz.prog 37 #[.string set, .int .u8 s[k].toNat] W fun e w' => e = .returned (.int .i64 (Lib.indexByte (L set) s[k])) ∧ W = w' := fun W =>
        (Tryz.strings_IndexByte set s[k].toNat W).mono fun e w' h => ⟨by rw [h.1, byte_back], h.2.symm⟩
      generalize Lib.indexByte (L set) s[k] = q at *
      have Hq := Lib.hid H
      clear H
      go_wp2_with (go_at_call 37; refine (HC _).mono ?_; rintro e w' ⟨rfl, rfl⟩)
      · go_ret
        have hq : q < 0 := by assumption
        exact ⟨ret_bool (by rw [inS_no s hlt (Hq.out.1 hq)]), rfl⟩
      · have hq : ¬ q < 0 := by omega
        go_round
        case rel => exact ⟨k + 1, by omega, by go_num, by
          show inS _ _ = true
          rw [take_snoc s k hlt, inS_snoc, hp.out]
          cases hc : (L set).contains s[k] with
          | true => rfl
          | false => exact absurd (Hq.out.2 hc) hq⟩
        case measure => simp [intOf]; omega
    · go_wp2
      go_ret
      have h := hp.out
      rw [take_all s k hlt] at h
      exact ⟨ret_bool (by rw [h]), rfl⟩
theorem addS_at (f : Nat → Bool) (l : Str) (b : UInt8) : addS f l b.toNat = (f b.toNat || l.contains b) := by
  simp only [addS]
  congr 1
  rw [Bool.eq_iff_iff]
  simp only [List.any_eq_true, beq_iff_eq, List.contains_iff_mem]
  constructor
  · rintro ⟨x, hx, e⟩
    have : x = b := UInt8.toNat_inj.1 e
    rw [← this]; exact hx
  · intro h
    exact ⟨b, h, rfl⟩
theorem noneS_at (b : UInt8) : noneS b.toNat = false := by unfold noneS; rfl
theorem hasS_in (f : Nat → Bool) (set l : Str) (h : ∀ b : UInt8, f b.toNat = set.contains b) : hasS f l = inS l set := by
  unfold hasS inS
  congr 1
  funext b
  exact h b
def nameL : Str := [65, 66, 67, 68, 69, 70, 71, 72, 73, 74, 75, 76, 77, 78, 79, 80, 81, 82, 83, 84, 85, 86, 87, 88, 89, 90, 97, 98, 99, 100, 101, 102, 103, 104, 105, 106, 107, 108, 109, 110, 111, 112, 113, 114, 115, 116, 117, 118, 119, 120, 121, 122, 48, 49, 50, 51, 52, 53, 54, 55, 56, 57, 95, 46, 58, 43, 45, 33]
def keyL : Str := [65, 66, 67, 68, 69, 70, 71, 72, 73, 74, 75, 76, 77, 78, 79, 80, 81, 82, 83, 84, 85, 86, 87, 88, 89, 90, 48, 49, 50, 51, 52, 53, 54, 55, 56, 57, 95]
theorem name_in (l : Str) : hasS (addS commonS [33]) l = inS l nameL := by
  apply hasS_in
  intro b
  have e : nameL = upperL ++ (lowerL ++ (digitL ++ (punctL ++ [33]))) := rfl
  simp only [commonS, addS_at, noneS_at, e, List.contains_eq_any_beq, List.any_append, Bool.false_or, Bool.or_assoc]
theorem key_in (l : Str) : hasS (addS (addS (addS noneS upperL) digitL) [95]) l = inS l keyL := by
  apply hasS_in
  intro b
  have e : keyL = upperL ++ (digitL ++ [95]) := rfl
  simp only [addS_at, noneS_at, e, List.contains_eq_any_beq, List.any_append, Bool.false_or, Bool.or_assoc]
theorem upper_in (l : Str) : hasS (addS noneS upperL) l = inS l upperL := by
  apply hasS_in
  intro b
  rw [addS_at, noneS_at, Bool.false_or]
theorem validS_in (l : Str) : validS l = (!l.isEmpty && decide (l.length ≤ 32) && inS l nameL && !(l == [46]) && !(l == [46, 46])) := by
  rw [validS, name_in, Bool.not_or]
  cases (!l.isEmpty) <;> cases decide (l.length ≤ 32) <;> cases inS l nameL <;> cases (l == [46]) <;> cases (l == [46, 46]) <;> rfl
theorem keyS_in (l : Str) : keyS l = (!l.isEmpty && decide (l.length ≤ 32) && inS l keyL && inS (l.take 1) upperL) := by
  rw [keyS, key_in, upper_in]
  cases (!l.isEmpty) <;> cases decide (l.length ≤ 32) <;> cases inS l keyL <;> cases inS (l.take 1) upperL <;> rfl
set_option maxRecDepth 100000 in
set_option maxHeartbeats 400000 in
theorem RPrintable_any (s : ByteArray) (w : World) (hs : s.size ≤ 9223372036854775807) :
    Calls Tryz.prog 49 #[.string s] w fun e w' => e = .returned (.bool (printS (L s))) ∧ w = w' := by
  go_enter Tryz.func49, Tryz.ntmps49
  go_wp2
  go_loop [3] (fun i => ∃ k : Nat, k ≤ s.size ∧ i = .int .i64 k ∧ Hid (printS ((L s).take k) = true)) (fun i => s.size - (intOf i).toNat)
  case atStart => exact ⟨0, Nat.zero_le _, rfl, rfl⟩
  case round =>
    obtain ⟨k, hk, rfl, hp⟩ := hrel
    go_wp2
    case roundEnd =>
      go_round
      case rel => exact ⟨k + 1, by omega, by go_num, by
        show printS _ = true
        rw [take_snoc s k (by omega), printS_snoc, hp.out]
        simp [pr]; omega⟩
      case measure => simp [intOf]; omega
    · go_ret
      exact ⟨ret_bool (by rw [printS_no s (by assumption) rfl (by simp [pr]; omega)]), rfl⟩
    · go_ret
      exact ⟨ret_bool (by rw [printS_no s (by assumption) rfl (by simp [pr]; omega)]), rfl⟩
    · go_ret
      refine ⟨ret_bool ?_, rfl⟩
      have h := hp.out
      rw [take_all s k (by assumption)] at h
      rw [h]
set_option maxRecDepth 100000 in
set_option maxHeartbeats 400000 in
theorem RText_any (s : ByteArray) (w : World) (hs : s.size ≤ 9223372036854775807) :
    Calls Tryz.prog 35 #[.string s] w fun e w' => e = .returned (.bool (textS (L s))) ∧ w = w' := by
  cases hp : printS (L s)
  all_goals
    have HC := RPrintable_any s w hs
    rw [hp] at HC
    have Hp := Lib.hid hp
    clear hp
    go_enter Tryz.func35, Tryz.ntmps35
    go_wp2_with (go_at_call 49; refine HC.mono ?_; rintro e w' ⟨rfl, rfl⟩)
    go_ret
    exact ⟨ret_bool (by rw [textS, Hp.out, len_L]; simp <;> omega), rfl⟩
set_option maxRecDepth 100000 in
set_option maxHeartbeats 400000 in
theorem RValid_any (s : ByteArray) (w : World) (hs : s.size ≤ 9223372036854775807) :
    Calls Tryz.prog 50 #[.string s] w fun e w' => e = .returned (.bool (validS (L s))) ∧ w = w' := by
  have HC := in_any s (bs nameL) w hs
  rw [L_bs] at HC
  have HV := Lib.hid (validS_in (L s))
  cases hp : inS (L s) nameL
  all_goals
    rw [hp] at HC
    have Hp := Lib.hid hp
    clear hp
    go_enter Tryz.func50, Tryz.ntmps50
    go_wp2_with (go_at_call 93; refine HC.mono ?_; rintro e w' ⟨rfl, rfl⟩)
    all_goals
      go_ret
      refine ⟨ret_bool ?_, rfl⟩
      rw [HV.out, Hp.out, len_L]
      clear HV HC Hp
      simp only [tl] at *
      generalize L s = l at *
      first | (have hz : s.size ≤ 32 := by omega) | (have hz : ¬ s.size ≤ 32 := by omega) | have hz := True.intro
      cases hb1 : (l == [46]) <;> cases hb2 : (l == [46, 46]) <;> cases hb3 : l.isEmpty <;> simp_all
set_option maxRecDepth 100000 in
set_option maxHeartbeats 400000 in
theorem RKey_any (s : ByteArray) (w : World) (hs : s.size ≤ 9223372036854775807) :
    Calls Tryz.prog 51 #[.string s] w fun e w' => e = .returned (.bool (keyS (L s))) ∧ w = w' := by
  have HC := in_any s (bs keyL) w hs
  have HD := in_any (s.extract 0 1) (bs upperL) w (by rw [size_extract]; omega)
  rw [L_bs] at HC HD
  rw [L_extract, List.drop_zero] at HD
  have HV := Lib.hid (keyS_in (L s))
  by_cases h0 : s.toList = []
  · go_enter Tryz.func51, Tryz.ntmps51
    go_wp2
    go_ret
    exact ⟨ret_bool (by rw [L_nil h0]; rfl), rfl⟩
  have h1 : (1 : Int) ≤ (s.size : Int) := by
    rcases Nat.eq_zero_or_pos s.size with h | h
    · exfalso; apply h0; rw [tl]; exact List.eq_nil_of_length_eq_zero (by rw [len_L]; exact h)
    · omega
  cases hp : inS (L s) keyL <;> cases hq : inS ((L s).take 1) upperL
  all_goals
    rw [hp] at HC
    rw [hq] at HD
    have Hp := Lib.hid hp
    have Hq := Lib.hid hq
    clear hp hq
    go_enter Tryz.func51, Tryz.ntmps51
    go_wp2_with (first | (go_at_call_of 93 (s.extract 0 1); refine HD.mono ?_; rintro e w' ⟨rfl, rfl⟩) | (go_at_call 93; refine HC.mono ?_; rintro e w' ⟨rfl, rfl⟩))
    all_goals
      go_ret
      refine ⟨ret_bool ?_, rfl⟩
      rw [HV.out, Hp.out, Hq.out, len_L]
      clear HV HC Hp Hq HD
      simp only [tl] at *
      generalize L s = l at *
      first | (have hz : s.size ≤ 32 := by omega) | (have hz : ¬ s.size ≤ 32 := by omega) | have hz := True.intro
      cases hb3 : l.isEmpty <;> simp_all
end Go.Proofs.YtifbcfpaifobjaaGreatDoor
