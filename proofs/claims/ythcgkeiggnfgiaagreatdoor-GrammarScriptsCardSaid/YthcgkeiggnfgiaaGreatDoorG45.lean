/-
  Contracts of the program's lexer: letter, inName, count, ops.
  Contracts of the program's lexer: plain, name, op.
-/
import Derived.Test.YthcgkeiggnfgiaaGreatDoorG21
import Derived.Test.YthcgkeiggnfgiaaGreatDoorG22
import Derived.Laws.RangeAny
namespace Go.Proofs.YthcgkeiggnfgiaaGreatDoor
open Go.RowKit
set_option maxRecDepth 100000 in
set_option maxHeartbeats 400000 in
theorem letter_any (c : UInt8) (w : World) :
    Calls Tryz.prog 171 #[.int .u8 c.toNat] w fun e w' => e = .returned (.bool (upC c)) ∧ w = w' := by
  have HP : Hid (upC c = (decide (65 ≤ (c.toNat : Int)) && decide ((c.toNat : Int) ≤ 90))) := Lib.hid rfl
  by_cases h1 : 65 ≤ (c.toNat : Int)
  · go_enter Tryz.func171, Tryz.ntmps171
    go_wp2
    go_ret
    exact ⟨ret_bool (by rw [HP.out]; simp [h1]), rfl⟩
  · go_enter Tryz.func171, Tryz.ntmps171
    go_wp2
    go_ret
    exact ⟨ret_bool (by rw [HP.out]; simp; omega), rfl⟩
set_option maxRecDepth 100000 in
set_option maxHeartbeats 1000000 in
theorem inName_any (c : UInt8) (w : World) :
    Calls Tryz.prog 172 #[.int .u8 c.toNat] w fun e w' => e = .returned (.bool (nmC c)) ∧ w = w' := by
  have hP : nmC c = (decide (33 ≤ (c.toNat : Int)) && decide ((c.toNat : Int) ≤ 126) && !((c.toNat : Int) == 123) && !((c.toNat : Int) == 125) && !((c.toNat : Int) == 34)) := by
    rw [nmC, show (123 : UInt8) = UInt8.ofNat 123 from rfl, show (125 : UInt8) = UInt8.ofNat 125 from rfl, show (34 : UInt8) = UInt8.ofNat 34 from rfl, u8_eq c 123 (by omega), u8_eq c 125 (by omega), u8_eq c 34 (by omega)]
    rfl
  have HP := Lib.hid hP
  clear hP
  by_cases h1 : 33 ≤ (c.toNat : Int)
  · have h1' : 32 < (c.toNat : Int) := by omega
    by_cases h2 : (c.toNat : Int) ≤ 126
    · have d1 : decide ((c.toNat : Int) ≤ 126) = true := decide_eq_true h2
      cases h3 : ((c.toNat : Int) == 123)
      all_goals
        have m3 : ((c.toNat : Int) != 123) = !((c.toNat : Int) == 123) := rfl
        rw [h3] at m3
        cases h4 : ((c.toNat : Int) == 125)
        all_goals
          have m4 : ((c.toNat : Int) != 125) = !((c.toNat : Int) == 125) := rfl
          rw [h4] at m4
          have HQ : Hid (nmC c = (decide (33 ≤ (c.toNat : Int)) && decide ((c.toNat : Int) ≤ 126) && !((c.toNat : Int) == 123) && !((c.toNat : Int) == 125) && !((c.toNat : Int) == 34))) := HP
          rw [h3, h4, decide_eq_true h1, decide_eq_true h2] at HQ
          simp only [Bool.not_true, Bool.not_false] at m3 m4
          clear h1
          go_enter Tryz.func172, Tryz.ntmps172
          go_wp2
          go_ret
          exact ⟨ret_bool (by rw [HQ.out]; first | rfl | simp), rfl⟩
    · have d1 : decide ((c.toNat : Int) ≤ 126) = false := decide_eq_false h2
      have h2 : 126 < (c.toNat : Int) := by omega
      rw [d1] at HP
      clear h1
      go_enter Tryz.func172, Tryz.ntmps172
      go_wp2
      go_ret
      exact ⟨ret_bool (by rw [HP.out]; simp), rfl⟩
  · have d1 : decide (33 ≤ (c.toNat : Int)) = false := decide_eq_false h1
    have h2 : ¬ 32 < (c.toNat : Int) := by omega
    rw [d1] at HP
    clear h1
    go_enter Tryz.func172, Tryz.ntmps172
    go_wp2
    go_ret
    exact ⟨ret_bool (by rw [HP.out]; simp), rfl⟩
theorem cnt_stop {f : UInt8 → Bool} {s : ByteArray} {k : Nat} (h : ((L s).take k).all f = true) (hk : k ≤ s.size) (hs : k = s.size ∨ ∃ hlt : k < s.size, f s[k] = false) : cnt f (L s) = k := by
  unfold cnt
  have hl : ((L s).take k).length = k := by rw [List.length_take, len_L]; omega
  have e : L s = (L s).take k ++ (L s).drop k := (List.take_append_drop k (L s)).symm
  have hd : ((L s).drop k).takeWhile f = [] := by
    rcases hs with rfl | ⟨hlt, hf⟩
    · rw [List.drop_of_length_le (by rw [len_L]; exact Nat.le_refl _)]; rfl
    · have hlt' : k < (L s).length := by rw [len_L]; exact hlt
      rw [List.drop_eq_getElem_cons hlt', List.takeWhile_cons, if_neg]
      rw [L_get s k hlt, hf]; decide
  rw [e, List.takeWhile_append_of_pos (fun a ha => by rw [List.all_eq_true] at h; exact h a ha), hd, List.append_nil, hl]
set_option maxRecDepth 100000 in
set_option maxHeartbeats 1000000 in
theorem countL_any (s : ByteArray) (w : World) (hs : s.size ≤ 9223372036854775807) :
    Calls Tryz.prog 170 #[.string s, .func (.func 171) #[] #[]] w fun e w' => e = .returned (.int .i64 (cnt upC (L s))) ∧ w = w' := by
  go_enter Tryz.func170, Tryz.ntmps170
  go_wp2
  go_loopg [5] (s.size + 1) (fun gk s5 wr => ∃ k : Nat, s5 = .int .i64 k ∧ k + gk = s.size + 1 ∧ k ≤ s.size ∧ w = wr ∧ Hid (((L s).take k).all upC = true))
  case atStart => exact ⟨0, rfl, by omega, Nat.zero_le _, rfl, rfl⟩
  case round =>
    obtain ⟨k, rfl, hkg, hks, rfl, hall⟩ := hrel
    by_cases hlt : k < s.size
    · have hltI : (k : Int) < (s.size : Int) := by omega
      have HU := Lib.hid (fun W => letter_any s[k] W)
      cases hc : upC s[k]
      · rw [hc] at HU
        have HN := Lib.hid (cnt_stop hall.out hks (Or.inr ⟨hlt, hc⟩))
        clear hc
        go_wp2_with (go_at_call 171; refine (HU.out _).mono ?_; rintro e w1 ⟨rfl, rfl⟩)
        go_ret
        exact ⟨ret_i (by rw [HN.out]), rfl⟩
      · rw [hc] at HU
        have HA := Lib.hid (all_snoc hall.out hlt hc)
        clear hc
        go_wp2_with (go_at_call 171; refine (HU.out _).mono ?_; rintro e w1 ⟨rfl, rfl⟩)
        go_roundg (gk - 1)
        case measure => omega
        case rel => exact ⟨k + 1, by go_num, by omega, by omega, rfl, HA.out⟩
    · obtain rfl : k = s.size := by omega
      have HN := Lib.hid (cnt_stop hall.out hks (Or.inl rfl))
      go_wp2
      go_ret
      exact ⟨ret_i (by rw [HN.out]), rfl⟩
set_option maxRecDepth 100000 in
set_option maxHeartbeats 1000000 in
theorem countN_any (s : ByteArray) (w : World) (hs : s.size ≤ 9223372036854775807) :
    Calls Tryz.prog 170 #[.string s, .func (.func 172) #[] #[]] w fun e w' => e = .returned (.int .i64 (cnt nmC (L s))) ∧ w = w' := by
  go_enter Tryz.func170, Tryz.ntmps170
  go_wp2
  go_loopg [5] (s.size + 1) (fun gk s5 wr => ∃ k : Nat, s5 = .int .i64 k ∧ k + gk = s.size + 1 ∧ k ≤ s.size ∧ w = wr ∧ Hid (((L s).take k).all nmC = true))
  case atStart => exact ⟨0, rfl, by omega, Nat.zero_le _, rfl, rfl⟩
  case round =>
    obtain ⟨k, rfl, hkg, hks, rfl, hall⟩ := hrel
    by_cases hlt : k < s.size
    · have hltI : (k : Int) < (s.size : Int) := by omega
      have HU := Lib.hid (fun W => inName_any s[k] W)
      cases hc : nmC s[k]
      · rw [hc] at HU
        have HN := Lib.hid (cnt_stop hall.out hks (Or.inr ⟨hlt, hc⟩))
        clear hc
        go_wp2_with (go_at_call 172; refine (HU.out _).mono ?_; rintro e w1 ⟨rfl, rfl⟩)
        go_ret
        exact ⟨ret_i (by rw [HN.out]), rfl⟩
      · rw [hc] at HU
        have HA := Lib.hid (all_snoc hall.out hlt hc)
        clear hc
        go_wp2_with (go_at_call 172; refine (HU.out _).mono ?_; rintro e w1 ⟨rfl, rfl⟩)
        go_roundg (gk - 1)
        case measure => omega
        case rel => exact ⟨k + 1, by go_num, by omega, by omega, rfl, HA.out⟩
    · obtain rfl : k = s.size := by omega
      have HN := Lib.hid (cnt_stop hall.out hks (Or.inl rfl))
      go_wp2
      go_ret
      exact ⟨ret_i (by rw [HN.out]), rfl⟩
theorem lops_any (w : World) :
    Calls Tryz.prog 224 #[] w fun e w' => e = .returned (.slice (some ⟨w.heap.size, 0, none⟩) 6 6) ∧ w.alloc (.cells opsA 9) = w' := by
  go_enter Tryz.func224, Tryz.ntmps224
  go_wp2
  go_ret
  exact ⟨rfl, rfl⟩
end Go.Proofs.YthcgkeiggnfgiaaGreatDoor
namespace Go.Proofs.YthcgkeiggnfgiaaGreatDoor
open Go.RowKit
def tri : Except Int (Str × Str) → Array Value
  | .error e => #[.string ⟨#[]⟩, .string ⟨#[]⟩, .int .i64 e]
  | .ok (a, b) => #[.string (bs a), .string (bs b), .int .i64 0]
theorem ret_t {a b : Array Value} (h : a = b) : Ending.returned (.tuple a) = .returned (.tuple b) := by rw [h]
theorem iter_below (w : World) (s : ByteArray) (pos : Nat) : Below w.heap.size w (w.iter s pos) := by unfold World.iter; exact below_alloc _ _
theorem plC_eq (c : UInt8) : plC c = (((c.toNat : Int) == 9) || (decide (32 ≤ (c.toNat : Int)) && decide ((c.toNat : Int) ≤ 126))) := by
  rw [plC, show (9 : UInt8) = UInt8.ofNat 9 from rfl, u8_eq c 9 (by omega)]; rfl
set_option maxRecDepth 100000 in
set_option maxHeartbeats 2000000 in
theorem plain_any (s : ByteArray) (w : World) (_hs : s.size ≤ 9223372036854775807) :
    Calls Tryz.prog 126 #[.string s] w fun e w' => e = .returned (.bool ((L s).all plC)) ∧ Below w.heap.size w w' := by
  obtain ⟨b, hb⟩ : ∃ b, (L s).all plC = b := ⟨_, rfl⟩
  have HQ := Lib.hid hb
  rw [hb]
  clear hb
  go_enter Tryz.func126, Tryz.ntmps126
  go_wp2
  go_loopg [4] (s.size + 1) (fun gk s4 wr => ∃ k : Nat, k + gk = s.size + 1 ∧ k ≤ s.size ∧ wr = w.iter s k ∧ Hid (((L s).take k).all plC = true))
  case atStart => exact ⟨0, by omega, Nat.zero_le _, rfl, rfl⟩
  case round =>
    obtain ⟨k, hkg, hks, rfl, hall⟩ := hrel
    by_cases hlt : k < s.size
    · by_cases ha : s[k].toNat < 128
      · have hnx : ∀ ty, (Instr.next (.pointer (some ⟨w.heap.size, 0, none⟩)) true ty).run Tryz.prog (w.iter s k) = .ok (.tuple #[.bool true, .int .i64 k, .int .i32 s[k].toNat]) (w.iter s (k + 1)) := fun ty => by
          have h := run_next_any (P := Tryz.prog) w s k ty hlt
          rw [decode_ascii s k hlt ha] at h
          exact h
        cases hp : plC s[k]
        · have HN : Hid (b = false) := Lib.hid (by rw [← HQ.out]; exact all_no hlt hp)
          rw [plC_eq, Bool.or_eq_false_iff] at hp
          obtain ⟨h9, hr⟩ := hp
          by_cases h32 : 32 ≤ (s[k].toNat : Int)
          · have h126 : 126 < (s[k].toNat : Int) := by
              rw [decide_eq_true h32, Bool.true_and, decide_eq_false_iff_not] at hr
              omega
            clear hr ha
            go_wp2
            go_ret
            exact ⟨ret_bool (by rw [HN.out]), iter_below _ _ _⟩
          · have h31 : (s[k].toNat : Int) < 32 := by omega
            clear hr ha h32
            go_wp2
            go_ret
            exact ⟨ret_bool (by rw [HN.out]), iter_below _ _ _⟩
        · have HA := Lib.hid (all_snoc hall.out hlt hp)
          rw [plC_eq] at hp
          cases h9 : ((s[k].toNat : Int) == 9)
          · rw [h9, Bool.false_or, Bool.and_eq_true, decide_eq_true_eq, decide_eq_true_eq] at hp
            obtain ⟨h32, h126⟩ := hp
            clear ha
            go_wp2
            go_roundg (gk - 1)
            case measure => omega
            case rel => exact ⟨k + 1, by omega, by omega, rfl, HA.out⟩
          · clear ha hp
            go_wp2
            go_roundg (gk - 1)
            case measure => omega
            case rel => exact ⟨k + 1, by omega, by omega, rfl, HA.out⟩
      · have hd := decode_high s k hlt (by omega)
        have hp : plC s[k] = false := by
          rw [plC_eq, Bool.or_eq_false_iff, Bool.and_eq_false_iff]
          exact ⟨by simp; omega, Or.inr (by simp; omega)⟩
        have HN : Hid (b = false) := Lib.hid (by rw [← HQ.out]; exact all_no hlt hp)
        have hnx : ∀ ty, (Instr.next (.pointer (some ⟨w.heap.size, 0, none⟩)) true ty).run Tryz.prog (w.iter s k) = .ok (.tuple #[.bool true, .int .i64 k, .int .i32 (Utf8.decode s k).1]) (w.iter s (k + (Utf8.decode s k).2)) := fun ty => run_next_any (P := Tryz.prog) w s k ty hlt
        generalize (Utf8.decode s k).1 = r at *
        generalize (Utf8.decode s k).2 = m at *
        have h9 : ((r : Int) == 9) = false := by simp; omega
        have h32 : 32 ≤ (r : Int) := by omega
        have h126 : 126 < (r : Int) := by omega
        clear hp hd ha
        go_wp2
        go_ret
        exact ⟨ret_bool (by rw [HN.out]), iter_below _ _ _⟩
    · obtain rfl : k = s.size := by omega
      have HN : Hid (b = true) := Lib.hid (by rw [← HQ.out]; have := hall.out; rw [take_all s _ (by omega)] at this; exact this)
      have hnx : ∀ ty, (Instr.next (.pointer (some ⟨w.heap.size, 0, none⟩)) true ty).run Tryz.prog (w.iter s s.size) = .ok (.tuple #[.bool false]) (w.iter s s.size) := fun ty => run_next_end w s s.size ty hlt
      go_wp2
      go_ret
      exact ⟨ret_bool (by rw [HN.out]), iter_below _ _ _⟩
theorem tpB_hit {s p : Str} (h : Lib.hasPrefix s p = true) : (⟨(Lib.trimPrefix s p).toArray⟩ : ByteArray) = bs (s.drop p.length) := by rw [Lib.trimPrefix, if_pos h]; rfl
theorem nm_tail (s : ByteArray) (n : Nat) : s.extract n s.size = bs ((L s).drop n) := eq_bs (by rw [L_extract, List.take_of_length_le (by rw [len_L]; exact Nat.le_refl _)])
theorem nm_head (s : ByteArray) (n : Nat) : s.extract 0 n = bs ((L s).take n) := eq_bs (by rw [L_extract, List.drop_zero])
set_option maxRecDepth 100000 in
set_option maxHeartbeats 2000000 in
theorem name_any (s : ByteArray) (w : World) (hs : s.size ≤ 9223372036854775807) :
    Calls Tryz.prog 179 #[.string s] w fun e w' => e = .returned (.tuple (tri (nameS (L s)))) ∧ Below w.heap.size w w' := by
  have HC := Lib.hid (fun W => Tryz.strings_CutPrefix s ⟨#[123]⟩ W)
  have e0 : (⟨#[123]⟩ : ByteArray).data.toList = [123] := rfl
  rw [e0] at HC
  cases hp : Lib.hasPrefix (L s) [123]
  · have HT : Hid (tri (nameS (L s)) = #[.string ⟨#[]⟩, .string s, .int .i64 0]) := Lib.hid (by rw [nameS, hp]; show tri (.ok ([], L s)) = _; rw [tri, bs_L]; rfl)
    rw [show Lib.hasPrefix s.data.toList [123] = false from hp] at HC
    clear hp e0
    go_enter Tryz.func179, Tryz.ntmps179
    go_wp2_with (go_at_call 225; refine (HC.out _).mono ?_; rintro e w1 ⟨rfl, rfl⟩)
    go_ret3
    exact ⟨ret_t HT.out.symm, Below.refl _ _⟩
  · obtain ⟨t, ht⟩ : ∃ t : ByteArray, t = bs ((L s).drop 1) := ⟨_, rfl⟩
    have hts : t.size ≤ 9223372036854775807 := by rw [ht, size_bs, List.length_drop, len_L]; omega
    rw [show Lib.hasPrefix s.data.toList [123] = true from hp, show (⟨(Lib.trimPrefix s.data.toList [123]).toArray⟩ : ByteArray) = t from by rw [ht]; exact tpB_hit hp] at HC
    have HT : Hid (nameS (L s) = if cnt nmC (L t) = (L t).length then .error 83 else if cnt nmC (L t) = 0 ∨ ((L t).drop (cnt nmC (L t))).head? ≠ some 125 then .error 82 else .ok ((L t).take (cnt nmC (L t)), (L t).drop (cnt nmC (L t) + 1))) := Lib.hid (by rw [nameS, if_pos hp, ht, L_bs])
    have HCn := Lib.hid (fun W => countN_any t W hts)
    have hn := cnt_le nmC (L t)
    rw [len_L] at hn
    generalize cnt nmC (L t) = n at *
    clear hp ht e0
    by_cases h1 : n = t.size
    · have HR : Hid (tri (nameS (L s)) = #[.string ⟨#[]⟩, .string ⟨#[]⟩, .int .i64 83]) := Lib.hid (by rw [HT.out, if_pos (by rw [len_L]; exact h1)]; rfl)
      subst h1
      go_enter Tryz.func179, Tryz.ntmps179
      go_wp2_with (first | (go_at_call 225; refine (HC.out _).mono ?_; rintro e w1 ⟨rfl, rfl⟩) | (go_at_call 170; refine (HCn.out _).mono ?_; rintro e w1 ⟨rfl, rfl⟩))
      go_ret3
      exact ⟨ret_t HR.out.symm, Below.refl _ _⟩
    have hlt : n < t.size := by omega
    have e1 : ((n : Int) == (t.size : Int)) = false := by simp; omega
    have HT2 : Hid (nameS (L s) = if n = 0 ∨ ((L t).drop n).head? ≠ some 125 then .error 82 else .ok ((L t).take n, (L t).drop (n + 1))) := Lib.hid (by rw [HT.out, if_neg (by rw [len_L]; exact h1)])
    by_cases h2 : n = 0
    · have HR : Hid (tri (nameS (L s)) = #[.string ⟨#[]⟩, .string ⟨#[]⟩, .int .i64 82]) := Lib.hid (by rw [HT2.out, if_pos (Or.inl h2)]; rfl)
      subst h2
      clear h1 HT HT2
      go_enter Tryz.func179, Tryz.ntmps179
      go_wp2_with (first | (go_at_call 225; refine (HC.out _).mono ?_; rintro e w1 ⟨rfl, rfl⟩) | (go_at_call 170; refine (HCn.out _).mono ?_; rintro e w1 ⟨rfl, rfl⟩))
      go_ret3
      exact ⟨ret_t HR.out.symm, Below.refl _ _⟩
    have e2 : ((n : Int) == 0) = false := by simp; omega
    have hltI : (n : Int) < (t.size : Int) := by omega
    have hhead : ((L t).drop n).head? = some t[n] := by rw [List.drop_eq_getElem_cons (by rw [len_L]; exact hlt)]; rfl
    cases hc : ((t[n].toNat : Int) == 125)
    · have m3 : ((t[n].toNat : Int) != 125) = true := by rw [bne, hc]; rfl
      have HR : Hid (tri (nameS (L s)) = #[.string ⟨#[]⟩, .string ⟨#[]⟩, .int .i64 82]) := Lib.hid (by
        rw [HT2.out, if_pos (Or.inr (by rw [hhead]; intro e; injection e with e; rw [e] at hc; exact absurd hc (by decide)))]; rfl)
      clear h1 h2 HT HT2 hhead
      go_enter Tryz.func179, Tryz.ntmps179
      go_wp2_with (first | (go_at_call 225; refine (HC.out _).mono ?_; rintro e w1 ⟨rfl, rfl⟩) | (go_at_call 170; refine (HCn.out _).mono ?_; rintro e w1 ⟨rfl, rfl⟩))
      go_ret3
      exact ⟨ret_t HR.out.symm, Below.refl _ _⟩
    · have m3 : ((t[n].toNat : Int) != 125) = false := by rw [bne, hc]; rfl
      have HR : Hid (tri (nameS (L s)) = #[.string (t.extract 0 n), .string (t.extract (n + 1) t.size), .int .i64 0]) := Lib.hid (by
        rw [HT2.out, if_neg (by
          rw [hhead]
          rintro (e | e)
          · exact h2 e
          · apply e
            rw [show t[n] = 125 from by
              have : t[n].toNat = 125 := by rw [beq_iff_eq] at hc; omega
              exact UInt8.toNat_inj.1 this])]
        show tri (.ok (_, _)) = _
        rw [tri, nm_head, nm_tail])
      have hn1 : (n : Int) + 1 ≤ (t.size : Int) := by omega
      have hn2 : (n : Int) ≤ (t.size : Int) := by omega
      clear h1 h2 HT HT2 hhead
      go_enter Tryz.func179, Tryz.ntmps179
      go_wp2_with (first | (go_at_call 225; refine (HC.out _).mono ?_; rintro e w1 ⟨rfl, rfl⟩) | (go_at_call 170; refine (HCn.out _).mono ?_; rintro e w1 ⟨rfl, rfl⟩))
      go_region
      go_wp2
      go_ret3
      exact ⟨ret_t HR.out.symm, (Below.refl _ _).drew⟩
def noneB (s : Str) (k : Nat) : Bool := (opsL.take k).all fun x => !Lib.hasPrefix s x
theorem opsA_at {k : Nat} (h : k < 6) : ∃ ob : ByteArray, opsA[k]? = some (.string ob) ∧ opsL[k]? = some (L ob) := by
  have hk : k = 0 ∨ k = 1 ∨ k = 2 ∨ k = 3 ∨ k = 4 ∨ k = 5 := by omega
  rcases hk with rfl | rfl | rfl | rfl | rfl | rfl
  all_goals exact ⟨_, rfl, rfl⟩
theorem noneB_snoc {s x : Str} {k : Nat} (h : noneB s k = true) (hx : opsL[k]? = some x) (hp : Lib.hasPrefix s x = false) : noneB s (k + 1) = true := by
  unfold noneB at h ⊢
  rw [List.take_add_one, hx, List.all_append, h]
  simp [hp]
theorem opS_hit {s x : Str} {k : Nat} (h : noneB s k = true) (hx : opsL[k]? = some x) (hp : Lib.hasPrefix s x = true) : opS s = .ok (x, s.drop x.length) := by
  have hf : opsL.find? (fun y => Lib.hasPrefix s y) = some x := by
    have hk : k < opsL.length := by
      rcases Nat.lt_or_ge k opsL.length with h | h
      · exact h
      · rw [List.getElem?_eq_none h] at hx; cases hx
    have hx2 : opsL[k] = x := by rw [List.getElem?_eq_getElem hk] at hx; injection hx
    rw [← List.take_append_drop k opsL, List.find?_append, List.find?_eq_none.2 (fun y hy => by
      unfold noneB at h
      rw [List.all_eq_true] at h
      have := h y hy
      simpa using this), Option.none_or, List.drop_eq_getElem_cons hk, List.find?_cons_of_pos (by rw [hx2]; exact hp), hx2]
  rw [opS, hf]
theorem opS_miss {s : Str} (h : noneB s 6 = true) : opS s = .error 82 := by
  have hf : opsL.find? (fun y => Lib.hasPrefix s y) = none := List.find?_eq_none.2 (fun y hy => by
    unfold noneB at h
    rw [List.take_of_length_le (by decide), List.all_eq_true] at h
    simpa using h y hy)
  rw [opS, hf]
set_option maxRecDepth 100000 in
set_option maxHeartbeats 2000000 in
theorem op_any (s : ByteArray) (w : World) :
    Calls Tryz.prog 173 #[.string s] w fun e w' => e = .returned (.tuple (tri (opS (L s)))) ∧ Below w.heap.size w w' := by
  go_enter Tryz.func173, Tryz.ntmps173
  go_wp2_with (go_at_call 224; refine (lops_any _).mono ?_; rintro e w1 ⟨rfl, rfl⟩)
  go_loopg [11] 7 (fun gk s5 wr => ∃ k : Nat, s5 = .int .i64 k ∧ k + gk = 7 ∧ k ≤ 6 ∧ w.alloc (.cells opsA 9) = wr ∧ Hid (noneB (L s) k = true))
  case atStart => exact ⟨0, rfl, by omega, Nat.zero_le _, rfl, rfl⟩
  case round =>
    obtain ⟨k, rfl, hkg, hks, hwr, hall⟩ := hrel
    by_cases hlt : k < 6
    · have hltI : (k : Int) < 6 := by omega
      obtain ⟨ob, ho, hl⟩ := opsA_at hlt
      have hcell : wr.cell? ⟨w.heap.size, k, none⟩ = some (.string ob) := by rw [← hwr]; exact cellOf (heap_alloc_new w _) (by simpa using ho)
      have HB : Hid (Below w.heap.size w wr) := Lib.hid (by rw [← hwr]; exact below_alloc _ _)
      have HC := Lib.hid (fun W => Tryz.strings_CutPrefix s ob W)
      have HWr := Lib.hid hwr
      cases hp : Lib.hasPrefix (L s) (L ob)
      · have HA := Lib.hid (noneB_snoc hall.out hl hp)
        rw [show Lib.hasPrefix s.data.toList ob.data.toList = false from hp] at HC
        generalize (⟨(Lib.trimPrefix s.data.toList ob.data.toList).toArray⟩ : ByteArray) = u at *
        clear hp ho hl hwr
        go_wp2_with (go_at_call 225; refine (HC.out _).mono ?_; rintro e w1 ⟨rfl, rfl⟩)
        go_roundg (gk - 1)
        case measure => omega
        case rel => exact ⟨k + 1, by go_num, by omega, by omega, HWr.out, HA.out⟩
      · have HT : Hid (tri (opS (L s)) = #[.string ob, .string (bs ((L s).drop (L ob).length)), .int .i64 0]) := Lib.hid (by rw [opS_hit hall.out hl hp]; show tri (.ok (_, _)) = _; rw [tri, bs_L])
        rw [show Lib.hasPrefix s.data.toList ob.data.toList = true from hp, show (⟨(Lib.trimPrefix s.data.toList ob.data.toList).toArray⟩ : ByteArray) = bs ((L s).drop (L ob).length) from tpB_hit hp] at HC
        generalize bs ((L s).drop (L ob).length) = u at *
        clear hp ho hl hwr
        go_wp2_with (go_at_call 225; refine (HC.out _).mono ?_; rintro e w1 ⟨rfl, rfl⟩)
        go_ret3
        exact ⟨ret_t HT.out.symm, HB.out⟩
    · obtain rfl : k = 6 := by omega
      have HT : Hid (tri (opS (L s)) = #[.string ⟨#[]⟩, .string ⟨#[]⟩, .int .i64 82]) := Lib.hid (by rw [opS_miss hall.out]; rfl)
      have HB : Hid (Below w.heap.size w wr) := Lib.hid (by rw [← hwr]; exact below_alloc _ _)
      clear hwr
      go_wp2
      go_ret3
      exact ⟨ret_t HT.out.symm, HB.out⟩
end Go.Proofs.YthcgkeiggnfgiaaGreatDoor
