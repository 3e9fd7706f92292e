/-
  Contracts of the program's lexer: letter, inName, count, ops.
  Contracts of the program's lexer: plain, name, op.
  Contract of the program's lexer: value.
  Contract of the program's lexer: token.
  Contract of the program's Tokens.
-/
import Derived.Test.YtibflgfhjfcifaaGreatDoorG15
import Derived.Test.YtibflgfhjfcifaaGreatDoorG16
import Derived.Laws.RangeAny
import Derived.Test.YtibflgfhjfcifaaGreatDoorG00
import Derived.Laws.IdiomStrings
import Derived.Lib.BufferRead
import Derived.Lib.SmallJoins
import Derived.Test.YtibflgfhjfcifaaGreatDoorG19
import Derived.Shelf.Strings.SlTrimAscii
namespace Go.Proofs.YtibflgfhjfcifaaGreatDoor
open Go.RowKit
set_option maxRecDepth 100000 in
set_option maxHeartbeats 400000 in
theorem letter_any (c : UInt8) (w : World) :
 Calls Tryz.prog 141 #[.int .u8 c.toNat] w fun e w' => e = .returned (.bool (upC c)) ∧ w = w' := by
 have HP : Hid (upC c = (decide (65 ≤ (c.toNat : Int)) && decide ((c.toNat : Int) ≤ 90))) := Lib.hid rfl
 by_cases h1 : 65 ≤ (c.toNat : Int)
 · go_enter Tryz.func141, Tryz.ntmps141
   go_wp2
   go_ret
   exact ⟨ret_bool (by rw [HP.out]; simp [h1]), rfl⟩
 · go_enter Tryz.func141, Tryz.ntmps141
   go_wp2
   go_ret
   exact ⟨ret_bool (by rw [HP.out]; simp; omega), rfl⟩
set_option maxRecDepth 100000 in
set_option maxHeartbeats 1000000 in
theorem inName_any (c : UInt8) (w : World) :
 Calls Tryz.prog 170 #[.int .u8 c.toNat] w fun e w' => e = .returned (.bool (nmC c)) ∧ w = w' := by
 have hP : nmC c = (decide (33 ≤ (c.toNat : Int)) && decide ((c.toNat : Int) ≤ 126) && !((c.toNat : Int) == 123) && !((c.toNat : Int) == 125) && !((c.toNat : Int) == 34)) := by
  rw [nmC, show (123 : UInt8) = UInt8.ofNat 123 from rfl, show (125 : UInt8) = UInt8.ofNat 125 from rfl, show (34 : UInt8) = UInt8.ofNat 34 from rfl, u8_eq c 123 (by omega), u8_eq c 125 (by omega), u8_eq c 34 (by omega)]
  rfl
 have HP := Lib.hid hP
 clear hP
 by_cases h1 : 33 ≤ (c.toNat : Int)
 · have h1' : 32 < (c.toNat : Int) := by omega
   by_cases h2 : (c.toNat : Int) ≤ 126
   · have d1 : decide ((c.toNat : Int) ≤ 126) = true := decide_eq_true h2
     cases h3 : ((c.toNat : Int) == 123)
     all_goals
      have m3 : ((c.toNat : Int) != 123) = !((c.toNat : Int) == 123) := rfl
      rw [h3] at m3
      cases h4 : ((c.toNat : Int) == 125)
      all_goals
       have m4 : ((c.toNat : Int) != 125) = !((c.toNat : Int) == 125) := rfl
       rw [h4] at m4
       have HQ : Hid (nmC c = (decide (33 ≤ (c.toNat : Int)) && decide ((c.toNat : Int) ≤ 126) && !((c.toNat : Int) == 123) && !((c.toNat : Int) == 125) && !((c.toNat : Int) == 34))) := HP
       rw [h3, h4, decide_eq_true h1, decide_eq_true h2] at HQ
       simp only [Bool.not_true, Bool.not_false] at m3 m4
       clear h1
       go_enter Tryz.func170, Tryz.ntmps170
       go_wp2
       go_ret
       exact ⟨ret_bool (by rw [HQ.out]; first | rfl | simp), rfl⟩
   · have d1 : decide ((c.toNat : Int) ≤ 126) = false := decide_eq_false h2
     have h2 : 126 < (c.toNat : Int) := by omega
     rw [d1] at HP
     clear h1
     go_enter Tryz.func170, Tryz.ntmps170
     go_wp2
     go_ret
     exact ⟨ret_bool (by rw [HP.out]; simp), rfl⟩
 · have d1 : decide (33 ≤ (c.toNat : Int)) = false := decide_eq_false h1
   have h2 : ¬ 32 < (c.toNat : Int) := by omega
   rw [d1] at HP
   clear h1
   go_enter Tryz.func170, Tryz.ntmps170
   go_wp2
   go_ret
   exact ⟨ret_bool (by rw [HP.out]; simp), rfl⟩
theorem cnt_stop {f : UInt8 → Bool} {s : ByteArray} {k : Nat} (h : ((L s).take k).all f = true) (hk : k ≤ s.size) (hs : k = s.size ∨ ∃ hlt : k < s.size, f s[k] = false) : cnt f (L s) = k := by
 unfold cnt
 have hl : ((L s).take k).length = k := by rw [List.length_take, len_L]; omega
 have e : L s = (L s).take k ++ (L s).drop k := (List.take_append_drop k (L s)).symm
 have hd : ((L s).drop k).takeWhile f = [] := by
  rcases hs with rfl | ⟨hlt, hf⟩
  · rw [List.drop_of_length_le (by rw [len_L]; exact Nat.le_refl _)]; rfl
  · have hlt' : k < (L s).length := by rw [len_L]; exact hlt
    rw [List.drop_eq_getElem_cons hlt', List.takeWhile_cons, if_neg]
    rw [L_get s k hlt, hf]; decide
 rw [e, List.takeWhile_append_of_pos (fun a ha => by rw [List.all_eq_true] at h; exact h a ha), hd, List.append_nil, hl]
set_option maxRecDepth 100000 in
set_option maxHeartbeats 1000000 in
theorem countL_any (s : ByteArray) (w : World) (hs : s.size ≤ 9223372036854775807) :
 Calls Tryz.prog 140 #[.string s, .func (.func 141) #[] #[]] w fun e w' => e = .returned (.int .i64 (cnt upC (L s))) ∧ w = w' := by
 go_enter Tryz.func140, Tryz.ntmps140
 go_wp2
 go_loopg [5] (s.size + 1) (fun gk s5 wr => ∃ k : Nat, s5 = .int .i64 k ∧ k + gk = s.size + 1 ∧ k ≤ s.size ∧ w = wr ∧ Hid (((L s).take k).all upC = true))
 case atStart => exact ⟨0, rfl, by omega, Nat.zero_le _, rfl, rfl⟩
 case round =>
  obtain ⟨k, rfl, hkg, hks, rfl, hall⟩ := hrel
  by_cases hlt : k < s.size
  · have hltI : (k : Int) < (s.size : Int) := by omega
    have HU := Lib.hid (fun W => letter_any s[k] W)
    cases hc : upC s[k]
    · rw [hc] at HU
      have HN := Lib.hid (cnt_stop hall.out hks (Or.inr ⟨hlt, hc⟩))
      clear hc
      go_wp2_with (go_at_call 141; refine (HU.out _).mono ?_; rintro e w1 ⟨rfl, rfl⟩)
      go_ret
      exact ⟨ret_i (by rw [HN.out]), rfl⟩
    · rw [hc] at HU
      have HA := Lib.hid (all_snoc hall.out hlt hc)
      clear hc
      go_wp2_with (go_at_call 141; refine (HU.out _).mono ?_; rintro e w1 ⟨rfl, rfl⟩)
      go_roundg (gk - 1)
      case measure => omega
      case rel => exact ⟨k + 1, by go_num, by omega, by omega, rfl, HA.out⟩
  · obtain rfl : k = s.size := by omega
    have HN := Lib.hid (cnt_stop hall.out hks (Or.inl rfl))
    go_wp2
    go_ret
    exact ⟨ret_i (by rw [HN.out]), rfl⟩
set_option maxRecDepth 100000 in
set_option maxHeartbeats 1000000 in
theorem countN_any (s : ByteArray) (w : World) (hs : s.size ≤ 9223372036854775807) :
 Calls Tryz.prog 140 #[.string s, .func (.func 170) #[] #[]] w fun e w' => e = .returned (.int .i64 (cnt nmC (L s))) ∧ w = w' := by
 go_enter Tryz.func140, Tryz.ntmps140
 go_wp2
 go_loopg [5] (s.size + 1) (fun gk s5 wr => ∃ k : Nat, s5 = .int .i64 k ∧ k + gk = s.size + 1 ∧ k ≤ s.size ∧ w = wr ∧ Hid (((L s).take k).all nmC = true))
 case atStart => exact ⟨0, rfl, by omega, Nat.zero_le _, rfl, rfl⟩
 case round =>
  obtain ⟨k, rfl, hkg, hks, rfl, hall⟩ := hrel
  by_cases hlt : k < s.size
  · have hltI : (k : Int) < (s.size : Int) := by omega
    have HU := Lib.hid (fun W => inName_any s[k] W)
    cases hc : nmC s[k]
    · rw [hc] at HU
      have HN := Lib.hid (cnt_stop hall.out hks (Or.inr ⟨hlt, hc⟩))
      clear hc
      go_wp2_with (go_at_call 170; refine (HU.out _).mono ?_; rintro e w1 ⟨rfl, rfl⟩)
      go_ret
      exact ⟨ret_i (by rw [HN.out]), rfl⟩
    · rw [hc] at HU
      have HA := Lib.hid (all_snoc hall.out hlt hc)
      clear hc
      go_wp2_with (go_at_call 170; refine (HU.out _).mono ?_; rintro e w1 ⟨rfl, rfl⟩)
      go_roundg (gk - 1)
      case measure => omega
      case rel => exact ⟨k + 1, by go_num, by omega, by omega, rfl, HA.out⟩
  · obtain rfl : k = s.size := by omega
    have HN := Lib.hid (cnt_stop hall.out hks (Or.inl rfl))
    go_wp2
    go_ret
    exact ⟨ret_i (by rw [HN.out]), rfl⟩
theorem lops_any (w : World) :
 Calls Tryz.prog 171 #[] w fun e w' => e = .returned (.slice (some ⟨w.heap.size, 0, none⟩) 6 6) ∧ w.alloc (.cells opsA 9) = w' := by
 go_enter Tryz.func171, Tryz.ntmps171
 go_wp2
 go_ret
 exact ⟨rfl, rfl⟩
end Go.Proofs.YtibflgfhjfcifaaGreatDoor
namespace Go.Proofs.YtibflgfhjfcifaaGreatDoor
open Go.RowKit
def tri : Except Int (Str × Str) → Array Value
 | .error e => #[.string ⟨#[]⟩, .string ⟨#[]⟩, .int .i64 e]
 | .ok (a, b) => #[.string (bs a), .string (bs b), .int .i64 0]
theorem ret_t {a b : Array Value} (h : a = b) : Ending.returned (.tuple a) = .returned (.tuple b) := by rw [h]
theorem iter_below (w : World) (s : ByteArray) (pos : Nat) : Below w.heap.size w (w.iter s pos) := by unfold World.iter; exact below_alloc _ _
theorem plC_eq (c : UInt8) : plC c = (((c.toNat : Int) == 9) || (decide (32 ≤ (c.toNat : Int)) && decide ((c.toNat : Int) ≤ 126))) := by
 rw [plC, show (9 : UInt8) = UInt8.ofNat 9 from rfl, u8_eq c 9 (by omega)]; rfl
set_option maxRecDepth 100000 in
set_option maxHeartbeats 2000000 in
theorem plain_any (s : ByteArray) (w : World) (_hs : s.size ≤ 9223372036854775807) :
 Calls Tryz.prog 87 #[.string s] w fun e w' => e = .returned (.bool ((L s).all plC)) ∧ Below w.heap.size w w' := by
 obtain ⟨b, hb⟩ : ∃ b, (L s).all plC = b := ⟨_, rfl⟩
 have HQ := Lib.hid hb
 rw [hb]
 clear hb
 go_enter Tryz.func87, Tryz.ntmps87
 go_wp2
 go_loopg [4] (s.size + 1) (fun gk s4 wr => ∃ k : Nat, k + gk = s.size + 1 ∧ k ≤ s.size ∧ wr = w.iter s k ∧ Hid (((L s).take k).all plC = true))
 case atStart => exact ⟨0, by omega, Nat.zero_le _, rfl, rfl⟩
 case round =>
  obtain ⟨k, hkg, hks, rfl, hall⟩ := hrel
  by_cases hlt : k < s.size
  · by_cases ha : s[k].toNat < 128
    · have hnx : ∀ ty, (Instr.next (.pointer (some ⟨w.heap.size, 0, none⟩)) true ty).run Tryz.prog (w.iter s k) = .ok (.tuple #[.bool true, .int .i64 k, .int .i32 s[k].toNat]) (w.iter s (k + 1)) := fun ty => by
       have h := run_next_any (P := Tryz.prog) w s k ty hlt
       rw [decode_ascii s k hlt ha] at h
       exact h
      cases hp : plC s[k]
      · have HN : Hid (b = false) := Lib.hid (by rw [← HQ.out]; exact all_no hlt hp)
        rw [plC_eq, Bool.or_eq_false_iff] at hp
        obtain ⟨h9, hr⟩ := hp
        by_cases h32 : 32 ≤ (s[k].toNat : Int)
        · have h126 : 126 < (s[k].toNat : Int) := by
           rw [decide_eq_true h32, Bool.true_and, decide_eq_false_iff_not] at hr
           omega
          clear hr ha
          go_wp2
          go_ret
          exact ⟨ret_bool (by rw [HN.out]), iter_below _ _ _⟩
        · have h31 : (s[k].toNat : Int) < 32 := by omega
          clear hr ha h32
          go_wp2
          go_ret
          exact ⟨ret_bool (by rw [HN.out]), iter_below _ _ _⟩
      · have HA := Lib.hid (all_snoc hall.out hlt hp)
        rw [plC_eq] at hp
        cases h9 : ((s[k].toNat : Int) == 9)
        · rw [h9, Bool.false_or, Bool.and_eq_true, decide_eq_true_eq, decide_eq_true_eq] at hp
          obtain ⟨h32, h126⟩ := hp
          clear ha
          go_wp2
          go_roundg (gk - 1)
          case measure => omega
          case rel => exact ⟨k + 1, by omega, by omega, rfl, HA.out⟩
        · clear ha hp
          go_wp2
          go_roundg (gk - 1)
          case measure => omega
          case rel => exact ⟨k + 1, by omega, by omega, rfl, HA.out⟩
    · have hd := decode_high s k hlt (by omega)
      have hp : plC s[k] = false := by
       rw [plC_eq, Bool.or_eq_false_iff, Bool.and_eq_false_iff]
       exact ⟨by simp; omega, Or.inr (by simp; omega)⟩
      have HN : Hid (b = false) := Lib.hid (by rw [← HQ.out]; exact all_no hlt hp)
      have hnx : ∀ ty, (Instr.next (.pointer (some ⟨w.heap.size, 0, none⟩)) true ty).run Tryz.prog (w.iter s k) = .ok (.tuple #[.bool true, .int .i64 k, .int .i32 (Utf8.decode s k).1]) (w.iter s (k + (Utf8.decode s k).2)) := fun ty => run_next_any (P := Tryz.prog) w s k ty hlt
      generalize (Utf8.decode s k).1 = r at *
      generalize (Utf8.decode s k).2 = m at *
      have h9 : ((r : Int) == 9) = false := by simp; omega
      have h32 : 32 ≤ (r : Int) := by omega
      have h126 : 126 < (r : Int) := by omega
      clear hp hd ha
      go_wp2
      go_ret
      exact ⟨ret_bool (by rw [HN.out]), iter_below _ _ _⟩
  · obtain rfl : k = s.size := by omega
    have HN : Hid (b = true) := Lib.hid (by rw [← HQ.out]; have := hall.out; rw [take_all s _ (by omega)] at this; exact this)
    have hnx : ∀ ty, (Instr.next (.pointer (some ⟨w.heap.size, 0, none⟩)) true ty).run Tryz.prog (w.iter s s.size) = .ok (.tuple #[.bool false]) (w.iter s s.size) := fun ty => run_next_end w s s.size ty hlt
    go_wp2
    go_ret
    exact ⟨ret_bool (by rw [HN.out]), iter_below _ _ _⟩
theorem tpB_hit {s p : Str} (h : Lib.hasPrefix s p = true) : (⟨(Lib.trimPrefix s p).toArray⟩ : ByteArray) = bs (s.drop p.length) := by rw [Lib.trimPrefix, if_pos h]; rfl
theorem nm_tail (s : ByteArray) (n : Nat) : s.extract n s.size = bs ((L s).drop n) := eq_bs (by rw [L_extract, List.take_of_length_le (by rw [len_L]; exact Nat.le_refl _)])
theorem nm_head (s : ByteArray) (n : Nat) : s.extract 0 n = bs ((L s).take n) := eq_bs (by rw [L_extract, List.drop_zero])
set_option maxRecDepth 100000 in
set_option maxHeartbeats 2000000 in
theorem name_any (s : ByteArray) (w : World) (hs : s.size ≤ 9223372036854775807) :
 Calls Tryz.prog 142 #[.string s] w fun e w' => e = .returned (.tuple (tri (nameS (L s)))) ∧ Below w.heap.size w w' := by
 have HC := Lib.hid (fun W => Tryz.strings_CutPrefix s ⟨#[123]⟩ W)
 have e0 : (⟨#[123]⟩ : ByteArray).data.toList = [123] := rfl
 rw [e0] at HC
 cases hp : Lib.hasPrefix (L s) [123]
 · have HT : Hid (tri (nameS (L s)) = #[.string ⟨#[]⟩, .string s, .int .i64 0]) := Lib.hid (by rw [nameS, hp]; show tri (.ok ([], L s)) = _; rw [tri, bs_L]; rfl)
   rw [show Lib.hasPrefix s.data.toList [123] = false from hp] at HC
   clear hp e0
   go_enter Tryz.func142, Tryz.ntmps142
   go_wp2_with (go_at_call 169; refine (HC.out _).mono ?_; rintro e w1 ⟨rfl, rfl⟩)
   go_ret3
   exact ⟨ret_t HT.out.symm, Below.refl _ _⟩
 · obtain ⟨t, ht⟩ : ∃ t : ByteArray, t = bs ((L s).drop 1) := ⟨_, rfl⟩
   have hts : t.size ≤ 9223372036854775807 := by rw [ht, size_bs, List.length_drop, len_L]; omega
   rw [show Lib.hasPrefix s.data.toList [123] = true from hp, show (⟨(Lib.trimPrefix s.data.toList [123]).toArray⟩ : ByteArray) = t from by rw [ht]; exact tpB_hit hp] at HC
   have HT : Hid (nameS (L s) = if cnt nmC (L t) = (L t).length then .error 83 else if cnt nmC (L t) = 0 ∨ ((L t).drop (cnt nmC (L t))).head? ≠ some 125 then .error 82 else .ok ((L t).take (cnt nmC (L t)), (L t).drop (cnt nmC (L t) + 1))) := Lib.hid (by rw [nameS, if_pos hp, ht, L_bs])
   have HCn := Lib.hid (fun W => countN_any t W hts)
   have hn := cnt_le nmC (L t)
   rw [len_L] at hn
   generalize cnt nmC (L t) = n at *
   clear hp ht e0
   by_cases h1 : n = t.size
   · have HR : Hid (tri (nameS (L s)) = #[.string ⟨#[]⟩, .string ⟨#[]⟩, .int .i64 83]) := Lib.hid (by rw [HT.out, if_pos (by rw [len_L]; exact h1)]; rfl)
     subst h1
     go_enter Tryz.func142, Tryz.ntmps142
     go_wp2_with (first | (go_at_call 169; refine (HC.out _).mono ?_; rintro e w1 ⟨rfl, rfl⟩) | (go_at_call 140; refine (HCn.out _).mono ?_; rintro e w1 ⟨rfl, rfl⟩))
     go_ret3
     exact ⟨ret_t HR.out.symm, Below.refl _ _⟩
   have hlt : n < t.size := by omega
   have e1 : ((n : Int) == (t.size : Int)) = false := by simp; omega
   have HT2 : Hid (nameS (L s) = if n = 0 ∨ ((L t).drop n).head? ≠ some 125 then .error 82 else .ok ((L t).take n, (L t).drop (n + 1))) := Lib.hid (by rw [HT.out, if_neg (by rw [len_L]; exact h1)])
   by_cases h2 : n = 0
   · have HR : Hid (tri (nameS (L s)) = #[.string ⟨#[]⟩, .string ⟨#[]⟩, .int .i64 82]) := Lib.hid (by rw [HT2.out, if_pos (Or.inl h2)]; rfl)
     subst h2
     clear h1 HT HT2
     go_enter Tryz.func142, Tryz.ntmps142
     go_wp2_with (first | (go_at_call 169; refine (HC.out _).mono ?_; rintro e w1 ⟨rfl, rfl⟩) | (go_at_call 140; refine (HCn.out _).mono ?_; rintro e w1 ⟨rfl, rfl⟩))
     go_ret3
     exact ⟨ret_t HR.out.symm, Below.refl _ _⟩
   have e2 : ((n : Int) == 0) = false := by simp; omega
   have hltI : (n : Int) < (t.size : Int) := by omega
   have hhead : ((L t).drop n).head? = some t[n] := by rw [List.drop_eq_getElem_cons (by rw [len_L]; exact hlt)]; rfl
   cases hc : ((t[n].toNat : Int) == 125)
   · have m3 : ((t[n].toNat : Int) != 125) = true := by rw [bne, hc]; rfl
     have HR : Hid (tri (nameS (L s)) = #[.string ⟨#[]⟩, .string ⟨#[]⟩, .int .i64 82]) := Lib.hid (by
      rw [HT2.out, if_pos (Or.inr (by rw [hhead]; intro e; injection e with e; rw [e] at hc; exact absurd hc (by decide)))]; rfl)
     clear h1 h2 HT HT2 hhead
     go_enter Tryz.func142, Tryz.ntmps142
     go_wp2_with (first | (go_at_call 169; refine (HC.out _).mono ?_; rintro e w1 ⟨rfl, rfl⟩) | (go_at_call 140; refine (HCn.out _).mono ?_; rintro e w1 ⟨rfl, rfl⟩))
     go_ret3
     exact ⟨ret_t HR.out.symm, Below.refl _ _⟩
   · have m3 : ((t[n].toNat : Int) != 125) = false := by rw [bne, hc]; rfl
     have HR : Hid (tri (nameS (L s)) = #[.string (t.extract 0 n), .string (t.extract (n + 1) t.size), .int .i64 0]) := Lib.hid (by
      rw [HT2.out, if_neg (by
       rw [hhead]
       rintro (e | e)
       · exact h2 e
       · apply e
         rw [show t[n] = 125 from by
          have : t[n].toNat = 125 := by rw [beq_iff_eq] at hc; omega
          exact UInt8.toNat_inj.1 this])]
      show tri (.ok (_, _)) = _
      rw [tri, nm_head, nm_tail])
     have hn1 : (n : Int) + 1 ≤ (t.size : Int) := by omega
     have hn2 : (n : Int) ≤ (t.size : Int) := by omega
     clear h1 h2 HT HT2 hhead
     go_enter Tryz.func142, Tryz.ntmps142
     go_wp2_with (first | (go_at_call 169; refine (HC.out _).mono ?_; rintro e w1 ⟨rfl, rfl⟩) | (go_at_call 140; refine (HCn.out _).mono ?_; rintro e w1 ⟨rfl, rfl⟩))
     go_region
     go_wp2
     go_ret3
     exact ⟨ret_t HR.out.symm, (Below.refl _ _).drew⟩
def noneB (s : Str) (k : Nat) : Bool := (opsL.take k).all fun x => !Lib.hasPrefix s x
theorem opsA_at {k : Nat} (h : k < 6) : ∃ ob : ByteArray, opsA[k]? = some (.string ob) ∧ opsL[k]? = some (L ob) := by
 have hk : k = 0 ∨ k = 1 ∨ k = 2 ∨ k = 3 ∨ k = 4 ∨ k = 5 := by omega
 rcases hk with rfl | rfl | rfl | rfl | rfl | rfl
 all_goals exact ⟨_, rfl, rfl⟩
theorem noneB_snoc {s x : Str} {k : Nat} (h : noneB s k = true) (hx : opsL[k]? = some x) (hp : Lib.hasPrefix s x = false) : noneB s (k + 1) = true := by
 unfold noneB at h ⊢
 rw [List.take_add_one, hx, List.all_append, h]
 simp [hp]
theorem opS_hit {s x : Str} {k : Nat} (h : noneB s k = true) (hx : opsL[k]? = some x) (hp : Lib.hasPrefix s x = true) : opS s = .ok (x, s.drop x.length) := by
 have hf : opsL.find? (fun y => Lib.hasPrefix s y) = some x := by
  have hk : k < opsL.length := by
   rcases Nat.lt_or_ge k opsL.length with h | h
   · exact h
   · rw [List.getElem?_eq_none h] at hx; cases hx
  have hx2 : opsL[k] = x := by rw [List.getElem?_eq_getElem hk] at hx; injection hx
  rw [← List.take_append_drop k opsL, List.find?_append, List.find?_eq_none.2 (fun y hy => by
   unfold noneB at h
   rw [List.all_eq_true] at h
   have := h y hy
   simpa using this), Option.none_or, List.drop_eq_getElem_cons hk, List.find?_cons_of_pos (by rw [hx2]; exact hp), hx2]
 rw [opS, hf]
theorem opS_miss {s : Str} (h : noneB s 6 = true) : opS s = .error 82 := by
 have hf : opsL.find? (fun y => Lib.hasPrefix s y) = none := List.find?_eq_none.2 (fun y hy => by
  unfold noneB at h
  rw [List.take_of_length_le (by decide), List.all_eq_true] at h
  simpa using h y hy)
 rw [opS, hf]
set_option maxRecDepth 100000 in
set_option maxHeartbeats 2000000 in
theorem op_any (s : ByteArray) (w : World) :
 Calls Tryz.prog 143 #[.string s] w fun e w' => e = .returned (.tuple (tri (opS (L s)))) ∧ Below w.heap.size w w' := by
 go_enter Tryz.func143, Tryz.ntmps143
 go_wp2_with (go_at_call 171; refine (lops_any _).mono ?_; rintro e w1 ⟨rfl, rfl⟩)
 go_loopg [11] 7 (fun gk s5 wr => ∃ k : Nat, s5 = .int .i64 k ∧ k + gk = 7 ∧ k ≤ 6 ∧ w.alloc (.cells opsA 9) = wr ∧ Hid (noneB (L s) k = true))
 case atStart => exact ⟨0, rfl, by omega, Nat.zero_le _, rfl, rfl⟩
 case round =>
  obtain ⟨k, rfl, hkg, hks, hwr, hall⟩ := hrel
  by_cases hlt : k < 6
  · have hltI : (k : Int) < 6 := by omega
    obtain ⟨ob, ho, hl⟩ := opsA_at hlt
    have hcell : wr.cell? ⟨w.heap.size, k, none⟩ = some (.string ob) := by rw [← hwr]; exact cellOf (heap_alloc_new w _) (by simpa using ho)
    have HB : Hid (Below w.heap.size w wr) := Lib.hid (by rw [← hwr]; exact below_alloc _ _)
    have HC := Lib.hid (fun W => Tryz.strings_CutPrefix s ob W)
    have HWr := Lib.hid hwr
    cases hp : Lib.hasPrefix (L s) (L ob)
    · have HA := Lib.hid (noneB_snoc hall.out hl hp)
      rw [show Lib.hasPrefix s.data.toList ob.data.toList = false from hp] at HC
      generalize (⟨(Lib.trimPrefix s.data.toList ob.data.toList).toArray⟩ : ByteArray) = u at *
      clear hp ho hl hwr
      go_wp2_with (go_at_call 169; refine (HC.out _).mono ?_; rintro e w1 ⟨rfl, rfl⟩)
      go_roundg (gk - 1)
      case measure => omega
      case rel => exact ⟨k + 1, by go_num, by omega, by omega, HWr.out, HA.out⟩
    · have HT : Hid (tri (opS (L s)) = #[.string ob, .string (bs ((L s).drop (L ob).length)), .int .i64 0]) := Lib.hid (by rw [opS_hit hall.out hl hp]; show tri (.ok (_, _)) = _; rw [tri, bs_L])
      rw [show Lib.hasPrefix s.data.toList ob.data.toList = true from hp, show (⟨(Lib.trimPrefix s.data.toList ob.data.toList).toArray⟩ : ByteArray) = bs ((L s).drop (L ob).length) from tpB_hit hp] at HC
      generalize bs ((L s).drop (L ob).length) = u at *
      clear hp ho hl hwr
      go_wp2_with (go_at_call 169; refine (HC.out _).mono ?_; rintro e w1 ⟨rfl, rfl⟩)
      go_ret3
      exact ⟨ret_t HT.out.symm, HB.out⟩
  · obtain rfl : k = 6 := by omega
    have HT : Hid (tri (opS (L s)) = #[.string ⟨#[]⟩, .string ⟨#[]⟩, .int .i64 82]) := Lib.hid (by rw [opS_miss hall.out]; rfl)
    have HB : Hid (Below w.heap.size w wr) := Lib.hid (by rw [← hwr]; exact below_alloc _ _)
    clear hwr
    go_wp2
    go_ret3
    exact ⟨ret_t HT.out.symm, HB.out⟩
end Go.Proofs.YtibflgfhjfcifaaGreatDoor
namespace Go.Proofs.YtibflgfhjfcifaaGreatDoor
open Go.RowKit
def byV (c : UInt8) : Value := .int .u8 (c.toNat : Int)
theorem byInfo : (Tryz.prog.info? 5).map (fun i => (i.zero, i.size, i.bytes)) = some (some (.int .u8 0), 1, 1) := by kernel_rfl
theorem byUnd : Tryz.prog.underlying 5 = some (.int .u8) := by kernel_rfl
theorem strUnd : Tryz.prog.underlying 9 = some .string := by kernel_rfl
def OutY (w : World) (l : Str) (v : Value) (wr : World) : Prop := wr.ownsRow w.heap.size 5 1 v l.length (l.map byV) ∧ Below w.heap.size w wr
theorem OutY.go {w wr w' : World} {l : Str} {v : Value} (h : OutY w l v wr) (hb : Below wr.heap.size wr w') : OutY w l v w' := ⟨own_below2 h.1 hb, bt h.2 hb⟩
theorem OutY.start (w : World) : OutY w [] (.slice none 0 0) w := ⟨World.ownsRow_nil _ _ _ _, Below.refl _ _⟩
theorem OutY.snoc {w wr w9 : World} {l : Str} {v : Value} {y : UInt8} {o : Obj} {A : Option Addr} {c : Nat} (h : OutY w l v wr) (hown : w9.ownsRow w.heap.size 5 1 (.slice A (l.length + 1) c) (l.length + 1) (l.map byV ++ [byV y])) (hg : (wr.alloc o).grownBy w9 v.ownBlock) : OutY w (l ++ [y]) (.slice A (l.length + 1) c) w9 :=
 ⟨by rw [List.length_append, List.length_singleton, List.map_append]; exact hown, (bt h.2 (below_alloc _ _)).grown hg (by have := h.2.size; simp; omega) (fun j e => (h.1.lt j e).1)⟩
theorem OutY.conv {w wr : World} {l : Str} {v : Value} (h : OutY w l v wr) : (convert 95 9 v).run Tryz.prog wr = .ok (.string (bs l)) wr := by
 rcases h.1.2 with ⟨rfl, hn⟩ | ⟨g, cap, cur, rfl, h2, h3, h4, h5⟩
 · have : l = [] := by
    cases l with
    | nil => rfl
    | cons a r => simp at hn
   subst this
   exact Lib.run_convert_nil_bytes wr _ _ _ 0 Tryz.underlying95 byUnd strUnd
 · exact run_convert_bytes_back wr _ _ _ ⟨g, 0, none⟩ cap l Tryz.underlying95 byUnd strUnd (fun j hj => h.1.cells (g := g) rfl j _ (by rw [List.getElem?_map, List.getElem?_eq_getElem hj]; rfl))
theorem drop_at (t : ByteArray) {k : Nat} (hk : k < t.size) : (L t).drop k = t[k] :: (L t).drop (k + 1) := by
 rw [List.drop_eq_getElem_cons (by rw [len_L]; exact hk)]; rfl
theorem valF_end (acc : Str) : valF [] acc = .error 83 := by unfold valF; rfl
theorem valF_quote {r acc : Str} : valF (34 :: r) acc = .ok (acc, r) := by unfold valF; rfl
theorem valF_tab {r acc : Str} : valF (9 :: r) acc = .error 82 := by unfold valF; rfl
theorem valF_esc {r acc : Str} : valF (92 :: 34 :: r) acc = valF r (acc ++ [34]) := by rw [valF]; rfl
theorem valF_more {c : UInt8} {r acc : Str} (h1 : c ≠ 34) (h2 : c ≠ 9) (h3 : Lib.hasPrefix (c :: r) [92, 34] = false) : valF (c :: r) acc = valF r (acc ++ [c]) := by
 conv => lhs; rw [valF.eq_def]
 dsimp only
 rw [if_neg h1, if_neg h2]
 cases r with
 | nil => rw [valF_end]
 | cons d r2 =>
   have : ¬ (c = 92 ∧ d = 34) := by
    rintro ⟨rfl, rfl⟩
    exact absurd h3 (by simp [Lib.hasPrefix, List.isPrefixOf])
   show (if c = 92 ∧ d = 34 then _ else _) = _
   rw [if_neg this]
theorem pre_esc {s : Str} (h : Lib.hasPrefix s [92, 34] = true) : ∃ r, s = 92 :: 34 :: r := by
 unfold Lib.hasPrefix at h
 rw [List.isPrefixOf_iff_prefix] at h
 obtain ⟨r, hr⟩ := h
 exact ⟨r, hr.symm⟩
theorem u8_of {c : UInt8} {n : Nat} (hn : n < 256) (h : ((c.toNat : Int) == (n : Int)) = true) : c = UInt8.ofNat n := by
 rw [← beq_iff_eq, u8_eq c n hn]; exact h
theorem u8_ne {c : UInt8} {n : Nat} (hn : n < 256) (h : ((c.toNat : Int) == (n : Int)) = false) : c ≠ UInt8.ofNat n := by
 intro e
 have := u8_eq c n hn
 rw [h, e] at this
 simp at this
set_option maxRecDepth 100000 in
set_option maxHeartbeats 4000000 in
theorem value_any (s : ByteArray) (w : World) (hs : s.size ≤ 1000000) :
 Calls Tryz.prog 144 #[.string s] w fun e w' => e = .returned (.tuple (tri (valS (L s)))) ∧ Below w.heap.size w w' := by
 have HC := Lib.hid (fun W => Tryz.strings_CutPrefix s ⟨#[34]⟩ W)
 have e0 : (⟨#[34]⟩ : ByteArray).data.toList = [34] := rfl
 rw [e0] at HC
 cases hp : Lib.hasPrefix (L s) [34]
 · have HT : Hid (tri (valS (L s)) = #[.string ⟨#[]⟩, .string ⟨#[]⟩, .int .i64 82]) := Lib.hid (by rw [valS, hp]; rfl)
   rw [show Lib.hasPrefix s.data.toList [34] = false from hp] at HC
   generalize (⟨(Lib.trimPrefix s.data.toList [34]).toArray⟩ : ByteArray) = u at *
   clear hp e0
   go_enter Tryz.func144, Tryz.ntmps144
   go_wp2_with (go_at_call 169; refine (HC.out _).mono ?_; rintro e w1 ⟨rfl, rfl⟩)
   go_ret3
   exact ⟨ret_t HT.out.symm, Below.refl _ _⟩
 obtain ⟨t, ht⟩ : ∃ t : ByteArray, t = bs ((L s).drop 1) := ⟨_, rfl⟩
 have hts : t.size ≤ 1000000 := by rw [ht, size_bs, List.length_drop, len_L]; omega
 rw [show Lib.hasPrefix s.data.toList [34] = true from hp, show (⟨(Lib.trimPrefix s.data.toList [34]).toArray⟩ : ByteArray) = t from by rw [ht]; exact tpB_hit hp] at HC
 have HV : Hid (valS (L s) = valF (L t) []) := Lib.hid (by rw [valS, if_pos hp, ht, L_bs])
 clear hp ht e0
 obtain ⟨i0, hi0, hz0, hz1, hz2⟩ := info_parts byInfo
 have Hi0 := Lib.hid hi0
 have Hz0 := Lib.hid hz0
 have Hz1 := Lib.hid hz1
 have Hz2 := Lib.hid hz2
 clear hi0 hz0 hz1 hz2
 go_enter Tryz.func144, Tryz.ntmps144
 go_wp2_with (go_at_call 169; refine (HC.out _).mono ?_; rintro e w1 ⟨rfl, rfl⟩)
 go_loopg [7, 8] (t.size + 1) (fun gk s7 s8 wr => ∃ (k : Nat) (b : Str) (A : Option Addr) (c : Nat), s7 = .slice A b.length c ∧ s8 = .int .i64 k ∧ k + gk = t.size + 1 ∧ k ≤ t.size ∧ b.length ≤ k ∧ Hid (OutY w1 b (.slice A b.length c) wr) ∧ Hid (valS (L s) = valF ((L t).drop k) b))
 case atStart => exact ⟨0, [], none, 0, rfl, rfl, by omega, Nat.zero_le _, Nat.le_refl _, OutY.start _, by rw [HV.out]; rfl⟩
 case round =>
  obtain ⟨k, b, A, c, rfl, rfl, hkg, hks, hbl, hO, hval⟩ := hrel
  by_cases hlt : k < t.size
  · have hltI : (k : Int) < (t.size : Int) := by omega
    have hd := drop_at t hlt
    cases h34 : ((t[k].toNat : Int) == 34)
    · cases h9 : ((t[k].toNat : Int) == 9)
      · have HP := Lib.hid (fun W => Tryz.strings_HasPrefix (t.extract k t.size) ⟨#[92, 34]⟩ W)
        have e1 : (t.extract k t.size).data.toList = (L t).drop k := by rw [nm_tail]; exact L_bs _
        have e2 : (⟨#[92, 34]⟩ : ByteArray).data.toList = [92, 34] := rfl
        rw [e1, e2] at HP
        have hlt' : (k : Int) ≤ (t.size : Int) := by omega
        cases hq : Lib.hasPrefix ((L t).drop k) [92, 34]
        · rw [hq] at HP
          have HV2 : Hid (valS (L s) = valF ((L t).drop (k + 1)) (b ++ [t[k]])) := Lib.hid (by
           rw [hval.out, hd, valF_more (u8_ne (n := 34) (by omega) h34) (u8_ne (n := 9) (by omega) h9) (by rw [← hd]; exact hq)])
          clear hd e1 e2 hq
          have hwsz := hO.out.2.size
          go_wp2_with (first
           | (go_at_call 48; refine (HP.out _).mono ?_; rintro e w2 ⟨rfl, rfl⟩)
           | (at_builtin; go_loud (refine wpList_append_lies _ rfl _ _ _ (by rfl) w1.heap.size 5 i0 _ 1 1 Tryz.underlying95 Hi0.out Hz0.out Hz1.out Hz2.out rfl (by omega) (.slice A b.length c) b.length (b.map byV) (by rfl) (hO.out.1.alloc _) _ 1 1 [byV t[k]] (by rfl) (by rfl) (by exact World.news_of_block (heap_alloc_new _ _)) (by simp [byV, Value.oneCell']) (by omega) (by unfold maxLen; omega) (by omega) (by simp; omega) _ rfl ?_; intro g2 cap w9 hown2 hgrow2 hat2 hlt2; have HO9 := Lib.hid (hO.out.snoc hown2 hgrow2); clear hown2 hgrow2 hat2 hlt2)))
          go_wp2
          go_roundg (gk - 1)
          case measure => omega
          case rel => exact ⟨k + 1, _, _, _, by rw [List.length_append]; rfl, by go_num, by omega, by omega, by simp; omega, by rw [List.length_append]; exact HO9.out, HV2.out⟩
        · rw [hq] at HP
          obtain ⟨r, hr⟩ := pre_esc hq
          have hlen : k + 2 ≤ t.size := by
           have := congrArg List.length hr
           rw [List.length_drop, len_L, List.length_cons, List.length_cons] at this
           omega
          have hlt2 : k + 1 < t.size := by omega
          have hd2 := drop_at t hlt2
          have hc1 : t[k + 1] = 34 := by
           rw [hd] at hr
           injection hr with _ hr
           rw [hd2] at hr
           injection hr
          have HV2 : Hid (valS (L s) = valF ((L t).drop (k + 2)) (b ++ [t[k + 1]])) := Lib.hid (by
           have hr2 := hr
           rw [hd] at hr2
           injection hr2 with _ hr2
           rw [hd2] at hr2
           injection hr2 with _ hr2
           rw [hval.out, hr, valF_esc, hc1, hr2])
          have hltI2 : (k : Int) + 1 < (t.size : Int) := by omega
          clear hd hd2 hc1 hr e1 e2 hq
          have hwsz := hO.out.2.size
          go_wp2_with (first
           | (go_at_call 48; refine (HP.out _).mono ?_; rintro e w2 ⟨rfl, rfl⟩)
           | (at_builtin; go_loud (refine wpList_append_lies _ rfl _ _ _ (by rfl) w1.heap.size 5 i0 _ 1 1 Tryz.underlying95 Hi0.out Hz0.out Hz1.out Hz2.out rfl (by omega) (.slice A b.length c) b.length (b.map byV) (by rfl) (hO.out.1.alloc _) _ 1 1 [byV t[k + 1]] (by rfl) (by rfl) (by exact World.news_of_block (heap_alloc_new _ _)) (by simp [byV, Value.oneCell']) (by omega) (by unfold maxLen; omega) (by omega) (by simp; omega) _ rfl ?_; intro g2 cap w9 hown2 hgrow2 hat2 hlt2; have HO9 := Lib.hid (hO.out.snoc hown2 hgrow2); clear hown2 hgrow2 hat2 hlt2)))
          go_wp2
          go_roundg (gk - 2)
          case measure => omega
          case rel => exact ⟨k + 2, _, _, _, by rw [List.length_append]; rfl, by go_num, by omega, by omega, by simp; omega, by rw [List.length_append]; exact HO9.out, HV2.out⟩
      · have HR : Hid (tri (valS (L s)) = #[.string ⟨#[]⟩, .string ⟨#[]⟩, .int .i64 82]) := Lib.hid (by
         rw [hval.out, hd, u8_of (n := 9) (by omega) h9]; exact congrArg tri valF_tab)
        clear hd
        go_wp2
        go_ret3
        exact ⟨ret_t HR.out.symm, hO.out.2⟩
    · have HR : Hid (tri (valS (L s)) = #[.string (bs b), .string (t.extract (k + 1) t.size), .int .i64 0]) := Lib.hid (by
       rw [hval.out, hd, u8_of (n := 34) (by omega) h34, nm_tail]; exact congrArg tri valF_quote)
      have hcv := hO.out.conv
      have hcv2 := (hO.out.go (Below.refl _ _).drew).conv
      have hk1 : (k : Int) + 1 ≤ (t.size : Int) := by omega
      clear hd
      go_wp2
      go_region
      go_wp2
      go_ret3
      exact ⟨ret_t HR.out.symm, hO.out.2.drew⟩
  · obtain rfl : k = t.size := by omega
    have HR : Hid (tri (valS (L s)) = #[.string ⟨#[]⟩, .string ⟨#[]⟩, .int .i64 83]) := Lib.hid (by
     rw [hval.out, List.drop_of_length_le (by rw [len_L]; exact Nat.le_refl _), valF_end]; rfl)
    go_wp2
    go_ret3
    exact ⟨ret_t HR.out.symm, hO.out.2⟩
end Go.Proofs.YtibflgfhjfcifaaGreatDoor
namespace Go.Proofs.YtibflgfhjfcifaaGreatDoor
open Go.RowKit
def triT : Except Int (Tk × Str) → Array Value
 | .error e => #[.agg #[.string ⟨#[]⟩, .string ⟨#[]⟩, .string ⟨#[]⟩, .string ⟨#[]⟩], .string ⟨#[]⟩, .int .i64 e]
 | .ok (x, r) => #[tkV x, .string (bs r), .int .i64 0]
abbrev tkZ : Array Value := #[.string ⟨#[]⟩, .string ⟨#[]⟩, .string ⟨#[]⟩, .string ⟨#[]⟩]
theorem nameS_err {s : Str} {e : Int} (h : nameS s = .error e) : e = 82 ∨ e = 83 := by
 unfold nameS at h
 split at h
 · dsimp only at h
   split at h
   · injection h with h; exact Or.inr h.symm
   · split at h
     · injection h with h; exact Or.inl h.symm
     · cases h
 · cases h
theorem opS_err {s : Str} {e : Int} (h : opS s = .error e) : e = 82 ∨ e = 83 := by
 unfold opS at h
 split at h
 · cases h
 · injection h with h; exact Or.inl h.symm
theorem valF_err (s : Str) : ∀ {acc : Str} {e : Int}, valF s acc = .error e → e = 82 ∨ e = 83 := by
 induction hn : s.length using Nat.strongRecOn generalizing s with
 | _ n ih =>
   intro acc e h
   cases s with
   | nil => rw [valF_end] at h; injection h with h; exact Or.inr h.symm
   | cons c r =>
     by_cases h1 : c = 34
     · rw [h1, valF_quote] at h; cases h
     by_cases h2 : c = 9
     · rw [h2, valF_tab] at h; injection h with h; exact Or.inl h.symm
     cases hq : Lib.hasPrefix (c :: r) [92, 34]
     · rw [valF_more h1 h2 hq] at h
       exact ih r.length (by rw [← hn]; simp) r rfl h
     · obtain ⟨r2, hr⟩ := pre_esc hq
       rw [hr, valF_esc] at h
       exact ih r2.length (by rw [← hn, hr]; simp; omega) r2 rfl h
theorem valS_err {s : Str} {e : Int} (h : valS s = .error e) : e = 82 ∨ e = 83 := by
 unfold valS at h
 split at h
 · exact valF_err _ h
 · injection h with h; exact Or.inl h.symm
theorem post_cellrow3 {P : Program} {fn : Func} {R : Ending → World → Prop} {a : Act} {W : World} {g : Nat} {p q q2 : Tmp} {ty t : TypeId} {cs : Array Value} {u u2 : Value} {fr : Nat × Nat} {d : TypeDesc} (h : fn.results = #[.cell p ty, .tmp q, .tmp q2]) (hp : a.tmps.getD p undef = .pointer (some ⟨g, 0, none⟩)) (hq : a.tmps.getD q undef = u) (hq2 : a.tmps.getD q2 undef = u2)
 (hg : W.heap[g]? = some (.cells cs t fr)) (hu : P.underlying ty = some d) (hd : (match d with | .struct _ | .array _ _ => true | _ => false) = true) (hi : (P.info? ty).map (·.size) = some cs.size) (hdef : a.defers = [])
 (hR : R (.returned (.tuple #[.agg cs, u, u2])) W) : bodyPost P fn R .ret a W := by
 have hp' : a.tmps[p]?.getD undef = .pointer (some ⟨g, 0, none⟩) := by simpa using hp
 have hq' : a.tmps[q]?.getD undef = u := by simpa using hq
 have hq2' : a.tmps[q2]?.getD undef = u2 := by simpa using hq2
 refine bodyPost_ret (v := .tuple #[.agg cs, u, u2]) ?_ hdef hR
 simp [results, h, hp', hq', hq2', asAddr, run_loadVar_row W g t ty cs fr d hg hu hd hi]
theorem tokSize : (Tryz.prog.info? 118).map (·.size) = some 4 := by kernel_rfl
theorem bC {w W : World} {g i : Nat} {u : Value} (h : Below w.heap.size w W) (hg : w.heap.size ≤ g) : Below w.heap.size w (W.setCell ⟨g, i, none⟩ u) := h.grown (grown_set W g i u) h.size (fun j e => by cases e; exact hg)
abbrev tkO (cs : Array Value) : Obj := .cells cs 118 (0, 0)
def TkSt (w W : World) (cs : Array Value) : Prop := W.heap[w.heap.size]? = some (tkO tkZ) ∧ W.heap[w.heap.size + 1]? = some (tkO cs) ∧ Below w.heap.size w W
theorem tk_new {w W : World} {cs : Array Value} (hb : Below ((w.alloc (tkO tkZ)).alloc (tkO cs)).heap.size ((w.alloc (tkO tkZ)).alloc (tkO cs)) W) : TkSt w W cs :=
 ⟨(hb.block w.heap.size (by simp; omega)).trans (((below_alloc (w.alloc (tkO tkZ)) _).block w.heap.size (by simp)).trans (heap_alloc_new w _)), (hb.block (w.heap.size + 1) (by simp)).trans (heap_alloc2_new w _ _), bt (bt (below_alloc _ _) (below_alloc _ _)) hb⟩
theorem tk_set {w W : World} {cs : Array Value} (h : TkSt w W cs) (i : Nat) (u : Value) : TkSt w (W.setCell ⟨w.heap.size + 1, i, none⟩ u) (cs.setIfInBounds i u) :=
 ⟨(Go.heap_setCell_other _ _ _ _ (by simp)).trans h.1, Go.Joins.block_setCell h.2.1 u, bC h.2.2 (by omega)⟩
theorem tk_go {w W W' : World} {cs : Array Value} (h : TkSt w W cs) (hb : Below W.heap.size W W') : TkSt w W' cs :=
 ⟨(hb.block _ (blk_lt' h.1)).trans h.1, (hb.block _ (blk_lt' h.2.1)).trans h.2.1, bt h.2.2 hb⟩
theorem tk_next {w W W' : World} {cs cs2 : Array Value} (h : TkSt w W cs) {i : Nat} {u : Value} (hb : Below (W.setCell ⟨w.heap.size + 1, i, none⟩ u).heap.size (W.setCell ⟨w.heap.size + 1, i, none⟩ u) W') (hc : cs.setIfInBounds i u = cs2) : TkSt w W' cs2 := by
 rw [← hc]; exact tk_go (tk_set h i u) hb
theorem tk_end {w W : World} {cs : Array Value} (h : TkSt w W cs) (a b c d : Value) :
 ((((W.setCell ⟨w.heap.size, 0, none⟩ a).setCell ⟨w.heap.size, 1, none⟩ b).setCell ⟨w.heap.size, 2, none⟩ c).setCell ⟨w.heap.size, 3, none⟩ d).heap[w.heap.size]? = some (tkO #[a, b, c, d]) :=
 Go.Joins.block_setCell (Go.Joins.block_setCell (Go.Joins.block_setCell (Go.Joins.block_setCell h.1 a) b) c) d
theorem tk_low {w W : World} {cs : Array Value} (h : TkSt w W cs) (a b c d : Value) : Below w.heap.size w ((((W.setCell ⟨w.heap.size, 0, none⟩ a).setCell ⟨w.heap.size, 1, none⟩ b).setCell ⟨w.heap.size, 2, none⟩ c).setCell ⟨w.heap.size, 3, none⟩ d) :=
 bC (bC (bC (bC h.2.2 (Nat.le_refl _)) (Nat.le_refl _)) (Nat.le_refl _)) (Nat.le_refl _)
theorem nameS_len {s a r : Str} (h : nameS s = .ok (a, r)) : r.length ≤ s.length := by
 unfold nameS at h
 split at h
 · dsimp only at h
   split at h
   · cases h
   · split at h
     · cases h
     · injection h with h; injection h with _ h; rw [← h, List.length_drop, List.length_drop]; omega
 · injection h with h; injection h with _ h; rw [h]; exact Nat.le_refl _
theorem opS_len {s a r : Str} (h : opS s = .ok (a, r)) : r.length ≤ s.length := by
 unfold opS at h
 split at h
 · injection h with h; injection h with _ h; rw [← h, List.length_drop]; omega
 · cases h
set_option maxRecDepth 100000 in
set_option maxHeartbeats 4000000 in
theorem token_any (s : ByteArray) (w : World) (hs : s.size ≤ 1000000) :
 Calls Tryz.prog 89 #[.string s] w fun e w' => e = .returned (.tuple (triT (tokS (L s)))) ∧ Below w.heap.size w w' := by
 have HCn := Lib.hid (fun W => countL_any s W (by omega))
 have hn := cnt_le upC (L s)
 rw [len_L] at hn
 have HT : Hid (tokS (L s) = if cnt upC (L s) = 0 then .error 82 else match nameS ((L s).drop (cnt upC (L s))) with
  | .error e => .error e
  | .ok (nm, r1) => match opS r1 with
    | .error e => .error e
    | .ok (op, r2) => match valS r2 with
      | .error e => .error e
      | .ok (v, r3) => .ok (⟨bs ((L s).take (cnt upC (L s))), bs nm, bs op, bs v⟩, r3)) := Lib.hid rfl
 generalize cnt upC (L s) = n at *
 by_cases h0 : n = 0
 · have HR : Hid (triT (tokS (L s)) = #[.agg tkZ, .string ⟨#[]⟩, .int .i64 82]) := Lib.hid (by rw [HT.out, if_pos h0]; rfl)
   subst h0
   clear HT
   go_enter Tryz.func89, Tryz.ntmps89
   go_wp2_with (go_at_call 140; refine (HCn.out _).mono ?_; rintro e w1 ⟨rfl, rfl⟩)
   refine post_cellrow3 rfl (by rfl) (by rfl) (by rfl) (heap_alloc_new w _) Tryz.underlying118 rfl tokSize (by rfl) ?_
   exact ⟨ret_t HR.out.symm, below_alloc _ _⟩
 have e0 : ((n : Int) == 0) = false := by simp; omega
 have HT1 : Hid (tokS (L s) = match nameS ((L s).drop n) with
  | .error e => .error e
  | .ok (nm, r1) => match opS r1 with
    | .error e => .error e
    | .ok (op, r2) => match valS r2 with
      | .error e => .error e
      | .ok (v, r3) => .ok (⟨bs ((L s).take n), bs nm, bs op, bs v⟩, r3)) := Lib.hid (by rw [HT.out, if_neg h0])
 have hnI : (n : Int) ≤ (s.size : Int) := by omega
 have HN1 := Lib.hid (fun W => name_any (s.extract n s.size) W (by rw [size_extract]; omega))
 have e1 : L (s.extract n s.size) = (L s).drop n := by rw [nm_tail]; exact L_bs _
 have e2 : s.extract 0 n = bs ((L s).take n) := nm_head s n
 have hd1 : ((L s).drop n).length ≤ 1000000 := by rw [List.length_drop, len_L]; omega
 rw [e1] at HN1
 have HE2 := Lib.hid e2
 clear e1 e2 h0 HT
 cases hnm : nameS ((L s).drop n) with
 | error e =>
   have HR : Hid (triT (tokS (L s)) = #[.agg tkZ, .string ⟨#[]⟩, .int .i64 e]) := Lib.hid (by rw [HT1.out, hnm]; rfl)
   rw [hnm] at HN1
   have hne : (e == 0) = false := by rcases nameS_err hnm with rfl | rfl <;> rfl
   have hne2 : (e != 0) = true := by rw [bne, hne]; rfl
   clear hnm HT1 
   unfold tri at HN1
   go_enter Tryz.func89, Tryz.ntmps89
   go_wp2_with (first
    | (go_at_call 140; refine (HCn.out _).mono ?_; rintro e w1 ⟨rfl, rfl⟩)
    | (go_at_call 142; refine (HN1.out _).mono ?_; rintro e w2 ⟨rfl, hb2⟩; have HS := Lib.hid (tk_new hb2); (obtain ⟨⟨⟨a0, a1, a2, a3⟩, q0, q1, q2, q3⟩, ⟨b0, b1, b2, b3⟩, p0, p1, p2, p3⟩ := And.intro (res4 HS.out.1) (res4 HS.out.2.1)); clear hb2))
   refine post_cellrow3 rfl (by rfl) (by rfl) (by rfl) (tk_end (tk_set HS.out _ _) _ _ _ _) Tryz.underlying118 rfl tokSize (by rfl) ?_
   exact ⟨ret_t HR.out.symm, tk_low (tk_set HS.out _ _) _ _ _ _⟩
 | ok p =>
   obtain ⟨nm, r1⟩ := p
   have HT2 : Hid (tokS (L s) = match opS r1 with
    | .error e => .error e
    | .ok (op, r2) => match valS r2 with
      | .error e => .error e
      | .ok (v, r3) => .ok (⟨bs ((L s).take n), bs nm, bs op, bs v⟩, r3)) := Lib.hid (by rw [HT1.out, hnm])
   have hd2 : r1.length ≤ 1000000 := Nat.le_trans (nameS_len hnm) hd1
   rw [hnm] at HN1
   unfold tri at HN1
   dsimp only at HN1
   clear hnm HT1 hd1
   have HN2 := Lib.hid (fun W => op_any (bs r1) W)
   rw [L_bs] at HN2
   cases hop : opS r1 with
   | error e =>
     have HR : Hid (triT (tokS (L s)) = #[.agg tkZ, .string ⟨#[]⟩, .int .i64 e]) := Lib.hid (by rw [HT2.out, hop]; rfl)
     rw [hop] at HN2
     have hne : (e == 0) = false := by rcases opS_err hop with rfl | rfl <;> rfl
     have hne2 : (e != 0) = true := by rw [bne, hne]; rfl
     clear hop HT2 hd2
     unfold tri at HN2
     go_enter Tryz.func89, Tryz.ntmps89
     go_wp2_with (first
      | (go_at_call 140; refine (HCn.out _).mono ?_; rintro e w1 ⟨rfl, rfl⟩)
      | (go_at_call 142; refine (HN1.out _).mono ?_; rintro e w2 ⟨rfl, hb2⟩; have HS := Lib.hid (tk_new hb2); (obtain ⟨⟨⟨a0, a1, a2, a3⟩, q0, q1, q2, q3⟩, ⟨b0, b1, b2, b3⟩, p0, p1, p2, p3⟩ := And.intro (res4 HS.out.1) (res4 HS.out.2.1)); clear hb2)
      | (go_at_call 143; refine (HN2.out _).mono ?_; rintro e w3 ⟨rfl, hb3⟩; replace HS := Lib.hid (tk_next HS.out hb3 rfl); clear hb3 a0 a1 a2 a3 b0 b1 b2 b3 q0 q1 q2 q3 p0 p1 p2 p3; (obtain ⟨⟨⟨a0, a1, a2, a3⟩, q0, q1, q2, q3⟩, ⟨b0, b1, b2, b3⟩, p0, p1, p2, p3⟩ := And.intro (res4 HS.out.1) (res4 HS.out.2.1))))
     refine post_cellrow3 rfl (by rfl) (by rfl) (by rfl) (tk_end (tk_set HS.out _ _) _ _ _ _) Tryz.underlying118 rfl tokSize (by rfl) ?_
     exact ⟨ret_t HR.out.symm, tk_low (tk_set HS.out _ _) _ _ _ _⟩
   | ok p =>
     obtain ⟨op, r2⟩ := p
     have HT3 : Hid (tokS (L s) = match valS r2 with
      | .error e => .error e
      | .ok (v, r3) => .ok (⟨bs ((L s).take n), bs nm, bs op, bs v⟩, r3)) := Lib.hid (by rw [HT2.out, hop])
     have hd3 : r2.length ≤ 1000000 := Nat.le_trans (opS_len hop) hd2
     rw [hop] at HN2
     unfold tri at HN2
     dsimp only at HN2
     clear hop HT2 hd2
     have HN3 := Lib.hid (fun W => value_any (bs r2) W (by rw [size_bs]; exact hd3))
     rw [L_bs] at HN3
     cases hvl : valS r2 with
     | error e =>
       have HR : Hid (triT (tokS (L s)) = #[.agg tkZ, .string ⟨#[]⟩, .int .i64 e]) := Lib.hid (by rw [HT3.out, hvl]; rfl)
       rw [hvl] at HN3
       have hne : (e == 0) = false := by rcases valS_err hvl with rfl | rfl <;> rfl
       have hne2 : (e != 0) = true := by rw [bne, hne]; rfl
       clear hvl HT3 hd3
       unfold tri at HN3
       go_enter Tryz.func89, Tryz.ntmps89
       go_wp2_with (first
        | (go_at_call 140; refine (HCn.out _).mono ?_; rintro e w1 ⟨rfl, rfl⟩)
        | (go_at_call 142; refine (HN1.out _).mono ?_; rintro e w2 ⟨rfl, hb2⟩; have HS := Lib.hid (tk_new hb2); (obtain ⟨⟨⟨a0, a1, a2, a3⟩, q0, q1, q2, q3⟩, ⟨b0, b1, b2, b3⟩, p0, p1, p2, p3⟩ := And.intro (res4 HS.out.1) (res4 HS.out.2.1)); clear hb2)
        | (go_at_call 143; refine (HN2.out _).mono ?_; rintro e w3 ⟨rfl, hb3⟩; replace HS := Lib.hid (tk_next HS.out hb3 rfl); clear hb3 a0 a1 a2 a3 b0 b1 b2 b3 q0 q1 q2 q3 p0 p1 p2 p3; (obtain ⟨⟨⟨a0, a1, a2, a3⟩, q0, q1, q2, q3⟩, ⟨b0, b1, b2, b3⟩, p0, p1, p2, p3⟩ := And.intro (res4 HS.out.1) (res4 HS.out.2.1)))
        | (go_at_call 144; refine (HN3.out _).mono ?_; rintro e w3 ⟨rfl, hb3⟩; replace HS := Lib.hid (tk_next HS.out hb3 rfl); clear hb3 a0 a1 a2 a3 b0 b1 b2 b3 q0 q1 q2 q3 p0 p1 p2 p3; (obtain ⟨⟨⟨a0, a1, a2, a3⟩, q0, q1, q2, q3⟩, ⟨b0, b1, b2, b3⟩, p0, p1, p2, p3⟩ := And.intro (res4 HS.out.1) (res4 HS.out.2.1))))
       refine post_cellrow3 rfl (by rfl) (by rfl) (by rfl) (tk_end (tk_set HS.out _ _) _ _ _ _) Tryz.underlying118 rfl tokSize (by rfl) ?_
       exact ⟨ret_t HR.out.symm, tk_low (tk_set HS.out _ _) _ _ _ _⟩
     | ok p =>
       obtain ⟨v, r3⟩ := p
       have HR : Hid (triT (tokS (L s)) = #[.agg #[.string (s.extract 0 n), .string (bs nm), .string (bs op), .string (bs v)], .string (bs r3), .int .i64 0]) := Lib.hid (by rw [HT3.out, hvl, HE2.out]; rfl)
       rw [hvl] at HN3
       unfold tri at HN3
       dsimp only at HN3
       clear hvl HT3 hd3
       go_enter Tryz.func89, Tryz.ntmps89
       go_wp2_with (first
        | (go_at_call 140; refine (HCn.out _).mono ?_; rintro e w1 ⟨rfl, rfl⟩)
        | (go_at_call 142; refine (HN1.out _).mono ?_; rintro e w2 ⟨rfl, hb2⟩; have HS := Lib.hid (tk_new hb2); (obtain ⟨⟨⟨a0, a1, a2, a3⟩, q0, q1, q2, q3⟩, ⟨b0, b1, b2, b3⟩, p0, p1, p2, p3⟩ := And.intro (res4 HS.out.1) (res4 HS.out.2.1)); clear hb2)
        | (go_at_call 143; refine (HN2.out _).mono ?_; rintro e w3 ⟨rfl, hb3⟩; replace HS := Lib.hid (tk_next HS.out hb3 rfl); clear hb3 a0 a1 a2 a3 b0 b1 b2 b3 q0 q1 q2 q3 p0 p1 p2 p3; (obtain ⟨⟨⟨a0, a1, a2, a3⟩, q0, q1, q2, q3⟩, ⟨b0, b1, b2, b3⟩, p0, p1, p2, p3⟩ := And.intro (res4 HS.out.1) (res4 HS.out.2.1)))
        | (go_at_call 144; refine (HN3.out _).mono ?_; rintro e w3 ⟨rfl, hb3⟩; replace HS := Lib.hid (tk_next HS.out hb3 rfl); clear hb3 a0 a1 a2 a3 b0 b1 b2 b3 q0 q1 q2 q3 p0 p1 p2 p3; (obtain ⟨⟨⟨a0, a1, a2, a3⟩, q0, q1, q2, q3⟩, ⟨b0, b1, b2, b3⟩, p0, p1, p2, p3⟩ := And.intro (res4 HS.out.1) (res4 HS.out.2.1))))
       refine post_cellrow3 rfl (by rfl) (by rfl) (by rfl) (tk_end (tk_set HS.out _ _) _ _ _ _) Tryz.underlying118 rfl tokSize (by rfl) ?_
       exact ⟨ret_t HR.out.symm, tk_low (tk_set HS.out _ _) _ _ _ _⟩
end Go.Proofs.YtibflgfhjfcifaaGreatDoor
namespace Go.Proofs.YtibflgfhjfcifaaGreatDoor
open Go.RowKit
def restS (line : Str) : Str := line.dropWhile (sepL.contains ·)
def toksF : Nat → Str → Bool → List Tk → Except Int (List Tk)
 | 0, _, _, _ => .error 82
 | n + 1, line, beh, acc =>
   if (restS line).length = 0 then .ok acc else if beh = true ∧ (restS line).length = line.length then .error 82 else match tokS (restS line) with
    | .error e => .error e
    | .ok (x, r) => toksF n r true (acc ++ [x])
def toksS (line : Str) : Except Int (List Tk) := if 1024 < line.length then .error 81 else if line.all plC = false then .error 80 else toksF (line.length + 1) line false []
theorem restS_len (l : Str) : (restS l).length ≤ l.length := (List.dropWhile_sublist _).length_le
theorem valF_len (s : Str) : ∀ {acc a r : Str}, valF s acc = .ok (a, r) → r.length < s.length := by
 induction hn : s.length using Nat.strongRecOn generalizing s with
 | _ n ih =>
   intro acc a r' h
   cases s with
   | nil => rw [valF_end] at h; cases h
   | cons c r =>
     by_cases h1 : c = 34
     · rw [h1, valF_quote] at h; injection h with h; injection h with _ h; rw [← hn, ← h]; simp
     by_cases h2 : c = 9
     · rw [h2, valF_tab] at h; cases h
     cases hq : Lib.hasPrefix (c :: r) [92, 34]
     · rw [valF_more h1 h2 hq] at h
       have := ih r.length (by rw [← hn]; simp) r rfl h
       rw [← hn]; simp; omega
     · obtain ⟨r2, hr⟩ := pre_esc hq
       rw [hr, valF_esc] at h
       have := ih r2.length (by rw [← hn, hr]; simp; omega) r2 rfl h
       rw [← hn, hr]; simp; omega
theorem valS_len {s a r : Str} (h : valS s = .ok (a, r)) : r.length < s.length := by
 unfold valS at h
 split at h
 · have := valF_len _ h
   rw [List.length_drop] at this; omega
 · cases h
theorem tokS_eq (s : Str) : tokS s = if cnt upC s = 0 then .error 82 else match nameS (s.drop (cnt upC s)) with
 | .error e => .error e
 | .ok (nm, r1) => match opS r1 with
   | .error e => .error e
   | .ok (op, r2) => match valS r2 with
     | .error e => .error e
     | .ok (v, r3) => .ok (⟨bs (s.take (cnt upC s)), bs nm, bs op, bs v⟩, r3) := rfl
theorem tokS_len {s r : Str} {x : Tk} (h : tokS s = .ok (x, r)) : r.length < s.length := by
 rw [tokS_eq] at h
 by_cases h0 : cnt upC s = 0
 · rw [if_pos h0] at h; cases h
 rw [if_neg h0] at h
 cases h1 : nameS (s.drop (cnt upC s)) with
 | error e => rw [h1] at h; cases h
 | ok p =>
   obtain ⟨nm, r1⟩ := p
   rw [h1] at h
   dsimp only at h
   cases h2 : opS r1 with
   | error e => rw [h2] at h; cases h
   | ok p =>
     obtain ⟨op, r2⟩ := p
     rw [h2] at h
     dsimp only at h
     cases h3 : valS r2 with
     | error e => rw [h3] at h; cases h
     | ok p =>
       obtain ⟨v, r3⟩ := p
       rw [h3] at h
       dsimp only at h
       injection h with h
       injection h with _ h
       have a1 := nameS_len h1
       have a2 := opS_len h2
       have a3 := valS_len h3
       rw [List.length_drop] at a1
       rw [← h]; omega
theorem tokS_err {s : Str} {e : Int} (h : tokS s = .error e) : e = 82 ∨ e = 83 := by
 rw [tokS_eq] at h
 by_cases h0 : cnt upC s = 0
 · rw [if_pos h0] at h; injection h with h; exact Or.inl h.symm
 rw [if_neg h0] at h
 cases h1 : nameS (s.drop (cnt upC s)) with
 | error e => rw [h1] at h; injection h with h; rw [← h]; exact nameS_err h1
 | ok p =>
   obtain ⟨nm, r1⟩ := p
   rw [h1] at h
   dsimp only at h
   cases h2 : opS r1 with
   | error e => rw [h2] at h; injection h with h; rw [← h]; exact opS_err h2
   | ok p =>
     obtain ⟨op, r2⟩ := p
     rw [h2] at h
     dsimp only at h
     cases h3 : valS r2 with
     | error e => rw [h3] at h; injection h with h; rw [← h]; exact valS_err h3
     | ok p => obtain ⟨v, r3⟩ := p; rw [h3] at h; cases h
def OutK (w : World) (l : List Tk) (v : Value) (wr : World) : Prop := wr.ownsRow w.heap.size 118 4 v l.length (cellsOf encTk l) ∧ Below w.heap.size w wr
theorem OutK.go {w wr w' : World} {l : List Tk} {v : Value} (h : OutK w l v wr) (hb : Below wr.heap.size wr w') : OutK w l v w' := ⟨own_below2 h.1 hb, bt h.2 hb⟩
theorem OutK.start (w : World) : OutK w [] (.slice none 0 0) w := ⟨World.ownsRow_nil _ _ _ _, Below.refl _ _⟩
theorem OutK.snoc {w wr w9 : World} {l : List Tk} {v : Value} {y : Tk} {o : Obj} {A : Option Addr} {c : Nat} (h : OutK w l v wr) (hown : w9.ownsRow w.heap.size 118 4 (.slice A (l.length + 1) c) (l.length + 1) (cellsOf encTk l ++ encTk y)) (hg : (wr.alloc o).grownBy w9 v.ownBlock) : OutK w (l ++ [y]) (.slice A (l.length + 1) c) w9 :=
 ⟨own_snoc hown, (bt h.2 (below_alloc _ _)).grown hg (by have := h.2.size; simp; omega) (fun j e => (h.1.lt j e).1)⟩
def TokPost (r : Except Int (List Tk)) (w : World) (e : Ending) (w' : World) : Prop := match r with
 | .error n => e = .returned (.tuple #[.slice none 0 0, .int .i64 n]) ∧ Below w.heap.size w w'
 | .ok l => ∃ v, e = .returned (.tuple #[v, .int .i64 0]) ∧ OutK w l v w'
theorem TrimSep (s : ByteArray) (w : World) : Calls Tryz.prog 88 #[.string s, .string ⟨#[32, 9, 44]⟩] w fun e w' => e = .returned (.string (bs (restS (L s)))) ∧ Below w.heap.size w w' :=
 Any.strings_TrimLeft_laid Tryz.lays161 (by kernel_rfl) s ⟨#[32, 9, 44]⟩ w (by decide) (ascii_of_all (by decide))
set_option maxRecDepth 100000 in
set_option maxHeartbeats 4000000 in
theorem PTokens_any (s : ByteArray) (w : World) (hs : s.size ≤ 9223372036854775807) :
 Calls Tryz.prog 58 #[.string s] w (TokPost (toksS (L s)) w) := by
 by_cases h1 : 1024 < s.size
 · have HR : Hid (toksS (L s) = .error 81) := Lib.hid (by rw [toksS, if_pos (by rw [len_L]; exact h1)])
   have h1I : (1024 : Int) < (s.size : Int) := by omega
   clear h1
   go_enter Tryz.func58, Tryz.ntmps58
   go_wp2
   go_step3
   go_wp2
   try rw [Exit.noGoto_ret]
   go_ret2
   rw [HR.out]
   exact ⟨rfl, Below.refl _ _⟩
 have h1I : (s.size : Int) ≤ 1024 := by omega
 have hsz : s.size ≤ 1024 := by omega
 have HP := Lib.hid (fun W => plain_any s W hs)
 have HT0 : Hid (toksS (L s) = if (L s).all plC = false then .error 80 else toksF (s.size + 1) (L s) false []) := Lib.hid (by rw [toksS, if_neg (by rw [len_L]; exact h1), len_L])
 clear h1 hs
 cases hp : (L s).all plC
 · have HR : Hid (toksS (L s) = .error 80) := Lib.hid (by rw [HT0.out, if_pos hp])
   rw [hp] at HP
   clear hp HT0
   go_enter Tryz.func58, Tryz.ntmps58
   go_wp2
   go_step3
   go_wp2_with (go_at_call 87; refine (HP.out _).mono ?_; rintro e w1 ⟨rfl, hb1⟩)
   try rw [Exit.noGoto_ret]
   go_ret2
   rw [HR.out]
   exact ⟨rfl, hb1⟩
 rw [hp] at HP
 have HT : Hid (toksS (L s) = toksF (s.size + 1) (L s) false []) := Lib.hid (by rw [HT0.out, if_neg (by rw [hp]; simp)])
 clear hp HT0
 obtain ⟨i0, hi0, hz0, hz1, hz2⟩ := info_parts tokInfo
 have Hi0 := Lib.hid hi0
 have Hz0 := Lib.hid hz0
 have Hz1 := Lib.hid hz1
 have Hz2 := Lib.hid hz2
 clear hi0 hz0 hz1 hz2
 go_enter Tryz.func58, Tryz.ntmps58
 go_wp2
 go_step3
 go_wp2_with (go_at_call 87; refine (HP.out _).mono ?_; rintro e w1 ⟨rfl, hb1⟩)
 go_step3
 go_wp2
 have HB1 := Lib.hid hb1
 clear hb1 HP
 go_loopg [0, 4, 5] (s.size + 1) (fun gk s0 s4 s5 wr => ∃ (line : ByteArray) (acc : List Tk) (beh : Bool) (A : Option Addr) (c : Nat), s0 = .string line ∧ s4 = .slice A acc.length c ∧ s5 = .bool beh ∧ line.size < gk ∧ acc.length + line.size ≤ 1024 ∧ Hid (OutK w acc (.slice A acc.length c) wr) ∧ Hid (toksS (L s) = toksF gk (L line) beh acc))
 case atStart => exact ⟨s, [], false, none, 0, rfl, rfl, rfl, by omega, by simpa using hsz, (OutK.start w).go HB1.out, HT.out⟩
 case round =>
  obtain ⟨line, acc, beh, A, c, rfl, rfl, rfl, hgk, hacc, hO, hT⟩ := hrel
  obtain ⟨m, rfl⟩ : ∃ m, gk = m + 1 := ⟨gk - 1, by omega⟩
  have HTr := Lib.hid (fun W => TrimSep line W)
  have hrl := restS_len (L line)
  rw [len_L] at hrl
  obtain ⟨u, hu⟩ : ∃ u, u = bs (restS (L line)) := ⟨_, rfl⟩
  have hus : u.size = (restS (L line)).length := by rw [hu, size_bs]
  have huL : L u = restS (L line) := by rw [hu, L_bs]
  rw [← hu] at HTr
  have HX : Hid (toksS (L s) = if u.size = 0 then .ok acc else if beh = true ∧ u.size = line.size then .error 82 else match tokS (L u) with
   | .error e => .error e
   | .ok (x, r) => toksF m r true (acc ++ [x])) := Lib.hid (by rw [hT.out, toksF, ← hus, len_L, huL])
  rw [← hus] at hrl
  clear hT hu hus huL
  by_cases h0 : u.size = 0
  · have hu0 : u.toList = [] := by rw [tl]; exact List.eq_nil_of_length_eq_zero (by rw [len_L]; exact h0)
    have hu1 : u.toList.isEmpty = true := by rw [hu0]; rfl
    have HR : Hid (toksS (L s) = .ok acc) := Lib.hid (by rw [HX.out, if_pos h0])
    clear HX h0
    go_wp2_with (go_at_call 88; refine (HTr.out _).mono ?_; rintro e w2 ⟨rfl, hb2⟩)
    try rw [Exit.noGoto_ret]
    go_ret2
    rw [HR.out]
    exact ⟨_, rfl, hO.out.go hb2⟩
  have hu0 : ¬ u.toList = [] := by
   rw [tl]; intro e; apply h0; rw [← len_L, e]; rfl
  have hu1 : u.toList.isEmpty = false := by
   cases hq : u.toList.isEmpty with
   | false => rfl
   | true => exact absurd (List.isEmpty_iff.1 hq) hu0
  have HX1 : Hid (toksS (L s) = if beh = true ∧ u.size = line.size then .error 82 else match tokS (L u) with
   | .error e => .error e
   | .ok (x, r) => toksF m r true (acc ++ [x])) := Lib.hid (by rw [HX.out, if_neg h0])
  clear HX h0
  by_cases hbl : beh = true ∧ u.size = line.size
  · have HR : Hid (toksS (L s) = .error 82) := Lib.hid (by rw [HX1.out, if_pos hbl])
    obtain ⟨rfl, he⟩ := hbl
    have heq : ((u.size : Int) == (line.size : Int)) = true := by rw [he]; simp
    clear HX1 he
    go_wp2_with (go_at_call 88; refine (HTr.out _).mono ?_; rintro e w2 ⟨rfl, hb2⟩)
    try rw [Exit.noGoto_ret]
    go_ret2
    rw [HR.out]
    exact ⟨rfl, (hO.out.go hb2).2⟩
  have HX2 : Hid (toksS (L s) = match tokS (L u) with
   | .error e => .error e
   | .ok (x, r) => toksF m r true (acc ++ [x])) := Lib.hid (by rw [HX1.out, if_neg hbl])
  have hcase : beh = false ∨ (beh = true ∧ ((u.size : Int) == (line.size : Int)) = false) := by
   cases beh with
   | false => exact Or.inl rfl
   | true => exact Or.inr ⟨rfl, by simp; intro e; exact hbl ⟨rfl, by omega⟩⟩
  have HTk := Lib.hid (fun W => token_any u W (by omega))
  clear HX1 hbl
  cases hk : tokS (L u) with
  | error e =>
    have HR : Hid (toksS (L s) = .error e) := Lib.hid (by rw [HX2.out, hk])
    have hne : (e == 0) = false := by rcases tokS_err hk with rfl | rfl <;> rfl
    have hne2 : (e != 0) = true := by rw [bne, hne]; rfl
    rw [hk] at HTk
    clear hk HX2
    unfold triT at HTk
    rcases hcase with rfl | ⟨rfl, heq⟩
    all_goals
     go_wp2_with (first
      | (go_at_call 88; refine (HTr.out _).mono ?_; rintro e w2 ⟨rfl, hb2⟩)
      | (go_at_call 89; refine (HTk.out _).mono ?_; rintro e w3 ⟨rfl, hb3⟩))
     try rw [Exit.noGoto_ret]
     go_ret2
     rw [HR.out]
     exact ⟨rfl, bt ((hO.out.go hb2).go hb3).2 (below_alloc _ _)⟩
  | ok p =>
    obtain ⟨⟨xk, xn, xo, xv⟩, r⟩ := p
    have hrl2 : r.length < u.size := by have := tokS_len hk; rwa [len_L] at this
    have HX3 : Hid (toksS (L s) = toksF m (L (bs r)) true (acc ++ [⟨xk, xn, xo, xv⟩])) := Lib.hid (by rw [HX2.out, hk, L_bs])
    rw [hk] at HTk
    clear hk HX2
    unfold triT tkV at HTk
    dsimp only at HTk
    have hrs : (bs r).size = r.length := size_bs r
    rcases hcase with rfl | ⟨rfl, heq⟩
    all_goals
     go_wp2_with (first
      | (go_at_call 88; refine (HTr.out _).mono ?_; rintro e w2 ⟨rfl, hb2⟩)
      | (go_at_call 89; refine (HTk.out _).mono ?_; rintro e w3 ⟨rfl, hb3⟩; have HO3 := Lib.hid (((hO.out.go hb2).go hb3).go (below_alloc w3 (.cells #[.string xk, .string xn, .string xo, .string xv] 118))); have hwz := ((hO.out.go hb2).go hb3).2.size; clear hb2 hb3)
      | (at_builtin; go_loud (refine wpList_append_lies _ rfl _ _ _ (by rfl) w.heap.size 118 i0 _ 4 64 Tryz.underlying109 Hi0.out Hz0.out Hz1.out Hz2.out rfl (by omega) (.slice A acc.length c) acc.length (cellsOf encTk acc) (by rfl) (HO3.out.1.alloc _) _ 1 1 (encTk ⟨xk, xn, xo, xv⟩) (by rfl) (by rfl) (by exact World.news_of_block (heap_alloc2_new w3 _ _)) (encTk_one _) (by omega) (by unfold maxLen; omega) (by omega) (by simp; omega) _ rfl ?_; intro g2 cap w9 hown2 hgrow2 hat2 hlt2; have HO9 := Lib.hid (HO3.out.snoc hown2 hgrow2); clear hown2 hgrow2 hat2 hlt2)))
     go_wp2
     go_roundg m
     case measure => omega
     case rel => exact ⟨bs r, _, true, _, _, rfl, by rw [List.length_append]; rfl, rfl, by rw [hrs]; omega, by rw [List.length_append, hrs]; simp; omega, by rw [List.length_append]; exact HO9.out, HX3.out⟩
end Go.Proofs.YtibflgfhjfcifaaGreatDoor
