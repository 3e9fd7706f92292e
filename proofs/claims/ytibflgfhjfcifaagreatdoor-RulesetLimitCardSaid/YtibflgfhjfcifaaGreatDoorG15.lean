/-
  Contract of the reference's Check of a pattern.
  Contracts of the reference's lexer: upper, named, ops, Good.
  Contract of the reference's Good: can a token be written.
-/
import Derived.Test.YtibflgfhjfcifaaGreatDoorG44
import Derived.Test.YtibflgfhjfcifaaGreatDoorG13
namespace Go.Proofs.YtibflgfhjfcifaaGreatDoor
open Go.RowKit
theorem globS_le {s : Str} (h : ¬ 256 < s.length) : globS s = if printS s then globP s else none := by
 unfold globS
 by_cases hp : printS s = true
 · rw [if_pos ⟨by omega, hp⟩, if_pos hp]
 · rw [if_neg (fun x => hp x.2), if_neg hp]
theorem globE_le {s : Str} (h : ¬ 256 < s.length) : globE s = if (if printS s then globP s else none).isSome then 0 else 20 := by
 unfold globE
 rw [if_neg h, globS_le h]
theorem ret_i {a b : Int} (h : a = b) : Ending.returned (.int .i64 a) = .returned (.int .i64 b) := by rw [h]
set_option maxRecDepth 100000 in
set_option maxHeartbeats 1000000 in
theorem RGCheck_any (s : ByteArray) (w : World) (hs : s.size ≤ 9223372036854775807) :
 Calls Tryz.prog 182 #[.string s] w fun e w' => e = .returned (.int .i64 (globE (L s))) ∧ Below w.heap.size w w' := by
 by_cases h : 256 < s.size
 · have HE : Hid (globE (L s) = 21) := Lib.hid (by rw [globE, len_L, if_pos h])
   have hI : (256 : Int) < (s.size : Int) := by omega
   clear h
   go_enter Tryz.func182, Tryz.ntmps182
   go_wp2
   go_ret
   exact ⟨ret_i (by rw [HE.out]), Below.refl _ _⟩
 · have HE := Lib.hid (globE_le (s := L s) (by rw [len_L]; exact h))
   have hI : (s.size : Int) ≤ 256 := by omega
   have hP := GParse_any s w (by omega)
   unfold GParsePost at hP
   clear h
   cases hg : (if printS (L s) then globP (L s) else none) with
   | none =>
     rw [hg] at HE hP
     have HP := Lib.hid hP
     clear hg hP
     go_enter Tryz.func182, Tryz.ntmps182
     go_wp2_with (go_at_call 210; refine HP.out.mono ?_; rintro e w1 ⟨rfl, hb⟩)
     go_ret
     exact ⟨ret_i (by rw [HE.out]; rfl), hb⟩
   | some alts =>
     rw [hg] at HE hP
     have HP := Lib.hid hP
     clear hg hP
     go_enter Tryz.func182, Tryz.ntmps182
     go_wp2_with (go_at_call 210; refine HP.out.mono ?_; rintro e w1 ⟨v, rfl, hN, hb⟩)
     go_ret
     exact ⟨ret_i (by rw [HE.out]; rfl), hb⟩
end Go.Proofs.YtibflgfhjfcifaaGreatDoor
namespace Go.Proofs.YtibflgfhjfcifaaGreatDoor
open Go.RowKit
set_option maxRecDepth 100000 in
set_option maxHeartbeats 400000 in
theorem upper_any (c : UInt8) (w : World) :
 Calls Tryz.prog 183 #[.int .u8 c.toNat] w fun e w' => e = .returned (.bool (upC c)) ∧ w = w' := by
 have HP : Hid (upC c = (decide (65 ≤ (c.toNat : Int)) && decide ((c.toNat : Int) ≤ 90))) := Lib.hid rfl
 by_cases h1 : 65 ≤ (c.toNat : Int)
 · go_enter Tryz.func183, Tryz.ntmps183
   go_wp2
   go_ret
   exact ⟨ret_bool (by rw [HP.out]; simp [h1]), rfl⟩
 · go_enter Tryz.func183, Tryz.ntmps183
   go_wp2
   go_ret
   exact ⟨ret_bool (by rw [HP.out]; simp; omega), rfl⟩
theorem u8_eq (c : UInt8) (n : Nat) (h : n < 256) : (c == UInt8.ofNat n) = ((c.toNat : Int) == (n : Int)) := by
 rw [Bool.eq_iff_iff, beq_iff_eq, beq_iff_eq]
 constructor
 · rintro rfl; simp; omega
 · intro e
   apply UInt8.toNat_inj.1
   simp
   omega
set_option maxRecDepth 100000 in
set_option maxHeartbeats 1000000 in
theorem named8_any (c : UInt8) (w : World) :
 Calls Tryz.prog 184 #[.int .u8 c.toNat] w fun e w' => e = .returned (.bool (nmC c)) ∧ w = w' := by
 have hP : nmC c = (decide (33 ≤ (c.toNat : Int)) && decide ((c.toNat : Int) ≤ 126) && !((c.toNat : Int) == 123) && !((c.toNat : Int) == 125) && !((c.toNat : Int) == 34)) := by
  rw [nmC, show (123 : UInt8) = UInt8.ofNat 123 from rfl, show (125 : UInt8) = UInt8.ofNat 125 from rfl, show (34 : UInt8) = UInt8.ofNat 34 from rfl, u8_eq c 123 (by omega), u8_eq c 125 (by omega), u8_eq c 34 (by omega)]
  rfl
 have HP := Lib.hid hP
 clear hP
 by_cases h1 : 33 ≤ (c.toNat : Int)
 · by_cases h2 : (c.toNat : Int) ≤ 126
   · have d1 : decide ((c.toNat : Int) ≤ 126) = true := decide_eq_true h2
     cases h3 : ((c.toNat : Int) == 123)
     all_goals
      have m3 : ((c.toNat : Int) != 123) = !((c.toNat : Int) == 123) := rfl
      rw [h3] at m3
      cases h4 : ((c.toNat : Int) == 125)
      all_goals
       have m4 : ((c.toNat : Int) != 125) = !((c.toNat : Int) == 125) := rfl
       rw [h4] at m4
       have HQ : Hid (nmC c = (decide (33 ≤ (c.toNat : Int)) && decide ((c.toNat : Int) ≤ 126) && !((c.toNat : Int) == 123) && !((c.toNat : Int) == 125) && !((c.toNat : Int) == 34))) := HP
       rw [h3, h4, decide_eq_true h1, decide_eq_true h2] at HQ
       simp only [Bool.not_true, Bool.not_false] at m3 m4
       go_enter Tryz.func184, Tryz.ntmps184
       go_wp2
       go_ret
       exact ⟨ret_bool (by rw [HQ.out]; first | rfl | simp), rfl⟩
   · have d1 : decide ((c.toNat : Int) ≤ 126) = false := decide_eq_false h2
     have h2 : 126 < (c.toNat : Int) := by omega
     rw [d1] at HP
     go_enter Tryz.func184, Tryz.ntmps184
     go_wp2
     go_ret
     exact ⟨ret_bool (by rw [HP.out]; simp), rfl⟩
 · have d1 : decide (33 ≤ (c.toNat : Int)) = false := decide_eq_false h1
   have h2 : (c.toNat : Int) < 33 := by omega
   rw [d1] at HP
   go_enter Tryz.func184, Tryz.ntmps184
   go_wp2
   go_ret
   exact ⟨ret_bool (by rw [HP.out]; simp), rfl⟩
end Go.Proofs.YtibflgfhjfcifaaGreatDoor
namespace Go.Proofs.YtibflgfhjfcifaaGreatDoor
open Go.RowKit
def tkV (x : Tk) : Value := .agg #[.string x.key, .string x.name, .string x.op, .string x.value]
def encTk (x : Tk) : List Value := [.string x.key, .string x.name, .string x.op, .string x.value]
theorem encTk_len (x : Tk) : (encTk x).length = 4 := rfl
def opsA : Array Value := #[.string ⟨#[61, 61]⟩, .string ⟨#[33, 61]⟩, .string ⟨#[43, 61]⟩, .string ⟨#[45, 61]⟩, .string ⟨#[58, 61]⟩, .string ⟨#[61]⟩]
theorem ops8_any (w : World) :
 Calls Tryz.prog 185 #[] w fun e w' => e = .returned (.slice (some ⟨w.heap.size, 0, none⟩) 6 6) ∧ w.alloc (.cells opsA 9) = w' := by
 go_enter Tryz.func185, Tryz.ntmps185
 go_wp2
 go_ret
 exact ⟨rfl, rfl⟩
theorem all_snoc {f : UInt8 → Bool} {s : ByteArray} {k : Nat} (h : ((L s).take k).all f = true) (hk : k < s.size) (hc : f s[k] = true) : ((L s).take (k + 1)).all f = true := by
 rw [take_snoc s k hk, List.all_append, h]; simp [hc]
theorem all_no {f : UInt8 → Bool} {s : ByteArray} {k : Nat} (hk : k < s.size) (hc : f s[k] = false) : (L s).all f = false := by
 rw [List.all_eq_false]
 exact ⟨s[k], by rw [← L_get s k hk]; exact List.getElem_mem _, by simp [hc]⟩
theorem goodB_and (x : Tk) : goodB x = ((L x.key).all upC && ((L x.name).all nmC && ((L x.value).all pr && (opsL.contains (L x.op) && (!(L x.key).isEmpty && !Lib.hasSuffix (L x.value) [92]))))) := by
 unfold goodB
 simp only [Bool.and_assoc]
def okS (op : ByteArray) (k : Nat) : Bool := (opsL.take k).any fun x => x == L op
theorem ops_at (op : ByteArray) {k : Nat} (h : k < 6) : ∃ ob : ByteArray, opsA[k]? = some (.string ob) ∧ okS op (k + 1) = (okS op k || (L ob == L op)) := by
 have hk : k = 0 ∨ k = 1 ∨ k = 2 ∨ k = 3 ∨ k = 4 ∨ k = 5 := by omega
 rcases hk with rfl | rfl | rfl | rfl | rfl | rfl
 all_goals
  refine ⟨_, rfl, ?_⟩
  simp [okS, opsL, L, Bool.or_assoc]
theorem ops_all (op : ByteArray) : opsL.contains (L op) = okS op 6 := by
 unfold okS
 rw [List.take_of_length_le (by decide), Bool.eq_iff_iff]
 simp
set_option maxRecDepth 100000 in
set_option maxHeartbeats 8000000 in
theorem Good_any (x : Tk) (w : World) (hk : x.key.size ≤ 9223372036854775807) (hn : x.name.size ≤ 9223372036854775807) (hv : x.value.size ≤ 9223372036854775807) :
 Calls Tryz.prog 154 #[tkV x] w fun e w' => e = .returned (.bool (goodB x)) ∧ Below w.heap.size w w' := by
 have HG := Lib.hid (goodB_and x)
 obtain ⟨key, name, op, value⟩ := x
 unfold tkV
 dsimp only at hk hn hv HG ⊢
 go_enter Tryz.func154, Tryz.ntmps154
 go_wp2
 go_loopg [3] (key.size + 1) (fun gk s3 wr => ∃ k : Nat, s3 = .int .i64 k ∧ k + gk = key.size + 1 ∧ k ≤ key.size ∧ w.alloc (.cells #[.string key, .string name, .string op, .string value] 118) = wr ∧ Hid (((L key).take k).all upC = true))
 case atStart => exact ⟨0, rfl, by omega, Nat.zero_le _, rfl, rfl⟩
 case round =>
  obtain ⟨k, rfl, hkg, hks, rfl, hall⟩ := hrel
  by_cases hlt : k < key.size
  · have hltI : (k : Int) < (key.size : Int) := by omega
    have HU := Lib.hid (fun W => upper_any key[k] W)
    cases hc : upC key[k]
    · rw [hc] at HU
      have HN : Hid ((L key).all upC = false) := Lib.hid (all_no hlt hc)
      clear hc
      go_wp2_with (go_at_call 183; refine (HU.out _).mono ?_; rintro e w1 ⟨rfl, rfl⟩)
      go_ret
      exact ⟨ret_bool (by rw [HG.out, HN.out]; rfl), by go_grown⟩
    · rw [hc] at HU
      have HA := Lib.hid (all_snoc hall.out hlt hc)
      clear hc
      go_wp2_with (go_at_call 183; refine (HU.out _).mono ?_; rintro e w1 ⟨rfl, rfl⟩)
      go_roundg (gk - 1)
      case measure => omega
      case rel => exact ⟨k + 1, by go_num, by omega, by omega, rfl, HA.out⟩
  · obtain rfl : k = key.size := by omega
    have HK : Hid ((L key).all upC = true) := Lib.hid (by have := hall.out; rw [take_all key _ (by omega)] at this; exact this)
    clear hall
    rw [HK.out, Bool.true_and] at HG
    clear HK
    go_wp2
    go_loopg [4] (name.size + 1) (fun gk s4 wr => ∃ k : Nat, s4 = .int .i64 k ∧ k + gk = name.size + 1 ∧ k ≤ name.size ∧ w.alloc (.cells #[.string key, .string name, .string op, .string value] 118) = wr ∧ Hid (((L name).take k).all nmC = true))
    case atStart => exact ⟨0, rfl, by omega, Nat.zero_le _, rfl, rfl⟩
    case round =>
     obtain ⟨k, rfl, hkg2, hks2, rfl, hall⟩ := hrel
     by_cases hlt2 : k < name.size
     · have hltI : (k : Int) < (name.size : Int) := by omega
       have HU := Lib.hid (fun W => named8_any name[k] W)
       cases hc : nmC name[k]
       · rw [hc] at HU
         have HN : Hid ((L name).all nmC = false) := Lib.hid (all_no hlt2 hc)
         clear hc
         go_wp2_with (go_at_call 184; refine (HU.out _).mono ?_; rintro e w1 ⟨rfl, rfl⟩)
         go_ret
         exact ⟨ret_bool (by rw [HG.out, HN.out]; rfl), by go_grown⟩
       · rw [hc] at HU
         have HA := Lib.hid (all_snoc hall.out hlt2 hc)
         clear hc
         go_wp2_with (go_at_call 184; refine (HU.out _).mono ?_; rintro e w1 ⟨rfl, rfl⟩)
         go_roundg (gk - 1)
         case measure => omega
         case rel => exact ⟨k + 1, by go_num, by omega, by omega, rfl, HA.out⟩
     · obtain rfl : k = name.size := by omega
       have HK : Hid ((L name).all nmC = true) := Lib.hid (by have := hall.out; rw [take_all name _ (by omega)] at this; exact this)
       clear hall
       rw [HK.out, Bool.true_and] at HG
       clear HK
       go_wp2
       go_loopg [5] (value.size + 1) (fun gk s5 wr => ∃ k : Nat, s5 = .int .i64 k ∧ k + gk = value.size + 1 ∧ k ≤ value.size ∧ w.alloc (.cells #[.string key, .string name, .string op, .string value] 118) = wr ∧ Hid (((L value).take k).all pr = true))
       case atStart => exact ⟨0, rfl, by omega, Nat.zero_le _, rfl, rfl⟩
       case round =>
        obtain ⟨k, rfl, hkg3, hks3, rfl, hall⟩ := hrel
        by_cases hlt3 : k < value.size
        · have hltI : (k : Int) < (value.size : Int) := by omega
          by_cases h32 : (value[k].toNat : Int) < 32
          · have hc : pr value[k] = false := by simp [pr]; omega
            have HN : Hid ((L value).all pr = false) := Lib.hid (all_no hlt3 hc)
            clear hc
            go_wp2
            go_ret
            exact ⟨ret_bool (by rw [HG.out, HN.out]; rfl), by go_grown⟩
          · have h32 : 32 ≤ (value[k].toNat : Int) := by omega
            by_cases h126 : 126 < (value[k].toNat : Int)
            · have hc : pr value[k] = false := by simp [pr]; omega
              have HN : Hid ((L value).all pr = false) := Lib.hid (all_no hlt3 hc)
              clear hc
              go_wp2
              go_ret
              exact ⟨ret_bool (by rw [HG.out, HN.out]; rfl), by go_grown⟩
            · have h126 : (value[k].toNat : Int) ≤ 126 := by omega
              have hc : pr value[k] = true := by simp [pr]; omega
              have HA := Lib.hid (all_snoc hall.out hlt3 hc)
              clear hc
              go_wp2
              go_roundg (gk - 1)
              case measure => omega
              case rel => exact ⟨k + 1, by go_num, by omega, by omega, rfl, HA.out⟩
        · obtain rfl : k = value.size := by omega
          have HK : Hid ((L value).all pr = true) := Lib.hid (by have := hall.out; rw [take_all value _ (by omega)] at this; exact this)
          clear hall
          rw [HK.out, Bool.true_and] at HG
          clear HK hkg hks hlt hkg2 hks2 hlt2 hkg3 hks3 hlt3
          go_wp2_with (go_at_call 185; refine (ops8_any _).mono ?_; rintro e w1 ⟨rfl, rfl⟩)
          have hbx := heap_alloc2_old w (.cells #[.string key, .string name, .string op, .string value] 118) (.cells opsA 9)
          have hop := heap_alloc2_new w (.cells #[.string key, .string name, .string op, .string value] 118) (.cells opsA 9)
          have hbw : Below w.heap.size w ((w.alloc (.cells #[.string key, .string name, .string op, .string value] 118)).alloc (.cells opsA 9)) := ((Below.refl _ _).alloc (Nat.le_refl _) _).alloc (by simp) _
          obtain ⟨W1, hW1⟩ : ∃ W1, (w.alloc (.cells #[.string key, .string name, .string op, .string value] 118)).alloc (.cells opsA 9) = W1 := ⟨_, rfl⟩
          rw [hW1] at hbx hop hbw ⊢
          have HBX := Lib.hid hbx
          have HOP := Lib.hid hop
          have HBW := Lib.hid hbw
          clear hbx hop hbw hW1
          go_loopg [6, 8] 7 (fun gk s6 s8 wr => ∃ k : Nat, s8 = .int .i64 k ∧ k + gk = 7 ∧ k ≤ 6 ∧ s6 = .bool (okS op k) ∧ Hid (wr.heap[w.heap.size]? = some (.cells #[.string key, .string name, .string op, .string value] 118 (0, 0))) ∧ Hid (wr.heap[w.heap.size + 1]? = some (.cells opsA 9 (0, 0))) ∧ Hid (Below w.heap.size w wr))
          case atStart => exact ⟨0, rfl, rfl, by omega, rfl, HBX.out, HOP.out, HBW.out⟩
          case round =>
           obtain ⟨k, rfl, hkg, hks, rfl, hbx, hop, hbw⟩ := hrel
           obtain ⟨⟨c0, c1, c2, c3⟩, _⟩ := res4 hbx.out
           by_cases hlt : k < 6
           · have hltI : (k : Int) < 6 := by omega
             obtain ⟨ob, hob, hoS⟩ := ops_at op hlt
             have co := cellOf hop.out hob
             have HO := Lib.hid hoS
             clear hoS hob
             cases hok : okS op k
             · rw [hok] at HO
               go_wp2
               go_quiet (fail)
               go_wp2
               go_roundg (gk - 1)
               case measure => omega
               case rel => exact ⟨k + 1, by go_num, by omega, by omega, by rw [HO.out, tl, tl]; rfl, hbx.out, hop.out, below_drewN hbw.out _⟩
             · rw [hok] at HO
               go_wp2
               go_quiet (fail)
               go_wp2
               go_roundg (gk - 1)
               case measure => omega
               case rel => exact ⟨k + 1, by go_num, by omega, by omega, by rw [HO.out]; rfl, hbx.out, hop.out, below_drewN hbw.out _⟩
           · obtain rfl : k = 6 := by omega
             have HC := Lib.hid (ops_all op)
             rw [HC.out] at HG
             have HS := Lib.hid (fun W => (Tryz.strings_HasSuffix value ⟨#[92]⟩ W hv))
             cases hok : okS op 6
             · rw [hok, Bool.false_and] at HG
               go_wp2
               all_goals
                go_ret
                exact ⟨ret_bool (by rw [HG.out]), hbw.out⟩
             · rw [hok, Bool.true_and] at HG
               by_cases hke : key.toList = []
               · have hem : (L key).isEmpty = true := by rw [← tl, hke]; rfl
                 rw [hem] at HG
                 have e1 : key.toList.isEmpty = true := by rw [hke]; rfl
                 go_wp2
                 go_ret
                 exact ⟨ret_bool (by rw [HG.out]; rfl), hbw.out⟩
               · have hem : (L key).isEmpty = false := L_ne hke
                 rw [hem, Bool.not_false, Bool.true_and] at HG
                 have e1 : key.toList.isEmpty = false := by rw [tl]; exact hem
                 clear hem
                 go_wp2_with (go_at_call 106; refine (HS.out _).mono ?_; rintro e w1 ⟨rfl, rfl⟩)
                 go_ret
                 exact ⟨ret_bool (by rw [HG.out]), hbw.out⟩
end Go.Proofs.YtibflgfhjfcifaaGreatDoor
