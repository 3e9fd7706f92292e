/-
  The law GrammarReaches, walked.
-/
import Derived.Test.YtibflgfhjfcifaaGreatDoorLLinks
import Derived.Test.YtibflgfhjfcifaaGreatDoorG41
namespace Go.Proofs.YtibflgfhjfcifaaGreatDoor
open Go.RowKit
theorem lab_range {l : List Rp} {i m : Nat} (hm : m < l.length) (hi : i ≤ m) (tg : ByteArray) : labB ((l.take (m + 1)).drop i) tg = (labB ((l.take m).drop i) tg || sameV (valT l[m].tms 23) tg) := by
 rw [List.take_succ_eq_append_getElem hm, List.drop_append_of_le_length (by rw [List.length_take]; omega), labB, List.any_append]
 simp [labB]
theorem plain_none {x : Rp} (h : valT x.tms 24 = none) : plainB x = true := by unfold plainB; rw [h]; rfl
theorem plain_some {x : Rp} {v : ByteArray} (h : valT x.tms 24 = some v) : plainB x = false := by unfold plainB; rw [h]; rfl
set_option maxRecDepth 100000 in
set_option maxHeartbeats 8000000 in
theorem lawReaches (TA : Option Addr) (n tc : Nat) (w : World) (hE : Env w) (hI : IntsIn w TA n) :
 Calls Tryz.prog 4 #[.slice TA n tc] w fun e w' => e = .returned (.bool true) ∧ Below w.heap.size w w' := by
 have HT := Lib.hid (Rules_new tc hI)
 have HKn := Lib.hid (fun (W : World) (hW : Below w.heap.size w W) => known10_any W (hE.go hW))
 clear hE hI
 go_enter Tryz.func4, Tryz.ntmps4
 go_wp2_with fail
 refine HT.out.mono ?_
 rintro e w1 ⟨A, c, rl, rfl, hl7, hz6, hr, hi, hb1, hcap⟩
 have hz := small_tms hz6
 have HP := Lib.hid (PLink_any A c rl w1 (by omega) hz hr hi)
 have HKt := Lib.hid (fun (rl2 : List Rl) hp => kept_tms (rl2 := rl2) hz hp)
 have HLen := Lib.hid (linkF_len (rl.map Rl.p))
 have HAg := Lib.hid (linkF_again (rl.map Rl.p))
 have HPl := Lib.hid (linkF_plain (rl.map Rl.p))
 have HRc := Lib.hid (linkF_reachL (rl.map Rl.p))
 have HB1 := Lib.hid hb1
 have HR := Lib.hid hr
 have HI := Lib.hid hi
 have HZ := Lib.hid hz
 have HLl : Hid ((rl.map Rl.p).length = rl.length) := Lib.hid (List.length_map ..)
 unfold LinkPost at HP
 clear hb1 HT hz6 hz hr hi hcap
 generalize (linkF (rl.map Rl.p)).1 = RL at *
 generalize (linkF (rl.map Rl.p)).2 = FL at *
 have hRL : RL.length ≤ 7 := by have h1 := HLen.out; have h2 := HLl.out; omega
 go_wp2_with (first
  | (go_at_call 9; with_reducible refine HP.out.mono ?_; rintro e w4 ⟨A4, c4, A4f, c4f, rl4, fl4, rfl, hp4, hf4, hr4, hrf4, hi4, hb4, _, _, _⟩; have HL4 : Hid (rl4.length = RL.length) := Lib.hid (by have := congrArg List.length hp4; rw [List.length_map] at this; exact this); have h47 : rl4.length ≤ 7 := (by have := HL4.out; omega); have HP2 := Lib.hid (PLink_any A4 c4 rl4 w4 (by omega) (HKt.out rl4 hp4) hr4 hi4); unfold LinkPost at HP2; rw [hp4, HAg.out] at HP2; have HB4 := Lib.hid hb4; have HR4 := Lib.hid hr4; have HI4 := Lib.hid hi4; have HP4 := Lib.hid hp4; clear hb4 hr4 hrf4 hi4 hp4 hf4)
  | (go_at_call 9; refine HP2.out.mono ?_; rintro e w5 ⟨A5, c5, A5f, c5f, rl5, fl5, rfl, hp5, hf5, hr5, hrf5, hi5, hb5, _, _, _⟩; subst hf5; have HB5 := Lib.hid (bt HB4.out hb5); have HR45 := Lib.hid ((HR4.out.keep hb5).up hb5.size); have HI45 := Lib.hid ((HI4.out.keep hb5).up hb5.size); have HSr := Lib.hid (SameRules_yes A4 A5 c4 c5 rl4 rl5 w5 (HP4.out.trans hp5.symm) (by omega) (fun x hx => by have := (HKt.out rl4 HP4.out x hx).2.1; omega) HR45.out hr5 HI45.out hi5); clear hb5 hr5 hrf5 hi5 hp5)
  | (go_at_call 11; refine HSr.out.mono ?_; rintro e w6 ⟨rfl, hb6⟩; have HB6 := Lib.hid (bt HB5.out hb6); have HR6 := Lib.hid ((HR45.out.keep hb6).up hb6.size); have HI6 := Lib.hid ((HI45.out.keep hb6).up hb6.size); clear hb6))
 have HRo := Lib.hid ((HR.out.keep HB6.out).up HB6.out.size)
 have HIo := Lib.hid ((HI.out.keep HB6.out).up HB6.out.size)
 clear HP HP2 HSr HAg
 go_loopg [8, 9] (rl.length + 1) (fun gk s8 s9 wr => ∃ k : Nat, s8 = .int .i64 ((((rl.map Rl.p).take k).countP plainB : Nat) : Int) ∧ s9 = .int .i64 k ∧ k + gk = rl.length + 1 ∧ k ≤ rl.length ∧ Hid (Below w6.heap.size w6 wr))
 case atStart => exact ⟨0, by simp, rfl, by omega, Nat.zero_le _, Below.refl _ _⟩
 case round =>
  obtain ⟨k, rfl, rfl, hkg, hkN, hB⟩ := hrel
  obtain ⟨wo, rfl⟩ : ∃ wo : World, wo = wr := ⟨_, rfl⟩
  have hcl := List.countP_le_length (p := plainB) (l := (rl.map Rl.p).take k)
  have hcl2 : ((rl.map Rl.p).take k).length ≤ 7 := by rw [List.length_take]; have := HLl.out; omega
  by_cases hlt : k < rl.length
  · have hltI : (k : Int) < (rl.length : Int) := by omega
    obtain ⟨ba, off, rfl, d0, d1, d2⟩ := HRo.out.three encRl_len hB.out hlt _ _ _ rfl
    have hin := HIo.out rl[k] (List.getElem_mem _)
    have hzm := HZ.out rl[k] (List.getElem_mem _)
    have hct := count_take (l := rl.map Rl.p) (j := k) (by rw [HLl.out]; exact hlt)
    rw [List.getElem_map] at hct
    generalize rl[k] = y at *
    obtain ⟨yf, yl, yA, yc, yt⟩ := y
    dsimp only at d0 d1 d2 hin hzm hct
    have HVy := Lib.hid (RValue_any yA yc yt 24 wo (by omega) ((hin.keep hB.out).up hB.out.size))
    have hplN : valT yt 24 = none → plainB (Rl.p ⟨yf, yl, ⟨yA, yc, yt⟩⟩) = true := fun h => plain_none h
    have hplS : ∀ v, valT yt 24 = some v → plainB (Rl.p ⟨yf, yl, ⟨yA, yc, yt⟩⟩) = false := fun v h => plain_some h
    generalize plainB (Rl.p ⟨yf, yl, ⟨yA, yc, yt⟩⟩) = pb at *
    obtain ⟨o2, ho2⟩ : ∃ o2, valT yt 24 = o2 := ⟨_, rfl⟩
    rw [ho2] at HVy hplN hplS
    unfold valOV at HVy
    generalize yt.length = qy at *
    clear ho2 hin hzm
    cases o2 with
    | none =>
      obtain rfl := hplN rfl
      rw [if_pos rfl] at hct
      clear hplS hplN
      generalize hc0 : ((rl.map Rl.p).take k).countP plainB = c0 at *
      go_wp2_with (go_at_call 14; refine HVy.out.mono ?_; rintro e wv ⟨rfl, hv⟩; obtain rfl : wo = wv := hv)
      go_roundg (gk - 1)
      case measure => omega
      case rel => exact ⟨k + 1, by rw [hct]; go_num, by go_num, by omega, by omega, hB.out⟩
    | some vv =>
      obtain rfl := hplS vv rfl
      rw [if_neg (by simp)] at hct
      clear hplS hplN
      go_wp2_with (go_at_call 14; refine HVy.out.mono ?_; rintro e wv ⟨rfl, hv⟩; obtain rfl : wo = wv := hv)
      go_roundg (gk - 1)
      case measure => omega
      case rel => exact ⟨k + 1, by rw [hct]; rfl, by go_num, by omega, by omega, hB.out⟩
  · obtain rfl : k = rl.length := by omega
    have hall : ((rl.map Rl.p).take rl.length).countP plainB = RL.countP plainB := by rw [← HLl.out, List.take_length]; exact HPl.out.symm
    rw [hall]
    have HBo := hB
    have HM := HL4
    clear hcl hcl2 hall hlt HRo HIo
    go_wp2
    go_loopg [8, 12] (rl4.length + 1) (fun gk s8 s12 wr => ∃ k : Nat, s8 = .int .i64 (((RL.drop k).countP plainB : Nat) : Int) ∧ s12 = .int .i64 k ∧ k + gk = rl4.length + 1 ∧ k ≤ rl4.length ∧ Hid (Below w6.heap.size w6 wr))
    case atStart => exact ⟨0, by rw [List.drop_zero], rfl, by omega, Nat.zero_le _, HBo.out⟩
    case round =>
     obtain ⟨k, rfl, rfl, hkg, hkN, hB⟩ := hrel
     obtain ⟨wp, rfl⟩ : ∃ wp : World, wp = wr := ⟨_, rfl⟩
     have hcl := List.countP_le_length (p := plainB) (l := RL.drop k)
     have hcl2 : (RL.drop k).length ≤ 7 := by rw [List.length_drop]; omega
     by_cases hlt : k < rl4.length
     · have hltI : (k : Int) < (rl4.length : Int) := by omega
       have hkR : k < RL.length := by have := HM.out; omega
       obtain ⟨ba, off, rfl, d0, d1, d2⟩ := HR6.out.three encRl_len hB.out hlt _ _ _ rfl
       have hin := HI6.out rl4[k] (List.getElem_mem _)
       have hzm := HKt.out rl4 HP4.out rl4[k] (List.getElem_mem _)
       have hct := count_drop (l := RL) (j := k) hkR
       have hpk : RL[k] = Rl.p rl4[k] := by
        have : (rl4.map Rl.p)[k]? = RL[k]? := by rw [HP4.out]
        rw [List.getElem?_map, List.getElem?_eq_getElem hlt, List.getElem?_eq_getElem hkR] at this
        exact (Option.some.inj this).symm
       have HLb := Lib.hid (fun tg h => reachL_lab HRc.out hkR (tg := tg) h)
       rw [hpk] at hct HLb
       clear hpk
       generalize rl4[k] = y at *
       obtain ⟨yf, yl, yA, yc, yt⟩ := y
       dsimp only at d0 d1 d2 hin hzm hct HLb
       have HVy := Lib.hid (RValue_any yA yc yt 24 wp (by omega) ((hin.keep hB.out).up hB.out.size))
       have hplN : valT yt 24 = none → plainB (Rl.p ⟨yf, yl, ⟨yA, yc, yt⟩⟩) = true := fun h => plain_none h
       have hplS : ∀ v, valT yt 24 = some v → plainB (Rl.p ⟨yf, yl, ⟨yA, yc, yt⟩⟩) = false := fun v h => plain_some h
       generalize plainB (Rl.p ⟨yf, yl, ⟨yA, yc, yt⟩⟩) = pb at *
       have HLb2 : Hid (∀ tg, valT yt 24 = some tg → labB (RL.drop (k + 1)) tg = true) := Lib.hid fun tg h => HLb.out tg h
       obtain ⟨o2, ho2⟩ : ∃ o2, valT yt 24 = o2 := ⟨_, rfl⟩
       rw [ho2] at HVy hplN hplS HLb2
       unfold valOV at HVy
       generalize yt.length = qy at *
       clear ho2 hin hzm HLb
       cases o2 with
       | none =>
         obtain rfl := hplN rfl
         rw [if_pos rfl] at hct
         clear hplS hplN
         rw [hct] at hcl ⊢
         generalize hc0 : (RL.drop (k + 1)).countP plainB = c0 at *
         go_wp2_with (go_at_call 14; refine HVy.out.mono ?_; rintro e wv ⟨rfl, hv⟩; obtain rfl : wp = wv := hv)
         go_roundg (gk - 1)
         case measure => omega
         case rel => exact ⟨k + 1, by rw [hc0] <;> go_num, by go_num, by omega, by omega, hB.out⟩
       | some tg =>
         obtain rfl := hplS tg rfl
         rw [if_neg (by simp)] at hct
         have HLt := Lib.hid (HLb2.out tg rfl)
         clear hplS hplN HLb2
         rw [hct] at hcl ⊢
         go_wp2_with (go_at_call 14; refine HVy.out.mono ?_; rintro e wv ⟨rfl, hv⟩; obtain rfl : wp = wv := hv)
         obtain ⟨gko, rfl⟩ : ∃ gko : Nat, gko = gk := ⟨_, rfl⟩
         go_loopg [15, 16] (rl4.length - k) (fun gk s15 s16 wx => ∃ m : Nat, s15 = .bool (labB ((RL.take m).drop (k + 1)) tg) ∧ s16 = .int .i64 m ∧ m + gk = rl4.length + 1 ∧ k + 1 ≤ m ∧ m ≤ rl4.length ∧ wp = wx)
         case atStart => exact ⟨k + 1, by rw [List.drop_of_length_le (List.length_take_le _ _)]; rfl, by go_num, by omega, by omega, by omega, rfl⟩
         case round =>
          obtain ⟨m, rfl, rfl, hmg, hmk, hmM, rfl⟩ := hrel
          by_cases hltm : m < rl4.length
          · have hltmI : (m : Int) < (rl4.length : Int) := by omega
            have hmR : m < RL.length := by have := HM.out; omega
            obtain ⟨ra, ro, hra, e0, e1, e2⟩ := HR6.out.three encRl_len hB.out hltm _ _ _ rfl
            obtain ⟨rfl, rfl⟩ : ba = ra ∧ off = ro := by injection hra with hra; injection hra with h1 h2; exact ⟨h1, h2⟩
            have hin := HI6.out rl4[m] (List.getElem_mem _)
            have hzm := HKt.out rl4 HP4.out rl4[m] (List.getElem_mem _)
            have hts := lab_range (l := RL) (i := k + 1) hmR hmk tg
            have hpm : RL[m] = Rl.p rl4[m] := by
             have : (rl4.map Rl.p)[m]? = RL[m]? := by rw [HP4.out]
             rw [List.getElem?_map, List.getElem?_eq_getElem hltm, List.getElem?_eq_getElem hmR] at this
             exact (Option.some.inj this).symm
            rw [hpm] at hts
            clear hpm hra
            generalize rl4[m] = y at *
            obtain ⟨zf, zl, zA, zc, zt⟩ := y
            dsimp only at e0 e1 e2 hin hzm hts
            have HVz := Lib.hid (RValue_any zA zc zt 23 wp (by omega) ((hin.keep hB.out).up hB.out.size))
            have hts2 : labB ((RL.take (m + 1)).drop (k + 1)) tg = (labB ((RL.take m).drop (k + 1)) tg || sameV (valT zt 23) tg) := hts
            obtain ⟨o3, ho3⟩ : ∃ o3, valT zt 23 = o3 := ⟨_, rfl⟩
            rw [ho3] at HVz hts2
            obtain ⟨fb, hfb⟩ : ∃ fb, labB ((RL.take m).drop (k + 1)) tg = fb := ⟨_, rfl⟩
            have HNw : Hid (labB ((RL.take (m + 1)).drop (k + 1)) tg = (fb || sameV o3 tg)) := Lib.hid (by rw [hts2, ← hfb])
            rw [hfb]
            unfold valOV at HVz
            generalize zt.length = qz at *
            clear hts hts2 hfb ho3 hin hzm
            cases fb
            · cases o3 with
              | none =>
                go_wp2_with (go_at_call 14; refine HVz.out.mono ?_; rintro e wv ⟨rfl, hv⟩; obtain rfl : wp = wv := hv)
                go_roundg (gk - 1)
                case measure => omega
                case rel => exact ⟨m + 1, by rw [HNw.out]; rfl, by go_num, by omega, by omega, by omega, rfl⟩
              | some vv =>
                go_wp2_with (go_at_call 14; refine HVz.out.mono ?_; rintro e wv ⟨rfl, hv⟩; obtain rfl : wp = wv := hv)
                go_roundg (gk - 1)
                case measure => omega
                case rel => exact ⟨m + 1, by rw [HNw.out]; rfl, by go_num, by omega, by omega, by omega, rfl⟩
            · go_wp2_with (go_at_call 14; refine HVz.out.mono ?_; rintro e wv ⟨rfl, hv⟩; obtain rfl : wp = wv := hv)
              go_roundg (gk - 1)
              case measure => omega
              case rel => exact ⟨m + 1, by rw [HNw.out]; rfl, by go_num, by omega, by omega, by omega, rfl⟩
          · obtain rfl : m = rl4.length := by omega
            have hfin : labB ((RL.take rl4.length).drop (k + 1)) tg = true := by rw [HM.out, List.take_length]; exact HLt.out
            rw [hfin]
            clear hfin
            go_wp2
            go_roundg (gko - 1)
            case measure => omega
            case rel => exact ⟨k + 1, rfl, by go_num, by omega, by omega, hB.out⟩
     · obtain rfl : k = rl4.length := by omega
       have hfin : (RL.drop rl4.length).countP plainB = 0 := by rw [HM.out, List.drop_length]; rfl
       rw [hfin]
       have HBw := Lib.hid (bt (bt HB1.out HB6.out) hB.out)
       clear hfin hcl hcl2
       go_wp2_with (go_at_call 13; refine (HKn.out _ HBw.out).mono ?_; rintro e w8 ⟨rfl, hb8⟩; have HB8 := Lib.hid (bt HBw.out hb8); clear hb8)
       go_ret
       exact ⟨rfl, HB8.out⟩
end Go.Proofs.YtibflgfhjfcifaaGreatDoor
