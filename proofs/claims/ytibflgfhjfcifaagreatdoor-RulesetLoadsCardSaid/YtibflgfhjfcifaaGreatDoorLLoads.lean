/-
  The law RulesetLoads, walked.
-/
import Derived.Test.YtibflgfhjfcifaaGreatDoorG42
import Derived.Test.YtibflgfhjfcifaaGreatDoorG39
import Derived.Test.YtibflgfhjfcifaaGreatDoorG24
namespace Go.Proofs.YtibflgfhjfcifaaGreatDoor
open Go.RowKit
set_option maxRecDepth 100000 in
set_option maxHeartbeats 8000000 in
theorem lawLoads (A TA : Option Addr) (c n tc : Nat) (fs : List At) (w : World) (hE : Env w) (h : RowAt w w.heap.size A 2 fs.length (cellsOf encAt fs)) (hI : IntsIn w TA n) :
 Calls Tryz.prog 5 #[.slice A fs.length c, .slice TA n tc] w fun e w' => e = .returned (.bool true) ∧ Below w.heap.size w w' := by
 have HK := Lib.hid (known_any w)
 by_cases h20 : 20 < fs.length
 · have h20I : (20 : Int) < (fs.length : Int) := by omega
   clear hE h hI h20
   generalize fs.length = la at *
   go_enter Tryz.func5, Tryz.ntmps5
   go_wp2_with (go_at_call 15; refine HK.out.mono ?_; rintro e w5 ⟨rfl, hb5⟩)
   go_ret
   exact ⟨rfl, hb5⟩
 have h20I : ¬ (20 : Int) < (fs.length : Int) := by omega
 have HD := Lib.hid (Dirs_new tc hE.toEnv0 hI)
 have HE := Lib.hid (fun (W : World) (hW : Below w.heap.size w W) => hE.go hW)
 have H := Lib.hid h
 clear hE h hI
 obtain ⟨N, hN⟩ : ∃ N, fs.length = N := ⟨_, rfl⟩
 have HN := Lib.hid hN
 rw [hN] at h20 h20I ⊢
 clear hN
 go_enter Tryz.func5, Tryz.ntmps5
 go_wp2_with fail
 go_loopg [5] (N + 1) (fun gk s5 wr => ∃ k : Nat, s5 = .int .i64 k ∧ k + gk = N + 1 ∧ k ≤ N ∧ Hid (∀ x ∈ fs.take k, x.name.size ≤ 1000 ∧ x.val.size ≤ 1000) ∧ w = wr)
 case atStart => exact ⟨0, rfl, by omega, Nat.zero_le _, (fun x hx => by simp at hx), rfl⟩
 case round =>
  obtain ⟨k, rfl, hkg, hkN, hOk, rfl⟩ := hrel
  by_cases hlt : k < N
  · have hltI : (k : Int) < (N : Int) := by omega
    have hk : k < fs.length := by rw [HN.out]; exact hlt
    have hrow := H.out
    obtain ⟨ba, off, rfl, hba, hcc⟩ := hrow.fileX (List.getElem?_eq_getElem hk)
    obtain ⟨c0, c1⟩ := hcc w (Below.refl _ _)
    have hts : fs.take (k + 1) = fs.take k ++ [fs[k]] := List.take_succ_eq_append_getElem hk
    have HTs := Lib.hid hts
    generalize fs[k] = x at *
    obtain ⟨xn, xt⟩ := x
    dsimp only at c0 c1
    clear hrow hcc hts hk
    by_cases hv : 1000 < xt.size
    · have hvI : (1000 : Int) < (xt.size : Int) := by omega
      clear hOk HTs
      go_wp2_with (go_at_call 15; refine HK.out.mono ?_; rintro e w5 ⟨rfl, hb5⟩)
      go_ret
      exact ⟨rfl, hb5⟩
    have hvI : ¬ (1000 : Int) < (xt.size : Int) := by omega
    by_cases hn : 1000 < xn.size
    · have hnI : (1000 : Int) < (xn.size : Int) := by omega
      clear hOk HTs
      go_wp2_with (go_at_call 15; refine HK.out.mono ?_; rintro e w5 ⟨rfl, hb5⟩)
      go_ret
      exact ⟨rfl, hb5⟩
    have hnI : ¬ (1000 : Int) < (xn.size : Int) := by omega
    have HOk2 : Hid (∀ x ∈ fs.take (k + 1), x.name.size ≤ 1000 ∧ x.val.size ≤ 1000) := Lib.hid fun y hy => by
     rw [HTs.out] at hy
     rcases List.mem_append.1 hy with hy | hy
     · exact hOk.out y hy
     · obtain rfl := List.mem_singleton.1 hy
       exact ⟨by dsimp only; omega, by dsimp only; omega⟩
    clear hOk HTs
    go_wp2_with fail
    go_roundg (gk - 1)
    case measure => omega
    case rel => exact ⟨k + 1, by go_num, by omega, by omega, HOk2.out, rfl⟩
  · obtain rfl : k = N := by omega
    have HAll : Hid (∀ x ∈ fs, x.name.size ≤ 1000 ∧ x.val.size ≤ 1000) := Lib.hid (by have := hOk.out; rw [List.take_of_length_le (by rw [HN.out]; exact Nat.le_refl _)] at this; exact this)
    clear hOk hkg hlt
    go_wp2_with fail
    refine HD.out.mono ?_
    rintro e w1 ⟨A1, c1, ds1, rfl, hD1, hm1, _, hl1, _, hb1⟩
    have HB1 := Lib.hid hb1
    have HM1 := Lib.hid (RMerge_made (c := c1) hD1 hm1 hl1)
    clear hD1 hm1 hb1 HD
    generalize ds1.length = dl1 at *
    go_wp2_with fail
    refine HM1.out.mono ?_
    rintro e w2 ⟨A2, c2, gs, rfl, hc2, hr2, hx, hb2⟩
    have HR2 := Lib.hid hr2
    have hB2 := bt HB1.out hb2
    have HX := Lib.hid hx
    clear hr2 hb2 hx HM1
    have hgl := HX.out.1
    go_wp2_with fail
    have hrow := heap_alloc_new w2 (.cells #[.slice A k c, .slice A2 gs.length c2] 40)
    have hbr := below_alloc w2 (.cells #[.slice A k c, .slice A2 gs.length c2] 40)
    obtain ⟨W1, hW1⟩ : ∃ W1, w2.alloc (.cells #[.slice A k c, .slice A2 gs.length c2] 40) = W1 := ⟨_, rfl⟩
    rw [hW1] at hrow hbr ⊢
    have HL : Hid (∀ W, Below W1.heap.size W1 W → ∀ i, i < 2 → ∃ (Al : Option Addr) (cl : Nat) (ls : List At), W.cell? ⟨w2.heap.size, i, none⟩ = some (.slice Al ls.length cl) ∧ ls.length ≤ 20 ∧ (∀ x ∈ ls, x.val.size ≤ 10000) ∧ RowAt W W.heap.size Al 2 ls.length (cellsOf encAt ls)) := Lib.hid fun W hW i hi => by
     have hcc := (hW.block _ (blk_lt' hrow)).trans hrow
     have hb := bt hbr hW
     rcases (by omega : i = 0 ∨ i = 1) with rfl | rfl
     · refine ⟨A, c, fs, by rw [HN.out]; exact cellOf hcc rfl, by rw [HN.out]; omega, fun x hx => by have := (HAll.out x hx).2; omega, ?_⟩
       have h3 := bt hB2 hb
       have h4 := H.out
       exact (h4.keep h3).up h3.size
     · exact ⟨A2, c2, gs, cellOf hcc rfl, by omega, fun x hx => by have := (HX.out.2 x hx).2; omega, (HR2.out.keep hb).up hb.size⟩
    have HBv := Lib.hid (bt hB2 hbr)
    clear hrow hbr hW1 hB2 HR2 H HX HAll
    go_loopg [9] 3 (fun gk s9 wr => ∃ k : Nat, s9 = .int .i64 k ∧ k + gk = 3 ∧ k ≤ 2 ∧ Hid (Below W1.heap.size W1 wr))
    case atStart => exact ⟨0, rfl, rfl, by omega, Below.refl _ _⟩
    case round =>
     obtain ⟨i, rfl, hkg, hk2, hB⟩ := hrel
     have HBw := Lib.hid (bt HBv.out hB.out)
     by_cases hlt : i < 2
     · have hltI : (i : Int) < 2 := by omega
       obtain ⟨Al, cl, ls, hcell, hll, hlv, hlr⟩ := HL.out wr hB.out i hlt
       have HC : Hid (∀ W, Below wr.heap.size wr W → W.cell? ⟨w2.heap.size, i, none⟩ = some (.slice Al ls.length cl)) := Lib.hid fun W hW => by
        obtain ⟨Al2, cl2, ls2, h1, _⟩ := HL.out W (bt hB.out hW) i hlt
        have hlt2 := (cells_of_cell hcell)
        obtain ⟨o, ho, _⟩ := hlt2
        rw [World.cell?_of_block (hW.block _ (blk_lt' ho))]
        exact hcell
       have HPs := Lib.hid (PLoad_any Al cl ls wr (HE.out _ HBw.out) (by omega) hlv hlr)
       have HRs := Lib.hid (fun (W : World) (hW : Below wr.heap.size wr W) => RLoad_any Al cl ls W (HE.out _ (bt HBw.out hW)).toEnv0 (by omega) hlv ((hlr.keep hW).up hW.size))
       have hlen := load_len ls
       obtain ⟨ha1, ha2⟩ := all_len hlv
       have HG := Lib.hid (loadR_good ls)
       unfold LoadPost at HPs HRs
       generalize loadR ls = RL at *
       generalize loadF ls = FL at *
       have hrl2 : RL.length ≤ 4000000 := by omega
       have hfl2 : FL.length ≤ 4000000 := by omega
       generalize ls.length = la at *
       clear hlr hlv hlen ha1 ha2
       go_wp2_with (first
        | (go_at_call 18; refine HPs.out.mono ?_; rintro e w4 ⟨A4, c4, A4f, c4f, rl4, fl4, rfl, hp4, hf4, hr4, hrf4, hi4, hb4⟩; rw [hf4] at hrf4 ⊢; clear hf4; have HB4 := Lib.hid hb4; have hcell4 := HC.out w4 hb4; have HR4 := Lib.hid hr4; have HF4 := Lib.hid hrf4; have HI4 := Lib.hid hi4; clear hr4 hrf4 hi4 hb4)
        | (go_at_call 19; refine (HRs.out _ HB4.out).mono ?_; rintro e w5 ⟨A5, c5, A5f, c5f, rl5, fl5, rfl, hp5, hf5, hr5, hrf5, hi5, hb5⟩; rw [hf5] at hrf5 ⊢; clear hf5; have HB5 := Lib.hid (bt HB4.out hb5); have HSr := Lib.hid (SameRules_yes A4 A5 c4 c5 rl4 rl5 w5 (hp4.trans hp5.symm) (by have := congrArg List.length hp4; rw [List.length_map] at this; omega) (fun x hx => by have := (good_tms HG.out hp4 x hx).2.1; omega) ((HR4.out.keep hb5).up hb5.size) hr5 ((HI4.out.keep hb5).up hb5.size) hi5); have HF45 := Lib.hid ((HF4.out.keep hb5).up hb5.size); have HF5 := Lib.hid hrf5; clear hr5 hrf5 hi5 hb5)
        | (go_at_call 11; refine HSr.out.mono ?_; rintro e w6 ⟨rfl, hb6⟩; have HB6 := Lib.hid (bt HB5.out hb6); have HSf := Lib.hid (SameFaults_yes A4f A5f c4f c5f FL w6 hfl2 ((HF45.out.keep hb6).up hb6.size) ((HF5.out.keep hb6).up hb6.size)); clear hb6)
        | (go_at_call 12; refine HSf.out.mono ?_; rintro e w7 ⟨rfl, hb7⟩; have HB7 := Lib.hid (bt hB.out (bt HB6.out hb7)); clear hb7))
       go_roundg (gk - 1)
       case measure => omega
       case rel => exact ⟨i + 1, by go_num, by omega, by omega, HB7.out⟩
     · obtain rfl : i = 2 := by omega
       have HKn := Lib.hid (known_any wr)
       go_wp2_with (go_at_call 15; refine HKn.out.mono ?_; rintro e w5 ⟨rfl, hb5⟩)
       go_ret
       exact ⟨rfl, bt HBw.out hb5⟩
end Go.Proofs.YtibflgfhjfcifaaGreatDoor
