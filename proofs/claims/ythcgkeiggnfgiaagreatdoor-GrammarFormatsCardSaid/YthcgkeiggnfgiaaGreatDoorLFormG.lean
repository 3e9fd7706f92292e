/-
  The law GrammarFormats, walked.
-/
import Derived.Test.YthcgkeiggnfgiaaGreatDoorG49
import Derived.Test.YthcgkeiggnfgiaaGreatDoorG52
import Derived.Test.YthcgkeiggnfgiaaGreatDoorG53
namespace Go.Proofs.YthcgkeiggnfgiaaGreatDoor
open Go.RowKit
set_option maxRecDepth 100000 in
set_option maxHeartbeats 4000000 in
theorem lawFormats (A TA : Option Addr) (c n tc : Nat) (raw : List Tm) (w : World) (hE : Env w) (hr : RowAt w w.heap.size A 4 raw.length (cellsOf encTm raw)) (hpre : ∀ t ∈ raw, TmPre t) (hl : raw.length ≤ 9223372036854775807) (hI : IntsIn w TA n) :
    Calls Tryz.prog 11 #[.slice A raw.length c, .slice TA n tc] w fun e w' => e = .returned (.bool true) ∧ Below w.heap.size w w' := by
  by_cases h30 : 30 < raw.length
  · have h30I : (30 : Int) < (raw.length : Int) := by omega
    have HK := Lib.hid (known10_any w hE)
    clear hE hr hpre hI h30
    generalize raw.length = lr at *
    go_enter Tryz.func11, Tryz.ntmps11
    go_wp2_with (go_at_call 30; refine HK.out.mono ?_; rintro e w5 ⟨rfl, hb5⟩)
    go_ret
    exact ⟨rfl, hb5⟩
  · have h30I : ¬ (30 : Int) < (raw.length : Int) := by omega
    have HS := Lib.hid (Spoilt_new tc hI)
    have HE := Lib.hid (fun (W : World) (hW : Below w.heap.size w W) => hE.go hW)
    have HKn := Lib.hid (fun (W : World) (hW : Below w.heap.size w W) => known10_any W (hE.go hW))
    have HP1 : Hid (∀ W, Below w.heap.size w W → Calls Tryz.prog 41 #[.slice A raw.length c] W (FormatPost raw W)) := Lib.hid fun W hW => PFormat_any A c raw W (hE.go hW) ((hr.keep hW).up hW.size) hl hpre
    have HR1 : Hid (∀ W, Below w.heap.size w W → Calls Tryz.prog 44 #[.slice A raw.length c] W (FormatPost raw W)) := Lib.hid fun W hW => RFormat_any A c raw W (hE.go hW).toEnv0 ((hr.keep hW).up hW.size) hl (fun t ht => (hpre t ht).ok)
    clear hE hr hpre hI h30
    unfold FormatPost at HP1 HR1
    generalize bs (formatE raw).1 = u1 at *
    generalize (formatE raw).2 = r1 at *
    generalize raw.length = lr at *
    go_enter Tryz.func11, Tryz.ntmps11
    go_wp2_with fail
    refine HS.out.mono ?_
    rintro e w1 ⟨XA, xc, x, rfl, hx40, hX, hsm, hb1⟩
    have HB1 := Lib.hid hb1
    have HP2 : Hid (∀ W, Below w1.heap.size w1 W → Calls Tryz.prog 41 #[.slice XA x.length xc] W (FormatPost x W)) := Lib.hid fun W hW => PFormat_any XA xc x W (HE.out _ (bt hb1 hW)) ((hX.keep hW).up hW.size) (by omega) (fun t ht => (hsm t ht).pre (by omega))
    have HR2 : Hid (∀ W, Below w1.heap.size w1 W → Calls Tryz.prog 44 #[.slice XA x.length xc] W (FormatPost x W)) := Lib.hid fun W hW => RFormat_any XA xc x W (HE.out _ (bt hb1 hW)).toEnv0 ((hX.keep hW).up hW.size) (by omega) (fun t ht => (hsm t ht).ok (by omega))
    unfold FormatPost at HP2 HR2
    clear hb1 hsm hX HS HE
    generalize bs (formatE x).1 = u2 at *
    generalize (formatE x).2 = r2 at *
    generalize x.length = N at *
    go_wp2_with fail
    have hrow := heap_alloc_new w1 (.cells #[.slice A lr c, .slice XA N xc] 53)
    have hbr := below_alloc w1 (.cells #[.slice A lr c, .slice XA N xc] 53)
    have hlt := blk_lt' hrow
    obtain ⟨W1, hW1⟩ : ∃ W1, w1.alloc (.cells #[.slice A lr c, .slice XA N xc] 53) = W1 := ⟨_, rfl⟩
    rw [hW1] at hrow hbr hlt ⊢
    have HRow := Lib.hid hrow
    have HBr := Lib.hid hbr
    clear hrow hbr hW1
    go_loopg [6] 3 (fun gk s6 wr => ∃ k : Nat, s6 = .int .i64 k ∧ k + gk = 3 ∧ k ≤ 2 ∧ Hid (Below W1.heap.size W1 wr))
    case atStart => exact ⟨0, rfl, rfl, by omega, Below.refl _ _⟩
    case round =>
      obtain ⟨k, rfl, hkg, hk2, hB⟩ := hrel
      have hcc := (hB.out.block _ hlt).trans HRow.out
      have c0 : wr.cell? ⟨w1.heap.size, 0, none⟩ = some (.slice A lr c) := cellOf hcc rfl
      have c1 : wr.cell? ⟨w1.heap.size, 1, none⟩ = some (.slice XA N xc) := cellOf hcc rfl
      clear hcc
      have hlw : w1.heap.size < wr.heap.size := Nat.lt_of_lt_of_le hlt hB.out.size
      have HBw := Lib.hid (bt HB1.out (bt HBr.out hB.out))
      have HBv := Lib.hid (bt HBr.out hB.out)
      have hk : k = 0 ∨ k = 1 ∨ k = 2 := by omega
      rcases hk with rfl | rfl | rfl
      · go_wp2_with (first
          | (go_at_call 41; refine (HP1.out _ HBw.out).mono ?_; rintro e w2 ⟨rfl, hb2⟩; have d0 := (hb2.cell (p := ⟨w1.heap.size, 0, none⟩) hlw).trans c0)
          | (go_at_call 44; refine (HR1.out _ (bt HBw.out hb2)).mono ?_; rintro e w3 ⟨rfl, hb3⟩))
        go_roundg (gk - 1)
        case measure => omega
        case rel => exact ⟨1, rfl, by omega, by omega, bt hB.out (bt hb2 hb3)⟩
      · go_wp2_with (first
          | (go_at_call 41; refine (HP2.out _ HBv.out).mono ?_; rintro e w2 ⟨rfl, hb2⟩; have d1 := (hb2.cell (p := ⟨w1.heap.size, 1, none⟩) hlw).trans c1)
          | (go_at_call 44; refine (HR2.out _ (bt HBv.out hb2)).mono ?_; rintro e w3 ⟨rfl, hb3⟩))
        go_roundg (gk - 1)
        case measure => omega
        case rel => exact ⟨2, rfl, by omega, by omega, bt hB.out (bt hb2 hb3)⟩
      · go_wp2_with (go_at_call 30; refine (HKn.out _ HBw.out).mono ?_; rintro e w5 ⟨rfl, hb5⟩)
        go_ret
        exact ⟨rfl, bt HBw.out hb5⟩
end Go.Proofs.YthcgkeiggnfgiaaGreatDoor
