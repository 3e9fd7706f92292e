/-
  The law GrammarChecks, walked.
-/
import Derived.Test.YthcgkeiggnfgiaaGreatDoorG49
import Derived.Test.YthcgkeiggnfgiaaGreatDoorG52
namespace Go.Proofs.YthcgkeiggnfgiaaGreatDoor
open Go.RowKit
set_option maxRecDepth 100000 in
set_option maxHeartbeats 4000000 in
theorem lawChecks (A TA : Option Addr) (c n tc : Nat) (raw : List Tm) (w : World) (hE : Env w) (hr : RowAt w w.heap.size A 4 raw.length (cellsOf encTm raw)) (hpre : ∀ t ∈ raw, TmPre t) (hl : raw.length ≤ 9223372036854775807) (hI : IntsIn w TA n) :
    Calls Tryz.prog 7 #[.slice A raw.length c, .slice TA n tc] w fun e w' => e = .returned (.bool true) ∧ Below w.heap.size w w' := by
  by_cases h30 : 30 < raw.length
  · have h30I : (30 : Int) < (raw.length : Int) := by omega
    have HK := Lib.hid (known10_any w hE)
    clear hE hr hpre hI h30
    generalize raw.length = lr at *
    go_enter Tryz.func7, Tryz.ntmps7
    go_wp2_with (go_at_call 30; refine HK.out.mono ?_; rintro e w5 ⟨rfl, hb5⟩)
    go_ret
    exact ⟨rfl, hb5⟩
  · have h30I : ¬ (30 : Int) < (raw.length : Int) := by omega
    have HS := Lib.hid (Spoilt_new tc hI)
    have HE := Lib.hid (fun (W : World) (hW : Below w.heap.size w W) => hE.go hW)
    have HP1 : Hid (∀ W, Below w.heap.size w W → Calls Tryz.prog 28 #[.slice A raw.length c] W fun e w' => e = .returned (.int .i64 (checkE raw)) ∧ Below W.heap.size W w') := Lib.hid fun W hW => PTCheck_any A c raw W (hE.go hW) ((hr.keep hW).up hW.size) hl hpre
    have HR1 : Hid (∀ W, Below w.heap.size w W → Calls Tryz.prog 34 #[.slice A raw.length c] W fun e w' => e = .returned (.int .i64 (checkE raw)) ∧ Below W.heap.size W w') := Lib.hid fun W hW => RCheck_any A c raw W (hE.go hW).toEnv0 ((hr.keep hW).up hW.size) hl (fun t ht => (hpre t ht).ok)
    clear hE hr hpre hI h30
    generalize checkE raw = e1 at *
    generalize raw.length = lr at *
    go_enter Tryz.func7, Tryz.ntmps7
    go_wp2_with fail
    refine HS.out.mono ?_
    rintro e w1 ⟨XA, xc, x, rfl, hx40, hX, hsm, hb1⟩
    have HB1 := Lib.hid hb1
    have HP2 : Hid (∀ W, Below w1.heap.size w1 W → Calls Tryz.prog 28 #[.slice XA x.length xc] W fun e w' => e = .returned (.int .i64 (checkE x)) ∧ Below W.heap.size W w') := Lib.hid fun W hW => PTCheck_any XA xc x W (HE.out _ (bt hb1 hW)) ((hX.keep hW).up hW.size) (by omega) (fun t ht => (hsm t ht).pre (by omega))
    have HR2 : Hid (∀ W, Below w1.heap.size w1 W → Calls Tryz.prog 34 #[.slice XA x.length xc] W fun e w' => e = .returned (.int .i64 (checkE x)) ∧ Below W.heap.size W w') := Lib.hid fun W hW => RCheck_any XA xc x W (HE.out _ (bt hb1 hW)).toEnv0 ((hX.keep hW).up hW.size) (by omega) (fun t ht => (hsm t ht).ok (by omega))
    have HX := Lib.hid hX
    clear hb1 hsm hX HS
    generalize checkE x = e2 at *
    obtain ⟨N, hN⟩ : ∃ N, x.length = N := ⟨_, rfl⟩
    have HN := Lib.hid hN
    rw [hN] at HP2 HR2 hx40 ⊢
    clear hN
    have HKn := Lib.hid (fun (W : World) (hW : Below w.heap.size w W) => known10_any W (HE.out W hW))
    go_wp2_with fail
    go_loopg [6] (N + 1) (fun gk s6 wr => ∃ k : Nat, s6 = .int .i64 k ∧ k + gk = N + 1 ∧ k ≤ N ∧ Hid (Below w1.heap.size w1 wr))
    case atStart => exact ⟨0, rfl, by omega, Nat.zero_le _, Below.refl _ _⟩
    case round =>
      obtain ⟨k, rfl, hkg, hkN, hB⟩ := hrel
      by_cases hlt : k < N
      · have hltI : (k : Int) < (N : Int) := by omega
        have hk : k < x.length := by rw [HN.out]; exact hlt
        have hQ0 := fun W' (hb : Below w1.heap.size w1 W') => HX.out.tm hb hk
        generalize x[k] = t at *
        have HPm := Lib.hid (fun W => PMatch_any t W)
        have HRm := Lib.hid (fun W => RMatch_any t W)
        obtain ⟨ba, off, rfl, _⟩ := hQ0 w1 (Below.refl _ _)
        have HS : Hid (∀ W', Below wr.heap.size wr W' → Below wr.heap.size wr W' ∧ W'.cell? ⟨ba, off + k * 4, none⟩ = some (.int .i64 t.key) ∧ W'.cell? ⟨ba, off + k * 4 + 1, none⟩ = some (.string t.name) ∧ W'.cell? ⟨ba, off + k * 4 + 2, none⟩ = some (.int .i64 t.op) ∧ W'.cell? ⟨ba, off + k * 4 + 3, none⟩ = some (.string t.value)) := Lib.hid fun W' hb => by
          obtain ⟨ba', off', e, h⟩ := hQ0 W' (bt hB.out hb)
          obtain ⟨rfl, rfl⟩ : ba = ba' ∧ off = off' := by injection e with e; injection e with e1 e2; exact ⟨e1, e2⟩
          exact ⟨hb, h⟩
        obtain ⟨ky, nm, op, vl⟩ := t
        unfold tmV at HPm HRm
        dsimp only at HPm HRm HS
        clear hQ0 hk
        go_wp2_with fail
        go_region_held3 (fun W' => Below wr.heap.size wr W' ∧ W'.cell? ⟨ba, off + k * 4, none⟩ = some (.int .i64 ky) ∧ W'.cell? ⟨ba, off + k * 4 + 1, none⟩ = some (.string nm) ∧ W'.cell? ⟨ba, off + k * 4 + 2, none⟩ = some (.int .i64 op) ∧ W'.cell? ⟨ba, off + k * 4 + 3, none⟩ = some (.string vl)) ((refine HS.out _ ?_; repeat (first | exact Below.refl _ _ | exact (Below.refl _ _).drew | refine bt ?_ hb5 | refine bt ?_ hb6 | refine bDr ?_))) ((first
          | (go_at_call 32; refine (HPm.out _).mono ?_; rintro e w5 ⟨rfl, hb5⟩)
          | (go_at_call 33; refine (HRm.out _).mono ?_; rintro e w6 ⟨rfl, hb6⟩)))
        all_goals
          rename_i hHeld
          have HBe := Lib.hid hHeld.1
          clear hHeld
          go_wp2
          go_roundg (gk - 1)
          case measure => omega
          case rel => exact ⟨k + 1, by go_num, by omega, by omega, bt hB.out HBe.out⟩
      · obtain rfl : k = N := by omega
        go_wp2_with (first
          | (go_at_call_of 28 (Value.slice A lr c); refine (HP1.out _ (bt HB1.out hB.out)).mono ?_; rintro e w5 ⟨rfl, hb5⟩; have HB5 := Lib.hid (bt hB.out hb5))
          | (go_at_call_of 34 (Value.slice A lr c); refine (HR1.out _ (bt HB1.out HB5.out)).mono ?_; rintro e w6 ⟨rfl, hb6⟩; have HB6 := Lib.hid (bt HB5.out hb6))
          | (go_at_call_of 28 (Value.slice XA k xc); refine (HP2.out _ HB6.out).mono ?_; rintro e w7 ⟨rfl, hb7⟩; have HB7 := Lib.hid (bt HB6.out hb7))
          | (go_at_call_of 34 (Value.slice XA k xc); refine (HR2.out _ HB7.out).mono ?_; rintro e w8 ⟨rfl, hb8⟩; have HB8 := Lib.hid (bt HB7.out hb8))
          | (go_at_call 30; refine (HKn.out _ (bt HB1.out HB8.out)).mono ?_; rintro e w9 ⟨rfl, hb9⟩; have HB9 := Lib.hid (bt HB1.out (bt HB8.out hb9))))
        go_ret
        exact ⟨rfl, HB9.out⟩
end Go.Proofs.YthcgkeiggnfgiaaGreatDoor
