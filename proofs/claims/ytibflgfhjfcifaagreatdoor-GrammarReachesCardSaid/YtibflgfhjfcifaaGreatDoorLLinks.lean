/-
  The law GrammarLinks, walked.
-/
import Derived.Test.YtibflgfhjfcifaaGreatDoorG41
import Derived.Test.YtibflgfhjfcifaaGreatDoorG40
import Derived.Test.YtibflgfhjfcifaaGreatDoorG32
namespace Go.Proofs.YtibflgfhjfcifaaGreatDoor
open Go.RowKit
theorem small_tms {rl : List Rl} (hz : ∀ x ∈ rl, 1 ≤ x.tms.l.length ∧ x.tms.l.length ≤ 6 ∧ ∀ t ∈ x.tms.l, TmSmall 60 t) : ∀ x ∈ rl, 1 ≤ x.tms.l.length ∧ x.tms.l.length ≤ 1000 ∧ ∀ t ∈ x.tms.l, t.value.size ≤ 1000 := fun x hx => by
 obtain ⟨h1, h2, h3⟩ := hz x hx
 exact ⟨h1, by omega, fun t ht => by have := (h3 t ht).value; omega⟩
theorem kept_tms {rl rl2 : List Rl} (hz : ∀ x ∈ rl, 1 ≤ x.tms.l.length ∧ x.tms.l.length ≤ 1000 ∧ ∀ t ∈ x.tms.l, t.value.size ≤ 1000) (hp : rl2.map Rl.p = (linkF (rl.map Rl.p)).1) : ∀ x ∈ rl2, 1 ≤ x.tms.l.length ∧ x.tms.l.length ≤ 1000 ∧ ∀ t ∈ x.tms.l, t.value.size ≤ 1000 := fun x hx => by
 have h1 : Rl.p x ∈ (linkF (rl.map Rl.p)).1 := by rw [← hp]; exact List.mem_map_of_mem hx
 obtain ⟨y, hy, e⟩ := List.mem_map.1 (linkF_sub _ _ h1)
 have h2 : y.tms.l = x.tms.l := congrArg Rp.tms e
 rw [← h2]
 exact hz y hy
set_option maxRecDepth 100000 in
set_option maxHeartbeats 8000000 in
theorem lawLinks (TA : Option Addr) (n tc : Nat) (w : World) (hE : Env w) (hI : IntsIn w TA n) :
 Calls Tryz.prog 3 #[.slice TA n tc] w fun e w' => e = .returned (.bool true) ∧ Below w.heap.size w w' := by
 have HT := Lib.hid (Rules_new tc hI)
 have HKn := Lib.hid (fun (W : World) (hW : Below w.heap.size w W) => known10_any W (hE.go hW))
 clear hE hI
 go_enter Tryz.func3, Tryz.ntmps3
 go_wp2_with fail
 refine HT.out.mono ?_
 rintro e w1 ⟨A, c, rl, rfl, hl7, hz6, hr, hi, hb1, hcap⟩
 have hz := small_tms hz6
 have HP := Lib.hid (PLink_any A c rl w1 (by omega) hz hr hi)
 have HR := Lib.hid (fun (W : World) (hW : Below w1.heap.size w1 W) => RLink_any A c rl W (by omega) (fun x hx => (hz x hx).2.1) ((hr.keep hW).up hW.size) ((hi.keep hW).up hW.size))
 have HZ := Lib.hid hz
 have HB1 := Lib.hid hb1
 have HLen := Lib.hid (linkF_len (rl.map Rl.p))
 clear hb1 HT hz6 hz hr hi hcap
 unfold LinkPost at HP HR
 have HKt := Lib.hid (fun (rl2 : List Rl) hp => kept_tms (rl2 := rl2) HZ.out hp)
 have HLl : Hid ((rl.map Rl.p).length = rl.length) := Lib.hid (List.length_map ..)
 generalize (linkF (rl.map Rl.p)).1 = RL at *
 generalize (linkF (rl.map Rl.p)).2 = FL at *
 have hfl : FL.length ≤ 7 := by have h1 := HLen.out; have h2 := HLl.out; omega
 go_wp2_with (first
  | (go_at_call 9; refine HP.out.mono ?_; rintro e w4 ⟨A4, c4, A4f, c4f, rl4, fl4, rfl, hp4, hf4, hr4, hrf4, hi4, hb4, _, _, _⟩; rw [hf4] at hrf4 ⊢; clear hf4; have HB4 := Lib.hid hb4; have HR4 := Lib.hid hr4; have HF4 := Lib.hid hrf4; have HI4 := Lib.hid hi4; have HP4 := Lib.hid hp4; clear hb4 hr4 hrf4 hi4 hp4)
  | (go_at_call 10; refine (HR.out _ HB4.out).mono ?_; rintro e w5 ⟨A5, c5, A5f, c5f, rl5, fl5, rfl, hp5, hf5, hr5, hrf5, hi5, hb5, _, _, _⟩; rw [hf5] at hrf5 ⊢; clear hf5; have HB5 := Lib.hid (bt HB4.out hb5); have hl4 : rl4.length = RL.length := (by have := congrArg List.length HP4.out; rw [List.length_map] at this; exact this); have HSr := Lib.hid (SameRules_yes A4 A5 c4 c5 rl4 rl5 w5 (HP4.out.trans hp5.symm) (by have h1 := HLen.out; have h2 := HLl.out; omega) (fun x hx => by have := (HKt.out rl4 HP4.out x hx).2.1; omega) ((HR4.out.keep hb5).up hb5.size) hr5 ((HI4.out.keep hb5).up hb5.size) hi5); have HF45 := Lib.hid ((HF4.out.keep hb5).up hb5.size); have HF5 := Lib.hid hrf5; have HL4 := Lib.hid hl4; clear hb5 hr5 hrf5 hi5 hp5 hl4)
  | (go_at_call 11; refine HSr.out.mono ?_; rintro e w6 ⟨rfl, hb6⟩; have HB6 := Lib.hid (bt HB5.out hb6); have HSf := Lib.hid (SameFaults_yes A4f A5f c4f c5f FL w6 (by omega) ((HF45.out.keep hb6).up hb6.size) ((HF5.out.keep hb6).up hb6.size)); clear hb6)
  | (go_at_call 12; refine HSf.out.mono ?_; rintro e w7 ⟨rfl, hb7⟩; have HB7 := Lib.hid (bt HB6.out hb7); clear hb7; have hsum : (rl4.length : Int) + (FL.length : Int) = (rl.length : Int) := (by have h1 := HLen.out; have h2 := HLl.out; have h3 := HL4.out; omega))
  | (go_at_call 13; refine (HKn.out _ (bt HB1.out HB7.out)).mono ?_; rintro e w8 ⟨rfl, hb8⟩; have HB8 := Lib.hid (bt (bt HB1.out HB7.out) hb8); clear hb8))
 go_ret
 exact ⟨rfl, HB8.out⟩
end Go.Proofs.YtibflgfhjfcifaaGreatDoor
