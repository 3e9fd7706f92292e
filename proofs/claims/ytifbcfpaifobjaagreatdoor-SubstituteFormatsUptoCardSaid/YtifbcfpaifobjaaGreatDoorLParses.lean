/-
  The law SubstituteParses, walked: the program's Parse and the reference's answer alike.
-/
import Derived.Test.YtifbcfpaifobjaaGreatDoorSame
import Derived.Test.YtifbcfpaifobjaaGreatDoorTemplate
namespace Go.Proofs.YtifbcfpaifobjaaGreatDoor
open Go.RowKit
theorem heap_two {w : World} {o1 : Obj} (k : Nat) (hk : k = w.heap.size) : (w.alloc o1).heap[k]? = some o1 := by rw [hk]; exact heap_alloc_last w o1
set_option maxRecDepth 100000 in
set_option maxHeartbeats 4000000 in
theorem lawParses (raw : ByteArray) (A : Option Addr) (n c : Nat) (w : World) (hE : Env w) (hs : raw.size ≤ 9223372036854775807) (hl : IntsIn w A n) :
    Calls Tryz.prog 4 #[.string raw, .slice A n c] w fun e w' => e = .returned (.bool true) ∧ Below w.heap.size w w' := by
  by_cases h600 : 600 < raw.size
  · have HK := Lib.hid (known_any w hE)
    clear hE hl
    go_enter Tryz.func4, Tryz.ntmps4
    go_wp2_with (go_at_call 11; refine HK.out.mono ?_; rintro e w5 ⟨rfl, hb5⟩)
    go_ret
    exact ⟨rfl, hb5⟩
  have HE := Lib.hid hE
  have HT := Lib.hid (VSt.start (hl.tape c 37))
  have Hw := Lib.hid (below_alloc w (.cells #[.slice A n c, .int .i64 0] 37))
  clear hl hE
  go_enter Tryz.func4, Tryz.ntmps4
  go_wp2_with fail
  with_reducible refine (template_any _ _ 0 0 _ _ _ HT.out (by omega)).mono ?_
  rintro e w1 ⟨tm, htm, rfl, hst⟩
  have Hb1 := Lib.hid (hst.back Hw.out)
  clear hst
  go_wp2_with fail
  obtain ⟨W2, hW2⟩ : ∃ W2, w1.alloc (.cells #[.string raw, .string tm] 9) = W2 := ⟨_, rfl⟩
  rw [hW2]
  have hb0 : W2.heap[w1.heap.size]? = some (.cells #[.string raw, .string tm] 9 (0, 0)) := by rw [← hW2]; exact heap_alloc_last _ _
  have hbw : Below w1.heap.size w1 W2 := by rw [← hW2]; exact below_alloc _ _
  have hC : ∀ W', Below W2.heap.size W2 W' → ∀ k, k < 2 → W'.cell? ⟨w1.heap.size, k, none⟩ = some (.string (([raw, tm] : List ByteArray).getD k ⟨#[]⟩)) := fun W' hb k hk => strs_cell [raw, tm] ((hb.block _ (blk_lt hb0)).trans hb0) rfl k hk
  have hsz : ∀ k, k < 2 → (([raw, tm] : List ByteArray).getD k ⟨#[]⟩).size ≤ 9223372036854775807 := fun k hk => by
    have : k = 0 ∨ k = 1 := by omega
    rcases this with rfl | rfl
    · exact hs
    · show tm.size ≤ _; omega
  have HC := Lib.hid hC
  have Hsz := Lib.hid hsz
  have Hw2 := Lib.hid (bt Hb1.out hbw)
  clear hC hb0 hbw hW2 Hb1 HT Hw hsz
  go_loopg [6] 2 (fun gk i wr => ∃ k : Nat, k + gk = 2 ∧ i = .int .i64 k ∧ Hid (Below W2.heap.size W2 wr))
  case atStart => exact ⟨0, by omega, rfl, Below.refl _ _⟩
  case round =>
    obtain ⟨k, hk, rfl, hbr⟩ := hrel
    by_cases hlt : k < 2
    · have hS := fun W' hb => HC.out W' hb k hlt
      have hz := Hsz.out k hlt
      generalize ([raw, tm] : List ByteArray).getD k ⟨#[]⟩ = sk at *
      have HS := Lib.hid hS
      have HP := Lib.hid (fun (W : World) (hb : Below W2.heap.size W2 W) => Parse_any sk W ((HE.out.go Hw2.out).go hb) hz)
      have HQ := Lib.hid (fun (W : World) (hb : Below W2.heap.size W2 W) => RParse_any sk W ((HE.out.go Hw2.out).go hb) hz)
      have HCk := Lib.hid (fun (W : World) (hb : Below W2.heap.size W2 W) => Check_any sk W ((HE.out.go Hw2.out).go hb) hz)
      have hfit := (fits_parseR (L sk)).1
      unfold ParsePost at HP HQ
      generalize (parseR (L sk)).1 = ps at *
      generalize (parseR (L sk)).2 = code at *
      clear hS hz
      have c0 := HS.out wr hbr.out
      go_wp2_with fail
      refine (HP.out wr hbr.out).mono ?_
      rintro e w3 ⟨v, rfl, ho, hb3⟩
      obtain ⟨A1, c1, rfl⟩ := own_slice ho
      have hr1 := RowAt.of_own ho
      have HB3 := Lib.hid (bt hbr.out hb3)
      have HR1 := Lib.hid hr1
      clear ho hb3 c0 hr1
      have c3 := HS.out w3 HB3.out
      go_wp2_with fail
      refine (HQ.out w3 HB3.out).mono ?_
      rintro e w4 ⟨v, rfl, ho, hb4⟩
      obtain ⟨A2, c2, rfl⟩ := own_slice ho
      have hr2 := RowAt.of_own ho
      have hr1' := (HR1.out.keep hb4).more hb4.size
      have HB4 := Lib.hid (bt HB3.out hb4)
      have HSm := Lib.hid (Same_yes A1 A2 c1 c2 ps w4 (by omega) hr1' hr2)
      clear ho hb4 c3 hr2 hr1'
      have c4 := HS.out w4 HB4.out
      go_wp2_with (first | (go_at_call 18; refine HSm.out.mono ?_; rintro e w5 ⟨rfl, hb5⟩; have HB5 := Lib.hid (bt HB4.out hb5); clear hb5; have c5 := HS.out w5 HB5.out) | (go_at_call 19; refine (HCk.out w5 HB5.out).mono ?_; rintro e w6 ⟨rfl, hb6⟩; have HB6 := Lib.hid (bt HB5.out hb6); clear hb6))
      go_roundg (gk - 1)
      case measure => omega
      case rel => exact ⟨k + 1, by omega, by go_num, HB6.out⟩
    · go_wp2_with (go_at_call 11; refine (known_any _ ((HE.out.go Hw2.out).go hbr.out)).mono ?_; rintro e w3 ⟨rfl, hb3⟩; have HB3 := Lib.hid hb3; clear hb3)
      go_ret
      exact ⟨rfl, bt Hw2.out (bt hbr.out HB3.out)⟩
end Go.Proofs.YtifbcfpaifobjaaGreatDoor
