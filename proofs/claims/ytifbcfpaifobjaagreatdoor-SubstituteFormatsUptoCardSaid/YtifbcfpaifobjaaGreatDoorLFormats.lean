/-
  The law SubstituteFormats, walked: the program's Format and the reference's answer alike.
-/
import Derived.Test.YtifbcfpaifobjaaGreatDoorPcsW
import Derived.Test.YtifbcfpaifobjaaGreatDoorFmtR
import Derived.Test.YtifbcfpaifobjaaGreatDoorLParses
import Derived.Test.YtifbcfpaifobjaaGreatDoorKnown
namespace Go.Proofs.YtifbcfpaifobjaaGreatDoor
open Go.RowKit
/-- A list of pieces and where it lies. -/
structure Sl where
  A : Option Addr
  c : Nat
  l : List Pc
def Sl.v (x : Sl) : Value := .slice x.A x.l.length x.c
structure SlIn (W : World) (x : Sl) : Prop where
  row : RowAt W W.heap.size x.A 4 x.l.length (cellsOf encPc x.l)
  len : x.l.length ≤ 1000
  txt : ∀ q ∈ x.l, q.text.size ≤ 100000000
theorem SlIn.go {W W' : World} {x : Sl} (h : SlIn W x) (hb : Below W.heap.size W W') : SlIn W' x := ⟨(h.row.keep hb).more hb.size, h.len, h.txt⟩
set_option maxRecDepth 100000 in
set_option maxHeartbeats 4000000 in
theorem lawFormats (A0 : Option Addr) (c0 : Nat) (raw : List Pc) (A : Option Addr) (n c : Nat) (w : World) (hE : Env w) (hr : RowAt w w.heap.size A0 4 raw.length (cellsOf encPc raw)) (hrl : raw.length ≤ 9223372036854775807) (hrt : ∀ q ∈ raw, q.text.size ≤ 100000000) (hl : IntsIn w A n) :
    Calls Tryz.prog 8 #[.slice A0 raw.length c0, .slice A n c] w fun e w' => e = .returned (.bool true) ∧ Below w.heap.size w w' := by
  have HE := Lib.hid hE
  generalize hN : raw.length = N at *
  by_cases h30 : 30 < N
  · have hI : (30 : Int) < (N : Int) := by omega
    clear hE hr hl hN hrt h30
    go_enter Tryz.func8, Tryz.ntmps8
    go_wp2_with (go_at_call 11; refine (known_any _ HE.out).mono ?_; rintro e w5 ⟨rfl, hb5⟩)
    go_ret
    exact ⟨rfl, hb5⟩
  have hI : (N : Int) ≤ 30 := by omega
  have Hraw : Hid (SlIn w ⟨A0, c0, raw⟩) := Lib.hid ⟨by rw [hN]; exact hr, (show raw.length ≤ 1000 by omega), hrt⟩
  have HT := Lib.hid (hl.tape c 37)
  have Hw := Lib.hid (below_alloc w (.cells #[.slice A n c, .int .i64 0] 37))
  have HN := Lib.hid hN
  clear hl hE hr hrt hN h30
  go_enter Tryz.func8, Tryz.ntmps8
  go_wp2_with fail
  with_reducible refine (pieces_any _ _ 0 _ HT.out (by omega)).mono ?_
  rintro e w1 ⟨v, l, rfl, hlen, hsm, hps⟩
  obtain ⟨A1, c1, rfl⟩ := own_slice hps.own
  have hst : VSt _ w.heap.size n 0 50 [] w1 := ⟨hps.on, (fun _ hx => by cases hx), hps.lt⟩
  have hb1 := hst.back Hw.out
  have hin1 : SlIn w1 ⟨A1, c1, l⟩ := ⟨RowAt.of_own hps.own, (show l.length ≤ 1000 by omega), fun x hx => by have := (hsm x hx).2.2.1; omega⟩
  have HB1 := Lib.hid hb1
  have Hin1 := Lib.hid hin1
  clear hps hst hb1 hin1 hsm hlen
  go_wp2_with fail
  obtain ⟨W2, hW2⟩ : ∃ W2, w1.alloc (.cells #[.slice A0 N c0, .slice A1 l.length c1] 38) = W2 := ⟨_, rfl⟩
  rw [hW2]
  have hb0 : W2.heap[w1.heap.size]? = some (.cells #[.slice A0 N c0, .slice A1 l.length c1] 38 (0, 0)) := by rw [← hW2]; exact heap_alloc_last _ _
  have hbw : Below w1.heap.size w1 W2 := by rw [← hW2]; exact below_alloc _ _
  have hC : ∀ W', Below W2.heap.size W2 W' → ∀ k, k < 2 → W'.cell? ⟨w1.heap.size, k, none⟩ = some (([⟨A0, c0, raw⟩, ⟨A1, c1, l⟩] : List Sl).getD k ⟨A0, c0, raw⟩).v := fun W' hb k hk => by
    have hbk := (hb.block _ (blk_lt hb0)).trans hb0
    rw [cell_of_row _ _ k _ _ _ hbk]
    have : k = 0 ∨ k = 1 := by omega
    rcases this with rfl | rfl
    · show some (Value.slice A0 N c0) = some (.slice A0 raw.length c0); rw [HN.out]
    · rfl
  have hS : ∀ W', Below W2.heap.size W2 W' → ∀ k, k < 2 → SlIn W' (([⟨A0, c0, raw⟩, ⟨A1, c1, l⟩] : List Sl).getD k ⟨A0, c0, raw⟩) := fun W' hb k hk => by
    have : k = 0 ∨ k = 1 := by omega
    rcases this with rfl | rfl
    · exact (Hraw.out.go HB1.out).go (bt hbw hb)
    · exact Hin1.out.go (bt hbw hb)
  have HC := Lib.hid hC
  have HS := Lib.hid hS
  have Hw2 := Lib.hid (bt HB1.out hbw)
  generalize w1.heap.size = LB at *
  clear hC hS hb0 hbw hW2 HT Hw Hraw Hin1 HB1 HN
  go_loopg [6] 2 (fun gk i wr => ∃ k : Nat, k + gk = 2 ∧ i = .int .i64 k ∧ Hid (Below W2.heap.size W2 wr))
  case atStart => exact ⟨0, by omega, rfl, Below.refl _ _⟩
  case round =>
    obtain ⟨k, hk, rfl, hbr⟩ := hrel
    by_cases hlt : k < 2
    · have hC := fun W' hb => HC.out W' hb k hlt
      have hS := fun W' hb => HS.out W' hb k hlt
      generalize ([⟨A0, c0, raw⟩, ⟨A1, c1, l⟩] : List Sl).getD k ⟨A0, c0, raw⟩ = sk at *
      obtain ⟨Ak, ck, pk⟩ := sk
      unfold Sl.v at hC
      dsimp only at hC
      have HCk := Lib.hid hC
      have HP := Lib.hid (fun (W : World) (hb : Below W2.heap.size W2 W) => Format_any pk Ak pk.length ck W ((HE.out.go Hw2.out).go hb) rfl (hS W hb).row (hS W hb).len (hS W hb).txt)
      have HQ := Lib.hid (fun (W : World) (hb : Below W2.heap.size W2 W) => RFormat_any pk Ak pk.length ck W ((HE.out.go Hw2.out).go hb) rfl (hS W hb).row (hS W hb).len (hS W hb).txt)
      unfold ExpPost at HP HQ
      generalize (formatR pk).1 = fs at *
      generalize (formatR pk).2 = fc at *
      clear hC hS
      have d0 := HCk.out wr hbr.out
      go_wp2_with fail
      refine (HP.out wr hbr.out).mono ?_
      rintro e w3 ⟨rfl, hb3⟩
      have HB3 := Lib.hid (bt hbr.out hb3)
      clear hb3 d0
      have d3 := HCk.out w3 HB3.out
      go_wp2_with fail
      refine (HQ.out w3 HB3.out).mono ?_
      rintro e w4 ⟨rfl, hb4⟩
      have HB4 := Lib.hid (bt HB3.out hb4)
      clear hb4 d3
      go_wp2_with fail
      go_roundg (gk - 1)
      case measure => omega
      case rel => exact ⟨k + 1, by omega, by go_num, HB4.out⟩
    · go_wp2_with (go_at_call 11; refine (known_any _ ((HE.out.go Hw2.out).go hbr.out)).mono ?_; rintro e w3 ⟨rfl, hb3⟩; have HB3 := Lib.hid hb3; clear hb3)
      go_ret
      exact ⟨rfl, bt Hw2.out (bt hbr.out HB3.out)⟩
end Go.Proofs.YtifbcfpaifobjaaGreatDoor
