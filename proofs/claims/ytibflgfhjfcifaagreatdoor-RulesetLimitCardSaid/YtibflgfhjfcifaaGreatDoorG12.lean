/-
  Contract of the reader's piece: a word in braces. (Printed by gen9.py.)
  Contract of Parse: the pieces of a text.
-/
import Derived.Test.YtibflgfhjfcifaaGreatDoorPieceB
namespace Go.Proofs.YtibflgfhjfcifaaGreatDoor
open Go.RowKit
set_option maxRecDepth 100000 in
set_option maxHeartbeats 4000000 in
theorem piece_n9 (g : Nat) (rest : ByteArray) (ps : List Pc) (c : UInt8) (r : Str) (w : World) (h : Rd w g rest ps) (hE : Env w) (hg : nG ≤ g) (hL : L rest = c :: r) (hc : r.head? ≠ some c) (hr : rest.size ≤ 1000) (_hn : ps.length ≤ 10000) (hq : ∀ q ∈ ps, q.text.size ≤ 1000000)
 (hk : kOf c r = 9) (hd : (rOf c r).head? = some 123) (hb : bracesS (rOf c r) = none) :
 Calls Tryz.prog 201 #[.pointer (some ⟨g, 0, none⟩)] w (PiecePost g ps c r w) := by
 obtain ⟨c0, f0⟩ := h.c0
 obtain ⟨e1, e2, h1⟩ := L_cons hL
 have HP : ∀ W, Calls Tryz.prog 48 #[.string (bs r), .string (bs [c])] W fun e w' => e = .returned (.bool false) ∧ W = w' := fun W => (HasPrefix_any (bs r) (bs [c]) W).mono fun e w' h => ⟨by rw [h.1, L_bs, L_bs, prefix_one]; simp [hc], h.2⟩
 have hs : (bs r).size ≤ 1000 := by rw [size_bs]; have := len_L rest; rw [hL] at this; simp at this; omega
 have HK : Calls Tryz.prog 224 #[.pointer (some ⟨g, 0, none⟩), .bool (c == 36)] (w.setCell ⟨g, 0, none⟩ (.string (bs r))) fun e w' => e = .returned (.int .i64 (kOf c r)) ∧ Rd w' g (bs (rOf c r)) ps ∧ Below g (w.setCell ⟨g, 0, none⟩ (.string (bs r))) w' := by
  have := kind_any (c == 36) g (bs r) ps _ (h.cut (bs r)) hs
  rw [L_bs] at this
  exact this
 have hp := pieceS_kind hc
 have hk12 : kOf c r < 12 := kindOf_lt _ _
 have hrl : (bs (rOf c r)).size ≤ 1000 := by rw [size_bs, rOf, List.length_drop]; rw [size_bs] at hs; omega
 have hsg : ((bs [c]).toList == [36]) = (c == 36) := by rw [bs_ne]; simp
 generalize (c == 36) = lg at *
 generalize bs [c] = sg at *
 generalize bs r = s1 at *
 rw [hk] at HK hk12 hp
 generalize rOf c r = rr at *
 have Hp := Lib.hid hp
 have HL := Lib.hid hL
 have hE2 : ∀ w2, Below g (w.setCell ⟨g, 0, none⟩ (.string s1)) w2 → Env w2 := fun w2 hb => (hE.keep ((Below.refl g w).setCell (p := ⟨g, 0, none⟩) (Nat.le_refl _) _) hg).keep hb hg
 have HE := Lib.hid hE2
 clear hL hp h hc hE hE2
 have hrow := forms_row 9 (by decide)
 rw [show braV 9 = .nilFunc from rfl] at hrow
 have hfield := field_bra
 have hneq := neq_nil
 have HQ := Lib.hid hq
 have HP9 : ∀ W, Calls Tryz.prog 48 #[.string (bs rr), .string ⟨#[123]⟩] W fun e w' => e = .returned (.bool true) ∧ W = w' := fun W => (HasPrefix_any (bs rr) ⟨#[123]⟩ W).mono fun e w' h => ⟨by rw [h.1, L_bs]; exact congrArg (fun b => Ending.returned (.bool b)) ((prefix_one rr 123).trans (by rw [hd]; rfl)), h.2⟩
 simp only [Int.cast_ofNat_Int] at HK hrow
 have hps : pieceS c r = none := by
  rw [Hp.out, placeS, if_neg (by decide), if_neg (by decide), if_neg (by decide), if_pos ⟨rfl, hd⟩, hb]; rfl
 have HPS := Lib.hid hps
 have hb' : (bracesS (L (bs rr))).isSome = false := by rw [L_bs, hb]; rfl
 have Hb := Lib.hid hb'
 clear hps hb hb'
 clear hq hs hr hk12 hk hd
 go_enter Tryz.func201, Tryz.ntmps201
 go_wp2_with (first | (go_at_call 48; refine (HP _).mono ?_; rintro e w' ⟨rfl, rfl⟩) | (go_at_call 224; refine HK.mono ?_; rintro e w2 ⟨rfl, hR2, hB2⟩))
 obtain ⟨W3, hW3⟩ : ∃ W3, w2.alloc (.cells #[.int .i64 9, .string ⟨#[]⟩, .int .i64 0, .bool false] 236) = W3 := ⟨_, rfl⟩
 rw [hW3]
 have hblk : W3.heap[w2.heap.size]? = some (.cells #[.int .i64 9, .string ⟨#[]⟩, .int .i64 0, .bool false] 236 (0, 0)) := by rw [← hW3]; exact heap_alloc_new _ _
 have hR3 : Rd W3 g (bs rr) ps := hR2.keep (by rw [← hW3]; exact (Below.refl _ _).alloc (Nat.le_refl _) _)
 have hB3 : Below g w W3 := (((Below.refl g w).setCell (p := ⟨g, 0, none⟩) (Nat.le_refl _) _).trans hB2).trans (by rw [← hW3]; exact (Below.refl _ _).alloc (Nat.le_of_lt hR2.lt) _)
 have hE3 : Env W3 := (HE.out w2 hB2).go (by rw [← hW3]; exact (Below.refl _ _).alloc (Nat.le_refl _) _)
 have hgPB : g < w2.heap.size := hR2.lt
 obtain ⟨v0, hC1, hV0⟩ := hR2.c1
 have hC3 : W3.cell? ⟨g, 1, none⟩ = some v0 := by rw [← hW3]; exact ((Below.refl w2.heap.size w2).alloc (Nat.le_refl _) _ |>.cell (p := ⟨g, 1, none⟩) hgPB).trans hC1
 have hV1 : v0.ownBlock ≠ some w2.heap.size := fun e => Nat.lt_irrefl _ (hV0 _ e)
 generalize w2.heap.size = PB at *
 have HV1 := Lib.hid hV1
 have HC3 := Lib.hid hC3
 have hgW3 := hR3.lt
 clear hC1 hV0 hV1 hC3
 have hPB : PB < W3.heap.size := blk_lt hblk
 have HBlk := Lib.hid hblk
 have HR3 := Lib.hid hR3
 have HB3 := Lib.hid hB3
 have HE3 := Lib.hid hE3
 have q0 : W3.cell? ⟨PB, 0, none⟩ = some (.int .i64 9) := by rw [cell_of_row _ _ 0 _ _ _ hblk]; rfl
 clear hblk hR3 hB3 hE3 hR2 hB2 hW3 HK
 go_region_held3 (fun w' => w'.cell? ⟨PB, 0, none⟩ = some (.int .i64 9) ∧ Below W3.heap.size W3 w') (first | exact ⟨q0, (Below.refl _ _).drew⟩ | exact ⟨(hb0.cell (p := ⟨PB, 0, none⟩) (by simpa using hPB)).trans q0, ((Below.refl _ _).drew).trans hb0⟩) (first | (go_at_call 225; refine (forms_any _).mono ?_; rintro e w0 ⟨rfl, hb0⟩))
 have hW : Below W3.heap.size W3 w0 := ((Below.refl _ _).drew).trans hb0
 have hblk : w0.heap[PB]? = some (.cells #[.int .i64 9, .string ⟨#[]⟩, .int .i64 0, .bool false] 236 (0, 0)) := by rw [hW.block PB hPB]; exact HBlk.out
 have hR0 := HR3.out.keep hW
 have HC0 := Lib.hid ((hW.cell (p := ⟨g, 1, none⟩) hgW3).trans HC3.out)
 have hlt0 := hR0.lt
 have HB0 := Lib.hid (HB3.out.trans (hW.mono (Nat.le_of_lt HR3.out.lt)))
 have HE0 := Lib.hid (HE3.out.go hW)
 have HR0 := Lib.hid hR0
 have q0' : w0.cell? ⟨PB, 0, none⟩ = some (.int .i64 9) := by rw [cell_of_row _ _ 0 _ _ _ hblk]; rfl
 have q1 : w0.cell? ⟨PB, 1, none⟩ = some (.string ⟨#[]⟩) := by rw [cell_of_row _ _ 1 _ _ _ hblk]; rfl
 have q2 : w0.cell? ⟨PB, 2, none⟩ = some (.int .i64 0) := by rw [cell_of_row _ _ 2 _ _ _ hblk]; rfl
 have q3 : w0.cell? ⟨PB, 3, none⟩ = some (.bool false) := by rw [cell_of_row _ _ 3 _ _ _ hblk]; rfl
 obtain ⟨c0', f0'⟩ := hR0.c0
 have hPB0 : PB < w0.heap.size := blk_lt hblk
 have HBlk0 := Lib.hid hblk
 clear hgW3 HC3 hb0 hW q0 HBlk HR3 HB3 HE3 hR0 hPB hblk
 go_wp2_with (go_at_call 48; refine (HP9 _).mono ?_; rintro e w' ⟨rfl, rfl⟩)
 refine (braces_any g (bs rr) ps _ HR0.out HE0.out hrl).mono ?_
 rintro e w5 ⟨t, rest5, rfl, hx, ht, hrest, hR5, hB5, hG5, hC5⟩
 rw [Hb.out]
 have hE5 : Env w5 := (HE0.out).keep hB5 hg
 have HC : Calls Tryz.prog 227 #[.string (t)] w5 (WordPost (t) w5) := word_any _ _ hE5 (Nat.le_trans ht hrl)
 have hblk5 : w5.heap[PB]? = some (.cells #[.int .i64 9, .string ⟨#[]⟩, .int .i64 0, .bool false] 236 (0, 0)) := (hG5.block PB hPB0 (fun e => Nat.lt_irrefl _ (Option.some.inj e ▸ hgPB))).trans HBlk0.out
 have hPB5 : PB < w5.heap.size := blk_lt hblk5
 have HBlk5 := Lib.hid hblk5
 have HC5 := Lib.hid (hC5.trans HC0.out)
 have HR5 := Lib.hid hR5
 have HB5 := Lib.hid hB5
 clear hx hE5 hR5 hB5 hG5 hblk5 hC5
 go_wp2_with fail
 refine HC.mono ?_
 rintro e w6 ⟨n, mo, rfl, hnm, hB6⟩
 have hblk6 : w6.heap[PB]? = some (.cells #[.int .i64 9, .string ⟨#[]⟩, .int .i64 0, .bool false] 236 (0, 0)) := (hB6.block PB hPB5).trans HBlk5.out
 have hR6 : Rd w6 g (rest5) ps := HR5.out.keep hB6
 have z0 : w6.cell? ⟨PB, 0, none⟩ = some (.int .i64 9) := by rw [cell_of_row _ _ 0 _ _ _ hblk6]; rfl
 have z1 : w6.cell? ⟨PB, 1, none⟩ = some (.string ⟨#[]⟩) := by rw [cell_of_row _ _ 1 _ _ _ hblk6]; rfl
 have z2 : w6.cell? ⟨PB, 2, none⟩ = some (.int .i64 0) := by rw [cell_of_row _ _ 2 _ _ _ hblk6]; rfl
 have z3 : w6.cell? ⟨PB, 3, none⟩ = some (.bool false) := by rw [cell_of_row _ _ 3 _ _ _ hblk6]; rfl
 have zf : w6.frozen? ⟨PB, 2, none⟩ = false := frozen_of_row _ _ _ _ _ hblk6
 have zf3 : w6.frozen? ⟨PB, 3, none⟩ = false := frozen_of_row _ _ _ _ _ hblk6
 have hPB6 : PB < w6.heap.size := blk_lt hblk6
 have HC6 := Lib.hid ((hB6.cell (p := ⟨g, 1, none⟩) HR5.out.lt).trans HC5.out)
 have HB6 := Lib.hid (hB6.mono (Nat.le_of_lt HR5.out.lt))
 have HR6 := Lib.hid hR6
 clear hnm hB6 hR6 hblk6 HC
 go_wp2_with fail
 all_goals go_ret
 exact ⟨by rw [HPS.out]; rfl, (fun p r' e => by rw [HPS.out] at e; cases e), (((HB0.out.trans HB5.out).trans HB6.out).setCell (p := ⟨PB, 2, none⟩) (Nat.le_of_lt hgPB) _).setCell (p := ⟨PB, 3, none⟩) (Nat.le_of_lt hgPB) _⟩
set_option maxRecDepth 100000 in
set_option maxHeartbeats 4000000 in
theorem piece_f9 (g : Nat) (rest : ByteArray) (ps : List Pc) (c : UInt8) (r : Str) (w : World) (h : Rd w g rest ps) (hE : Env w) (hg : nG ≤ g) (hL : L rest = c :: r) (hc : r.head? ≠ some c) (hr : rest.size ≤ 1000) (_hn : ps.length ≤ 10000) (hq : ∀ q ∈ ps, q.text.size ≤ 1000000)
 (hk : kOf c r = 9) (hd : (rOf c r).head? = some 123) (a b : Str) (hb : bracesS (rOf c r) = some (a, b)) (hV : countS a = none) :
 Calls Tryz.prog 201 #[.pointer (some ⟨g, 0, none⟩)] w (PiecePost g ps c r w) := by
 obtain ⟨c0, f0⟩ := h.c0
 obtain ⟨e1, e2, h1⟩ := L_cons hL
 have HP : ∀ W, Calls Tryz.prog 48 #[.string (bs r), .string (bs [c])] W fun e w' => e = .returned (.bool false) ∧ W = w' := fun W => (HasPrefix_any (bs r) (bs [c]) W).mono fun e w' h => ⟨by rw [h.1, L_bs, L_bs, prefix_one]; simp [hc], h.2⟩
 have hs : (bs r).size ≤ 1000 := by rw [size_bs]; have := len_L rest; rw [hL] at this; simp at this; omega
 have HK : Calls Tryz.prog 224 #[.pointer (some ⟨g, 0, none⟩), .bool (c == 36)] (w.setCell ⟨g, 0, none⟩ (.string (bs r))) fun e w' => e = .returned (.int .i64 (kOf c r)) ∧ Rd w' g (bs (rOf c r)) ps ∧ Below g (w.setCell ⟨g, 0, none⟩ (.string (bs r))) w' := by
  have := kind_any (c == 36) g (bs r) ps _ (h.cut (bs r)) hs
  rw [L_bs] at this
  exact this
 have hp := pieceS_kind hc
 have hk12 : kOf c r < 12 := kindOf_lt _ _
 have hrl : (bs (rOf c r)).size ≤ 1000 := by rw [size_bs, rOf, List.length_drop]; rw [size_bs] at hs; omega
 have hsg : ((bs [c]).toList == [36]) = (c == 36) := by rw [bs_ne]; simp
 generalize (c == 36) = lg at *
 generalize bs [c] = sg at *
 generalize bs r = s1 at *
 rw [hk] at HK hk12 hp
 generalize rOf c r = rr at *
 have Hp := Lib.hid hp
 have HL := Lib.hid hL
 have hE2 : ∀ w2, Below g (w.setCell ⟨g, 0, none⟩ (.string s1)) w2 → Env w2 := fun w2 hb => (hE.keep ((Below.refl g w).setCell (p := ⟨g, 0, none⟩) (Nat.le_refl _) _) hg).keep hb hg
 have HE := Lib.hid hE2
 clear hL hp h hc hE hE2
 have hrow := forms_row 9 (by decide)
 rw [show braV 9 = .nilFunc from rfl] at hrow
 have hfield := field_bra
 have hneq := neq_nil
 have HQ := Lib.hid hq
 have HP9 : ∀ W, Calls Tryz.prog 48 #[.string (bs rr), .string ⟨#[123]⟩] W fun e w' => e = .returned (.bool true) ∧ W = w' := fun W => (HasPrefix_any (bs rr) ⟨#[123]⟩ W).mono fun e w' h => ⟨by rw [h.1, L_bs]; exact congrArg (fun b => Ending.returned (.bool b)) ((prefix_one rr 123).trans (by rw [hd]; rfl)), h.2⟩
 simp only [Int.cast_ofNat_Int] at HK hrow
 have hps : pieceS c r = none := by
  rw [Hp.out, placeS, if_neg (by decide), if_neg (by decide), if_neg (by decide), if_pos ⟨rfl, hd⟩, hb]; simp [hV]
 have HPS := Lib.hid hps
 have hb' : (bracesS (L (bs rr))).isSome = true := by rw [L_bs, hb]; rfl
 have hb2 : bracesS (L (bs rr)) = some (a, b) := by rw [L_bs, hb]
 have Hb := Lib.hid hb'
 have Hb2 := Lib.hid hb2
 have HVV := Lib.hid hV
 clear hps hb hb' hb2 hV
 clear hq hs hr hk12 hk hd
 go_enter Tryz.func201, Tryz.ntmps201
 go_wp2_with (first | (go_at_call 48; refine (HP _).mono ?_; rintro e w' ⟨rfl, rfl⟩) | (go_at_call 224; refine HK.mono ?_; rintro e w2 ⟨rfl, hR2, hB2⟩))
 obtain ⟨W3, hW3⟩ : ∃ W3, w2.alloc (.cells #[.int .i64 9, .string ⟨#[]⟩, .int .i64 0, .bool false] 236) = W3 := ⟨_, rfl⟩
 rw [hW3]
 have hblk : W3.heap[w2.heap.size]? = some (.cells #[.int .i64 9, .string ⟨#[]⟩, .int .i64 0, .bool false] 236 (0, 0)) := by rw [← hW3]; exact heap_alloc_new _ _
 have hR3 : Rd W3 g (bs rr) ps := hR2.keep (by rw [← hW3]; exact (Below.refl _ _).alloc (Nat.le_refl _) _)
 have hB3 : Below g w W3 := (((Below.refl g w).setCell (p := ⟨g, 0, none⟩) (Nat.le_refl _) _).trans hB2).trans (by rw [← hW3]; exact (Below.refl _ _).alloc (Nat.le_of_lt hR2.lt) _)
 have hE3 : Env W3 := (HE.out w2 hB2).go (by rw [← hW3]; exact (Below.refl _ _).alloc (Nat.le_refl _) _)
 have hgPB : g < w2.heap.size := hR2.lt
 obtain ⟨v0, hC1, hV0⟩ := hR2.c1
 have hC3 : W3.cell? ⟨g, 1, none⟩ = some v0 := by rw [← hW3]; exact ((Below.refl w2.heap.size w2).alloc (Nat.le_refl _) _ |>.cell (p := ⟨g, 1, none⟩) hgPB).trans hC1
 have hV1 : v0.ownBlock ≠ some w2.heap.size := fun e => Nat.lt_irrefl _ (hV0 _ e)
 generalize w2.heap.size = PB at *
 have HV1 := Lib.hid hV1
 have HC3 := Lib.hid hC3
 have hgW3 := hR3.lt
 clear hC1 hV0 hV1 hC3
 have hPB : PB < W3.heap.size := blk_lt hblk
 have HBlk := Lib.hid hblk
 have HR3 := Lib.hid hR3
 have HB3 := Lib.hid hB3
 have HE3 := Lib.hid hE3
 have q0 : W3.cell? ⟨PB, 0, none⟩ = some (.int .i64 9) := by rw [cell_of_row _ _ 0 _ _ _ hblk]; rfl
 clear hblk hR3 hB3 hE3 hR2 hB2 hW3 HK
 go_region_held3 (fun w' => w'.cell? ⟨PB, 0, none⟩ = some (.int .i64 9) ∧ Below W3.heap.size W3 w') (first | exact ⟨q0, (Below.refl _ _).drew⟩ | exact ⟨(hb0.cell (p := ⟨PB, 0, none⟩) (by simpa using hPB)).trans q0, ((Below.refl _ _).drew).trans hb0⟩) (first | (go_at_call 225; refine (forms_any _).mono ?_; rintro e w0 ⟨rfl, hb0⟩))
 have hW : Below W3.heap.size W3 w0 := ((Below.refl _ _).drew).trans hb0
 have hblk : w0.heap[PB]? = some (.cells #[.int .i64 9, .string ⟨#[]⟩, .int .i64 0, .bool false] 236 (0, 0)) := by rw [hW.block PB hPB]; exact HBlk.out
 have hR0 := HR3.out.keep hW
 have HC0 := Lib.hid ((hW.cell (p := ⟨g, 1, none⟩) hgW3).trans HC3.out)
 have hlt0 := hR0.lt
 have HB0 := Lib.hid (HB3.out.trans (hW.mono (Nat.le_of_lt HR3.out.lt)))
 have HE0 := Lib.hid (HE3.out.go hW)
 have HR0 := Lib.hid hR0
 have q0' : w0.cell? ⟨PB, 0, none⟩ = some (.int .i64 9) := by rw [cell_of_row _ _ 0 _ _ _ hblk]; rfl
 have q1 : w0.cell? ⟨PB, 1, none⟩ = some (.string ⟨#[]⟩) := by rw [cell_of_row _ _ 1 _ _ _ hblk]; rfl
 have q2 : w0.cell? ⟨PB, 2, none⟩ = some (.int .i64 0) := by rw [cell_of_row _ _ 2 _ _ _ hblk]; rfl
 have q3 : w0.cell? ⟨PB, 3, none⟩ = some (.bool false) := by rw [cell_of_row _ _ 3 _ _ _ hblk]; rfl
 obtain ⟨c0', f0'⟩ := hR0.c0
 have hPB0 : PB < w0.heap.size := blk_lt hblk
 have HBlk0 := Lib.hid hblk
 clear hgW3 HC3 hb0 hW q0 HBlk HR3 HB3 HE3 hR0 hPB hblk
 go_wp2_with (go_at_call 48; refine (HP9 _).mono ?_; rintro e w' ⟨rfl, rfl⟩)
 refine (braces_any g (bs rr) ps _ HR0.out HE0.out hrl).mono ?_
 rintro e w5 ⟨t, rest5, rfl, hx, ht, hrest, hR5, hB5, hG5, hC5⟩
 rw [Hb.out]
 obtain ⟨rfl, rfl⟩ := hx a b Hb2.out
 have hE5 : Env w5 := (HE0.out).keep hB5 hg
 have HC : Calls Tryz.prog 227 #[.string (bs a)] w5 (WordPost (bs a) w5) := word_any _ _ hE5 (Nat.le_trans ht hrl)
 have hblk5 : w5.heap[PB]? = some (.cells #[.int .i64 9, .string ⟨#[]⟩, .int .i64 0, .bool false] 236 (0, 0)) := (hG5.block PB hPB0 (fun e => Nat.lt_irrefl _ (Option.some.inj e ▸ hgPB))).trans HBlk0.out
 have hPB5 : PB < w5.heap.size := blk_lt hblk5
 have HBlk5 := Lib.hid hblk5
 have HC5 := Lib.hid (hC5.trans HC0.out)
 have HR5 := Lib.hid hR5
 have HB5 := Lib.hid hB5
 clear hx hE5 hR5 hB5 hG5 hblk5 hC5
 go_wp2_with fail
 refine HC.mono ?_
 rintro e w6 ⟨n, mo, rfl, hnm, hB6⟩
 have hblk6 : w6.heap[PB]? = some (.cells #[.int .i64 9, .string ⟨#[]⟩, .int .i64 0, .bool false] 236 (0, 0)) := (hB6.block PB hPB5).trans HBlk5.out
 have hR6 : Rd w6 g (bs b) ps := HR5.out.keep hB6
 have z0 : w6.cell? ⟨PB, 0, none⟩ = some (.int .i64 9) := by rw [cell_of_row _ _ 0 _ _ _ hblk6]; rfl
 have z1 : w6.cell? ⟨PB, 1, none⟩ = some (.string ⟨#[]⟩) := by rw [cell_of_row _ _ 1 _ _ _ hblk6]; rfl
 have z2 : w6.cell? ⟨PB, 2, none⟩ = some (.int .i64 0) := by rw [cell_of_row _ _ 2 _ _ _ hblk6]; rfl
 have z3 : w6.cell? ⟨PB, 3, none⟩ = some (.bool false) := by rw [cell_of_row _ _ 3 _ _ _ hblk6]; rfl
 have zf : w6.frozen? ⟨PB, 2, none⟩ = false := frozen_of_row _ _ _ _ _ hblk6
 have zf3 : w6.frozen? ⟨PB, 3, none⟩ = false := frozen_of_row _ _ _ _ _ hblk6
 have hPB6 : PB < w6.heap.size := blk_lt hblk6
 have HC6 := Lib.hid ((hB6.cell (p := ⟨g, 1, none⟩) HR5.out.lt).trans HC5.out)
 have HB6 := Lib.hid (hB6.mono (Nat.le_of_lt HR5.out.lt))
 have HR6 := Lib.hid hR6
 rw [L_bs, HVV.out]
 clear hnm hB6 hR6 hblk6 HC
 go_wp2_with fail
 all_goals go_ret
 exact ⟨by rw [HPS.out]; rfl, (fun p r' e => by rw [HPS.out] at e; cases e), (((HB0.out.trans HB5.out).trans HB6.out).setCell (p := ⟨PB, 2, none⟩) (Nat.le_of_lt hgPB) _).setCell (p := ⟨PB, 3, none⟩) (Nat.le_of_lt hgPB) _⟩
set_option maxRecDepth 100000 in
set_option maxHeartbeats 4000000 in
theorem piece_t9 (g : Nat) (rest : ByteArray) (ps : List Pc) (c : UInt8) (r : Str) (w : World) (h : Rd w g rest ps) (hE : Env w) (hg : nG ≤ g) (hL : L rest = c :: r) (hc : r.head? ≠ some c) (hr : rest.size ≤ 1000) (hn : ps.length ≤ 10000) (hq : ∀ q ∈ ps, q.text.size ≤ 1000000)
 (hk : kOf c r = 9) (hd : (rOf c r).head? = some 123) (a b : Str) (hb : bracesS (rOf c r) = some (a, b)) (n0 : Int) (m0 : Bool) (hV : countS a = some (n0, m0)) :
 Calls Tryz.prog 201 #[.pointer (some ⟨g, 0, none⟩)] w (PiecePost g ps c r w) := by
 obtain ⟨c0, f0⟩ := h.c0
 obtain ⟨e1, e2, h1⟩ := L_cons hL
 have HP : ∀ W, Calls Tryz.prog 48 #[.string (bs r), .string (bs [c])] W fun e w' => e = .returned (.bool false) ∧ W = w' := fun W => (HasPrefix_any (bs r) (bs [c]) W).mono fun e w' h => ⟨by rw [h.1, L_bs, L_bs, prefix_one]; simp [hc], h.2⟩
 have hs : (bs r).size ≤ 1000 := by rw [size_bs]; have := len_L rest; rw [hL] at this; simp at this; omega
 have HK : Calls Tryz.prog 224 #[.pointer (some ⟨g, 0, none⟩), .bool (c == 36)] (w.setCell ⟨g, 0, none⟩ (.string (bs r))) fun e w' => e = .returned (.int .i64 (kOf c r)) ∧ Rd w' g (bs (rOf c r)) ps ∧ Below g (w.setCell ⟨g, 0, none⟩ (.string (bs r))) w' := by
  have := kind_any (c == 36) g (bs r) ps _ (h.cut (bs r)) hs
  rw [L_bs] at this
  exact this
 have hp := pieceS_kind hc
 have hk12 : kOf c r < 12 := kindOf_lt _ _
 have hrl : (bs (rOf c r)).size ≤ 1000 := by rw [size_bs, rOf, List.length_drop]; rw [size_bs] at hs; omega
 have hsg : ((bs [c]).toList == [36]) = (c == 36) := by rw [bs_ne]; simp
 generalize (c == 36) = lg at *
 generalize bs [c] = sg at *
 generalize bs r = s1 at *
 rw [hk] at HK hk12 hp
 generalize rOf c r = rr at *
 have Hp := Lib.hid hp
 have HL := Lib.hid hL
 have hE2 : ∀ w2, Below g (w.setCell ⟨g, 0, none⟩ (.string s1)) w2 → Env w2 := fun w2 hb => (hE.keep ((Below.refl g w).setCell (p := ⟨g, 0, none⟩) (Nat.le_refl _) _) hg).keep hb hg
 have HE := Lib.hid hE2
 clear hL hp h hc hE hE2
 have hrow := forms_row 9 (by decide)
 rw [show braV 9 = .nilFunc from rfl] at hrow
 have hfield := field_bra
 have hneq := neq_nil
 have HQ := Lib.hid hq
 have HP9 : ∀ W, Calls Tryz.prog 48 #[.string (bs rr), .string ⟨#[123]⟩] W fun e w' => e = .returned (.bool true) ∧ W = w' := fun W => (HasPrefix_any (bs rr) ⟨#[123]⟩ W).mono fun e w' h => ⟨by rw [h.1, L_bs]; exact congrArg (fun b => Ending.returned (.bool b)) ((prefix_one rr 123).trans (by rw [hd]; rfl)), h.2⟩
 simp only [Int.cast_ofNat_Int] at HK hrow
 have hps : pieceS c r = some (⟨9, bs [], n0, m0⟩, b) := by
  rw [Hp.out, placeS, if_neg (by decide), if_neg (by decide), if_neg (by decide), if_pos ⟨rfl, hd⟩, hb]; simp [hV]
 have HPS := Lib.hid hps
 have hb' : (bracesS (L (bs rr))).isSome = true := by rw [L_bs, hb]; rfl
 have hb2 : bracesS (L (bs rr)) = some (a, b) := by rw [L_bs, hb]
 have Hb := Lib.hid hb'
 have Hb2 := Lib.hid hb2
 have HVV := Lib.hid hV
 clear hps hb hb' hb2 hV
 clear hq hs hr hk12 hk hd
 go_enter Tryz.func201, Tryz.ntmps201
 go_wp2_with (first | (go_at_call 48; refine (HP _).mono ?_; rintro e w' ⟨rfl, rfl⟩) | (go_at_call 224; refine HK.mono ?_; rintro e w2 ⟨rfl, hR2, hB2⟩))
 obtain ⟨W3, hW3⟩ : ∃ W3, w2.alloc (.cells #[.int .i64 9, .string ⟨#[]⟩, .int .i64 0, .bool false] 236) = W3 := ⟨_, rfl⟩
 rw [hW3]
 have hblk : W3.heap[w2.heap.size]? = some (.cells #[.int .i64 9, .string ⟨#[]⟩, .int .i64 0, .bool false] 236 (0, 0)) := by rw [← hW3]; exact heap_alloc_new _ _
 have hR3 : Rd W3 g (bs rr) ps := hR2.keep (by rw [← hW3]; exact (Below.refl _ _).alloc (Nat.le_refl _) _)
 have hB3 : Below g w W3 := (((Below.refl g w).setCell (p := ⟨g, 0, none⟩) (Nat.le_refl _) _).trans hB2).trans (by rw [← hW3]; exact (Below.refl _ _).alloc (Nat.le_of_lt hR2.lt) _)
 have hE3 : Env W3 := (HE.out w2 hB2).go (by rw [← hW3]; exact (Below.refl _ _).alloc (Nat.le_refl _) _)
 have hgPB : g < w2.heap.size := hR2.lt
 obtain ⟨v0, hC1, hV0⟩ := hR2.c1
 have hC3 : W3.cell? ⟨g, 1, none⟩ = some v0 := by rw [← hW3]; exact ((Below.refl w2.heap.size w2).alloc (Nat.le_refl _) _ |>.cell (p := ⟨g, 1, none⟩) hgPB).trans hC1
 have hV1 : v0.ownBlock ≠ some w2.heap.size := fun e => Nat.lt_irrefl _ (hV0 _ e)
 generalize w2.heap.size = PB at *
 have HV1 := Lib.hid hV1
 have HC3 := Lib.hid hC3
 have hgW3 := hR3.lt
 clear hC1 hV0 hV1 hC3
 have hPB : PB < W3.heap.size := blk_lt hblk
 have HBlk := Lib.hid hblk
 have HR3 := Lib.hid hR3
 have HB3 := Lib.hid hB3
 have HE3 := Lib.hid hE3
 have q0 : W3.cell? ⟨PB, 0, none⟩ = some (.int .i64 9) := by rw [cell_of_row _ _ 0 _ _ _ hblk]; rfl
 clear hblk hR3 hB3 hE3 hR2 hB2 hW3 HK
 go_region_held3 (fun w' => w'.cell? ⟨PB, 0, none⟩ = some (.int .i64 9) ∧ Below W3.heap.size W3 w') (first | exact ⟨q0, (Below.refl _ _).drew⟩ | exact ⟨(hb0.cell (p := ⟨PB, 0, none⟩) (by simpa using hPB)).trans q0, ((Below.refl _ _).drew).trans hb0⟩) (first | (go_at_call 225; refine (forms_any _).mono ?_; rintro e w0 ⟨rfl, hb0⟩))
 have hW : Below W3.heap.size W3 w0 := ((Below.refl _ _).drew).trans hb0
 have hblk : w0.heap[PB]? = some (.cells #[.int .i64 9, .string ⟨#[]⟩, .int .i64 0, .bool false] 236 (0, 0)) := by rw [hW.block PB hPB]; exact HBlk.out
 have hR0 := HR3.out.keep hW
 have HC0 := Lib.hid ((hW.cell (p := ⟨g, 1, none⟩) hgW3).trans HC3.out)
 have hlt0 := hR0.lt
 have HB0 := Lib.hid (HB3.out.trans (hW.mono (Nat.le_of_lt HR3.out.lt)))
 have HE0 := Lib.hid (HE3.out.go hW)
 have HR0 := Lib.hid hR0
 have q0' : w0.cell? ⟨PB, 0, none⟩ = some (.int .i64 9) := by rw [cell_of_row _ _ 0 _ _ _ hblk]; rfl
 have q1 : w0.cell? ⟨PB, 1, none⟩ = some (.string ⟨#[]⟩) := by rw [cell_of_row _ _ 1 _ _ _ hblk]; rfl
 have q2 : w0.cell? ⟨PB, 2, none⟩ = some (.int .i64 0) := by rw [cell_of_row _ _ 2 _ _ _ hblk]; rfl
 have q3 : w0.cell? ⟨PB, 3, none⟩ = some (.bool false) := by rw [cell_of_row _ _ 3 _ _ _ hblk]; rfl
 obtain ⟨c0', f0'⟩ := hR0.c0
 have hPB0 : PB < w0.heap.size := blk_lt hblk
 have HBlk0 := Lib.hid hblk
 clear hgW3 HC3 hb0 hW q0 HBlk HR3 HB3 HE3 hR0 hPB hblk
 go_wp2_with (go_at_call 48; refine (HP9 _).mono ?_; rintro e w' ⟨rfl, rfl⟩)
 refine (braces_any g (bs rr) ps _ HR0.out HE0.out hrl).mono ?_
 rintro e w5 ⟨t, rest5, rfl, hx, ht, hrest, hR5, hB5, hG5, hC5⟩
 rw [Hb.out]
 obtain ⟨rfl, rfl⟩ := hx a b Hb2.out
 have hE5 : Env w5 := (HE0.out).keep hB5 hg
 have HC : Calls Tryz.prog 227 #[.string (bs a)] w5 (WordPost (bs a) w5) := word_any _ _ hE5 (Nat.le_trans ht hrl)
 have hblk5 : w5.heap[PB]? = some (.cells #[.int .i64 9, .string ⟨#[]⟩, .int .i64 0, .bool false] 236 (0, 0)) := (hG5.block PB hPB0 (fun e => Nat.lt_irrefl _ (Option.some.inj e ▸ hgPB))).trans HBlk0.out
 have hPB5 : PB < w5.heap.size := blk_lt hblk5
 have HBlk5 := Lib.hid hblk5
 have HC5 := Lib.hid (hC5.trans HC0.out)
 have HR5 := Lib.hid hR5
 have HB5 := Lib.hid hB5
 clear hx hE5 hR5 hB5 hG5 hblk5 hC5
 go_wp2_with fail
 refine HC.mono ?_
 rintro e w6 ⟨n, mo, rfl, hnm, hB6⟩
 have hblk6 : w6.heap[PB]? = some (.cells #[.int .i64 9, .string ⟨#[]⟩, .int .i64 0, .bool false] 236 (0, 0)) := (hB6.block PB hPB5).trans HBlk5.out
 have hR6 : Rd w6 g (bs b) ps := HR5.out.keep hB6
 have z0 : w6.cell? ⟨PB, 0, none⟩ = some (.int .i64 9) := by rw [cell_of_row _ _ 0 _ _ _ hblk6]; rfl
 have z1 : w6.cell? ⟨PB, 1, none⟩ = some (.string ⟨#[]⟩) := by rw [cell_of_row _ _ 1 _ _ _ hblk6]; rfl
 have z2 : w6.cell? ⟨PB, 2, none⟩ = some (.int .i64 0) := by rw [cell_of_row _ _ 2 _ _ _ hblk6]; rfl
 have z3 : w6.cell? ⟨PB, 3, none⟩ = some (.bool false) := by rw [cell_of_row _ _ 3 _ _ _ hblk6]; rfl
 have zf : w6.frozen? ⟨PB, 2, none⟩ = false := frozen_of_row _ _ _ _ _ hblk6
 have zf3 : w6.frozen? ⟨PB, 3, none⟩ = false := frozen_of_row _ _ _ _ _ hblk6
 have hPB6 : PB < w6.heap.size := blk_lt hblk6
 have HC6 := Lib.hid ((hB6.cell (p := ⟨g, 1, none⟩) HR5.out.lt).trans HC5.out)
 have HB6 := Lib.hid (hB6.mono (Nat.le_of_lt HR5.out.lt))
 have HR6 := Lib.hid hR6
 rw [L_bs, HVV.out]
 have hnm2 := hnm n0 m0 (by rw [L_bs]; exact HVV.out)
 obtain ⟨rfl, rfl⟩ := hnm2
 clear hnm hB6 hR6 hblk6 HC
 go_wp2_with fail
 have hR7 : Rd ((w6.setCell ⟨PB, 2, none⟩ (.int .i64 n)).setCell ⟨PB, 3, none⟩ (.bool mo)) g (bs b) ps := (HR6.out.other HC6.out HV1.out (Nat.ne_of_lt hgPB) 2 _).other ((World.cell?_setCell_other _ _ _ _ (by simp)).trans HC6.out) HV1.out (Nat.ne_of_lt hgPB) 3 _
 have hB7 : Below g w ((w6.setCell ⟨PB, 2, none⟩ (.int .i64 n)).setCell ⟨PB, 3, none⟩ (.bool mo)) := (((HB0.out.trans HB5.out).trans HB6.out).setCell (p := ⟨PB, 2, none⟩) (Nat.le_of_lt hgPB) _).setCell (p := ⟨PB, 3, none⟩) (Nat.le_of_lt hgPB) _
 have HB7 := Lib.hid hB7
 with_reducible refine (add_any g (bs b) ps ⟨9, ⟨#[]⟩, n, mo⟩ _ hR7 hn HQ.out (Nat.zero_le _) (fun e => absurd (show (9 : Int) = 1 from e) (by decide))).mono ?_
 rintro e w8 ⟨rfl, hR8, hB8⟩
 go_wp2
 go_ret
 refine ⟨by rw [HPS.out]; rfl, fun p r' e => ?_, HB7.out.trans hB8⟩
 rw [HPS.out] at e
 injection e with e
 injection e with e4 e5
 rw [← e4, ← e5]
 exact ⟨bs b, L_bs b, hR8⟩
theorem kindOf_ne1 (long : Bool) (w : Str) : kindOf long w ≠ 1 := by
 unfold kindOf
 cases h : (List.range 12).find? (isKind long w) with
 | none => simp
 | some k =>
   intro e
   have e : k = 1 := e
   subst e
   have := List.find?_some h
   cases w with
   | nil => simp [isKind] at this
   | cons a t => cases long <;> simp [isKind, longN, shortN] at this
theorem kOf_ne1 (c : UInt8) (r : Str) : kOf c r ≠ 1 := kindOf_ne1 _ _
theorem piece_any (g : Nat) (rest : ByteArray) (ps : List Pc) (c : UInt8) (r : Str) (w : World) (h : Rd w g rest ps) (hE : Env w) (hg : nG ≤ g) (hL : L rest = c :: r) (hr : rest.size ≤ 1000) (hn : ps.length ≤ 10000) (hq : ∀ q ∈ ps, q.text.size ≤ 1000000) :
 Calls Tryz.prog 201 #[.pointer (some ⟨g, 0, none⟩)] w (PiecePost g ps c r w) := by
 by_cases hc : r.head? = some c
 · exact piece_twice g rest ps c r w h hL hc hr hn hq
 by_cases h0 : kOf c r = 0
 · exact piece_none g rest ps c r w h hL hc hr h0
 by_cases h7 : kOf c r = 7
 · cases hb : bracesS (rOf c r) with
   | none => exact piece_n7 g rest ps c r w h hE hg hL hc hr hn hq h7 hb
   | some ab =>
     obtain ⟨a, b⟩ := ab
     cases hV : validS a with
     | false => exact piece_sf7 g rest ps c r w h hE hg hL hc hr hn hq h7 a b hb hV
     | true => exact piece_st7 g rest ps c r w h hE hg hL hc hr hn hq h7 a b hb hV
 by_cases h8 : kOf c r = 8
 · cases hb : bracesS (rOf c r) with
   | none => exact piece_n8 g rest ps c r w h hE hg hL hc hr hn hq h8 hb
   | some ab =>
     obtain ⟨a, b⟩ := ab
     cases hV : keyS a with
     | false => exact piece_sf8 g rest ps c r w h hE hg hL hc hr hn hq h8 a b hb hV
     | true => exact piece_st8 g rest ps c r w h hE hg hL hc hr hn hq h8 a b hb hV
 by_cases h9 : kOf c r = 9 ∧ (rOf c r).head? = some 123
 · cases hb : bracesS (rOf c r) with
   | none => exact piece_n9 g rest ps c r w h hE hg hL hc hr hn hq h9.1 h9.2 hb
   | some ab =>
     obtain ⟨a, b⟩ := ab
     cases hV : countS a with
     | none => exact piece_f9 g rest ps c r w h hE hg hL hc hr hn hq h9.1 h9.2 a b hb hV
     | some nm => exact piece_t9 g rest ps c r w h hE hg hL hc hr hn hq h9.1 h9.2 a b hb nm.1 nm.2 hV
 exact piece_plain g rest ps c r w h hE hg hL hc hr hn hq h0 h7 h8 h9 (kOf_ne1 c r)
end Go.Proofs.YtibflgfhjfcifaaGreatDoor
namespace Go.Proofs.YtibflgfhjfcifaaGreatDoor
open Go.RowKit
theorem cut_len2 (s sep : Str) : (Lib.cut s sep).1.length + (Lib.cut s sep).2.1.length ≤ s.length := by
 unfold Lib.cut
 split
 · dsimp only; rw [List.length_take, List.length_drop]; omega
 · simp
theorem bracesS_len {r a b : Str} (h : bracesS r = some (a, b)) : a.length + b.length ≤ r.length := by
 cases r with
 | nil => simp [bracesS] at h
 | cons x t =>
   rw [bracesS] at h
   have := cut_len2 t [125]
   split at h
   · split at h
     · injection h with h
       injection h with h1 h2
       subst h1 h2
       rw [List.length_cons]
       omega
     · cases h
   · cases h
theorem placeS_len {k : Nat} {r r' : Str} {p : Pc} (h : placeS k r = some (p, r')) : p.text.size + r'.length ≤ r.length := by
 unfold placeS at h
 split at h
 · cases h
 split at h
 · cases hb : bracesS r with
   | none => rw [hb] at h; cases h
   | some ab =>
     obtain ⟨a, b⟩ := ab
     have hl := bracesS_len hb
     rw [hb] at h
     simp only [Option.bind_some] at h
     split at h
     · injection h with h
       injection h with h1 h2
       subst h1 h2
       dsimp only
       rw [size_bs]; exact hl
     · cases h
 split at h
 · cases hb : bracesS r with
   | none => rw [hb] at h; cases h
   | some ab =>
     obtain ⟨a, b⟩ := ab
     have hl := bracesS_len hb
     rw [hb] at h
     simp only [Option.bind_some] at h
     split at h
     · injection h with h
       injection h with h1 h2
       subst h1 h2
       dsimp only
       rw [size_bs]; exact hl
     · cases h
 split at h
 · cases hb : bracesS r with
   | none => rw [hb] at h; cases h
   | some ab =>
     obtain ⟨a, b⟩ := ab
     have hl := bracesS_len hb
     rw [hb] at h
     simp only [Option.bind_some] at h
     cases hc : countS a with
     | none => rw [hc] at h; cases h
     | some nm =>
       rw [hc] at h
       simp only [Option.map_some] at h
       injection h with h
       injection h with h1 h2
       subst h1 h2
       dsimp only
       rw [size_bs]; simp; omega
 · injection h with h
   injection h with h1 h2
   subst h1 h2
   dsimp only
   rw [size_bs]; simp
theorem pieceS_len {c : UInt8} {r r' : Str} {p : Pc} (h : pieceS c r = some (p, r')) : p.text.size + r'.length ≤ r.length + 1 := by
 unfold pieceS at h
 split at h
 · injection h with h
   injection h with h1 h2
   subst h1 h2
   simp only [txt]
   rw [size_bs, List.length_tail]; simp; omega
 · have := placeS_len h
   rw [List.length_drop] at this
   omega
theorem pieceS_len' {c : UInt8} {r r' : Str} {p : Pc} (h : pieceS c r = some (p, r')) : r'.length ≤ r.length := by
 unfold pieceS at h
 split at h
 · injection h with h
   injection h with h1 h2
   subst h1 h2
   rw [List.length_tail]; omega
 · have := placeS_len h
   rw [List.length_drop] at this
   omega
theorem cut_mem (s sep : Str) : ∀ x ∈ (Lib.cut s sep).2.1, x ∈ s := by
 unfold Lib.cut
 split
 · intro x hx; exact List.mem_of_mem_drop hx
 · intro x hx; cases hx
theorem bracesS_mem {r a b : Str} (h : bracesS r = some (a, b)) : ∀ x ∈ b, x ∈ r := by
 cases r with
 | nil => simp [bracesS] at h
 | cons x t =>
   rw [bracesS] at h
   have := cut_mem t [125]
   split at h
   · split at h
     · injection h with h
       injection h with h1 h2
       subst h1 h2
       exact fun y hy => List.mem_cons_of_mem _ (this y hy)
     · cases h
   · cases h
theorem placeS_mem {k : Nat} {r r' : Str} {p : Pc} (h : placeS k r = some (p, r')) : ∀ x ∈ r', x ∈ r := by
 unfold placeS at h
 cases hb : bracesS r with
 | none =>
   simp only [hb, Option.bind_none] at h
   repeat' split at h
   all_goals first | (cases h; done) | (injection h with h; injection h with h1 h2; subst h2; exact fun x hx => hx)
 | some ab =>
   obtain ⟨a, b⟩ := ab
   have hm := bracesS_mem hb
   simp only [hb, Option.bind_some] at h
   split at h
   · cases h
   split at h
   · split at h
     · injection h with h; injection h with h1 h2; subst h2; exact hm
     · cases h
   split at h
   · split at h
     · injection h with h; injection h with h1 h2; subst h2; exact hm
     · cases h
   split at h
   · cases hc : countS a with
     | none => rw [hc] at h; cases h
     | some nm =>
       rw [hc] at h
       simp only [Option.map_some] at h
       injection h with h; injection h with h1 h2; subst h2; exact hm
   · injection h with h; injection h with h1 h2; subst h2; exact fun x hx => hx
theorem pieceS_mem {c : UInt8} {r r' : Str} {p : Pc} (h : pieceS c r = some (p, r')) : ∀ x ∈ r', x ∈ r := by
 unfold pieceS at h
 split at h
 · injection h with h
   injection h with h1 h2
   subst h2
   exact fun x hx => List.mem_of_mem_tail hx
 · have := placeS_mem h
   exact fun x hx => List.mem_of_mem_drop (this x hx)
theorem parseF_fuel : ∀ (n m : Nat) (r : Str) (acc : List Pc), r.length ≤ n → r.length ≤ m → parseF n r acc = parseF m r acc := by
 intro n
 induction n with
 | zero =>
   intro m r acc h1 h2
   cases r with
   | nil => cases m <;> rfl
   | cons c r => simp at h1
 | succ n ih =>
   intro m r acc h1 h2
   cases r with
   | nil => cases m <;> rfl
   | cons c r =>
     cases m with
     | zero => simp at h2
     | succ m =>
       simp only [List.length_cons] at h1 h2
       rw [parseF, parseF]
       split
       · cases hp : pieceS c r with
         | none => rfl
         | some pr' =>
           obtain ⟨p, r'⟩ := pr'
           have := pieceS_len' hp
           exact ih m r' _ (by omega) (by omega)
       · exact ih m r _ (by omega) (by omega)
def Fits (n : Nat) (ps : List Pc) : Prop := ps.length + n ≤ 256 ∧ ∀ q ∈ ps, q.text.size + n ≤ 256
theorem Fits.add {n m : Nat} {ps : List Pc} (h : Fits n ps) (hn : n ≤ 256) {p : Pc} (h1 : p.text.size + m ≤ n) (h2 : m + 1 ≤ n) : Fits m (addP ps p) := by
 unfold addP
 split
 · rename_i hk
   rcases List.eq_nil_or_concat ps with h0 | ⟨l, q, h0⟩
   · subst h0
     exact ⟨by simp [setLast]; omega, fun q hq => by simp [setLast] at hq⟩
   · rw [List.concat_eq_append] at h0
     subst h0
     rw [setLast_snoc]
     have := h.1
     simp only [List.length_append, List.length_singleton] at this
     refine ⟨by simp only [List.length_append, List.length_singleton]; omega, fun x hx => ?_⟩
     rcases List.mem_append.1 hx with hx | hx
     · have := h.2 x (by simp [hx]); omega
     · simp only [List.mem_singleton] at hx
       subst hx
       have := h.2 q (by simp)
       dsimp only
       rw [ByteArray.size_append]
       omega
 · refine ⟨by have := h.1; simp only [List.length_append, List.length_singleton]; omega, fun x hx => ?_⟩
   rcases List.mem_append.1 hx with hx | hx
   · have := h.2 x hx; omega
   · simp only [List.mem_singleton] at hx
     subst hx
     omega
def parseR (s : Str) : List Pc × Int := if 256 < s.length then ([], 91) else if textS s then match parseS s with
 | some ps => (ps, 0)
 | none => ([], 90)
 else ([], 90)
def ParsePost (s : Str) (w : World) (e : Ending) (w' : World) : Prop :=
 ∃ v, e = .returned (.tuple #[v, .int .i64 (parseR s).2]) ∧ w'.ownsRow w.heap.size 236 4 v (parseR s).1.length (cellsOf encPc (parseR s).1) ∧ Below w.heap.size w w'
theorem indexAny_find (l : Str) : (Lib.indexAny l [36, 37] = -1 ∧ ∀ c ∈ l, sign c = false) ∨ ∃ k : Nat, k < l.length ∧ Lib.indexAny l [36, 37] = k ∧ (∀ c ∈ l.take k, sign c = false) ∧ ∃ c, l[k]? = some c ∧ sign c = true := by
 induction l with
 | nil => left; exact ⟨rfl, fun c h => by cases h⟩
 | cons b l ih =>
   have hs : [36, 37].contains b = sign b := by
    rw [Bool.eq_iff_iff]; simp [sign]
   by_cases hb : sign b = true
   · right
     refine ⟨0, by simp, ?_, fun c h => by simp at h, b, rfl, hb⟩
     rw [Lib.indexAny, hs, hb]; rfl
   · have hb : sign b = false := by simpa using hb
     have e : Lib.indexAny (b :: l) [36, 37] = if Lib.indexAny l [36, 37] == -1 then -1 else Lib.indexAny l [36, 37] + 1 := by
      rw [Lib.indexAny, hs, hb]; rfl
     rcases ih with ⟨h1, h2⟩ | ⟨k, hk, h1, h2, c, hc, h3⟩
     · left
       refine ⟨by rw [e, h1]; rfl, fun c hc => ?_⟩
       rcases List.mem_cons.1 hc with rfl | hc
       · exact hb
       · exact h2 c hc
     · right
       refine ⟨k + 1, by simp; omega, ?_, fun c' hc' => ?_, c, by simpa using hc, h3⟩
       · rw [e, h1]
         rw [if_neg (by simp)]
         exact (Int.natCast_succ k).symm
       · rw [List.take_succ_cons] at hc'
         rcases List.mem_cons.1 hc' with rfl | hc'
         · exact hb
         · exact h2 c' hc'
theorem add_text (g : Nat) (rest : ByteArray) (ps : List Pc) (t : ByteArray) (w : World) (h : Rd w g rest ps) (hn : ps.length ≤ 10000) (hq : ∀ q ∈ ps, q.text.size ≤ 1000000) (ht : t.size ≤ 1000000) :
 Calls Tryz.prog 200 #[.pointer (some ⟨g, 0, none⟩), .agg #[.int .i64 1, .string t, .int .i64 0, .bool false]] w (AddPost g rest ps (txt t) w) := add_any g rest ps (txt t) w h hn hq ht (fun _ => rfl)
set_option maxRecDepth 100000 in
set_option maxHeartbeats 2000000 in
theorem Parse_any (s : ByteArray) (w : World) (hE : Env w) (hs : s.size ≤ 9223372036854775807) :
 Calls Tryz.prog 173 #[.string s] w (ParsePost (L s) w) := by
 have hEs := hE.size
 by_cases h256 : 256 < s.size
 · have hR : parseR (L s) = ([], 91) := by rw [parseR, len_L, if_pos h256]
   have HR := Lib.hid hR
   clear hR
   go_enter Tryz.func173, Tryz.ntmps173
   go_wp2
   go_ret2
   exact ⟨.slice none 0 0, by rw [HR.out]; rfl, by rw [HR.out]; exact ⟨rfl, .inl ⟨rfl, rfl⟩⟩, Below.refl _ _⟩
 have h256 : s.size ≤ 256 := by omega
 have HT := Text_any s w hs
 cases ht : textS (L s)
 · have hR : parseR (L s) = ([], 90) := by rw [parseR, len_L, if_neg (by omega), ht]; rfl
   have HR := Lib.hid hR
   rw [ht] at HT
   clear hR ht
   go_enter Tryz.func173, Tryz.ntmps173
   go_wp2_with (go_at_call 197; refine HT.mono ?_; rintro e w' ⟨rfl, rfl⟩)
   go_ret2
   exact ⟨.slice none 0 0, by rw [HR.out]; rfl, by rw [HR.out]; exact ⟨rfl, .inl ⟨rfl, rfl⟩⟩, Below.refl _ _⟩
 rw [ht] at HT
 have hasc : ∀ c ∈ L s, c.toNat < 128 := by
  have h1 : printS (L s) = true := by rw [textS] at ht; simp at ht; exact ht.1
  intro c hc
  have := List.all_eq_true.1 h1 c hc
  simp [pr] at this
  omega
 have hR : parseR (L s) = match parseS (L s) with
  | some ps => (ps, 0)
  | none => ([], 90) := by rw [parseR, len_L, if_neg (by omega), ht]; rfl
 have HR := Lib.hid hR
 have HA := Lib.hid hasc
 clear hR ht hasc
 go_enter Tryz.func173, Tryz.ntmps173
 go_wp2_with (go_at_call 197; refine HT.mono ?_; rintro e w' ⟨rfl, rfl⟩)
 obtain ⟨W1, hW1⟩ : ∃ W1, w.alloc (.cells #[.string s, .slice none 0 0] 233) = W1 := ⟨_, rfl⟩
 rw [hW1]
 have hR1 : Rd W1 w.heap.size s [] := ⟨.slice none 0 0, by rw [← hW1]; exact heap_alloc_new _ _, rfl, .inl ⟨rfl, rfl⟩⟩
 have hB1 : Below w.heap.size w W1 := by rw [← hW1]; exact (Below.refl _ _).alloc (Nat.le_refl _) _
 have hE1 := hE.go hB1
 have HR1 := Lib.hid hR1
 have HB1 := Lib.hid hB1
 have HE1 := Lib.hid hE1
 have HEw := Lib.hid hE
 clear hR1 hB1 hE1 hW1 hE HT
 go_loopg [5] s.size (fun gk i wr => ∃ rest ps, rest.size ≤ gk ∧ rest.size ≤ 256 ∧ Hid (Rd wr w.heap.size rest ps) ∧ Hid (Below w.heap.size w wr) ∧ Hid (Fits rest.size ps) ∧ Hid (parseS (L s) = parseF rest.size (L rest) ps) ∧ Hid (∀ c ∈ L rest, c.toNat < 128))
 case atStart => exact ⟨s, [], Nat.le_refl _, h256, HR1.out, HB1.out, ⟨by simp; omega, fun q hq => by cases hq⟩, (by show parseS (L s) = _; rw [parseS, len_L]), HA.out⟩
 case round =>
  obtain ⟨rest, ps, hgk, hrz, hRd, hBl, hF, hP, hAs⟩ := hrel
  have hc0 := hRd.out.c0
  obtain ⟨c0, f0⟩ := hc0
  have hlt := hRd.out.lt
  by_cases h0 : rest = ⟨#[]⟩
  · subst h0
    obtain ⟨v, hh, ho⟩ := hRd.out.ex
    have c1 : wr.cell? ⟨w.heap.size, 1, none⟩ = some v := by rw [cell_of_row _ _ 1 _ _ _ hh]; rfl
    have Ho := Lib.hid ho
    clear hh ho
    have hres : parseR (L s) = (ps, 0) := by rw [HR.out, hP.out]; rfl
    have HRes := Lib.hid hres
    clear hres
    go_wp2
    go_ret2
    exact ⟨v, by rw [HRes.out]; rfl, by rw [HRes.out]; exact ⟨Ho.out.1, by
     rcases Ho.out.2 with h | ⟨g, cap, cur, h1, h2, h3⟩
     · exact .inl h
     · exact .inr ⟨g, cap, cur, h1, by omega, h3⟩⟩, hBl.out⟩
  · have h0' : rest.toList ≠ [] := fun e => h0 (L_inj (by rw [← tl, e]))
    have h0'' : rest.toList.isEmpty = false := by simpa using h0'
    have hpos : 1 ≤ rest.size := by
     rcases Nat.eq_zero_or_pos rest.size with h | h
     · exact absurd (L_inj (by have := len_L rest; rw [h] at this; exact (List.length_eq_zero_iff.1 this).trans rfl)) h0
     · exact h
    have HI := Tryz.strings_IndexAny_laid rest ⟨#[36, 37]⟩ wr (by omega) (by decide) (fun j b hb => hAs.out b (List.mem_of_getElem? hb)) (fun j b hb => by
     have : b ∈ ([36, 37] : Str) := List.mem_of_getElem? hb
     simp at this
     rcases this with rfl | rfl <;> decide)
    change Calls _ _ _ _ (fun e w' => e = .returned (.int .i64 (Lib.indexAny (L rest) [36, 37])) ∧ Below wr.heap.size wr w') at HI
    have hfind := indexAny_find (L rest)
    rw [len_L] at hfind
    generalize Lib.indexAny (L rest) [36, 37] = ix at *
    have HRun : Hid (∀ q : Nat, 0 < q → q ≤ rest.size → (∀ c ∈ (L rest).take q, sign c = false) → parseS (L s) = parseF (rest.size - q) ((L rest).drop q) (addP ps (txt (rest.extract 0 q)))) := fun q hq0 hq1 hq2 => by
     have hl : ((L rest).take q).length = q := by rw [List.length_take, len_L]; omega
     have := parseF_run ((L rest).take q) ((L rest).drop q) hq2 (fun e => by rw [e] at hl; simp at hl; omega) (rest.size - q) ps
     rw [hl, List.take_append_drop, Nat.sub_add_cancel hq1] at this
     rw [hP.out, this]
     congr 3
     exact (eq_bs (by rw [L_extract, List.drop_zero])).symm
    rcases hfind with ⟨rfl, hno⟩ | ⟨k, hk, rfl, hno, c, hck, hsc⟩
    · have HNo := Lib.hid hno
      clear hno h0
      go_wp2_with (go_at_call 199; refine HI.mono ?_; rintro e w1 ⟨rfl, hb1⟩; have c1 := (hRd.out.keep hb1).c0; obtain ⟨c1, f1⟩ := c1)
      have hF1 := hF.out.1
      have hF2 : ∀ q ∈ ps, q.text.size ≤ 1000000 := fun q hq => by have := hF.out.2 q hq; omega
      have HAdd := add_text w.heap.size rest ps rest w1 (hRd.out.keep hb1) (by omega) hF2 (by omega)
      with_reducible refine HAdd.mono ?_
      rintro e w2 ⟨rfl, hR2, hB2⟩
      obtain ⟨c2, f2⟩ := hR2.c0
      have hlt2 := hR2.lt
      have hR3 := Lib.hid (hR2.cut ⟨#[]⟩)
      have hB3 := Lib.hid (((hBl.out.trans (hb1.mono (Nat.le_of_lt hlt))).trans hB2).setCell (p := ⟨w.heap.size, 0, none⟩) (Nat.le_refl _) (.string ⟨#[]⟩))
      clear hb1 hR2 hB2 hF2
      go_wp2_with fail
      have he : rest.extract rest.size rest.size = ⟨#[]⟩ := L_inj (by rw [L_extract]; simp)
      go_roundg (gk - 1)
      case measure => omega
      case rel =>
       refine ⟨⟨#[]⟩, addP ps (txt rest), Nat.zero_le _, Nat.zero_le _, ?_, ?_, ?_, ?_, fun c hc => by cases hc⟩
       · first | exact hR3.out | (rw [he]; exact hR3.out)
       · first | exact hB3.out | (rw [he]; exact hB3.out)
       · exact hF.out.add hrz (p := txt rest) (m := 0) (by show rest.size + 0 ≤ rest.size; omega) (by omega)
       · have := HRun.out rest.size hpos (Nat.le_refl _) (fun c hc => HNo.out c (List.mem_of_mem_take hc))
         rw [this, Nat.sub_self, List.drop_of_length_le (by rw [len_L]; exact Nat.le_refl _), show rest.extract 0 rest.size = rest from L_inj (by rw [L_extract, List.drop_zero, List.take_of_length_le (by rw [len_L]; exact Nat.le_refl _)])]
         rfl
    · by_cases hk0 : k = 0
      · subst hk0
        have hL : ∃ r, L rest = c :: r := by
         cases hl : L rest with
         | nil => rw [hl] at hck; simp at hck
         | cons a b => rw [hl] at hck; simp at hck; exact ⟨b, by rw [hck]⟩
        obtain ⟨r, hL⟩ := hL
        have hrl : r.length + 1 = rest.size := by rw [← len_L, hL]; rfl
        have HPc := fun W (hb : Below wr.heap.size wr W) => piece_any w.heap.size rest ps c r W (hRd.out.keep hb) (HEw.out.keep (hBl.out.trans (hb.mono (Nat.le_of_lt hlt))) hEs) hEs hL (by omega) (by have := hF.out.1; omega) (fun q hq => by have := hF.out.2 q hq; omega)
        have hpf : parseF rest.size (L rest) ps = match pieceS c r with
         | some (p, r') => parseF r.length r' (addP ps p)
         | none => none := by rw [← hrl, hL, parseF, hsc]; rfl
        have HPF := Lib.hid hpf
        have HLr := Lib.hid hL
        have HPL : Hid (∀ p r', pieceS c r = some (p, r') → p.text.size + r'.length ≤ r.length + 1 ∧ r'.length ≤ r.length) := fun p r' e => ⟨pieceS_len e, pieceS_len' e⟩
        clear hpf hL hck hsc hno h0 hk
        cases hpc : pieceS c r with
        | none =>
          have HPC := Lib.hid hpc
          have HPc' : ∀ W, Below wr.heap.size wr W → Calls Tryz.prog 201 #[.pointer (some ⟨w.heap.size, 0, none⟩)] W fun e w' => e = .returned (.bool false) ∧ Below w.heap.size W w' := fun W hb => (HPc W hb).mono fun e w' h => ⟨by rw [h.1, hpc]; rfl, h.2.2⟩
          have hres : parseR (L s) = ([], 90) := by rw [HR.out, hP.out, HPF.out, hpc]
          have HRes := Lib.hid hres
          clear hres hpc HPc
          go_wp2_with (first | (go_at_call 199; refine HI.mono ?_; rintro e w1 ⟨rfl, hb1⟩; have c1 := (hRd.out.keep hb1).c0; obtain ⟨c1, f1⟩ := c1; have HB1 := Lib.hid hb1) | (go_at_call 201; refine (HPc' _ hb1).mono ?_; rintro e w2 ⟨rfl, hb2⟩))
          go_ret2
          exact ⟨.slice none 0 0, by rw [HRes.out]; rfl, by rw [HRes.out]; exact ⟨rfl, .inl ⟨rfl, rfl⟩⟩, (hBl.out.trans (HB1.out.mono (Nat.le_of_lt hlt))).trans hb2⟩
        | some pr' =>
          obtain ⟨p, r'⟩ := pr'
          have HPC := Lib.hid hpc
          have HPc' : ∀ W, Below wr.heap.size wr W → Calls Tryz.prog 201 #[.pointer (some ⟨w.heap.size, 0, none⟩)] W fun e w' => e = .returned (.bool true) ∧ (∃ rest', L rest' = r' ∧ Rd w' w.heap.size rest' (addP ps p)) ∧ Below w.heap.size W w' := fun W hb => (HPc W hb).mono fun e w' h => ⟨by rw [h.1, hpc]; rfl, h.2.1 p r' hpc, h.2.2⟩
          have hpf2 : parseS (L s) = parseF r.length r' (addP ps p) := by rw [hP.out, HPF.out, hpc]
          have HPF2 := Lib.hid hpf2
          clear hpf2 hpc HPc
          go_wp2_with (first | (go_at_call 199; refine HI.mono ?_; rintro e w1 ⟨rfl, hb1⟩; have c1 := (hRd.out.keep hb1).c0; obtain ⟨c1, f1⟩ := c1; have HB1 := Lib.hid hb1) | (go_at_call 201; refine (HPc' _ hb1).mono ?_; rintro e w2 ⟨rfl, ⟨rest', hLr, hR2⟩, hb2⟩))
          have hl2 := HPL.out p r' HPC.out
          have hz2 : rest'.size = r'.length := by rw [← len_L, hLr]
          go_roundg (gk - 1)
          case measure => omega
          case rel =>
           refine ⟨rest', addP ps p, by omega, by omega, hR2, (hBl.out.trans (HB1.out.mono (Nat.le_of_lt hlt))).trans hb2, ?_, ?_, ?_⟩
           · exact hF.out.add hrz (p := p) (by omega) (by omega)
           · show _ = _
             rw [HPF2.out, hLr, hz2]
             exact parseF_fuel _ _ _ _ hl2.2 (Nat.le_refl _)
           · intro c' hc'
             exact hAs.out c' (by rw [HLr.out]; exact List.mem_cons_of_mem _ (pieceS_mem HPC.out c' (hLr ▸ hc')))
      · have HNo := Lib.hid hno
        have hkp : 0 < k := by omega
        have hki : (0 : Int) < (k : Int) := by omega
        have hkr : (k : Int) ≤ (rest.size : Int) := by omega
        have hz : (rest.extract 0 k).size ≤ 1000000 := by rw [size_extract]; omega
        clear hno h0 hk0
        go_wp2_with (go_at_call 199; refine HI.mono ?_; rintro e w1 ⟨rfl, hb1⟩; have c1 := (hRd.out.keep hb1).c0; obtain ⟨c1, f1⟩ := c1)
        have hF1 := hF.out.1
        have hF2 : ∀ q ∈ ps, q.text.size ≤ 1000000 := fun q hq => by have := hF.out.2 q hq; omega
        have HAdd := add_text w.heap.size rest ps (rest.extract 0 k) w1 (hRd.out.keep hb1) (by omega) hF2 hz
        with_reducible refine HAdd.mono ?_
        rintro e w2 ⟨rfl, hR2, hB2⟩
        obtain ⟨c2, f2⟩ := hR2.c0
        have hlt2 := hR2.lt
        have hR3 := Lib.hid (hR2.cut (rest.extract k rest.size))
        have hB3 := Lib.hid (((hBl.out.trans (hb1.mono (Nat.le_of_lt hlt))).trans hB2).setCell (p := ⟨w.heap.size, 0, none⟩) (Nat.le_refl _) (.string (rest.extract k rest.size)))
        clear hb1 hR2 hB2 hF2
        go_wp2_with fail
        have hsz : (rest.extract k rest.size).size = rest.size - k := by rw [size_extract]; omega
        have hdr : L (rest.extract k rest.size) = (L rest).drop k := by rw [L_extract, List.take_of_length_le (by rw [len_L]; exact Nat.le_refl _)]
        go_roundg (gk - 1)
        case measure => omega
        case rel =>
         refine ⟨rest.extract k rest.size, addP ps (txt (rest.extract 0 k)), by omega, by omega, hR3.out, hB3.out, ?_, ?_, ?_⟩
         · exact hF.out.add hrz (p := txt (rest.extract 0 k)) (by rw [show (txt (rest.extract 0 k)).text.size = (rest.extract 0 k).size from rfl, hsz, size_extract]; omega) (by omega)
         · have := HRun.out k hkp (by omega) HNo.out
           show _ = _
           rw [this, hsz, hdr]
         · exact fun c hc => hAs.out c (List.mem_of_mem_drop (hdr ▸ hc))
set_option maxRecDepth 100000 in
set_option maxHeartbeats 1000000 in
theorem Check_any (s : ByteArray) (w : World) (hE : Env w) (hs : s.size ≤ 9223372036854775807) :
 Calls Tryz.prog 146 #[.string s] w fun e w' => e = .returned (.int .i64 (parseR (L s)).2) ∧ Below w.heap.size w w' := by
 have HP := Parse_any s w hE hs
 clear hE
 go_enter Tryz.func146, Tryz.ntmps146
 go_wp2_with (go_at_call 173; refine HP.mono ?_; rintro e w' ⟨v, rfl, _, hb⟩)
 go_ret
 exact ⟨rfl, hb⟩
def encP (p : Pc) : Value := .agg #[.int .i64 p.kind, .string p.text, .int .i64 p.word, .bool p.more]
end Go.Proofs.YtibflgfhjfcifaaGreatDoor
