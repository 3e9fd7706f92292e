/-
  Contract of the reader's piece: the kinds with braces. (Printed by gen78.py.)
-/
import Derived.Test.YtibflgfhjfcifaaGreatDoorG10
namespace Go.Proofs.YtibflgfhjfcifaaGreatDoor
open Go.RowKit
set_option maxRecDepth 100000 in
set_option maxHeartbeats 4000000 in
theorem piece_n7 (g : Nat) (rest : ByteArray) (ps : List Pc) (c : UInt8) (r : Str) (w : World) (h : Rd w g rest ps) (hE : Env w) (hg : nG ≤ g) (hL : L rest = c :: r) (hc : r.head? ≠ some c) (hr : rest.size ≤ 1000) (_hn : ps.length ≤ 10000) (hq : ∀ q ∈ ps, q.text.size ≤ 1000000)
 (hk : kOf c r = 7) (hb : bracesS (rOf c r) = none) :
 Calls Tryz.prog 201 #[.pointer (some ⟨g, 0, none⟩)] w (PiecePost g ps c r w) := by
 obtain ⟨c0, f0⟩ := h.c0
 obtain ⟨e1, e2, h1⟩ := L_cons hL
 have HP : ∀ W, Calls Tryz.prog 48 #[.string (bs r), .string (bs [c])] W fun e w' => e = .returned (.bool false) ∧ W = w' := fun W => (HasPrefix_any (bs r) (bs [c]) W).mono fun e w' h => ⟨by rw [h.1, L_bs, L_bs, prefix_one]; simp [hc], h.2⟩
 have hs : (bs r).size ≤ 1000 := by rw [size_bs]; have := len_L rest; rw [hL] at this; simp at this; omega
 have HK : Calls Tryz.prog 224 #[.pointer (some ⟨g, 0, none⟩), .bool (c == 36)] (w.setCell ⟨g, 0, none⟩ (.string (bs r))) fun e w' => e = .returned (.int .i64 (kOf c r)) ∧ Rd w' g (bs (rOf c r)) ps ∧ Below g (w.setCell ⟨g, 0, none⟩ (.string (bs r))) w' := by
  have := kind_any (c == 36) g (bs r) ps _ (h.cut (bs r)) hs
  rw [L_bs] at this
  exact this
 have hp := pieceS_kind hc
 have hk12 : kOf c r < 12 := kindOf_lt _ _
 have hrl : (bs (rOf c r)).size ≤ 1000 := by rw [size_bs, rOf, List.length_drop]; rw [size_bs] at hs; omega
 have hsg : ((bs [c]).toList == [36]) = (c == 36) := by rw [bs_ne]; simp
 generalize (c == 36) = lg at *
 generalize bs [c] = sg at *
 generalize bs r = s1 at *
 rw [hk] at HK hk12 hp
 generalize rOf c r = rr at *
 have Hp := Lib.hid hp
 have HL := Lib.hid hL
 have hE2 : ∀ w2, Below g (w.setCell ⟨g, 0, none⟩ (.string s1)) w2 → Env w2 := fun w2 hb => (hE.keep ((Below.refl g w).setCell (p := ⟨g, 0, none⟩) (Nat.le_refl _) _) hg).keep hb hg
 have HE := Lib.hid hE2
 clear hL hp h hc hE hE2
 have hrow := forms_row 7 (by decide)
 rw [show braV 7 = .func (.func 70) #[] #[] from rfl] at hrow
 have hfield := field_bra
 have hneq := neq_func
 have HQ := Lib.hid hq
 simp only [Int.cast_ofNat_Int] at HK hrow
 have hps : pieceS c r = none := by
  rw [Hp.out, placeS, if_neg (by decide), if_pos rfl, hb]; rfl
 have HPS := Lib.hid hps
 have hb' : (bracesS (L (bs rr))).isSome = false := by rw [L_bs, hb]; rfl
 have Hb := Lib.hid hb'
 clear hps hb hb'
 clear hq hs hr hk12 hk
 go_enter Tryz.func201, Tryz.ntmps201
 go_wp2_with (first | (go_at_call 48; refine (HP _).mono ?_; rintro e w' ⟨rfl, rfl⟩) | (go_at_call 224; refine HK.mono ?_; rintro e w2 ⟨rfl, hR2, hB2⟩))
 obtain ⟨W3, hW3⟩ : ∃ W3, w2.alloc (.cells #[.int .i64 7, .string ⟨#[]⟩, .int .i64 0, .bool false] 236) = W3 := ⟨_, rfl⟩
 rw [hW3]
 have hblk : W3.heap[w2.heap.size]? = some (.cells #[.int .i64 7, .string ⟨#[]⟩, .int .i64 0, .bool false] 236 (0, 0)) := by rw [← hW3]; exact heap_alloc_new _ _
 have hR3 : Rd W3 g (bs rr) ps := hR2.keep (by rw [← hW3]; exact (Below.refl _ _).alloc (Nat.le_refl _) _)
 have hB3 : Below g w W3 := (((Below.refl g w).setCell (p := ⟨g, 0, none⟩) (Nat.le_refl _) _).trans hB2).trans (by rw [← hW3]; exact (Below.refl _ _).alloc (Nat.le_of_lt hR2.lt) _)
 have hE3 : Env W3 := (HE.out w2 hB2).go (by rw [← hW3]; exact (Below.refl _ _).alloc (Nat.le_refl _) _)
 have hgPB : g < w2.heap.size := hR2.lt
 obtain ⟨v0, hC1, hV0⟩ := hR2.c1
 have hC3 : W3.cell? ⟨g, 1, none⟩ = some v0 := by rw [← hW3]; exact ((Below.refl w2.heap.size w2).alloc (Nat.le_refl _) _ |>.cell (p := ⟨g, 1, none⟩) hgPB).trans hC1
 have hV1 : v0.ownBlock ≠ some w2.heap.size := fun e => Nat.lt_irrefl _ (hV0 _ e)
 generalize w2.heap.size = PB at *
 have HV1 := Lib.hid hV1
 have HC3 := Lib.hid hC3
 have hgW3 := hR3.lt
 clear hC1 hV0 hV1 hC3
 have hPB : PB < W3.heap.size := blk_lt hblk
 have HBlk := Lib.hid hblk
 have HR3 := Lib.hid hR3
 have HB3 := Lib.hid hB3
 have HE3 := Lib.hid hE3
 have q0 : W3.cell? ⟨PB, 0, none⟩ = some (.int .i64 7) := by rw [cell_of_row _ _ 0 _ _ _ hblk]; rfl
 clear hblk hR3 hB3 hE3 hR2 hB2 hW3 HK
 go_region_held3 (fun w' => w'.cell? ⟨PB, 0, none⟩ = some (.int .i64 7) ∧ Below W3.heap.size W3 w') (first | exact ⟨q0, (Below.refl _ _).drew⟩ | exact ⟨(hb0.cell (p := ⟨PB, 0, none⟩) (by simpa using hPB)).trans q0, ((Below.refl _ _).drew).trans hb0⟩) (first | (go_at_call 225; refine (forms_any _).mono ?_; rintro e w0 ⟨rfl, hb0⟩))
 have hW : Below W3.heap.size W3 w0 := ((Below.refl _ _).drew).trans hb0
 have hblk : w0.heap[PB]? = some (.cells #[.int .i64 7, .string ⟨#[]⟩, .int .i64 0, .bool false] 236 (0, 0)) := by rw [hW.block PB hPB]; exact HBlk.out
 have hR0 := HR3.out.keep hW
 have HC0 := Lib.hid ((hW.cell (p := ⟨g, 1, none⟩) hgW3).trans HC3.out)
 have hlt0 := hR0.lt
 have HB0 := Lib.hid (HB3.out.trans (hW.mono (Nat.le_of_lt HR3.out.lt)))
 have HE0 := Lib.hid (HE3.out.go hW)
 have HR0 := Lib.hid hR0
 have q0' : w0.cell? ⟨PB, 0, none⟩ = some (.int .i64 7) := by rw [cell_of_row _ _ 0 _ _ _ hblk]; rfl
 have q1 : w0.cell? ⟨PB, 1, none⟩ = some (.string ⟨#[]⟩) := by rw [cell_of_row _ _ 1 _ _ _ hblk]; rfl
 have q2 : w0.cell? ⟨PB, 2, none⟩ = some (.int .i64 0) := by rw [cell_of_row _ _ 2 _ _ _ hblk]; rfl
 have q3 : w0.cell? ⟨PB, 3, none⟩ = some (.bool false) := by rw [cell_of_row _ _ 3 _ _ _ hblk]; rfl
 obtain ⟨c0', f0'⟩ := hR0.c0
 have hPB0 : PB < w0.heap.size := blk_lt hblk
 have HBlk0 := Lib.hid hblk
 clear hgW3 HC3 hb0 hW q0 HBlk HR3 HB3 HE3 hR0 hPB hblk
 go_wp2_with fail
 refine (braces_any g (bs rr) ps _ HR0.out HE0.out hrl).mono ?_
 rintro e w5 ⟨t, rest5, rfl, _, _, _, hR5, hB5, _, _⟩
 rw [Hb.out]
 go_wp2
 go_ret
 exact ⟨by rw [HPS.out]; rfl, (fun p r' e => by rw [HPS.out] at e; cases e), HB0.out.trans hB5⟩
set_option maxRecDepth 100000 in
set_option maxHeartbeats 4000000 in
theorem piece_sf7 (g : Nat) (rest : ByteArray) (ps : List Pc) (c : UInt8) (r : Str) (w : World) (h : Rd w g rest ps) (hE : Env w) (hg : nG ≤ g) (hL : L rest = c :: r) (hc : r.head? ≠ some c) (hr : rest.size ≤ 1000) (_hn : ps.length ≤ 10000) (hq : ∀ q ∈ ps, q.text.size ≤ 1000000)
 (hk : kOf c r = 7) (a b : Str) (hb : bracesS (rOf c r) = some (a, b)) (hV : validS a = false) :
 Calls Tryz.prog 201 #[.pointer (some ⟨g, 0, none⟩)] w (PiecePost g ps c r w) := by
 obtain ⟨c0, f0⟩ := h.c0
 obtain ⟨e1, e2, h1⟩ := L_cons hL
 have HP : ∀ W, Calls Tryz.prog 48 #[.string (bs r), .string (bs [c])] W fun e w' => e = .returned (.bool false) ∧ W = w' := fun W => (HasPrefix_any (bs r) (bs [c]) W).mono fun e w' h => ⟨by rw [h.1, L_bs, L_bs, prefix_one]; simp [hc], h.2⟩
 have hs : (bs r).size ≤ 1000 := by rw [size_bs]; have := len_L rest; rw [hL] at this; simp at this; omega
 have HK : Calls Tryz.prog 224 #[.pointer (some ⟨g, 0, none⟩), .bool (c == 36)] (w.setCell ⟨g, 0, none⟩ (.string (bs r))) fun e w' => e = .returned (.int .i64 (kOf c r)) ∧ Rd w' g (bs (rOf c r)) ps ∧ Below g (w.setCell ⟨g, 0, none⟩ (.string (bs r))) w' := by
  have := kind_any (c == 36) g (bs r) ps _ (h.cut (bs r)) hs
  rw [L_bs] at this
  exact this
 have hp := pieceS_kind hc
 have hk12 : kOf c r < 12 := kindOf_lt _ _
 have hrl : (bs (rOf c r)).size ≤ 1000 := by rw [size_bs, rOf, List.length_drop]; rw [size_bs] at hs; omega
 have hsg : ((bs [c]).toList == [36]) = (c == 36) := by rw [bs_ne]; simp
 generalize (c == 36) = lg at *
 generalize bs [c] = sg at *
 generalize bs r = s1 at *
 rw [hk] at HK hk12 hp
 generalize rOf c r = rr at *
 have Hp := Lib.hid hp
 have HL := Lib.hid hL
 have hE2 : ∀ w2, Below g (w.setCell ⟨g, 0, none⟩ (.string s1)) w2 → Env w2 := fun w2 hb => (hE.keep ((Below.refl g w).setCell (p := ⟨g, 0, none⟩) (Nat.le_refl _) _) hg).keep hb hg
 have HE := Lib.hid hE2
 clear hL hp h hc hE hE2
 have hrow := forms_row 7 (by decide)
 rw [show braV 7 = .func (.func 70) #[] #[] from rfl] at hrow
 have hfield := field_bra
 have hneq := neq_func
 have HQ := Lib.hid hq
 simp only [Int.cast_ofNat_Int] at HK hrow
 have hps : pieceS c r = none := by
  rw [Hp.out, placeS, if_neg (by decide), if_pos rfl, hb]; simp [hV]
 have HPS := Lib.hid hps
 have hb' : (bracesS (L (bs rr))).isSome = true := by rw [L_bs, hb]; rfl
 have hb2 : bracesS (L (bs rr)) = some (a, b) := by rw [L_bs, hb]
 have Hb := Lib.hid hb'
 have Hb2 := Lib.hid hb2
 have HVV := Lib.hid hV
 clear hps hb hb' hb2 hV
 clear hq hs hr hk12 hk
 go_enter Tryz.func201, Tryz.ntmps201
 go_wp2_with (first | (go_at_call 48; refine (HP _).mono ?_; rintro e w' ⟨rfl, rfl⟩) | (go_at_call 224; refine HK.mono ?_; rintro e w2 ⟨rfl, hR2, hB2⟩))
 obtain ⟨W3, hW3⟩ : ∃ W3, w2.alloc (.cells #[.int .i64 7, .string ⟨#[]⟩, .int .i64 0, .bool false] 236) = W3 := ⟨_, rfl⟩
 rw [hW3]
 have hblk : W3.heap[w2.heap.size]? = some (.cells #[.int .i64 7, .string ⟨#[]⟩, .int .i64 0, .bool false] 236 (0, 0)) := by rw [← hW3]; exact heap_alloc_new _ _
 have hR3 : Rd W3 g (bs rr) ps := hR2.keep (by rw [← hW3]; exact (Below.refl _ _).alloc (Nat.le_refl _) _)
 have hB3 : Below g w W3 := (((Below.refl g w).setCell (p := ⟨g, 0, none⟩) (Nat.le_refl _) _).trans hB2).trans (by rw [← hW3]; exact (Below.refl _ _).alloc (Nat.le_of_lt hR2.lt) _)
 have hE3 : Env W3 := (HE.out w2 hB2).go (by rw [← hW3]; exact (Below.refl _ _).alloc (Nat.le_refl _) _)
 have hgPB : g < w2.heap.size := hR2.lt
 obtain ⟨v0, hC1, hV0⟩ := hR2.c1
 have hC3 : W3.cell? ⟨g, 1, none⟩ = some v0 := by rw [← hW3]; exact ((Below.refl w2.heap.size w2).alloc (Nat.le_refl _) _ |>.cell (p := ⟨g, 1, none⟩) hgPB).trans hC1
 have hV1 : v0.ownBlock ≠ some w2.heap.size := fun e => Nat.lt_irrefl _ (hV0 _ e)
 generalize w2.heap.size = PB at *
 have HV1 := Lib.hid hV1
 have HC3 := Lib.hid hC3
 have hgW3 := hR3.lt
 clear hC1 hV0 hV1 hC3
 have hPB : PB < W3.heap.size := blk_lt hblk
 have HBlk := Lib.hid hblk
 have HR3 := Lib.hid hR3
 have HB3 := Lib.hid hB3
 have HE3 := Lib.hid hE3
 have q0 : W3.cell? ⟨PB, 0, none⟩ = some (.int .i64 7) := by rw [cell_of_row _ _ 0 _ _ _ hblk]; rfl
 clear hblk hR3 hB3 hE3 hR2 hB2 hW3 HK
 go_region_held3 (fun w' => w'.cell? ⟨PB, 0, none⟩ = some (.int .i64 7) ∧ Below W3.heap.size W3 w') (first | exact ⟨q0, (Below.refl _ _).drew⟩ | exact ⟨(hb0.cell (p := ⟨PB, 0, none⟩) (by simpa using hPB)).trans q0, ((Below.refl _ _).drew).trans hb0⟩) (first | (go_at_call 225; refine (forms_any _).mono ?_; rintro e w0 ⟨rfl, hb0⟩))
 have hW : Below W3.heap.size W3 w0 := ((Below.refl _ _).drew).trans hb0
 have hblk : w0.heap[PB]? = some (.cells #[.int .i64 7, .string ⟨#[]⟩, .int .i64 0, .bool false] 236 (0, 0)) := by rw [hW.block PB hPB]; exact HBlk.out
 have hR0 := HR3.out.keep hW
 have HC0 := Lib.hid ((hW.cell (p := ⟨g, 1, none⟩) hgW3).trans HC3.out)
 have hlt0 := hR0.lt
 have HB0 := Lib.hid (HB3.out.trans (hW.mono (Nat.le_of_lt HR3.out.lt)))
 have HE0 := Lib.hid (HE3.out.go hW)
 have HR0 := Lib.hid hR0
 have q0' : w0.cell? ⟨PB, 0, none⟩ = some (.int .i64 7) := by rw [cell_of_row _ _ 0 _ _ _ hblk]; rfl
 have q1 : w0.cell? ⟨PB, 1, none⟩ = some (.string ⟨#[]⟩) := by rw [cell_of_row _ _ 1 _ _ _ hblk]; rfl
 have q2 : w0.cell? ⟨PB, 2, none⟩ = some (.int .i64 0) := by rw [cell_of_row _ _ 2 _ _ _ hblk]; rfl
 have q3 : w0.cell? ⟨PB, 3, none⟩ = some (.bool false) := by rw [cell_of_row _ _ 3 _ _ _ hblk]; rfl
 obtain ⟨c0', f0'⟩ := hR0.c0
 have hPB0 : PB < w0.heap.size := blk_lt hblk
 have HBlk0 := Lib.hid hblk
 clear hgW3 HC3 hb0 hW q0 HBlk HR3 HB3 HE3 hR0 hPB hblk
 go_wp2_with fail
 refine (braces_any g (bs rr) ps _ HR0.out HE0.out hrl).mono ?_
 rintro e w5 ⟨t, rest5, rfl, hx, ht, hrest, hR5, hB5, hG5, hC5⟩
 rw [Hb.out]
 obtain ⟨rfl, rfl⟩ := hx a b Hb2.out
 have HC : ∀ W, Calls Tryz.prog 70 #[.string (bs a)] W fun e w' => e = .returned (.bool false) ∧ Below W.heap.size W w' := fun W => by
  have := Valid_any (bs a) W (by omega)
  rw [L_bs, HVV.out] at this
  exact this
 clear hx
 generalize hta : bs a = ta at *
 have Hta := Lib.hid hta
 clear hta
 go_wp2_with (go_at_call 70; refine (HC _).mono ?_; rintro e w6 ⟨rfl, hB6⟩)
 go_ret
 exact ⟨by rw [HPS.out]; rfl, (fun p r' e => by rw [HPS.out] at e; cases e), (HB0.out.trans hB5).trans (hB6.mono (Nat.le_of_lt hR5.lt))⟩
set_option maxRecDepth 100000 in
set_option maxHeartbeats 4000000 in
theorem piece_st7 (g : Nat) (rest : ByteArray) (ps : List Pc) (c : UInt8) (r : Str) (w : World) (h : Rd w g rest ps) (hE : Env w) (hg : nG ≤ g) (hL : L rest = c :: r) (hc : r.head? ≠ some c) (hr : rest.size ≤ 1000) (hn : ps.length ≤ 10000) (hq : ∀ q ∈ ps, q.text.size ≤ 1000000)
 (hk : kOf c r = 7) (a b : Str) (hb : bracesS (rOf c r) = some (a, b)) (hV : validS a = true) :
 Calls Tryz.prog 201 #[.pointer (some ⟨g, 0, none⟩)] w (PiecePost g ps c r w) := by
 obtain ⟨c0, f0⟩ := h.c0
 obtain ⟨e1, e2, h1⟩ := L_cons hL
 have HP : ∀ W, Calls Tryz.prog 48 #[.string (bs r), .string (bs [c])] W fun e w' => e = .returned (.bool false) ∧ W = w' := fun W => (HasPrefix_any (bs r) (bs [c]) W).mono fun e w' h => ⟨by rw [h.1, L_bs, L_bs, prefix_one]; simp [hc], h.2⟩
 have hs : (bs r).size ≤ 1000 := by rw [size_bs]; have := len_L rest; rw [hL] at this; simp at this; omega
 have HK : Calls Tryz.prog 224 #[.pointer (some ⟨g, 0, none⟩), .bool (c == 36)] (w.setCell ⟨g, 0, none⟩ (.string (bs r))) fun e w' => e = .returned (.int .i64 (kOf c r)) ∧ Rd w' g (bs (rOf c r)) ps ∧ Below g (w.setCell ⟨g, 0, none⟩ (.string (bs r))) w' := by
  have := kind_any (c == 36) g (bs r) ps _ (h.cut (bs r)) hs
  rw [L_bs] at this
  exact this
 have hp := pieceS_kind hc
 have hk12 : kOf c r < 12 := kindOf_lt _ _
 have hrl : (bs (rOf c r)).size ≤ 1000 := by rw [size_bs, rOf, List.length_drop]; rw [size_bs] at hs; omega
 have hsg : ((bs [c]).toList == [36]) = (c == 36) := by rw [bs_ne]; simp
 generalize (c == 36) = lg at *
 generalize bs [c] = sg at *
 generalize bs r = s1 at *
 rw [hk] at HK hk12 hp
 generalize rOf c r = rr at *
 have Hp := Lib.hid hp
 have HL := Lib.hid hL
 have hE2 : ∀ w2, Below g (w.setCell ⟨g, 0, none⟩ (.string s1)) w2 → Env w2 := fun w2 hb => (hE.keep ((Below.refl g w).setCell (p := ⟨g, 0, none⟩) (Nat.le_refl _) _) hg).keep hb hg
 have HE := Lib.hid hE2
 clear hL hp h hc hE hE2
 have hrow := forms_row 7 (by decide)
 rw [show braV 7 = .func (.func 70) #[] #[] from rfl] at hrow
 have hfield := field_bra
 have hneq := neq_func
 have HQ := Lib.hid hq
 simp only [Int.cast_ofNat_Int] at HK hrow
 have hps : pieceS c r = some (⟨7, bs a, 0, false⟩, b) := by
  rw [Hp.out, placeS, if_neg (by decide), if_pos rfl, hb]; simp [hV]
 have HPS := Lib.hid hps
 have hb' : (bracesS (L (bs rr))).isSome = true := by rw [L_bs, hb]; rfl
 have hb2 : bracesS (L (bs rr)) = some (a, b) := by rw [L_bs, hb]
 have Hb := Lib.hid hb'
 have Hb2 := Lib.hid hb2
 have HVV := Lib.hid hV
 clear hps hb hb' hb2 hV
 clear hq hs hr hk12 hk
 go_enter Tryz.func201, Tryz.ntmps201
 go_wp2_with (first | (go_at_call 48; refine (HP _).mono ?_; rintro e w' ⟨rfl, rfl⟩) | (go_at_call 224; refine HK.mono ?_; rintro e w2 ⟨rfl, hR2, hB2⟩))
 obtain ⟨W3, hW3⟩ : ∃ W3, w2.alloc (.cells #[.int .i64 7, .string ⟨#[]⟩, .int .i64 0, .bool false] 236) = W3 := ⟨_, rfl⟩
 rw [hW3]
 have hblk : W3.heap[w2.heap.size]? = some (.cells #[.int .i64 7, .string ⟨#[]⟩, .int .i64 0, .bool false] 236 (0, 0)) := by rw [← hW3]; exact heap_alloc_new _ _
 have hR3 : Rd W3 g (bs rr) ps := hR2.keep (by rw [← hW3]; exact (Below.refl _ _).alloc (Nat.le_refl _) _)
 have hB3 : Below g w W3 := (((Below.refl g w).setCell (p := ⟨g, 0, none⟩) (Nat.le_refl _) _).trans hB2).trans (by rw [← hW3]; exact (Below.refl _ _).alloc (Nat.le_of_lt hR2.lt) _)
 have hE3 : Env W3 := (HE.out w2 hB2).go (by rw [← hW3]; exact (Below.refl _ _).alloc (Nat.le_refl _) _)
 have hgPB : g < w2.heap.size := hR2.lt
 obtain ⟨v0, hC1, hV0⟩ := hR2.c1
 have hC3 : W3.cell? ⟨g, 1, none⟩ = some v0 := by rw [← hW3]; exact ((Below.refl w2.heap.size w2).alloc (Nat.le_refl _) _ |>.cell (p := ⟨g, 1, none⟩) hgPB).trans hC1
 have hV1 : v0.ownBlock ≠ some w2.heap.size := fun e => Nat.lt_irrefl _ (hV0 _ e)
 generalize w2.heap.size = PB at *
 have HV1 := Lib.hid hV1
 have HC3 := Lib.hid hC3
 have hgW3 := hR3.lt
 clear hC1 hV0 hV1 hC3
 have hPB : PB < W3.heap.size := blk_lt hblk
 have HBlk := Lib.hid hblk
 have HR3 := Lib.hid hR3
 have HB3 := Lib.hid hB3
 have HE3 := Lib.hid hE3
 have q0 : W3.cell? ⟨PB, 0, none⟩ = some (.int .i64 7) := by rw [cell_of_row _ _ 0 _ _ _ hblk]; rfl
 clear hblk hR3 hB3 hE3 hR2 hB2 hW3 HK
 go_region_held3 (fun w' => w'.cell? ⟨PB, 0, none⟩ = some (.int .i64 7) ∧ Below W3.heap.size W3 w') (first | exact ⟨q0, (Below.refl _ _).drew⟩ | exact ⟨(hb0.cell (p := ⟨PB, 0, none⟩) (by simpa using hPB)).trans q0, ((Below.refl _ _).drew).trans hb0⟩) (first | (go_at_call 225; refine (forms_any _).mono ?_; rintro e w0 ⟨rfl, hb0⟩))
 have hW : Below W3.heap.size W3 w0 := ((Below.refl _ _).drew).trans hb0
 have hblk : w0.heap[PB]? = some (.cells #[.int .i64 7, .string ⟨#[]⟩, .int .i64 0, .bool false] 236 (0, 0)) := by rw [hW.block PB hPB]; exact HBlk.out
 have hR0 := HR3.out.keep hW
 have HC0 := Lib.hid ((hW.cell (p := ⟨g, 1, none⟩) hgW3).trans HC3.out)
 have hlt0 := hR0.lt
 have HB0 := Lib.hid (HB3.out.trans (hW.mono (Nat.le_of_lt HR3.out.lt)))
 have HE0 := Lib.hid (HE3.out.go hW)
 have HR0 := Lib.hid hR0
 have q0' : w0.cell? ⟨PB, 0, none⟩ = some (.int .i64 7) := by rw [cell_of_row _ _ 0 _ _ _ hblk]; rfl
 have q1 : w0.cell? ⟨PB, 1, none⟩ = some (.string ⟨#[]⟩) := by rw [cell_of_row _ _ 1 _ _ _ hblk]; rfl
 have q2 : w0.cell? ⟨PB, 2, none⟩ = some (.int .i64 0) := by rw [cell_of_row _ _ 2 _ _ _ hblk]; rfl
 have q3 : w0.cell? ⟨PB, 3, none⟩ = some (.bool false) := by rw [cell_of_row _ _ 3 _ _ _ hblk]; rfl
 obtain ⟨c0', f0'⟩ := hR0.c0
 have hPB0 : PB < w0.heap.size := blk_lt hblk
 have HBlk0 := Lib.hid hblk
 clear hgW3 HC3 hb0 hW q0 HBlk HR3 HB3 HE3 hR0 hPB hblk
 go_wp2_with fail
 refine (braces_any g (bs rr) ps _ HR0.out HE0.out hrl).mono ?_
 rintro e w5 ⟨t, rest5, rfl, hx, ht, hrest, hR5, hB5, hG5, hC5⟩
 rw [Hb.out]
 obtain ⟨rfl, rfl⟩ := hx a b Hb2.out
 have HC : ∀ W, Calls Tryz.prog 70 #[.string (bs a)] W fun e w' => e = .returned (.bool true) ∧ Below W.heap.size W w' := fun W => by
  have := Valid_any (bs a) W (by omega)
  rw [L_bs, HVV.out] at this
  exact this
 clear hx
 generalize hta : bs a = ta at *
 have Hta := Lib.hid hta
 clear hta
 have hblk5 : w5.heap[PB]? = some (.cells #[.int .i64 7, .string ⟨#[]⟩, .int .i64 0, .bool false] 236 (0, 0)) := (hG5.block PB hPB0 (fun e => Nat.lt_irrefl _ (Option.some.inj e ▸ hgPB))).trans HBlk0.out
 have hPB5 : PB < w5.heap.size := blk_lt hblk5
 have HBlk5 := Lib.hid hblk5
 have HC5 := Lib.hid (hC5.trans HC0.out)
 have HR5 := Lib.hid hR5
 have HB5 := Lib.hid hB5
 have HRL0 := Lib.hid (Nat.le_trans ht hrl)
 clear hR5 hB5 hG5 hC5 hblk5 hrest
 go_wp2_with fail
 refine (HC _).mono ?_
 rintro e w6 ⟨rfl, hB6⟩
 have hblk6 : w6.heap[PB]? = some (.cells #[.int .i64 7, .string ⟨#[]⟩, .int .i64 0, .bool false] 236 (0, 0)) := (hB6.block PB hPB5).trans HBlk5.out
 have hR6 : Rd w6 g (bs b) ps := HR5.out.keep hB6
 have z0 : w6.cell? ⟨PB, 0, none⟩ = some (.int .i64 7) := by rw [cell_of_row _ _ 0 _ _ _ hblk6]; rfl
 have z1 : w6.cell? ⟨PB, 1, none⟩ = some (.string ⟨#[]⟩) := by rw [cell_of_row _ _ 1 _ _ _ hblk6]; rfl
 have z2 : w6.cell? ⟨PB, 2, none⟩ = some (.int .i64 0) := by rw [cell_of_row _ _ 2 _ _ _ hblk6]; rfl
 have z3 : w6.cell? ⟨PB, 3, none⟩ = some (.bool false) := by rw [cell_of_row _ _ 3 _ _ _ hblk6]; rfl
 have zf : w6.frozen? ⟨PB, 1, none⟩ = false := frozen_of_row _ _ _ _ _ hblk6
 have hPB6 : PB < w6.heap.size := blk_lt hblk6
 have HC6 := Lib.hid ((hB6.cell (p := ⟨g, 1, none⟩) HR5.out.lt).trans HC5.out)
 have HB6 := Lib.hid (hB6.mono (Nat.le_of_lt HR5.out.lt))
 have HR6 := Lib.hid hR6
 clear hB6 hR6 hblk6
 go_wp2_with fail
 have hR7 : Rd (w6.setCell ⟨PB, 1, none⟩ (.string ta)) g (bs b) ps := HR6.out.other HC6.out HV1.out (Nat.ne_of_lt hgPB) 1 _
 have hB7 : Below g w (w6.setCell ⟨PB, 1, none⟩ (.string ta)) := ((HB0.out.trans HB5.out).trans HB6.out).setCell (p := ⟨PB, 1, none⟩) (Nat.le_of_lt hgPB) _
 have HB7 := Lib.hid hB7
 with_reducible refine (add_any g (bs b) ps ⟨7, ta, 0, false⟩ _ hR7 hn HQ.out (by have := HRL0.out; dsimp only; omega) (fun e => absurd (show (7 : Int) = 1 from e) (by decide))).mono ?_
 rintro e w8 ⟨rfl, hR8, hB8⟩
 go_wp2
 go_ret
 refine ⟨by rw [HPS.out]; rfl, fun p r' e => ?_, HB7.out.trans hB8⟩
 rw [HPS.out] at e
 injection e with e
 injection e with e4 e5
 rw [← e4, ← e5]
 exact ⟨bs b, L_bs b, hR8⟩
set_option maxRecDepth 100000 in
set_option maxHeartbeats 4000000 in
theorem piece_n8 (g : Nat) (rest : ByteArray) (ps : List Pc) (c : UInt8) (r : Str) (w : World) (h : Rd w g rest ps) (hE : Env w) (hg : nG ≤ g) (hL : L rest = c :: r) (hc : r.head? ≠ some c) (hr : rest.size ≤ 1000) (_hn : ps.length ≤ 10000) (hq : ∀ q ∈ ps, q.text.size ≤ 1000000)
 (hk : kOf c r = 8) (hb : bracesS (rOf c r) = none) :
 Calls Tryz.prog 201 #[.pointer (some ⟨g, 0, none⟩)] w (PiecePost g ps c r w) := by
 obtain ⟨c0, f0⟩ := h.c0
 obtain ⟨e1, e2, h1⟩ := L_cons hL
 have HP : ∀ W, Calls Tryz.prog 48 #[.string (bs r), .string (bs [c])] W fun e w' => e = .returned (.bool false) ∧ W = w' := fun W => (HasPrefix_any (bs r) (bs [c]) W).mono fun e w' h => ⟨by rw [h.1, L_bs, L_bs, prefix_one]; simp [hc], h.2⟩
 have hs : (bs r).size ≤ 1000 := by rw [size_bs]; have := len_L rest; rw [hL] at this; simp at this; omega
 have HK : Calls Tryz.prog 224 #[.pointer (some ⟨g, 0, none⟩), .bool (c == 36)] (w.setCell ⟨g, 0, none⟩ (.string (bs r))) fun e w' => e = .returned (.int .i64 (kOf c r)) ∧ Rd w' g (bs (rOf c r)) ps ∧ Below g (w.setCell ⟨g, 0, none⟩ (.string (bs r))) w' := by
  have := kind_any (c == 36) g (bs r) ps _ (h.cut (bs r)) hs
  rw [L_bs] at this
  exact this
 have hp := pieceS_kind hc
 have hk12 : kOf c r < 12 := kindOf_lt _ _
 have hrl : (bs (rOf c r)).size ≤ 1000 := by rw [size_bs, rOf, List.length_drop]; rw [size_bs] at hs; omega
 have hsg : ((bs [c]).toList == [36]) = (c == 36) := by rw [bs_ne]; simp
 generalize (c == 36) = lg at *
 generalize bs [c] = sg at *
 generalize bs r = s1 at *
 rw [hk] at HK hk12 hp
 generalize rOf c r = rr at *
 have Hp := Lib.hid hp
 have HL := Lib.hid hL
 have hE2 : ∀ w2, Below g (w.setCell ⟨g, 0, none⟩ (.string s1)) w2 → Env w2 := fun w2 hb => (hE.keep ((Below.refl g w).setCell (p := ⟨g, 0, none⟩) (Nat.le_refl _) _) hg).keep hb hg
 have HE := Lib.hid hE2
 clear hL hp h hc hE hE2
 have hrow := forms_row 8 (by decide)
 rw [show braV 8 = .func (.func 94) #[] #[] from rfl] at hrow
 have hfield := field_bra
 have hneq := neq_func
 have HQ := Lib.hid hq
 simp only [Int.cast_ofNat_Int] at HK hrow
 have hps : pieceS c r = none := by
  rw [Hp.out, placeS, if_neg (by decide), if_neg (by decide), if_pos rfl, hb]; rfl
 have HPS := Lib.hid hps
 have hb' : (bracesS (L (bs rr))).isSome = false := by rw [L_bs, hb]; rfl
 have Hb := Lib.hid hb'
 clear hps hb hb'
 clear hq hs hr hk12 hk
 go_enter Tryz.func201, Tryz.ntmps201
 go_wp2_with (first | (go_at_call 48; refine (HP _).mono ?_; rintro e w' ⟨rfl, rfl⟩) | (go_at_call 224; refine HK.mono ?_; rintro e w2 ⟨rfl, hR2, hB2⟩))
 obtain ⟨W3, hW3⟩ : ∃ W3, w2.alloc (.cells #[.int .i64 8, .string ⟨#[]⟩, .int .i64 0, .bool false] 236) = W3 := ⟨_, rfl⟩
 rw [hW3]
 have hblk : W3.heap[w2.heap.size]? = some (.cells #[.int .i64 8, .string ⟨#[]⟩, .int .i64 0, .bool false] 236 (0, 0)) := by rw [← hW3]; exact heap_alloc_new _ _
 have hR3 : Rd W3 g (bs rr) ps := hR2.keep (by rw [← hW3]; exact (Below.refl _ _).alloc (Nat.le_refl _) _)
 have hB3 : Below g w W3 := (((Below.refl g w).setCell (p := ⟨g, 0, none⟩) (Nat.le_refl _) _).trans hB2).trans (by rw [← hW3]; exact (Below.refl _ _).alloc (Nat.le_of_lt hR2.lt) _)
 have hE3 : Env W3 := (HE.out w2 hB2).go (by rw [← hW3]; exact (Below.refl _ _).alloc (Nat.le_refl _) _)
 have hgPB : g < w2.heap.size := hR2.lt
 obtain ⟨v0, hC1, hV0⟩ := hR2.c1
 have hC3 : W3.cell? ⟨g, 1, none⟩ = some v0 := by rw [← hW3]; exact ((Below.refl w2.heap.size w2).alloc (Nat.le_refl _) _ |>.cell (p := ⟨g, 1, none⟩) hgPB).trans hC1
 have hV1 : v0.ownBlock ≠ some w2.heap.size := fun e => Nat.lt_irrefl _ (hV0 _ e)
 generalize w2.heap.size = PB at *
 have HV1 := Lib.hid hV1
 have HC3 := Lib.hid hC3
 have hgW3 := hR3.lt
 clear hC1 hV0 hV1 hC3
 have hPB : PB < W3.heap.size := blk_lt hblk
 have HBlk := Lib.hid hblk
 have HR3 := Lib.hid hR3
 have HB3 := Lib.hid hB3
 have HE3 := Lib.hid hE3
 have q0 : W3.cell? ⟨PB, 0, none⟩ = some (.int .i64 8) := by rw [cell_of_row _ _ 0 _ _ _ hblk]; rfl
 clear hblk hR3 hB3 hE3 hR2 hB2 hW3 HK
 go_region_held3 (fun w' => w'.cell? ⟨PB, 0, none⟩ = some (.int .i64 8) ∧ Below W3.heap.size W3 w') (first | exact ⟨q0, (Below.refl _ _).drew⟩ | exact ⟨(hb0.cell (p := ⟨PB, 0, none⟩) (by simpa using hPB)).trans q0, ((Below.refl _ _).drew).trans hb0⟩) (first | (go_at_call 225; refine (forms_any _).mono ?_; rintro e w0 ⟨rfl, hb0⟩))
 have hW : Below W3.heap.size W3 w0 := ((Below.refl _ _).drew).trans hb0
 have hblk : w0.heap[PB]? = some (.cells #[.int .i64 8, .string ⟨#[]⟩, .int .i64 0, .bool false] 236 (0, 0)) := by rw [hW.block PB hPB]; exact HBlk.out
 have hR0 := HR3.out.keep hW
 have HC0 := Lib.hid ((hW.cell (p := ⟨g, 1, none⟩) hgW3).trans HC3.out)
 have hlt0 := hR0.lt
 have HB0 := Lib.hid (HB3.out.trans (hW.mono (Nat.le_of_lt HR3.out.lt)))
 have HE0 := Lib.hid (HE3.out.go hW)
 have HR0 := Lib.hid hR0
 have q0' : w0.cell? ⟨PB, 0, none⟩ = some (.int .i64 8) := by rw [cell_of_row _ _ 0 _ _ _ hblk]; rfl
 have q1 : w0.cell? ⟨PB, 1, none⟩ = some (.string ⟨#[]⟩) := by rw [cell_of_row _ _ 1 _ _ _ hblk]; rfl
 have q2 : w0.cell? ⟨PB, 2, none⟩ = some (.int .i64 0) := by rw [cell_of_row _ _ 2 _ _ _ hblk]; rfl
 have q3 : w0.cell? ⟨PB, 3, none⟩ = some (.bool false) := by rw [cell_of_row _ _ 3 _ _ _ hblk]; rfl
 obtain ⟨c0', f0'⟩ := hR0.c0
 have hPB0 : PB < w0.heap.size := blk_lt hblk
 have HBlk0 := Lib.hid hblk
 clear hgW3 HC3 hb0 hW q0 HBlk HR3 HB3 HE3 hR0 hPB hblk
 go_wp2_with fail
 refine (braces_any g (bs rr) ps _ HR0.out HE0.out hrl).mono ?_
 rintro e w5 ⟨t, rest5, rfl, _, _, _, hR5, hB5, _, _⟩
 rw [Hb.out]
 go_wp2
 go_ret
 exact ⟨by rw [HPS.out]; rfl, (fun p r' e => by rw [HPS.out] at e; cases e), HB0.out.trans hB5⟩
set_option maxRecDepth 100000 in
set_option maxHeartbeats 4000000 in
theorem piece_sf8 (g : Nat) (rest : ByteArray) (ps : List Pc) (c : UInt8) (r : Str) (w : World) (h : Rd w g rest ps) (hE : Env w) (hg : nG ≤ g) (hL : L rest = c :: r) (hc : r.head? ≠ some c) (hr : rest.size ≤ 1000) (_hn : ps.length ≤ 10000) (hq : ∀ q ∈ ps, q.text.size ≤ 1000000)
 (hk : kOf c r = 8) (a b : Str) (hb : bracesS (rOf c r) = some (a, b)) (hV : keyS a = false) :
 Calls Tryz.prog 201 #[.pointer (some ⟨g, 0, none⟩)] w (PiecePost g ps c r w) := by
 obtain ⟨c0, f0⟩ := h.c0
 obtain ⟨e1, e2, h1⟩ := L_cons hL
 have HP : ∀ W, Calls Tryz.prog 48 #[.string (bs r), .string (bs [c])] W fun e w' => e = .returned (.bool false) ∧ W = w' := fun W => (HasPrefix_any (bs r) (bs [c]) W).mono fun e w' h => ⟨by rw [h.1, L_bs, L_bs, prefix_one]; simp [hc], h.2⟩
 have hs : (bs r).size ≤ 1000 := by rw [size_bs]; have := len_L rest; rw [hL] at this; simp at this; omega
 have HK : Calls Tryz.prog 224 #[.pointer (some ⟨g, 0, none⟩), .bool (c == 36)] (w.setCell ⟨g, 0, none⟩ (.string (bs r))) fun e w' => e = .returned (.int .i64 (kOf c r)) ∧ Rd w' g (bs (rOf c r)) ps ∧ Below g (w.setCell ⟨g, 0, none⟩ (.string (bs r))) w' := by
  have := kind_any (c == 36) g (bs r) ps _ (h.cut (bs r)) hs
  rw [L_bs] at this
  exact this
 have hp := pieceS_kind hc
 have hk12 : kOf c r < 12 := kindOf_lt _ _
 have hrl : (bs (rOf c r)).size ≤ 1000 := by rw [size_bs, rOf, List.length_drop]; rw [size_bs] at hs; omega
 have hsg : ((bs [c]).toList == [36]) = (c == 36) := by rw [bs_ne]; simp
 generalize (c == 36) = lg at *
 generalize bs [c] = sg at *
 generalize bs r = s1 at *
 rw [hk] at HK hk12 hp
 generalize rOf c r = rr at *
 have Hp := Lib.hid hp
 have HL := Lib.hid hL
 have hE2 : ∀ w2, Below g (w.setCell ⟨g, 0, none⟩ (.string s1)) w2 → Env w2 := fun w2 hb => (hE.keep ((Below.refl g w).setCell (p := ⟨g, 0, none⟩) (Nat.le_refl _) _) hg).keep hb hg
 have HE := Lib.hid hE2
 clear hL hp h hc hE hE2
 have hrow := forms_row 8 (by decide)
 rw [show braV 8 = .func (.func 94) #[] #[] from rfl] at hrow
 have hfield := field_bra
 have hneq := neq_func
 have HQ := Lib.hid hq
 simp only [Int.cast_ofNat_Int] at HK hrow
 have hps : pieceS c r = none := by
  rw [Hp.out, placeS, if_neg (by decide), if_neg (by decide), if_pos rfl, hb]; simp [hV]
 have HPS := Lib.hid hps
 have hb' : (bracesS (L (bs rr))).isSome = true := by rw [L_bs, hb]; rfl
 have hb2 : bracesS (L (bs rr)) = some (a, b) := by rw [L_bs, hb]
 have Hb := Lib.hid hb'
 have Hb2 := Lib.hid hb2
 have HVV := Lib.hid hV
 clear hps hb hb' hb2 hV
 clear hq hs hr hk12 hk
 go_enter Tryz.func201, Tryz.ntmps201
 go_wp2_with (first | (go_at_call 48; refine (HP _).mono ?_; rintro e w' ⟨rfl, rfl⟩) | (go_at_call 224; refine HK.mono ?_; rintro e w2 ⟨rfl, hR2, hB2⟩))
 obtain ⟨W3, hW3⟩ : ∃ W3, w2.alloc (.cells #[.int .i64 8, .string ⟨#[]⟩, .int .i64 0, .bool false] 236) = W3 := ⟨_, rfl⟩
 rw [hW3]
 have hblk : W3.heap[w2.heap.size]? = some (.cells #[.int .i64 8, .string ⟨#[]⟩, .int .i64 0, .bool false] 236 (0, 0)) := by rw [← hW3]; exact heap_alloc_new _ _
 have hR3 : Rd W3 g (bs rr) ps := hR2.keep (by rw [← hW3]; exact (Below.refl _ _).alloc (Nat.le_refl _) _)
 have hB3 : Below g w W3 := (((Below.refl g w).setCell (p := ⟨g, 0, none⟩) (Nat.le_refl _) _).trans hB2).trans (by rw [← hW3]; exact (Below.refl _ _).alloc (Nat.le_of_lt hR2.lt) _)
 have hE3 : Env W3 := (HE.out w2 hB2).go (by rw [← hW3]; exact (Below.refl _ _).alloc (Nat.le_refl _) _)
 have hgPB : g < w2.heap.size := hR2.lt
 obtain ⟨v0, hC1, hV0⟩ := hR2.c1
 have hC3 : W3.cell? ⟨g, 1, none⟩ = some v0 := by rw [← hW3]; exact ((Below.refl w2.heap.size w2).alloc (Nat.le_refl _) _ |>.cell (p := ⟨g, 1, none⟩) hgPB).trans hC1
 have hV1 : v0.ownBlock ≠ some w2.heap.size := fun e => Nat.lt_irrefl _ (hV0 _ e)
 generalize w2.heap.size = PB at *
 have HV1 := Lib.hid hV1
 have HC3 := Lib.hid hC3
 have hgW3 := hR3.lt
 clear hC1 hV0 hV1 hC3
 have hPB : PB < W3.heap.size := blk_lt hblk
 have HBlk := Lib.hid hblk
 have HR3 := Lib.hid hR3
 have HB3 := Lib.hid hB3
 have HE3 := Lib.hid hE3
 have q0 : W3.cell? ⟨PB, 0, none⟩ = some (.int .i64 8) := by rw [cell_of_row _ _ 0 _ _ _ hblk]; rfl
 clear hblk hR3 hB3 hE3 hR2 hB2 hW3 HK
 go_region_held3 (fun w' => w'.cell? ⟨PB, 0, none⟩ = some (.int .i64 8) ∧ Below W3.heap.size W3 w') (first | exact ⟨q0, (Below.refl _ _).drew⟩ | exact ⟨(hb0.cell (p := ⟨PB, 0, none⟩) (by simpa using hPB)).trans q0, ((Below.refl _ _).drew).trans hb0⟩) (first | (go_at_call 225; refine (forms_any _).mono ?_; rintro e w0 ⟨rfl, hb0⟩))
 have hW : Below W3.heap.size W3 w0 := ((Below.refl _ _).drew).trans hb0
 have hblk : w0.heap[PB]? = some (.cells #[.int .i64 8, .string ⟨#[]⟩, .int .i64 0, .bool false] 236 (0, 0)) := by rw [hW.block PB hPB]; exact HBlk.out
 have hR0 := HR3.out.keep hW
 have HC0 := Lib.hid ((hW.cell (p := ⟨g, 1, none⟩) hgW3).trans HC3.out)
 have hlt0 := hR0.lt
 have HB0 := Lib.hid (HB3.out.trans (hW.mono (Nat.le_of_lt HR3.out.lt)))
 have HE0 := Lib.hid (HE3.out.go hW)
 have HR0 := Lib.hid hR0
 have q0' : w0.cell? ⟨PB, 0, none⟩ = some (.int .i64 8) := by rw [cell_of_row _ _ 0 _ _ _ hblk]; rfl
 have q1 : w0.cell? ⟨PB, 1, none⟩ = some (.string ⟨#[]⟩) := by rw [cell_of_row _ _ 1 _ _ _ hblk]; rfl
 have q2 : w0.cell? ⟨PB, 2, none⟩ = some (.int .i64 0) := by rw [cell_of_row _ _ 2 _ _ _ hblk]; rfl
 have q3 : w0.cell? ⟨PB, 3, none⟩ = some (.bool false) := by rw [cell_of_row _ _ 3 _ _ _ hblk]; rfl
 obtain ⟨c0', f0'⟩ := hR0.c0
 have hPB0 : PB < w0.heap.size := blk_lt hblk
 have HBlk0 := Lib.hid hblk
 clear hgW3 HC3 hb0 hW q0 HBlk HR3 HB3 HE3 hR0 hPB hblk
 go_wp2_with fail
 refine (braces_any g (bs rr) ps _ HR0.out HE0.out hrl).mono ?_
 rintro e w5 ⟨t, rest5, rfl, hx, ht, hrest, hR5, hB5, hG5, hC5⟩
 rw [Hb.out]
 obtain ⟨rfl, rfl⟩ := hx a b Hb2.out
 have HC : ∀ W, Calls Tryz.prog 94 #[.string (bs a)] W fun e w' => e = .returned (.bool false) ∧ Below W.heap.size W w' := fun W => by
  have := Key_any (bs a) W (by omega)
  rw [L_bs, HVV.out] at this
  exact this
 clear hx
 generalize hta : bs a = ta at *
 have Hta := Lib.hid hta
 clear hta
 go_wp2_with (go_at_call 94; refine (HC _).mono ?_; rintro e w6 ⟨rfl, hB6⟩)
 go_ret
 exact ⟨by rw [HPS.out]; rfl, (fun p r' e => by rw [HPS.out] at e; cases e), (HB0.out.trans hB5).trans (hB6.mono (Nat.le_of_lt hR5.lt))⟩
set_option maxRecDepth 100000 in
set_option maxHeartbeats 4000000 in
theorem piece_st8 (g : Nat) (rest : ByteArray) (ps : List Pc) (c : UInt8) (r : Str) (w : World) (h : Rd w g rest ps) (hE : Env w) (hg : nG ≤ g) (hL : L rest = c :: r) (hc : r.head? ≠ some c) (hr : rest.size ≤ 1000) (hn : ps.length ≤ 10000) (hq : ∀ q ∈ ps, q.text.size ≤ 1000000)
 (hk : kOf c r = 8) (a b : Str) (hb : bracesS (rOf c r) = some (a, b)) (hV : keyS a = true) :
 Calls Tryz.prog 201 #[.pointer (some ⟨g, 0, none⟩)] w (PiecePost g ps c r w) := by
 obtain ⟨c0, f0⟩ := h.c0
 obtain ⟨e1, e2, h1⟩ := L_cons hL
 have HP : ∀ W, Calls Tryz.prog 48 #[.string (bs r), .string (bs [c])] W fun e w' => e = .returned (.bool false) ∧ W = w' := fun W => (HasPrefix_any (bs r) (bs [c]) W).mono fun e w' h => ⟨by rw [h.1, L_bs, L_bs, prefix_one]; simp [hc], h.2⟩
 have hs : (bs r).size ≤ 1000 := by rw [size_bs]; have := len_L rest; rw [hL] at this; simp at this; omega
 have HK : Calls Tryz.prog 224 #[.pointer (some ⟨g, 0, none⟩), .bool (c == 36)] (w.setCell ⟨g, 0, none⟩ (.string (bs r))) fun e w' => e = .returned (.int .i64 (kOf c r)) ∧ Rd w' g (bs (rOf c r)) ps ∧ Below g (w.setCell ⟨g, 0, none⟩ (.string (bs r))) w' := by
  have := kind_any (c == 36) g (bs r) ps _ (h.cut (bs r)) hs
  rw [L_bs] at this
  exact this
 have hp := pieceS_kind hc
 have hk12 : kOf c r < 12 := kindOf_lt _ _
 have hrl : (bs (rOf c r)).size ≤ 1000 := by rw [size_bs, rOf, List.length_drop]; rw [size_bs] at hs; omega
 have hsg : ((bs [c]).toList == [36]) = (c == 36) := by rw [bs_ne]; simp
 generalize (c == 36) = lg at *
 generalize bs [c] = sg at *
 generalize bs r = s1 at *
 rw [hk] at HK hk12 hp
 generalize rOf c r = rr at *
 have Hp := Lib.hid hp
 have HL := Lib.hid hL
 have hE2 : ∀ w2, Below g (w.setCell ⟨g, 0, none⟩ (.string s1)) w2 → Env w2 := fun w2 hb => (hE.keep ((Below.refl g w).setCell (p := ⟨g, 0, none⟩) (Nat.le_refl _) _) hg).keep hb hg
 have HE := Lib.hid hE2
 clear hL hp h hc hE hE2
 have hrow := forms_row 8 (by decide)
 rw [show braV 8 = .func (.func 94) #[] #[] from rfl] at hrow
 have hfield := field_bra
 have hneq := neq_func
 have HQ := Lib.hid hq
 simp only [Int.cast_ofNat_Int] at HK hrow
 have hps : pieceS c r = some (⟨8, bs a, 0, false⟩, b) := by
  rw [Hp.out, placeS, if_neg (by decide), if_neg (by decide), if_pos rfl, hb]; simp [hV]
 have HPS := Lib.hid hps
 have hb' : (bracesS (L (bs rr))).isSome = true := by rw [L_bs, hb]; rfl
 have hb2 : bracesS (L (bs rr)) = some (a, b) := by rw [L_bs, hb]
 have Hb := Lib.hid hb'
 have Hb2 := Lib.hid hb2
 have HVV := Lib.hid hV
 clear hps hb hb' hb2 hV
 clear hq hs hr hk12 hk
 go_enter Tryz.func201, Tryz.ntmps201
 go_wp2_with (first | (go_at_call 48; refine (HP _).mono ?_; rintro e w' ⟨rfl, rfl⟩) | (go_at_call 224; refine HK.mono ?_; rintro e w2 ⟨rfl, hR2, hB2⟩))
 obtain ⟨W3, hW3⟩ : ∃ W3, w2.alloc (.cells #[.int .i64 8, .string ⟨#[]⟩, .int .i64 0, .bool false] 236) = W3 := ⟨_, rfl⟩
 rw [hW3]
 have hblk : W3.heap[w2.heap.size]? = some (.cells #[.int .i64 8, .string ⟨#[]⟩, .int .i64 0, .bool false] 236 (0, 0)) := by rw [← hW3]; exact heap_alloc_new _ _
 have hR3 : Rd W3 g (bs rr) ps := hR2.keep (by rw [← hW3]; exact (Below.refl _ _).alloc (Nat.le_refl _) _)
 have hB3 : Below g w W3 := (((Below.refl g w).setCell (p := ⟨g, 0, none⟩) (Nat.le_refl _) _).trans hB2).trans (by rw [← hW3]; exact (Below.refl _ _).alloc (Nat.le_of_lt hR2.lt) _)
 have hE3 : Env W3 := (HE.out w2 hB2).go (by rw [← hW3]; exact (Below.refl _ _).alloc (Nat.le_refl _) _)
 have hgPB : g < w2.heap.size := hR2.lt
 obtain ⟨v0, hC1, hV0⟩ := hR2.c1
 have hC3 : W3.cell? ⟨g, 1, none⟩ = some v0 := by rw [← hW3]; exact ((Below.refl w2.heap.size w2).alloc (Nat.le_refl _) _ |>.cell (p := ⟨g, 1, none⟩) hgPB).trans hC1
 have hV1 : v0.ownBlock ≠ some w2.heap.size := fun e => Nat.lt_irrefl _ (hV0 _ e)
 generalize w2.heap.size = PB at *
 have HV1 := Lib.hid hV1
 have HC3 := Lib.hid hC3
 have hgW3 := hR3.lt
 clear hC1 hV0 hV1 hC3
 have hPB : PB < W3.heap.size := blk_lt hblk
 have HBlk := Lib.hid hblk
 have HR3 := Lib.hid hR3
 have HB3 := Lib.hid hB3
 have HE3 := Lib.hid hE3
 have q0 : W3.cell? ⟨PB, 0, none⟩ = some (.int .i64 8) := by rw [cell_of_row _ _ 0 _ _ _ hblk]; rfl
 clear hblk hR3 hB3 hE3 hR2 hB2 hW3 HK
 go_region_held3 (fun w' => w'.cell? ⟨PB, 0, none⟩ = some (.int .i64 8) ∧ Below W3.heap.size W3 w') (first | exact ⟨q0, (Below.refl _ _).drew⟩ | exact ⟨(hb0.cell (p := ⟨PB, 0, none⟩) (by simpa using hPB)).trans q0, ((Below.refl _ _).drew).trans hb0⟩) (first | (go_at_call 225; refine (forms_any _).mono ?_; rintro e w0 ⟨rfl, hb0⟩))
 have hW : Below W3.heap.size W3 w0 := ((Below.refl _ _).drew).trans hb0
 have hblk : w0.heap[PB]? = some (.cells #[.int .i64 8, .string ⟨#[]⟩, .int .i64 0, .bool false] 236 (0, 0)) := by rw [hW.block PB hPB]; exact HBlk.out
 have hR0 := HR3.out.keep hW
 have HC0 := Lib.hid ((hW.cell (p := ⟨g, 1, none⟩) hgW3).trans HC3.out)
 have hlt0 := hR0.lt
 have HB0 := Lib.hid (HB3.out.trans (hW.mono (Nat.le_of_lt HR3.out.lt)))
 have HE0 := Lib.hid (HE3.out.go hW)
 have HR0 := Lib.hid hR0
 have q0' : w0.cell? ⟨PB, 0, none⟩ = some (.int .i64 8) := by rw [cell_of_row _ _ 0 _ _ _ hblk]; rfl
 have q1 : w0.cell? ⟨PB, 1, none⟩ = some (.string ⟨#[]⟩) := by rw [cell_of_row _ _ 1 _ _ _ hblk]; rfl
 have q2 : w0.cell? ⟨PB, 2, none⟩ = some (.int .i64 0) := by rw [cell_of_row _ _ 2 _ _ _ hblk]; rfl
 have q3 : w0.cell? ⟨PB, 3, none⟩ = some (.bool false) := by rw [cell_of_row _ _ 3 _ _ _ hblk]; rfl
 obtain ⟨c0', f0'⟩ := hR0.c0
 have hPB0 : PB < w0.heap.size := blk_lt hblk
 have HBlk0 := Lib.hid hblk
 clear hgW3 HC3 hb0 hW q0 HBlk HR3 HB3 HE3 hR0 hPB hblk
 go_wp2_with fail
 refine (braces_any g (bs rr) ps _ HR0.out HE0.out hrl).mono ?_
 rintro e w5 ⟨t, rest5, rfl, hx, ht, hrest, hR5, hB5, hG5, hC5⟩
 rw [Hb.out]
 obtain ⟨rfl, rfl⟩ := hx a b Hb2.out
 have HC : ∀ W, Calls Tryz.prog 94 #[.string (bs a)] W fun e w' => e = .returned (.bool true) ∧ Below W.heap.size W w' := fun W => by
  have := Key_any (bs a) W (by omega)
  rw [L_bs, HVV.out] at this
  exact this
 clear hx
 generalize hta : bs a = ta at *
 have Hta := Lib.hid hta
 clear hta
 have hblk5 : w5.heap[PB]? = some (.cells #[.int .i64 8, .string ⟨#[]⟩, .int .i64 0, .bool false] 236 (0, 0)) := (hG5.block PB hPB0 (fun e => Nat.lt_irrefl _ (Option.some.inj e ▸ hgPB))).trans HBlk0.out
 have hPB5 : PB < w5.heap.size := blk_lt hblk5
 have HBlk5 := Lib.hid hblk5
 have HC5 := Lib.hid (hC5.trans HC0.out)
 have HR5 := Lib.hid hR5
 have HB5 := Lib.hid hB5
 have HRL0 := Lib.hid (Nat.le_trans ht hrl)
 clear hR5 hB5 hG5 hC5 hblk5 hrest
 go_wp2_with fail
 refine (HC _).mono ?_
 rintro e w6 ⟨rfl, hB6⟩
 have hblk6 : w6.heap[PB]? = some (.cells #[.int .i64 8, .string ⟨#[]⟩, .int .i64 0, .bool false] 236 (0, 0)) := (hB6.block PB hPB5).trans HBlk5.out
 have hR6 : Rd w6 g (bs b) ps := HR5.out.keep hB6
 have z0 : w6.cell? ⟨PB, 0, none⟩ = some (.int .i64 8) := by rw [cell_of_row _ _ 0 _ _ _ hblk6]; rfl
 have z1 : w6.cell? ⟨PB, 1, none⟩ = some (.string ⟨#[]⟩) := by rw [cell_of_row _ _ 1 _ _ _ hblk6]; rfl
 have z2 : w6.cell? ⟨PB, 2, none⟩ = some (.int .i64 0) := by rw [cell_of_row _ _ 2 _ _ _ hblk6]; rfl
 have z3 : w6.cell? ⟨PB, 3, none⟩ = some (.bool false) := by rw [cell_of_row _ _ 3 _ _ _ hblk6]; rfl
 have zf : w6.frozen? ⟨PB, 1, none⟩ = false := frozen_of_row _ _ _ _ _ hblk6
 have hPB6 : PB < w6.heap.size := blk_lt hblk6
 have HC6 := Lib.hid ((hB6.cell (p := ⟨g, 1, none⟩) HR5.out.lt).trans HC5.out)
 have HB6 := Lib.hid (hB6.mono (Nat.le_of_lt HR5.out.lt))
 have HR6 := Lib.hid hR6
 clear hB6 hR6 hblk6
 go_wp2_with fail
 have hR7 : Rd (w6.setCell ⟨PB, 1, none⟩ (.string ta)) g (bs b) ps := HR6.out.other HC6.out HV1.out (Nat.ne_of_lt hgPB) 1 _
 have hB7 : Below g w (w6.setCell ⟨PB, 1, none⟩ (.string ta)) := ((HB0.out.trans HB5.out).trans HB6.out).setCell (p := ⟨PB, 1, none⟩) (Nat.le_of_lt hgPB) _
 have HB7 := Lib.hid hB7
 with_reducible refine (add_any g (bs b) ps ⟨8, ta, 0, false⟩ _ hR7 hn HQ.out (by have := HRL0.out; dsimp only; omega) (fun e => absurd (show (8 : Int) = 1 from e) (by decide))).mono ?_
 rintro e w8 ⟨rfl, hR8, hB8⟩
 go_wp2
 go_ret
 refine ⟨by rw [HPS.out]; rfl, fun p r' e => ?_, HB7.out.trans hB8⟩
 rw [HPS.out] at e
 injection e with e
 injection e with e4 e5
 rw [← e4, ← e5]
 exact ⟨bs b, L_bs b, hR8⟩
end Go.Proofs.YtibflgfhjfcifaaGreatDoor
