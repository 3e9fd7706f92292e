/-
  Contract of the reader's piece: a word in braces. (Printed by gen9.py.)
  Contract of Parse: the pieces of a text.
  What a piece stands for: the functions of the forms, but for the result's. (Printed by genvals.py.)
  The words of a text, as an iterator hands them out: its state lies in a box of its own.
  A loop over the words of a text: its law.
  The words of a result.
  What a template stands for: plain functions, and what the pieces of a template are like.
  An evaluation of rules for a device, on data; no program in sight.
  Plain facts on cuts, words and replaced bytes; no program in sight.
  What short values stand for is short; the words of a result; no program in sight.
-/
import Derived.Test.YtobcmlmbblgcdaaGreatDoorG21
import Derived.Test.YtobcmlmbblgcdaaGreatDoorG00
import Derived.RangeFuncNested
import Derived.RangeFuncBound
import Derived.RangeFuncCalls
import Derived.RangeFuncLeaves
import Derived.Shelf.Abstract
import Derived.Shelf.RegionOpen
import Derived.OwnWalkIn
import Derived.TacticsInMore
import Derived.LoopNIn
import Derived.LoopIn
import Derived.RangeFuncKeeps
import Derived.RangeFuncFrom
import Derived.Maps.AppendAt
import Derived.Test.YtobcmlmbblgcdaaGreatDoorBuiltP
import Derived.Lib.Replace
import Derived.Lib.SplitLaws
namespace Go.Proofs.YtobcmlmbblgcdaaGreatDoor
set_option maxRecDepth 100000
section
open Go.RowKit
set_option maxHeartbeats 4000000 in
theorem piece_n9 (g:Nat) (rest:ByteArray) (ps:List Pc) (c:UInt8) (r:Str) (w:World) (h:Rd w g rest ps) (hE:Env w) (hg:nG≤g) (hL:L rest=c :: r) (hc:r.head?≠some c) (hr:rest.size≤1000) (_hn:ps.length≤10000) (hq:∀ q∈ps,q.text.size≤1000000)
 (hk:kOf c r=9) (hd:(rOf c r).head? = some 123) (hb:bracesS (rOf c r)=none) :
 Calls Tryz.prog 200 #[.pointer (some ⟨g,0,none⟩)] w (PiecePost g ps c r w):=by
 obtain ⟨c0,f0⟩:=h.c0
 obtain ⟨e1,e2,h1⟩:=L_cons hL
 have HP:∀ W,Calls Tryz.prog 102 #[.string (bs r),.string (bs [c])] W fun e w'=>e=.returned (.bool false)∧W=w':=fun W=>(HasPrefix_any (bs r) (bs [c]) W).mono fun e w' h=>⟨by rw [h.1,L_bs,L_bs,prefix_one];simp [hc],h.2⟩
 have hs:(bs r).size≤1000:=by rw [size_bs];have:=len_L rest;rw [hL] at this;simp at this;omega
 have HK:Calls Tryz.prog 237 #[.pointer (some ⟨g,0,none⟩),.bool (c == 36)] (w.setCell ⟨g,0,none⟩ (.string (bs r))) fun e w'=>e=.returned (.int .i64 (kOf c r))∧Rd w' g (bs (rOf c r)) ps∧Below g (w.setCell ⟨g,0,none⟩ (.string (bs r))) w':=by
  have:=kind_any (c == 36) g (bs r) ps _ (h.cut (bs r)) hs
  rw [L_bs] at this
  exact this
 have hp:=pieceS_kind hc
 have hk12:kOf c r<12:=kindOf_lt _ _
 have hrl:(bs (rOf c r)).size≤1000:=by rw [size_bs,rOf,List.length_drop];rw [size_bs] at hs;omega
 have hsg:((bs [c]).toList == [36])=(c == 36):=by rw [bs_ne];simp
 generalize (c == 36)=lg at *
 generalize bs [c]=sg at *
 generalize bs r=s1 at *
 rw [hk] at HK hk12 hp
 generalize rOf c r=rr at *
 have Hp:=Lib.hid hp
 have HL:=Lib.hid hL
 have hE2:∀ w2,Below g (w.setCell ⟨g,0,none⟩ (.string s1)) w2→Env w2:=fun w2 hb=>(hE.keep ((Below.refl g w).setCell (p:=⟨g,0,none⟩) (Nat.le_refl _) _) hg).keep hb hg
 have HE:=Lib.hid hE2
 clear hL hp h hc hE hE2
 have hrow:=forms_row 9 (by decide)
 rw [show braV 9=.nilFunc from rfl] at hrow
 have hfield:=field_bra
 have hneq:=neq_nil
 have HQ:=Lib.hid hq
 have HP9:∀ W,Calls Tryz.prog 102 #[.string (bs rr),.string ⟨#[123]⟩] W fun e w'=>e=.returned (.bool true)∧W=w':=fun W=>(HasPrefix_any (bs rr) ⟨#[123]⟩ W).mono fun e w' h=>⟨by rw [h.1,L_bs];exact congrArg (fun b=>Ending.returned (.bool b)) ((prefix_one rr 123).trans (by rw [hd];rfl)),h.2⟩
 simp only [Int.cast_ofNat_Int] at HK hrow
 have hps:pieceS c r=none:=by
  rw [Hp.out,placeS,if_neg (by decide),if_neg (by decide),if_neg (by decide),if_pos ⟨rfl,hd⟩,hb];rfl
 have HPS:=Lib.hid hps
 have hb':(bracesS (L (bs rr))).isSome=false:=by rw [L_bs,hb];rfl
 have Hb:=Lib.hid hb'
 clear hps hb hb'
 clear hq hs hr hk12 hk hd
 go_enter Tryz.func200,Tryz.ntmps200
 go_wp2_with (first | (go_at_call 102;refine (HP _).mono ?_;rintro e w' ⟨rfl,rfl⟩) | (go_at_call 237;refine HK.mono ?_;rintro e w2 ⟨rfl,hR2,hB2⟩))
 obtain ⟨W3,hW3⟩:∃ W3,w2.alloc (.cells #[.int .i64 9,.string ⟨#[]⟩,.int .i64 0,.bool false] 249)=W3:=⟨_,rfl⟩
 rw [hW3]
 have hblk:W3.heap[w2.heap.size]? = some (.cells #[.int .i64 9,.string ⟨#[]⟩,.int .i64 0,.bool false] 249 (0,0)):=by rw [←hW3];exact heap_alloc_new _ _
 have hR3:Rd W3 g (bs rr) ps:=hR2.keep (by rw [←hW3];exact (Below.refl _ _).alloc (Nat.le_refl _) _)
 have hB3:Below g w W3:=(((Below.refl g w).setCell (p:=⟨g,0,none⟩) (Nat.le_refl _) _).trans hB2).trans (by rw [←hW3];exact (Below.refl _ _).alloc (Nat.le_of_lt hR2.lt) _)
 have hE3:Env W3:=(HE.out w2 hB2).go (by rw [←hW3];exact (Below.refl _ _).alloc (Nat.le_refl _) _)
 have hgPB:g<w2.heap.size:=hR2.lt
 obtain ⟨v0,hC1,hV0⟩:=hR2.c1
 have hC3:W3.cell? ⟨g,1,none⟩=some v0:=by rw [←hW3];exact ((Below.refl w2.heap.size w2).alloc (Nat.le_refl _) _ |>.cell (p:=⟨g,1,none⟩) hgPB).trans hC1
 have hV1:v0.ownBlock≠some w2.heap.size:=fun e=>Nat.lt_irrefl _ (hV0 _ e)
 generalize w2.heap.size=PB at *
 have HV1:=Lib.hid hV1
 have HC3:=Lib.hid hC3
 have hgW3:=hR3.lt
 clear hC1 hV0 hV1 hC3
 have hPB:PB<W3.heap.size:=blk_lt hblk
 have HBlk:=Lib.hid hblk
 have HR3:=Lib.hid hR3
 have HB3:=Lib.hid hB3
 have HE3:=Lib.hid hE3
 have q0:W3.cell? ⟨PB,0,none⟩=some (.int .i64 9):=by rw [cell_of_row _ _ 0 _ _ _ hblk];rfl
 clear hblk hR3 hB3 hE3 hR2 hB2 hW3 HK
 go_region_held3 (fun w'=>w'.cell? ⟨PB,0,none⟩=some (.int .i64 9)∧Below W3.heap.size W3 w') (first | exact ⟨q0,(Below.refl _ _).drew⟩ | exact ⟨(hb0.cell (p:=⟨PB,0,none⟩) (by simpa using hPB)).trans q0,((Below.refl _ _).drew).trans hb0⟩) (first | (go_at_call 169;refine (forms_any _).mono ?_;rintro e w0 ⟨rfl,hb0⟩))
 have hW:Below W3.heap.size W3 w0:=((Below.refl _ _).drew).trans hb0
 have hblk:w0.heap[PB]? = some (.cells #[.int .i64 9,.string ⟨#[]⟩,.int .i64 0,.bool false] 249 (0,0)):=by rw [hW.block PB hPB];exact HBlk.out
 have hR0:=HR3.out.keep hW
 have HC0:=Lib.hid ((hW.cell (p:=⟨g,1,none⟩) hgW3).trans HC3.out)
 have hlt0:=hR0.lt
 have HB0:=Lib.hid (HB3.out.trans (hW.mono (Nat.le_of_lt HR3.out.lt)))
 have HE0:=Lib.hid (HE3.out.go hW)
 have HR0:=Lib.hid hR0
 have q0':w0.cell? ⟨PB,0,none⟩=some (.int .i64 9):=by rw [cell_of_row _ _ 0 _ _ _ hblk];rfl
 have q1:w0.cell? ⟨PB,1,none⟩=some (.string ⟨#[]⟩):=by rw [cell_of_row _ _ 1 _ _ _ hblk];rfl
 have q2:w0.cell? ⟨PB,2,none⟩=some (.int .i64 0):=by rw [cell_of_row _ _ 2 _ _ _ hblk];rfl
 have q3:w0.cell? ⟨PB,3,none⟩=some (.bool false):=by rw [cell_of_row _ _ 3 _ _ _ hblk];rfl
 obtain ⟨c0',f0'⟩:=hR0.c0
 have hPB0:PB<w0.heap.size:=blk_lt hblk
 have HBlk0:=Lib.hid hblk
 clear hgW3 HC3 hb0 hW q0 HBlk HR3 HB3 HE3 hR0 hPB hblk
 go_wp2_with (go_at_call 102;refine (HP9 _).mono ?_;rintro e w' ⟨rfl,rfl⟩)
 refine (braces_any g (bs rr) ps _ HR0.out HE0.out hrl).mono ?_
 rintro e w5 ⟨t,rest5,rfl,hx,ht,hrest,hR5,hB5,hG5,hC5⟩
 rw [Hb.out]
 have hE5:Env w5:=(HE0.out).keep hB5 hg
 have HC:Calls Tryz.prog 239 #[.string (t)] w5 (WordPost (t) w5):=word_any _ _ hE5 (Nat.le_trans ht hrl)
 have hblk5:w5.heap[PB]? = some (.cells #[.int .i64 9,.string ⟨#[]⟩,.int .i64 0,.bool false] 249 (0,0)):=(hG5.block PB hPB0 (fun e=>Nat.lt_irrefl _ (Option.some.inj e▸hgPB))).trans HBlk0.out
 have hPB5:PB<w5.heap.size:=blk_lt hblk5
 have HBlk5:=Lib.hid hblk5
 have HC5:=Lib.hid (hC5.trans HC0.out)
 have HR5:=Lib.hid hR5
 have HB5:=Lib.hid hB5
 clear hx hE5 hR5 hB5 hG5 hblk5 hC5
 go_wp2_with fail
 refine HC.mono ?_
 rintro e w6 ⟨n,mo,rfl,hnm,hB6⟩
 have hblk6:w6.heap[PB]? = some (.cells #[.int .i64 9,.string ⟨#[]⟩,.int .i64 0,.bool false] 249 (0,0)):=(hB6.block PB hPB5).trans HBlk5.out
 have hR6:Rd w6 g (rest5) ps:=HR5.out.keep hB6
 have z0:w6.cell? ⟨PB,0,none⟩=some (.int .i64 9):=by rw [cell_of_row _ _ 0 _ _ _ hblk6];rfl
 have z1:w6.cell? ⟨PB,1,none⟩=some (.string ⟨#[]⟩):=by rw [cell_of_row _ _ 1 _ _ _ hblk6];rfl
 have z2:w6.cell? ⟨PB,2,none⟩=some (.int .i64 0):=by rw [cell_of_row _ _ 2 _ _ _ hblk6];rfl
 have z3:w6.cell? ⟨PB,3,none⟩=some (.bool false):=by rw [cell_of_row _ _ 3 _ _ _ hblk6];rfl
 have zf:w6.frozen? ⟨PB,2,none⟩=false:=frozen_of_row _ _ _ _ _ hblk6
 have zf3:w6.frozen? ⟨PB,3,none⟩=false:=frozen_of_row _ _ _ _ _ hblk6
 have hPB6:PB<w6.heap.size:=blk_lt hblk6
 have HC6:=Lib.hid ((hB6.cell (p:=⟨g,1,none⟩) HR5.out.lt).trans HC5.out)
 have HB6:=Lib.hid (hB6.mono (Nat.le_of_lt HR5.out.lt))
 have HR6:=Lib.hid hR6
 clear hnm hB6 hR6 hblk6 HC
 go_wp2_with fail
 all_goals go_ret
 exact ⟨by rw [HPS.out];rfl,(fun p r' e=>by rw [HPS.out] at e;cases e),(((HB0.out.trans HB5.out).trans HB6.out).setCell (p:=⟨PB,2,none⟩) (Nat.le_of_lt hgPB) _).setCell (p:=⟨PB,3,none⟩) (Nat.le_of_lt hgPB) _⟩
set_option maxHeartbeats 4000000 in
theorem piece_f9 (g:Nat) (rest:ByteArray) (ps:List Pc) (c:UInt8) (r:Str) (w:World) (h:Rd w g rest ps) (hE:Env w) (hg:nG≤g) (hL:L rest=c :: r) (hc:r.head?≠some c) (hr:rest.size≤1000) (_hn:ps.length≤10000) (hq:∀ q∈ps,q.text.size≤1000000)
 (hk:kOf c r=9) (hd:(rOf c r).head? = some 123) (a b:Str) (hb:bracesS (rOf c r)=some (a,b)) (hV:countS a=none) :
 Calls Tryz.prog 200 #[.pointer (some ⟨g,0,none⟩)] w (PiecePost g ps c r w):=by
 obtain ⟨c0,f0⟩:=h.c0
 obtain ⟨e1,e2,h1⟩:=L_cons hL
 have HP:∀ W,Calls Tryz.prog 102 #[.string (bs r),.string (bs [c])] W fun e w'=>e=.returned (.bool false)∧W=w':=fun W=>(HasPrefix_any (bs r) (bs [c]) W).mono fun e w' h=>⟨by rw [h.1,L_bs,L_bs,prefix_one];simp [hc],h.2⟩
 have hs:(bs r).size≤1000:=by rw [size_bs];have:=len_L rest;rw [hL] at this;simp at this;omega
 have HK:Calls Tryz.prog 237 #[.pointer (some ⟨g,0,none⟩),.bool (c == 36)] (w.setCell ⟨g,0,none⟩ (.string (bs r))) fun e w'=>e=.returned (.int .i64 (kOf c r))∧Rd w' g (bs (rOf c r)) ps∧Below g (w.setCell ⟨g,0,none⟩ (.string (bs r))) w':=by
  have:=kind_any (c == 36) g (bs r) ps _ (h.cut (bs r)) hs
  rw [L_bs] at this
  exact this
 have hp:=pieceS_kind hc
 have hk12:kOf c r<12:=kindOf_lt _ _
 have hrl:(bs (rOf c r)).size≤1000:=by rw [size_bs,rOf,List.length_drop];rw [size_bs] at hs;omega
 have hsg:((bs [c]).toList == [36])=(c == 36):=by rw [bs_ne];simp
 generalize (c == 36)=lg at *
 generalize bs [c]=sg at *
 generalize bs r=s1 at *
 rw [hk] at HK hk12 hp
 generalize rOf c r=rr at *
 have Hp:=Lib.hid hp
 have HL:=Lib.hid hL
 have hE2:∀ w2,Below g (w.setCell ⟨g,0,none⟩ (.string s1)) w2→Env w2:=fun w2 hb=>(hE.keep ((Below.refl g w).setCell (p:=⟨g,0,none⟩) (Nat.le_refl _) _) hg).keep hb hg
 have HE:=Lib.hid hE2
 clear hL hp h hc hE hE2
 have hrow:=forms_row 9 (by decide)
 rw [show braV 9=.nilFunc from rfl] at hrow
 have hfield:=field_bra
 have hneq:=neq_nil
 have HQ:=Lib.hid hq
 have HP9:∀ W,Calls Tryz.prog 102 #[.string (bs rr),.string ⟨#[123]⟩] W fun e w'=>e=.returned (.bool true)∧W=w':=fun W=>(HasPrefix_any (bs rr) ⟨#[123]⟩ W).mono fun e w' h=>⟨by rw [h.1,L_bs];exact congrArg (fun b=>Ending.returned (.bool b)) ((prefix_one rr 123).trans (by rw [hd];rfl)),h.2⟩
 simp only [Int.cast_ofNat_Int] at HK hrow
 have hps:pieceS c r=none:=by
  rw [Hp.out,placeS,if_neg (by decide),if_neg (by decide),if_neg (by decide),if_pos ⟨rfl,hd⟩,hb];simp [hV]
 have HPS:=Lib.hid hps
 have hb':(bracesS (L (bs rr))).isSome=true:=by rw [L_bs,hb];rfl
 have hb2:bracesS (L (bs rr))=some (a,b):=by rw [L_bs,hb]
 have Hb:=Lib.hid hb'
 have Hb2:=Lib.hid hb2
 have HVV:=Lib.hid hV
 clear hps hb hb' hb2 hV
 clear hq hs hr hk12 hk hd
 go_enter Tryz.func200,Tryz.ntmps200
 go_wp2_with (first | (go_at_call 102;refine (HP _).mono ?_;rintro e w' ⟨rfl,rfl⟩) | (go_at_call 237;refine HK.mono ?_;rintro e w2 ⟨rfl,hR2,hB2⟩))
 obtain ⟨W3,hW3⟩:∃ W3,w2.alloc (.cells #[.int .i64 9,.string ⟨#[]⟩,.int .i64 0,.bool false] 249)=W3:=⟨_,rfl⟩
 rw [hW3]
 have hblk:W3.heap[w2.heap.size]? = some (.cells #[.int .i64 9,.string ⟨#[]⟩,.int .i64 0,.bool false] 249 (0,0)):=by rw [←hW3];exact heap_alloc_new _ _
 have hR3:Rd W3 g (bs rr) ps:=hR2.keep (by rw [←hW3];exact (Below.refl _ _).alloc (Nat.le_refl _) _)
 have hB3:Below g w W3:=(((Below.refl g w).setCell (p:=⟨g,0,none⟩) (Nat.le_refl _) _).trans hB2).trans (by rw [←hW3];exact (Below.refl _ _).alloc (Nat.le_of_lt hR2.lt) _)
 have hE3:Env W3:=(HE.out w2 hB2).go (by rw [←hW3];exact (Below.refl _ _).alloc (Nat.le_refl _) _)
 have hgPB:g<w2.heap.size:=hR2.lt
 obtain ⟨v0,hC1,hV0⟩:=hR2.c1
 have hC3:W3.cell? ⟨g,1,none⟩=some v0:=by rw [←hW3];exact ((Below.refl w2.heap.size w2).alloc (Nat.le_refl _) _ |>.cell (p:=⟨g,1,none⟩) hgPB).trans hC1
 have hV1:v0.ownBlock≠some w2.heap.size:=fun e=>Nat.lt_irrefl _ (hV0 _ e)
 generalize w2.heap.size=PB at *
 have HV1:=Lib.hid hV1
 have HC3:=Lib.hid hC3
 have hgW3:=hR3.lt
 clear hC1 hV0 hV1 hC3
 have hPB:PB<W3.heap.size:=blk_lt hblk
 have HBlk:=Lib.hid hblk
 have HR3:=Lib.hid hR3
 have HB3:=Lib.hid hB3
 have HE3:=Lib.hid hE3
 have q0:W3.cell? ⟨PB,0,none⟩=some (.int .i64 9):=by rw [cell_of_row _ _ 0 _ _ _ hblk];rfl
 clear hblk hR3 hB3 hE3 hR2 hB2 hW3 HK
 go_region_held3 (fun w'=>w'.cell? ⟨PB,0,none⟩=some (.int .i64 9)∧Below W3.heap.size W3 w') (first | exact ⟨q0,(Below.refl _ _).drew⟩ | exact ⟨(hb0.cell (p:=⟨PB,0,none⟩) (by simpa using hPB)).trans q0,((Below.refl _ _).drew).trans hb0⟩) (first | (go_at_call 169;refine (forms_any _).mono ?_;rintro e w0 ⟨rfl,hb0⟩))
 have hW:Below W3.heap.size W3 w0:=((Below.refl _ _).drew).trans hb0
 have hblk:w0.heap[PB]? = some (.cells #[.int .i64 9,.string ⟨#[]⟩,.int .i64 0,.bool false] 249 (0,0)):=by rw [hW.block PB hPB];exact HBlk.out
 have hR0:=HR3.out.keep hW
 have HC0:=Lib.hid ((hW.cell (p:=⟨g,1,none⟩) hgW3).trans HC3.out)
 have hlt0:=hR0.lt
 have HB0:=Lib.hid (HB3.out.trans (hW.mono (Nat.le_of_lt HR3.out.lt)))
 have HE0:=Lib.hid (HE3.out.go hW)
 have HR0:=Lib.hid hR0
 have q0':w0.cell? ⟨PB,0,none⟩=some (.int .i64 9):=by rw [cell_of_row _ _ 0 _ _ _ hblk];rfl
 have q1:w0.cell? ⟨PB,1,none⟩=some (.string ⟨#[]⟩):=by rw [cell_of_row _ _ 1 _ _ _ hblk];rfl
 have q2:w0.cell? ⟨PB,2,none⟩=some (.int .i64 0):=by rw [cell_of_row _ _ 2 _ _ _ hblk];rfl
 have q3:w0.cell? ⟨PB,3,none⟩=some (.bool false):=by rw [cell_of_row _ _ 3 _ _ _ hblk];rfl
 obtain ⟨c0',f0'⟩:=hR0.c0
 have hPB0:PB<w0.heap.size:=blk_lt hblk
 have HBlk0:=Lib.hid hblk
 clear hgW3 HC3 hb0 hW q0 HBlk HR3 HB3 HE3 hR0 hPB hblk
 go_wp2_with (go_at_call 102;refine (HP9 _).mono ?_;rintro e w' ⟨rfl,rfl⟩)
 refine (braces_any g (bs rr) ps _ HR0.out HE0.out hrl).mono ?_
 rintro e w5 ⟨t,rest5,rfl,hx,ht,hrest,hR5,hB5,hG5,hC5⟩
 rw [Hb.out]
 obtain ⟨rfl,rfl⟩:=hx a b Hb2.out
 have hE5:Env w5:=(HE0.out).keep hB5 hg
 have HC:Calls Tryz.prog 239 #[.string (bs a)] w5 (WordPost (bs a) w5):=word_any _ _ hE5 (Nat.le_trans ht hrl)
 have hblk5:w5.heap[PB]? = some (.cells #[.int .i64 9,.string ⟨#[]⟩,.int .i64 0,.bool false] 249 (0,0)):=(hG5.block PB hPB0 (fun e=>Nat.lt_irrefl _ (Option.some.inj e▸hgPB))).trans HBlk0.out
 have hPB5:PB<w5.heap.size:=blk_lt hblk5
 have HBlk5:=Lib.hid hblk5
 have HC5:=Lib.hid (hC5.trans HC0.out)
 have HR5:=Lib.hid hR5
 have HB5:=Lib.hid hB5
 clear hx hE5 hR5 hB5 hG5 hblk5 hC5
 go_wp2_with fail
 refine HC.mono ?_
 rintro e w6 ⟨n,mo,rfl,hnm,hB6⟩
 have hblk6:w6.heap[PB]? = some (.cells #[.int .i64 9,.string ⟨#[]⟩,.int .i64 0,.bool false] 249 (0,0)):=(hB6.block PB hPB5).trans HBlk5.out
 have hR6:Rd w6 g (bs b) ps:=HR5.out.keep hB6
 have z0:w6.cell? ⟨PB,0,none⟩=some (.int .i64 9):=by rw [cell_of_row _ _ 0 _ _ _ hblk6];rfl
 have z1:w6.cell? ⟨PB,1,none⟩=some (.string ⟨#[]⟩):=by rw [cell_of_row _ _ 1 _ _ _ hblk6];rfl
 have z2:w6.cell? ⟨PB,2,none⟩=some (.int .i64 0):=by rw [cell_of_row _ _ 2 _ _ _ hblk6];rfl
 have z3:w6.cell? ⟨PB,3,none⟩=some (.bool false):=by rw [cell_of_row _ _ 3 _ _ _ hblk6];rfl
 have zf:w6.frozen? ⟨PB,2,none⟩=false:=frozen_of_row _ _ _ _ _ hblk6
 have zf3:w6.frozen? ⟨PB,3,none⟩=false:=frozen_of_row _ _ _ _ _ hblk6
 have hPB6:PB<w6.heap.size:=blk_lt hblk6
 have HC6:=Lib.hid ((hB6.cell (p:=⟨g,1,none⟩) HR5.out.lt).trans HC5.out)
 have HB6:=Lib.hid (hB6.mono (Nat.le_of_lt HR5.out.lt))
 have HR6:=Lib.hid hR6
 rw [L_bs,HVV.out]
 clear hnm hB6 hR6 hblk6 HC
 go_wp2_with fail
 all_goals go_ret
 exact ⟨by rw [HPS.out];rfl,(fun p r' e=>by rw [HPS.out] at e;cases e),(((HB0.out.trans HB5.out).trans HB6.out).setCell (p:=⟨PB,2,none⟩) (Nat.le_of_lt hgPB) _).setCell (p:=⟨PB,3,none⟩) (Nat.le_of_lt hgPB) _⟩
set_option maxHeartbeats 4000000 in
theorem piece_t9 (g:Nat) (rest:ByteArray) (ps:List Pc) (c:UInt8) (r:Str) (w:World) (h:Rd w g rest ps) (hE:Env w) (hg:nG≤g) (hL:L rest=c :: r) (hc:r.head?≠some c) (hr:rest.size≤1000) (hn:ps.length≤10000) (hq:∀ q∈ps,q.text.size≤1000000)
 (hk:kOf c r=9) (hd:(rOf c r).head? = some 123) (a b:Str) (hb:bracesS (rOf c r)=some (a,b)) (n0:Int) (m0:Bool) (hV:countS a=some (n0,m0)) :
 Calls Tryz.prog 200 #[.pointer (some ⟨g,0,none⟩)] w (PiecePost g ps c r w):=by
 obtain ⟨c0,f0⟩:=h.c0
 obtain ⟨e1,e2,h1⟩:=L_cons hL
 have HP:∀ W,Calls Tryz.prog 102 #[.string (bs r),.string (bs [c])] W fun e w'=>e=.returned (.bool false)∧W=w':=fun W=>(HasPrefix_any (bs r) (bs [c]) W).mono fun e w' h=>⟨by rw [h.1,L_bs,L_bs,prefix_one];simp [hc],h.2⟩
 have hs:(bs r).size≤1000:=by rw [size_bs];have:=len_L rest;rw [hL] at this;simp at this;omega
 have HK:Calls Tryz.prog 237 #[.pointer (some ⟨g,0,none⟩),.bool (c == 36)] (w.setCell ⟨g,0,none⟩ (.string (bs r))) fun e w'=>e=.returned (.int .i64 (kOf c r))∧Rd w' g (bs (rOf c r)) ps∧Below g (w.setCell ⟨g,0,none⟩ (.string (bs r))) w':=by
  have:=kind_any (c == 36) g (bs r) ps _ (h.cut (bs r)) hs
  rw [L_bs] at this
  exact this
 have hp:=pieceS_kind hc
 have hk12:kOf c r<12:=kindOf_lt _ _
 have hrl:(bs (rOf c r)).size≤1000:=by rw [size_bs,rOf,List.length_drop];rw [size_bs] at hs;omega
 have hsg:((bs [c]).toList == [36])=(c == 36):=by rw [bs_ne];simp
 generalize (c == 36)=lg at *
 generalize bs [c]=sg at *
 generalize bs r=s1 at *
 rw [hk] at HK hk12 hp
 generalize rOf c r=rr at *
 have Hp:=Lib.hid hp
 have HL:=Lib.hid hL
 have hE2:∀ w2,Below g (w.setCell ⟨g,0,none⟩ (.string s1)) w2→Env w2:=fun w2 hb=>(hE.keep ((Below.refl g w).setCell (p:=⟨g,0,none⟩) (Nat.le_refl _) _) hg).keep hb hg
 have HE:=Lib.hid hE2
 clear hL hp h hc hE hE2
 have hrow:=forms_row 9 (by decide)
 rw [show braV 9=.nilFunc from rfl] at hrow
 have hfield:=field_bra
 have hneq:=neq_nil
 have HQ:=Lib.hid hq
 have HP9:∀ W,Calls Tryz.prog 102 #[.string (bs rr),.string ⟨#[123]⟩] W fun e w'=>e=.returned (.bool true)∧W=w':=fun W=>(HasPrefix_any (bs rr) ⟨#[123]⟩ W).mono fun e w' h=>⟨by rw [h.1,L_bs];exact congrArg (fun b=>Ending.returned (.bool b)) ((prefix_one rr 123).trans (by rw [hd];rfl)),h.2⟩
 simp only [Int.cast_ofNat_Int] at HK hrow
 have hps:pieceS c r=some (⟨9,bs [],n0,m0⟩,b):=by
  rw [Hp.out,placeS,if_neg (by decide),if_neg (by decide),if_neg (by decide),if_pos ⟨rfl,hd⟩,hb];simp [hV]
 have HPS:=Lib.hid hps
 have hb':(bracesS (L (bs rr))).isSome=true:=by rw [L_bs,hb];rfl
 have hb2:bracesS (L (bs rr))=some (a,b):=by rw [L_bs,hb]
 have Hb:=Lib.hid hb'
 have Hb2:=Lib.hid hb2
 have HVV:=Lib.hid hV
 clear hps hb hb' hb2 hV
 clear hq hs hr hk12 hk hd
 go_enter Tryz.func200,Tryz.ntmps200
 go_wp2_with (first | (go_at_call 102;refine (HP _).mono ?_;rintro e w' ⟨rfl,rfl⟩) | (go_at_call 237;refine HK.mono ?_;rintro e w2 ⟨rfl,hR2,hB2⟩))
 obtain ⟨W3,hW3⟩:∃ W3,w2.alloc (.cells #[.int .i64 9,.string ⟨#[]⟩,.int .i64 0,.bool false] 249)=W3:=⟨_,rfl⟩
 rw [hW3]
 have hblk:W3.heap[w2.heap.size]? = some (.cells #[.int .i64 9,.string ⟨#[]⟩,.int .i64 0,.bool false] 249 (0,0)):=by rw [←hW3];exact heap_alloc_new _ _
 have hR3:Rd W3 g (bs rr) ps:=hR2.keep (by rw [←hW3];exact (Below.refl _ _).alloc (Nat.le_refl _) _)
 have hB3:Below g w W3:=(((Below.refl g w).setCell (p:=⟨g,0,none⟩) (Nat.le_refl _) _).trans hB2).trans (by rw [←hW3];exact (Below.refl _ _).alloc (Nat.le_of_lt hR2.lt) _)
 have hE3:Env W3:=(HE.out w2 hB2).go (by rw [←hW3];exact (Below.refl _ _).alloc (Nat.le_refl _) _)
 have hgPB:g<w2.heap.size:=hR2.lt
 obtain ⟨v0,hC1,hV0⟩:=hR2.c1
 have hC3:W3.cell? ⟨g,1,none⟩=some v0:=by rw [←hW3];exact ((Below.refl w2.heap.size w2).alloc (Nat.le_refl _) _ |>.cell (p:=⟨g,1,none⟩) hgPB).trans hC1
 have hV1:v0.ownBlock≠some w2.heap.size:=fun e=>Nat.lt_irrefl _ (hV0 _ e)
 generalize w2.heap.size=PB at *
 have HV1:=Lib.hid hV1
 have HC3:=Lib.hid hC3
 have hgW3:=hR3.lt
 clear hC1 hV0 hV1 hC3
 have hPB:PB<W3.heap.size:=blk_lt hblk
 have HBlk:=Lib.hid hblk
 have HR3:=Lib.hid hR3
 have HB3:=Lib.hid hB3
 have HE3:=Lib.hid hE3
 have q0:W3.cell? ⟨PB,0,none⟩=some (.int .i64 9):=by rw [cell_of_row _ _ 0 _ _ _ hblk];rfl
 clear hblk hR3 hB3 hE3 hR2 hB2 hW3 HK
 go_region_held3 (fun w'=>w'.cell? ⟨PB,0,none⟩=some (.int .i64 9)∧Below W3.heap.size W3 w') (first | exact ⟨q0,(Below.refl _ _).drew⟩ | exact ⟨(hb0.cell (p:=⟨PB,0,none⟩) (by simpa using hPB)).trans q0,((Below.refl _ _).drew).trans hb0⟩) (first | (go_at_call 169;refine (forms_any _).mono ?_;rintro e w0 ⟨rfl,hb0⟩))
 have hW:Below W3.heap.size W3 w0:=((Below.refl _ _).drew).trans hb0
 have hblk:w0.heap[PB]? = some (.cells #[.int .i64 9,.string ⟨#[]⟩,.int .i64 0,.bool false] 249 (0,0)):=by rw [hW.block PB hPB];exact HBlk.out
 have hR0:=HR3.out.keep hW
 have HC0:=Lib.hid ((hW.cell (p:=⟨g,1,none⟩) hgW3).trans HC3.out)
 have hlt0:=hR0.lt
 have HB0:=Lib.hid (HB3.out.trans (hW.mono (Nat.le_of_lt HR3.out.lt)))
 have HE0:=Lib.hid (HE3.out.go hW)
 have HR0:=Lib.hid hR0
 have q0':w0.cell? ⟨PB,0,none⟩=some (.int .i64 9):=by rw [cell_of_row _ _ 0 _ _ _ hblk];rfl
 have q1:w0.cell? ⟨PB,1,none⟩=some (.string ⟨#[]⟩):=by rw [cell_of_row _ _ 1 _ _ _ hblk];rfl
 have q2:w0.cell? ⟨PB,2,none⟩=some (.int .i64 0):=by rw [cell_of_row _ _ 2 _ _ _ hblk];rfl
 have q3:w0.cell? ⟨PB,3,none⟩=some (.bool false):=by rw [cell_of_row _ _ 3 _ _ _ hblk];rfl
 obtain ⟨c0',f0'⟩:=hR0.c0
 have hPB0:PB<w0.heap.size:=blk_lt hblk
 have HBlk0:=Lib.hid hblk
 clear hgW3 HC3 hb0 hW q0 HBlk HR3 HB3 HE3 hR0 hPB hblk
 go_wp2_with (go_at_call 102;refine (HP9 _).mono ?_;rintro e w' ⟨rfl,rfl⟩)
 refine (braces_any g (bs rr) ps _ HR0.out HE0.out hrl).mono ?_
 rintro e w5 ⟨t,rest5,rfl,hx,ht,hrest,hR5,hB5,hG5,hC5⟩
 rw [Hb.out]
 obtain ⟨rfl,rfl⟩:=hx a b Hb2.out
 have hE5:Env w5:=(HE0.out).keep hB5 hg
 have HC:Calls Tryz.prog 239 #[.string (bs a)] w5 (WordPost (bs a) w5):=word_any _ _ hE5 (Nat.le_trans ht hrl)
 have hblk5:w5.heap[PB]? = some (.cells #[.int .i64 9,.string ⟨#[]⟩,.int .i64 0,.bool false] 249 (0,0)):=(hG5.block PB hPB0 (fun e=>Nat.lt_irrefl _ (Option.some.inj e▸hgPB))).trans HBlk0.out
 have hPB5:PB<w5.heap.size:=blk_lt hblk5
 have HBlk5:=Lib.hid hblk5
 have HC5:=Lib.hid (hC5.trans HC0.out)
 have HR5:=Lib.hid hR5
 have HB5:=Lib.hid hB5
 clear hx hE5 hR5 hB5 hG5 hblk5 hC5
 go_wp2_with fail
 refine HC.mono ?_
 rintro e w6 ⟨n,mo,rfl,hnm,hB6⟩
 have hblk6:w6.heap[PB]? = some (.cells #[.int .i64 9,.string ⟨#[]⟩,.int .i64 0,.bool false] 249 (0,0)):=(hB6.block PB hPB5).trans HBlk5.out
 have hR6:Rd w6 g (bs b) ps:=HR5.out.keep hB6
 have z0:w6.cell? ⟨PB,0,none⟩=some (.int .i64 9):=by rw [cell_of_row _ _ 0 _ _ _ hblk6];rfl
 have z1:w6.cell? ⟨PB,1,none⟩=some (.string ⟨#[]⟩):=by rw [cell_of_row _ _ 1 _ _ _ hblk6];rfl
 have z2:w6.cell? ⟨PB,2,none⟩=some (.int .i64 0):=by rw [cell_of_row _ _ 2 _ _ _ hblk6];rfl
 have z3:w6.cell? ⟨PB,3,none⟩=some (.bool false):=by rw [cell_of_row _ _ 3 _ _ _ hblk6];rfl
 have zf:w6.frozen? ⟨PB,2,none⟩=false:=frozen_of_row _ _ _ _ _ hblk6
 have zf3:w6.frozen? ⟨PB,3,none⟩=false:=frozen_of_row _ _ _ _ _ hblk6
 have hPB6:PB<w6.heap.size:=blk_lt hblk6
 have HC6:=Lib.hid ((hB6.cell (p:=⟨g,1,none⟩) HR5.out.lt).trans HC5.out)
 have HB6:=Lib.hid (hB6.mono (Nat.le_of_lt HR5.out.lt))
 have HR6:=Lib.hid hR6
 rw [L_bs,HVV.out]
 have hnm2:=hnm n0 m0 (by rw [L_bs];exact HVV.out)
 obtain ⟨rfl,rfl⟩:=hnm2
 clear hnm hB6 hR6 hblk6 HC
 go_wp2_with fail
 have hR7:Rd ((w6.setCell ⟨PB,2,none⟩ (.int .i64 n)).setCell ⟨PB,3,none⟩ (.bool mo)) g (bs b) ps:=(HR6.out.other HC6.out HV1.out (Nat.ne_of_lt hgPB) 2 _).other ((World.cell?_setCell_other _ _ _ _ (by simp)).trans HC6.out) HV1.out (Nat.ne_of_lt hgPB) 3 _
 have hB7:Below g w ((w6.setCell ⟨PB,2,none⟩ (.int .i64 n)).setCell ⟨PB,3,none⟩ (.bool mo)):=(((HB0.out.trans HB5.out).trans HB6.out).setCell (p:=⟨PB,2,none⟩) (Nat.le_of_lt hgPB) _).setCell (p:=⟨PB,3,none⟩) (Nat.le_of_lt hgPB) _
 have HB7:=Lib.hid hB7
 with_reducible refine (add_any g (bs b) ps ⟨9,⟨#[]⟩,n,mo⟩ _ hR7 hn HQ.out (Nat.zero_le _) (fun e=>absurd (show (9:Int)=1 from e) (by decide))).mono ?_
 rintro e w8 ⟨rfl,hR8,hB8⟩
 go_wp2
 go_ret
 refine ⟨by rw [HPS.out];rfl,fun p r' e=>?_,HB7.out.trans hB8⟩
 rw [HPS.out] at e
 injection e with e
 injection e with e4 e5
 rw [←e4,←e5]
 exact ⟨bs b,L_bs b,hR8⟩
theorem kindOf_ne1 (long:Bool) (w:Str):kindOf long w≠1:=by
 unfold kindOf
 cases h:(List.range 12).find? (isKind long w) with
 | none=>simp
 | some k =>
   intro e
   have e:k=1:=e
   subst e
   have:=List.find?_some h
   cases w with
   | nil=>simp [isKind] at this
   | cons a t=>cases long <;> simp [isKind,longN,shortN] at this
theorem kOf_ne1 (c:UInt8) (r:Str):kOf c r≠1:=kindOf_ne1 _ _
theorem piece_any (g:Nat) (rest:ByteArray) (ps:List Pc) (c:UInt8) (r:Str) (w:World) (h:Rd w g rest ps) (hE:Env w) (hg:nG≤g) (hL:L rest=c :: r) (hr:rest.size≤1000) (hn:ps.length≤10000) (hq:∀ q∈ps,q.text.size≤1000000) :
 Calls Tryz.prog 200 #[.pointer (some ⟨g,0,none⟩)] w (PiecePost g ps c r w):=by
 by_cases hc:r.head? = some c
 · exact piece_twice g rest ps c r w h hL hc hr hn hq
 by_cases h0:kOf c r=0
 · exact piece_none g rest ps c r w h hL hc hr h0
 by_cases h7:kOf c r=7
 · cases hb:bracesS (rOf c r) with
   | none=>exact piece_n7 g rest ps c r w h hE hg hL hc hr hn hq h7 hb
   | some ab =>
     obtain ⟨a,b⟩:=ab
     cases hV:validS a with
     | false=>exact piece_sf7 g rest ps c r w h hE hg hL hc hr hn hq h7 a b hb hV
     | true=>exact piece_st7 g rest ps c r w h hE hg hL hc hr hn hq h7 a b hb hV
 by_cases h8:kOf c r=8
 · cases hb:bracesS (rOf c r) with
   | none=>exact piece_n8 g rest ps c r w h hE hg hL hc hr hn hq h8 hb
   | some ab =>
     obtain ⟨a,b⟩:=ab
     cases hV:keyS a with
     | false=>exact piece_sf8 g rest ps c r w h hE hg hL hc hr hn hq h8 a b hb hV
     | true=>exact piece_st8 g rest ps c r w h hE hg hL hc hr hn hq h8 a b hb hV
 by_cases h9:kOf c r=9∧(rOf c r).head? = some 123
 · cases hb:bracesS (rOf c r) with
   | none=>exact piece_n9 g rest ps c r w h hE hg hL hc hr hn hq h9.1 h9.2 hb
   | some ab =>
     obtain ⟨a,b⟩:=ab
     cases hV:countS a with
     | none=>exact piece_f9 g rest ps c r w h hE hg hL hc hr hn hq h9.1 h9.2 a b hb hV
     | some nm=>exact piece_t9 g rest ps c r w h hE hg hL hc hr hn hq h9.1 h9.2 a b hb nm.1 nm.2 hV
 exact piece_plain g rest ps c r w h hE hg hL hc hr hn hq h0 h7 h8 h9 (kOf_ne1 c r)
end
section
open Go.RowKit
theorem cut_len2 (s sep:Str):(Lib.cut s sep).1.length+(Lib.cut s sep).2.1.length≤s.length:=by
 unfold Lib.cut
 split
 · dsimp only;rw [List.length_take,List.length_drop];omega
 · simp
theorem bracesS_len {r a b:Str} (h:bracesS r=some (a,b)):a.length+b.length≤r.length:=by
 cases r with
 | nil=>simp [bracesS] at h
 | cons x t =>
   rw [bracesS] at h
   have:=cut_len2 t [125]
   split at h
   · split at h
     · injection h with h
       injection h with h1 h2
       subst h1 h2
       rw [List.length_cons]
       omega
     · cases h
   · cases h
theorem placeS_len {k:Nat} {r r':Str} {p:Pc} (h:placeS k r=some (p,r')):p.text.size+r'.length≤r.length:=by
 unfold placeS at h
 split at h
 · cases h
 split at h
 · cases hb:bracesS r with
   | none=>rw [hb] at h;cases h
   | some ab =>
     obtain ⟨a,b⟩:=ab
     have hl:=bracesS_len hb
     rw [hb] at h
     simp only [Option.bind_some] at h
     split at h
     · injection h with h
       injection h with h1 h2
       subst h1 h2
       dsimp only
       rw [size_bs];exact hl
     · cases h
 split at h
 · cases hb:bracesS r with
   | none=>rw [hb] at h;cases h
   | some ab =>
     obtain ⟨a,b⟩:=ab
     have hl:=bracesS_len hb
     rw [hb] at h
     simp only [Option.bind_some] at h
     split at h
     · injection h with h
       injection h with h1 h2
       subst h1 h2
       dsimp only
       rw [size_bs];exact hl
     · cases h
 split at h
 · cases hb:bracesS r with
   | none=>rw [hb] at h;cases h
   | some ab =>
     obtain ⟨a,b⟩:=ab
     have hl:=bracesS_len hb
     rw [hb] at h
     simp only [Option.bind_some] at h
     cases hc:countS a with
     | none=>rw [hc] at h;cases h
     | some nm =>
       rw [hc] at h
       simp only [Option.map_some] at h
       injection h with h
       injection h with h1 h2
       subst h1 h2
       dsimp only
       rw [size_bs];simp;omega
 · injection h with h
   injection h with h1 h2
   subst h1 h2
   dsimp only
   rw [size_bs];simp
theorem pieceS_len {c:UInt8} {r r':Str} {p:Pc} (h:pieceS c r=some (p,r')):p.text.size+r'.length≤r.length+1:=by
 unfold pieceS at h
 split at h
 · injection h with h
   injection h with h1 h2
   subst h1 h2
   simp only [txt]
   rw [size_bs,List.length_tail];simp;omega
 · have:=placeS_len h
   rw [List.length_drop] at this
   omega
theorem pieceS_len' {c:UInt8} {r r':Str} {p:Pc} (h:pieceS c r=some (p,r')):r'.length≤r.length:=by
 unfold pieceS at h
 split at h
 · injection h with h
   injection h with h1 h2
   subst h1 h2
   rw [List.length_tail];omega
 · have:=placeS_len h
   rw [List.length_drop] at this
   omega
theorem cut_mem (s sep:Str):∀ x∈(Lib.cut s sep).2.1,x∈s:=by
 unfold Lib.cut
 split
 · intro x hx;exact List.mem_of_mem_drop hx
 · intro x hx;cases hx
theorem bracesS_mem {r a b:Str} (h:bracesS r=some (a,b)):∀ x∈b,x∈r:=by
 cases r with
 | nil=>simp [bracesS] at h
 | cons x t =>
   rw [bracesS] at h
   have:=cut_mem t [125]
   split at h
   · split at h
     · injection h with h
       injection h with h1 h2
       subst h1 h2
       exact fun y hy=>List.mem_cons_of_mem _ (this y hy)
     · cases h
   · cases h
theorem placeS_mem {k:Nat} {r r':Str} {p:Pc} (h:placeS k r=some (p,r')):∀ x∈r',x∈r:=by
 unfold placeS at h
 cases hb:bracesS r with
 | none =>
   simp only [hb,Option.bind_none] at h
   repeat' split at h
   all_goals first | (cases h;done) | (injection h with h;injection h with h1 h2;subst h2;exact fun x hx=>hx)
 | some ab =>
   obtain ⟨a,b⟩:=ab
   have hm:=bracesS_mem hb
   simp only [hb,Option.bind_some] at h
   split at h
   · cases h
   split at h
   · split at h
     · injection h with h;injection h with h1 h2;subst h2;exact hm
     · cases h
   split at h
   · split at h
     · injection h with h;injection h with h1 h2;subst h2;exact hm
     · cases h
   split at h
   · cases hc:countS a with
     | none=>rw [hc] at h;cases h
     | some nm =>
       rw [hc] at h
       simp only [Option.map_some] at h
       injection h with h;injection h with h1 h2;subst h2;exact hm
   · injection h with h;injection h with h1 h2;subst h2;exact fun x hx=>hx
theorem pieceS_mem {c:UInt8} {r r':Str} {p:Pc} (h:pieceS c r=some (p,r')):∀ x∈r',x∈r:=by
 unfold pieceS at h
 split at h
 · injection h with h
   injection h with h1 h2
   subst h2
   exact fun x hx=>List.mem_of_mem_tail hx
 · have:=placeS_mem h
   exact fun x hx=>List.mem_of_mem_drop (this x hx)
theorem parseF_fuel:∀ (n m:Nat) (r:Str) (acc:List Pc),r.length≤n→r.length≤m→parseF n r acc=parseF m r acc:=by
 intro n
 induction n with
 | zero =>
   intro m r acc h1 h2
   cases r with
   | nil=>cases m <;> rfl
   | cons c r=>simp at h1
 | succ n ih =>
   intro m r acc h1 h2
   cases r with
   | nil=>cases m <;> rfl
   | cons c r =>
     cases m with
     | zero=>simp at h2
     | succ m =>
       simp only [List.length_cons] at h1 h2
       rw [parseF,parseF]
       split
       · cases hp:pieceS c r with
         | none=>rfl
         | some pr' =>
           obtain ⟨p,r'⟩:=pr'
           have:=pieceS_len' hp
           exact ih m r' _ (by omega) (by omega)
       · exact ih m r _ (by omega) (by omega)
def Fits (n:Nat) (ps:List Pc):Prop:=ps.length+n≤256∧∀ q∈ps,q.text.size+n≤256
theorem Fits.add {n m:Nat} {ps:List Pc} (h:Fits n ps) (hn:n≤256) {p:Pc} (h1:p.text.size+m≤n) (h2:m+1≤n):Fits m (addP ps p):=by
 unfold addP
 split
 · rename_i hk
   rcases List.eq_nil_or_concat ps with h0 | ⟨l,q,h0⟩
   · subst h0
     exact ⟨by simp [setLast];omega,fun q hq=>by simp [setLast] at hq⟩
   · rw [List.concat_eq_append] at h0
     subst h0
     rw [setLast_snoc]
     have:=h.1
     simp only [List.length_append,List.length_singleton] at this
     refine ⟨by simp only [List.length_append,List.length_singleton];omega,fun x hx=>?_⟩
     rcases List.mem_append.1 hx with hx | hx
     · have:=h.2 x (by simp [hx]);omega
     · simp only [List.mem_singleton] at hx
       subst hx
       have:=h.2 q (by simp)
       dsimp only
       rw [ByteArray.size_append]
       omega
 · refine ⟨by have:=h.1;simp only [List.length_append,List.length_singleton];omega,fun x hx=>?_⟩
   rcases List.mem_append.1 hx with hx | hx
   · have:=h.2 x hx;omega
   · simp only [List.mem_singleton] at hx
     subst hx
     omega
def parseR (s:Str):List Pc × Int:=if 256<s.length then ([],91) else if textS s then match parseS s with
 | some ps=>(ps,0)
 | none=>([],90)
 else ([],90)
def ParsePost (s:Str) (w:World) (e:Ending) (w':World):Prop :=
 ∃ v,e=.returned (.tuple #[v,.int .i64 (parseR s).2])∧w'.ownsRow w.heap.size 249 4 v (parseR s).1.length (cellsOf encPc (parseR s).1)∧Below w.heap.size w w'
theorem indexAny_find (l:Str):(Lib.indexAny l [36,37] = -1∧∀ c∈l,sign c=false)∨∃ k:Nat,k<l.length∧Lib.indexAny l [36,37]=k∧(∀ c∈l.take k,sign c=false)∧∃ c,l[k]? = some c∧sign c=true:=by
 induction l with
 | nil=>left;exact ⟨rfl,fun c h=>by cases h⟩
 | cons b l ih =>
   have hs:[36,37].contains b=sign b:=by
    rw [Bool.eq_iff_iff];simp [sign]
   by_cases hb:sign b=true
   · right
     refine ⟨0,by simp,?_,fun c h=>by simp at h,b,rfl,hb⟩
     rw [Lib.indexAny,hs,hb];rfl
   · have hb:sign b=false:=by simpa using hb
     have e:Lib.indexAny (b :: l) [36,37]=if Lib.indexAny l [36,37] == -1 then -1 else Lib.indexAny l [36,37]+1:=by
      rw [Lib.indexAny,hs,hb];rfl
     rcases ih with ⟨h1,h2⟩ | ⟨k,hk,h1,h2,c,hc,h3⟩
     · left
       refine ⟨by rw [e,h1];rfl,fun c hc=>?_⟩
       rcases List.mem_cons.1 hc with rfl | hc
       · exact hb
       · exact h2 c hc
     · right
       refine ⟨k+1,by simp;omega,?_,fun c' hc'=>?_,c,by simpa using hc,h3⟩
       · rw [e,h1]
         rw [if_neg (by simp)]
         exact (Int.natCast_succ k).symm
       · rw [List.take_succ_cons] at hc'
         rcases List.mem_cons.1 hc' with rfl | hc'
         · exact hb
         · exact h2 c' hc'
theorem add_text (g:Nat) (rest:ByteArray) (ps:List Pc) (t:ByteArray) (w:World) (h:Rd w g rest ps) (hn:ps.length≤10000) (hq:∀ q∈ps,q.text.size≤1000000) (ht:t.size≤1000000) :
 Calls Tryz.prog 199 #[.pointer (some ⟨g,0,none⟩),.agg #[.int .i64 1,.string t,.int .i64 0,.bool false]] w (AddPost g rest ps (txt t) w):=add_any g rest ps (txt t) w h hn hq ht (fun _=>rfl)
set_option maxHeartbeats 2000000 in
theorem Parse_any (s:ByteArray) (w:World) (hE:Env w) (hs:s.size≤9223372036854775807) :
 Calls Tryz.prog 168 #[.string s] w (ParsePost (L s) w):=by
 have hEs:=hE.size
 by_cases h256:256<s.size
 · have hR:parseR (L s)=([],91):=by rw [parseR,len_L,if_pos h256]
   have HR:=Lib.hid hR
   clear hR
   go_enter Tryz.func168,Tryz.ntmps168
   go_wp2
   go_ret2
   exact ⟨.slice none 0 0,by rw [HR.out];rfl,by rw [HR.out];exact ⟨rfl,.inl ⟨rfl,rfl⟩⟩,Below.refl _ _⟩
 have h256:s.size≤256:=by omega
 have HT:=Text_any s w hs
 cases ht:textS (L s)
 · have hR:parseR (L s)=([],90):=by rw [parseR,len_L,if_neg (by omega),ht];rfl
   have HR:=Lib.hid hR
   rw [ht] at HT
   clear hR ht
   go_enter Tryz.func168,Tryz.ntmps168
   go_wp2_with (go_at_call 196;refine HT.mono ?_;rintro e w' ⟨rfl,rfl⟩)
   go_ret2
   exact ⟨.slice none 0 0,by rw [HR.out];rfl,by rw [HR.out];exact ⟨rfl,.inl ⟨rfl,rfl⟩⟩,Below.refl _ _⟩
 rw [ht] at HT
 have hasc:∀ c∈L s,c.toNat<128:=by
  have h1:printS (L s)=true:=by rw [textS] at ht;simp at ht;exact ht.1
  intro c hc
  have:=List.all_eq_true.1 h1 c hc
  simp [pr] at this
  omega
 have hR:parseR (L s)=match parseS (L s) with
  | some ps=>(ps,0)
  | none=>([],90):=by rw [parseR,len_L,if_neg (by omega),ht];rfl
 have HR:=Lib.hid hR
 have HA:=Lib.hid hasc
 clear hR ht hasc
 go_enter Tryz.func168,Tryz.ntmps168
 go_wp2_with (go_at_call 196;refine HT.mono ?_;rintro e w' ⟨rfl,rfl⟩)
 obtain ⟨W1,hW1⟩:∃ W1,w.alloc (.cells #[.string s,.slice none 0 0] 273)=W1:=⟨_,rfl⟩
 rw [hW1]
 have hR1:Rd W1 w.heap.size s []:=⟨.slice none 0 0,by rw [←hW1];exact heap_alloc_new _ _,rfl,.inl ⟨rfl,rfl⟩⟩
 have hB1:Below w.heap.size w W1:=by rw [←hW1];exact (Below.refl _ _).alloc (Nat.le_refl _) _
 have hE1:=hE.go hB1
 have HR1:=Lib.hid hR1
 have HB1:=Lib.hid hB1
 have HE1:=Lib.hid hE1
 have HEw:=Lib.hid hE
 clear hR1 hB1 hE1 hW1 hE HT
 go_loopg [5] s.size (fun gk i wr=>∃ rest ps,rest.size≤gk∧rest.size≤256∧Hid (Rd wr w.heap.size rest ps)∧Hid (Below w.heap.size w wr)∧Hid (Fits rest.size ps)∧Hid (parseS (L s)=parseF rest.size (L rest) ps)∧Hid (∀ c∈L rest,c.toNat<128))
 case atStart=>exact ⟨s,[],Nat.le_refl _,h256,HR1.out,HB1.out,⟨by simp;omega,fun q hq=>by cases hq⟩,(by show parseS (L s)=_;rw [parseS,len_L]),HA.out⟩
 case round =>
  obtain ⟨rest,ps,hgk,hrz,hRd,hBl,hF,hP,hAs⟩:=hrel
  have hc0:=hRd.out.c0
  obtain ⟨c0,f0⟩:=hc0
  have hlt:=hRd.out.lt
  by_cases h0:rest=⟨#[]⟩
  · subst h0
    obtain ⟨v,hh,ho⟩:=hRd.out.ex
    have c1:wr.cell? ⟨w.heap.size,1,none⟩=some v:=by rw [cell_of_row _ _ 1 _ _ _ hh];rfl
    have Ho:=Lib.hid ho
    clear hh ho
    have hres:parseR (L s)=(ps,0):=by rw [HR.out,hP.out];rfl
    have HRes:=Lib.hid hres
    clear hres
    go_wp2
    go_ret2
    exact ⟨v,by rw [HRes.out];rfl,by rw [HRes.out];exact ⟨Ho.out.1,by
     rcases Ho.out.2 with h | ⟨g,cap,cur,h1,h2,h3⟩
     · exact .inl h
     · exact .inr ⟨g,cap,cur,h1,by omega,h3⟩⟩,hBl.out⟩
  · have h0' : rest.toList≠[]:=fun e=>h0 (L_inj (by rw [←tl,e]))
    have h0'':rest.toList.isEmpty=false:=by simpa using h0'
    have hpos:1≤rest.size:=by
     rcases Nat.eq_zero_or_pos rest.size with h | h
     · exact absurd (L_inj (by have:=len_L rest;rw [h] at this;exact (List.length_eq_zero_iff.1 this).trans rfl)) h0
     · exact h
    have HI:=Tryz.strings_IndexAny_laid rest ⟨#[36,37]⟩ wr (by omega) (by decide) (fun j b hb=>hAs.out b (List.mem_of_getElem? hb)) (fun j b hb=>by
     have:b∈([36,37]:Str):=List.mem_of_getElem? hb
     simp at this
     rcases this with rfl | rfl <;> decide)
    change Calls _ _ _ _ (fun e w'=>e=.returned (.int .i64 (Lib.indexAny (L rest) [36,37]))∧Below wr.heap.size wr w') at HI
    have hfind:=indexAny_find (L rest)
    rw [len_L] at hfind
    generalize Lib.indexAny (L rest) [36,37]=ix at *
    have HRun:Hid (∀ q:Nat,0<q→q≤rest.size→(∀ c∈(L rest).take q,sign c=false)→parseS (L s)=parseF (rest.size - q) ((L rest).drop q) (addP ps (txt (rest.extract 0 q)))):=fun q hq0 hq1 hq2=>by
     have hl:((L rest).take q).length=q:=by rw [List.length_take,len_L];omega
     have:=parseF_run ((L rest).take q) ((L rest).drop q) hq2 (fun e=>by rw [e] at hl;simp at hl;omega) (rest.size - q) ps
     rw [hl,List.take_append_drop,Nat.sub_add_cancel hq1] at this
     rw [hP.out,this]
     congr 3
     exact (eq_bs (by rw [L_extract,List.drop_zero])).symm
    rcases hfind with ⟨rfl,hno⟩ | ⟨k,hk,rfl,hno,c,hck,hsc⟩
    · have HNo:=Lib.hid hno
      clear hno h0
      go_wp2_with (go_at_call 198;refine HI.mono ?_;rintro e w1 ⟨rfl,hb1⟩;have c1:=(hRd.out.keep hb1).c0;obtain ⟨c1,f1⟩:=c1)
      have hF1:=hF.out.1
      have hF2:∀ q∈ps,q.text.size≤1000000:=fun q hq=>by have:=hF.out.2 q hq;omega
      have HAdd:=add_text w.heap.size rest ps rest w1 (hRd.out.keep hb1) (by omega) hF2 (by omega)
      with_reducible refine HAdd.mono ?_
      rintro e w2 ⟨rfl,hR2,hB2⟩
      obtain ⟨c2,f2⟩:=hR2.c0
      have hlt2:=hR2.lt
      have hR3:=Lib.hid (hR2.cut ⟨#[]⟩)
      have hB3:=Lib.hid (((hBl.out.trans (hb1.mono (Nat.le_of_lt hlt))).trans hB2).setCell (p:=⟨w.heap.size,0,none⟩) (Nat.le_refl _) (.string ⟨#[]⟩))
      clear hb1 hR2 hB2 hF2
      go_wp2_with fail
      have he:rest.extract rest.size rest.size=⟨#[]⟩:=L_inj (by rw [L_extract];simp)
      go_roundg (gk - 1)
      case measure=>omega
      case rel =>
       refine ⟨⟨#[]⟩,addP ps (txt rest),Nat.zero_le _,Nat.zero_le _,?_,?_,?_,?_,fun c hc=>by cases hc⟩
       · first | exact hR3.out | (rw [he];exact hR3.out)
       · first | exact hB3.out | (rw [he];exact hB3.out)
       · exact hF.out.add hrz (p:=txt rest) (m:=0) (by show rest.size+0≤rest.size;omega) (by omega)
       · have:=HRun.out rest.size hpos (Nat.le_refl _) (fun c hc=>HNo.out c (List.mem_of_mem_take hc))
         rw [this,Nat.sub_self,List.drop_of_length_le (by rw [len_L];exact Nat.le_refl _),show rest.extract 0 rest.size=rest from L_inj (by rw [L_extract,List.drop_zero,List.take_of_length_le (by rw [len_L];exact Nat.le_refl _)])]
         rfl
    · by_cases hk0:k=0
      · subst hk0
        have hL:∃ r,L rest=c :: r:=by
         cases hl:L rest with
         | nil=>rw [hl] at hck;simp at hck
         | cons a b=>rw [hl] at hck;simp at hck;exact ⟨b,by rw [hck]⟩
        obtain ⟨r,hL⟩:=hL
        have hrl:r.length+1=rest.size:=by rw [←len_L,hL];rfl
        have HPc:=fun W (hb:Below wr.heap.size wr W)=>piece_any w.heap.size rest ps c r W (hRd.out.keep hb) (HEw.out.keep (hBl.out.trans (hb.mono (Nat.le_of_lt hlt))) hEs) hEs hL (by omega) (by have:=hF.out.1;omega) (fun q hq=>by have:=hF.out.2 q hq;omega)
        have hpf:parseF rest.size (L rest) ps=match pieceS c r with
         | some (p,r')=>parseF r.length r' (addP ps p)
         | none=>none:=by rw [←hrl,hL,parseF,hsc];rfl
        have HPF:=Lib.hid hpf
        have HLr:=Lib.hid hL
        have HPL:Hid (∀ p r',pieceS c r=some (p,r')→p.text.size+r'.length≤r.length+1∧r'.length≤r.length):=fun p r' e=>⟨pieceS_len e,pieceS_len' e⟩
        clear hpf hL hck hsc hno h0 hk
        cases hpc:pieceS c r with
        | none =>
          have HPC:=Lib.hid hpc
          have HPc':∀ W,Below wr.heap.size wr W→Calls Tryz.prog 200 #[.pointer (some ⟨w.heap.size,0,none⟩)] W fun e w'=>e=.returned (.bool false)∧Below w.heap.size W w':=fun W hb=>(HPc W hb).mono fun e w' h=>⟨by rw [h.1,hpc];rfl,h.2.2⟩
          have hres:parseR (L s)=([],90):=by rw [HR.out,hP.out,HPF.out,hpc]
          have HRes:=Lib.hid hres
          clear hres hpc HPc
          go_wp2_with (first | (go_at_call 198;refine HI.mono ?_;rintro e w1 ⟨rfl,hb1⟩;have c1:=(hRd.out.keep hb1).c0;obtain ⟨c1,f1⟩:=c1;have HB1:=Lib.hid hb1) | (go_at_call 200;refine (HPc' _ hb1).mono ?_;rintro e w2 ⟨rfl,hb2⟩))
          go_ret2
          exact ⟨.slice none 0 0,by rw [HRes.out];rfl,by rw [HRes.out];exact ⟨rfl,.inl ⟨rfl,rfl⟩⟩,(hBl.out.trans (HB1.out.mono (Nat.le_of_lt hlt))).trans hb2⟩
        | some pr' =>
          obtain ⟨p,r'⟩:=pr'
          have HPC:=Lib.hid hpc
          have HPc':∀ W,Below wr.heap.size wr W→Calls Tryz.prog 200 #[.pointer (some ⟨w.heap.size,0,none⟩)] W fun e w'=>e=.returned (.bool true)∧(∃ rest',L rest'=r'∧Rd w' w.heap.size rest' (addP ps p))∧Below w.heap.size W w':=fun W hb=>(HPc W hb).mono fun e w' h=>⟨by rw [h.1,hpc];rfl,h.2.1 p r' hpc,h.2.2⟩
          have hpf2:parseS (L s)=parseF r.length r' (addP ps p):=by rw [hP.out,HPF.out,hpc]
          have HPF2:=Lib.hid hpf2
          clear hpf2 hpc HPc
          go_wp2_with (first | (go_at_call 198;refine HI.mono ?_;rintro e w1 ⟨rfl,hb1⟩;have c1:=(hRd.out.keep hb1).c0;obtain ⟨c1,f1⟩:=c1;have HB1:=Lib.hid hb1) | (go_at_call 200;refine (HPc' _ hb1).mono ?_;rintro e w2 ⟨rfl,⟨rest',hLr,hR2⟩,hb2⟩))
          have hl2:=HPL.out p r' HPC.out
          have hz2:rest'.size=r'.length:=by rw [←len_L,hLr]
          go_roundg (gk - 1)
          case measure=>omega
          case rel =>
           refine ⟨rest',addP ps p,by omega,by omega,hR2,(hBl.out.trans (HB1.out.mono (Nat.le_of_lt hlt))).trans hb2,?_,?_,?_⟩
           · exact hF.out.add hrz (p:=p) (by omega) (by omega)
           · show _=_
             rw [HPF2.out,hLr,hz2]
             exact parseF_fuel _ _ _ _ hl2.2 (Nat.le_refl _)
           · intro c' hc'
             exact hAs.out c' (by rw [HLr.out];exact List.mem_cons_of_mem _ (pieceS_mem HPC.out c' (hLr▸hc')))
      · have HNo:=Lib.hid hno
        have hkp:0<k:=by omega
        have hki:(0:Int)<(k:Int):=by omega
        have hkr:(k:Int)≤(rest.size:Int):=by omega
        have hz:(rest.extract 0 k).size≤1000000:=by rw [size_extract];omega
        clear hno h0 hk0
        go_wp2_with (go_at_call 198;refine HI.mono ?_;rintro e w1 ⟨rfl,hb1⟩;have c1:=(hRd.out.keep hb1).c0;obtain ⟨c1,f1⟩:=c1)
        have hF1:=hF.out.1
        have hF2:∀ q∈ps,q.text.size≤1000000:=fun q hq=>by have:=hF.out.2 q hq;omega
        have HAdd:=add_text w.heap.size rest ps (rest.extract 0 k) w1 (hRd.out.keep hb1) (by omega) hF2 hz
        with_reducible refine HAdd.mono ?_
        rintro e w2 ⟨rfl,hR2,hB2⟩
        obtain ⟨c2,f2⟩:=hR2.c0
        have hlt2:=hR2.lt
        have hR3:=Lib.hid (hR2.cut (rest.extract k rest.size))
        have hB3:=Lib.hid (((hBl.out.trans (hb1.mono (Nat.le_of_lt hlt))).trans hB2).setCell (p:=⟨w.heap.size,0,none⟩) (Nat.le_refl _) (.string (rest.extract k rest.size)))
        clear hb1 hR2 hB2 hF2
        go_wp2_with fail
        have hsz:(rest.extract k rest.size).size=rest.size - k:=by rw [size_extract];omega
        have hdr:L (rest.extract k rest.size)=(L rest).drop k:=by rw [L_extract,List.take_of_length_le (by rw [len_L];exact Nat.le_refl _)]
        go_roundg (gk - 1)
        case measure=>omega
        case rel =>
         refine ⟨rest.extract k rest.size,addP ps (txt (rest.extract 0 k)),by omega,by omega,hR3.out,hB3.out,?_,?_,?_⟩
         · exact hF.out.add hrz (p:=txt (rest.extract 0 k)) (by rw [show (txt (rest.extract 0 k)).text.size=(rest.extract 0 k).size from rfl,hsz,size_extract];omega) (by omega)
         · have:=HRun.out k hkp (by omega) HNo.out
           show _=_
           rw [this,hsz,hdr]
         · exact fun c hc=>hAs.out c (List.mem_of_mem_drop (hdr▸hc))
def encP (p:Pc):Value:=.agg #[.int .i64 p.kind,.string p.text,.int .i64 p.word,.bool p.more]
end
section
open Go.RowKit
structure Vs where
 kernel:ByteArray
 devpath:ByteArray
 id:ByteArray
 driver:ByteArray
 parent:ByteArray
 name:ByteArray
 result:ByteArray
 attrs:Lst
 above:Lst
 env:Lst
def Lst.v (x:Lst):Value:=.slice x.A x.l.length x.c
def encVs (v:Vs):Value:=.agg #[.string v.kernel,.string v.devpath,.string v.id,.string v.driver,.string v.parent,.string v.name,.string v.result,v.attrs.v,v.above.v,v.env.v]
structure VsIn (w:World) (B:Nat) (v:Vs):Prop where
 attrs:RowAt w B v.attrs.A 2 v.attrs.l.length (cellsOf encAt v.attrs.l)
 above:RowAt w B v.above.A 2 v.above.l.length (cellsOf encAt v.above.l)
 env:RowAt w B v.env.A 2 v.env.l.length (cellsOf encAt v.env.l)
 la:v.attrs.l.length≤1000000000
 lb:v.above.l.length≤1000000000
 le:v.env.l.length≤1000000000
theorem VsIn.keep {w w':World} {B:Nat} {v:Vs} (h:VsIn w B v) (hb:Below B w w'):VsIn w' B v:=⟨h.attrs.keep hb,h.above.keep hb,h.env.keep hb,h.la,h.lb,h.le⟩
theorem VsIn.more {w:World} {B B':Nat} {v:Vs} (h:VsIn w B v) (hB:B≤B'):VsIn w B' v:=⟨h.attrs.more hB,h.above.more hB,h.env.more hB,h.la,h.lb,h.le⟩
def ValPost (t:ByteArray) (w:World) (e:Ending) (w':World):Prop:=e=.returned (.string t)∧Below w.heap.size w w'
set_option maxHeartbeats 400000 in
theorem val1 (p:Pc) (v:Vs) (w:World) :
 Calls Tryz.prog 201 #[encP p,encVs v] w (ValPost p.text w):=by
 unfold encP encVs Lst.v
 go_enter Tryz.func201,Tryz.ntmps201
 go_wp2
 go_ret
 exact ⟨rfl,((Below.refl _ _).alloc (Nat.le_refl _) _).alloc (by simp) _⟩
set_option maxHeartbeats 400000 in
theorem val2 (p:Pc) (v:Vs) (w:World) :
 Calls Tryz.prog 202 #[encP p,encVs v] w (ValPost v.kernel w):=by
 unfold encP encVs Lst.v
 go_enter Tryz.func202,Tryz.ntmps202
 go_wp2
 go_ret
 exact ⟨rfl,((Below.refl _ _).alloc (Nat.le_refl _) _).alloc (by simp) _⟩
set_option maxHeartbeats 400000 in
theorem val4 (p:Pc) (v:Vs) (w:World) :
 Calls Tryz.prog 205 #[encP p,encVs v] w (ValPost v.devpath w):=by
 unfold encP encVs Lst.v
 go_enter Tryz.func205,Tryz.ntmps205
 go_wp2
 go_ret
 exact ⟨rfl,((Below.refl _ _).alloc (Nat.le_refl _) _).alloc (by simp) _⟩
set_option maxHeartbeats 400000 in
theorem val5 (p:Pc) (v:Vs) (w:World) :
 Calls Tryz.prog 206 #[encP p,encVs v] w (ValPost v.id w):=by
 unfold encP encVs Lst.v
 go_enter Tryz.func206,Tryz.ntmps206
 go_wp2
 go_ret
 exact ⟨rfl,((Below.refl _ _).alloc (Nat.le_refl _) _).alloc (by simp) _⟩
set_option maxHeartbeats 400000 in
theorem val6 (p:Pc) (v:Vs) (w:World) :
 Calls Tryz.prog 207 #[encP p,encVs v] w (ValPost v.driver w):=by
 unfold encP encVs Lst.v
 go_enter Tryz.func207,Tryz.ntmps207
 go_wp2
 go_ret
 exact ⟨rfl,((Below.refl _ _).alloc (Nat.le_refl _) _).alloc (by simp) _⟩
set_option maxHeartbeats 400000 in
theorem val9 (p:Pc) (v:Vs) (w:World) :
 Calls Tryz.prog 212 #[encP p,encVs v] w (ValPost v.parent w):=by
 unfold encP encVs Lst.v
 go_enter Tryz.func212,Tryz.ntmps212
 go_wp2
 go_ret
 exact ⟨rfl,((Below.refl _ _).alloc (Nat.le_refl _) _).alloc (by simp) _⟩
set_option maxHeartbeats 400000 in
theorem val10 (p:Pc) (v:Vs) (w:World) :
 Calls Tryz.prog 213 #[encP p,encVs v] w (ValPost v.name w):=by
 unfold encP encVs Lst.v
 go_enter Tryz.func213,Tryz.ntmps213
 go_wp2
 go_ret
 exact ⟨rfl,((Below.refl _ _).alloc (Nat.le_refl _) _).alloc (by simp) _⟩
set_option maxHeartbeats 400000 in
theorem val3 (p:Pc) (v:Vs) (w:World) (hk:v.kernel.size≤9223372036854775807) :
 Calls Tryz.prog 203 #[encP p,encVs v] w (ValPost (bs (numS (L v.kernel))) w):=by
 have HN:=fun W=>Number_any v.kernel W hk
 unfold encP encVs Lst.v
 go_enter Tryz.func203,Tryz.ntmps203
 go_wp2_with (go_at_call 204;refine (HN _).mono ?_;rintro e w' ⟨rfl,hb⟩)
 go_ret
 exact ⟨rfl,(((Below.refl w.heap.size w).alloc (Nat.le_refl _) _).alloc (by simp) _).trans (hb.mono (by simp;omega))⟩
set_option maxHeartbeats 1000000 in
theorem val7 (p:Pc) (v:Vs) (w:World) (h:VsIn w w.heap.size v) :
 Calls Tryz.prog 208 #[encP p,encVs v] w (ValPost (firstV [v.attrs,v.above] (L p.text)) w):=by
 have HF:=fun (g off c:Nat) (W:World) (hb:Below w.heap.size w W) (hg:g<W.heap.size) ho=>first_any g off c [v.attrs,v.above] p.text W hg ho (fun x hx=>by
  have hs:=hb.size
  simp only [List.mem_cons,List.not_mem_nil,or_false] at hx
  rcases hx with rfl | rfl
  · exact ⟨(h.attrs.keep hb).more hs,by have:=h.la;omega⟩
  · exact ⟨(h.above.keep hb).more hs,by have:=h.lb;omega⟩) (by simp)
 unfold encP encVs Lst.v
 have HH:=Lib.hid h
 clear h
 go_enter Tryz.func208,Tryz.ntmps208
 go_wp2_with fail
 have e1:∀ (W:World) (o:Obj),(W.alloc o).heap.size=W.heap.size+1:=fun W o=>by simp
 refine (HF (w.heap.size+1+1) 0 2 _ ((((Below.refl w.heap.size w).alloc (Nat.le_refl _) _).alloc (by simp) _).alloc (by simp;omega) _) (by simp) ?_).mono ?_
 · have hblk:=heap_alloc_new ((w.alloc (.cells #[.int .i64 p.kind,.string p.text,.int .i64 p.word,.bool p.more] 249)).alloc (.cells #[.string v.kernel,.string v.devpath,.string v.id,.string v.driver,.string v.parent,.string v.name,.string v.result,.slice v.attrs.A v.attrs.l.length v.attrs.c,.slice v.above.A v.above.l.length v.above.c,.slice v.env.A v.env.l.length v.env.c] 207)) (.cells #[.slice v.attrs.A v.attrs.l.length v.attrs.c,.slice v.above.A v.above.l.length v.above.c] 31)
   rw [e1,e1] at hblk
   intro i x hx
   rw [Nat.zero_add,cell_of_row _ _ i _ _ _ hblk]
   rcases i with _ | _ | i
   · simp at hx;subst hx;rfl
   · simp at hx;subst hx;rfl
   · simp at hx
 · rintro e w' ⟨rfl,hb⟩
   go_wp2
   go_ret
   exact ⟨rfl,((((Below.refl w.heap.size w).alloc (Nat.le_refl _) _).alloc (by simp) _).alloc (by simp;omega) _).trans (hb.mono (by simp;omega))⟩
set_option maxHeartbeats 1000000 in
theorem val8 (p:Pc) (v:Vs) (w:World) (h:VsIn w w.heap.size v) :
 Calls Tryz.prog 210 #[encP p,encVs v] w (ValPost (firstV [v.env] (L p.text)) w):=by
 have HF:=fun (g off c:Nat) (W:World) (hb:Below w.heap.size w W) (hg:g<W.heap.size) ho=>first_any g off c [v.env] p.text W hg ho (fun x hx=>by
  have hs:=hb.size
  simp only [List.mem_cons,List.not_mem_nil,or_false] at hx
  subst hx
  exact ⟨(h.env.keep hb).more hs,by have:=h.le;omega⟩) (by simp)
 unfold encP encVs Lst.v
 have HH:=Lib.hid h
 clear h
 go_enter Tryz.func210,Tryz.ntmps210
 go_wp2_with fail
 have e1:∀ (W:World) (o:Obj),(W.alloc o).heap.size=W.heap.size+1:=fun W o=>by simp
 refine (HF (w.heap.size+1+1) 0 1 _ ((((Below.refl w.heap.size w).alloc (Nat.le_refl _) _).alloc (by simp) _).alloc (by simp;omega) _) (by simp) ?_).mono ?_
 · have hblk:=heap_alloc_new ((w.alloc (.cells #[.int .i64 p.kind,.string p.text,.int .i64 p.word,.bool p.more] 249)).alloc (.cells #[.string v.kernel,.string v.devpath,.string v.id,.string v.driver,.string v.parent,.string v.name,.string v.result,.slice v.attrs.A v.attrs.l.length v.attrs.c,.slice v.above.A v.above.l.length v.above.c,.slice v.env.A v.env.l.length v.env.c] 207)) (.cells #[.slice v.env.A v.env.l.length v.env.c] 31)
   rw [e1,e1] at hblk
   intro i x hx
   rw [Nat.zero_add,cell_of_row _ _ i _ _ _ hblk]
   rcases i with _ | i
   · simp at hx;subst hx;rfl
   · simp at hx
 · rintro e w' ⟨rfl,hb⟩
   go_wp2
   go_ret
   exact ⟨rfl,((((Below.refl w.heap.size w).alloc (Nat.le_refl _) _).alloc (by simp) _).alloc (by simp;omega) _).trans (hb.mono (by simp;omega))⟩
end
section
open Go.RowKit Go.Shelf
attribute [local go_sem] Oper.semAt_some
def trim (s:Str):Str:=Lib.trimLeftB s 32
def wordsT:Nat→Str→List Str
 | 0,_=>[]
 | n+1,t=>if t.isEmpty then [] else (Lib.cut t [32]).1 :: wordsT n (trim (Lib.cut t [32]).2.1)
def wordsS (s:Str):List Str:=wordsT s.length (trim s)
theorem trim_len (s:Str):(trim s).length≤s.length:=(List.dropWhile_sublist _).length_le
theorem cut_short (t:Str) (h:t≠[]):(Lib.cut t [32]).2.1.length<t.length:=by
 unfold Lib.cut
 have:0<t.length:=List.length_pos_iff.2 h
 split
 · dsimp only;rw [List.length_drop];simp;omega
 · exact this
theorem wordsT_fuel:∀ (n m:Nat) (t:Str),t.length≤n→t.length≤m→wordsT n t=wordsT m t:=by
 intro n
 induction n with
 | zero =>
   intro m t h1 h2
   have:t=[]:=List.length_eq_zero_iff.1 (by omega)
   subst this
   cases m <;> rfl
 | succ n ih =>
   intro m t h1 h2
   by_cases h:t=[]
   · subst h;cases m <;> rfl
   · cases m with
     | zero=>exact absurd (List.length_eq_zero_iff.1 (by omega)) h
     | succ m =>
       rw [wordsT,wordsT]
       have h3:=cut_short t h
       have h4:=trim_len (Lib.cut t [32]).2.1
       rw [ih m _ (by omega) (by omega)]
theorem wordsT_cons (n:Nat) (t:Str) (h:t≠[]) (hn:t.length≤n):wordsT n t=(Lib.cut t [32]).1 :: wordsT n (trim (Lib.cut t [32]).2.1):=by
 cases n with
 | zero=>exact absurd (List.length_eq_zero_iff.1 (by omega)) h
 | succ n =>
   have h3:=cut_short t h
   have h4:=trim_len (Lib.cut t [32]).2.1
   rw [wordsT,if_neg (by simpa using h),wordsT_fuel n (n+1) _ (by omega) (by omega)]
def boxLen (w:World) (b:Nat):Nat:=match w.cell? ⟨b,0,none⟩ with
 | some (.string s)=>s.size
 | _=>0
theorem boxLen_of {w:World} {b:Nat} {s:ByteArray} (h:w.cell? ⟨b,0,none⟩=some (.string s)):boxLen w b=s.size:=by
 unfold boxLen;rw [h]
theorem Trim_any (s:ByteArray) (w:World):Calls Tryz.prog 263 #[.string s,.string ⟨#[32]⟩] w fun e w'=>e=.returned (.string (bs (trim (L s))))∧w=w':=(Tryz.strings_TrimLeft_one s 32 (by decide) w).mono fun e w' h=>⟨h.1,h.2.symm⟩
set_option maxHeartbeats 2000000 in
theorem words1_in (n l Bn:Nat) (s:ByteArray) (hs:s.size≤4294967) (J:List ByteArray→World→Prop)
 (hJn:∀ pre A B,J pre A→A.grownBy B none→J pre B) (hJb:∀ pre A v,J pre A→J pre (A.setCell ⟨Bn,0,none⟩ v)) (hJE:∀ pre A,J pre A→Env A∧Bn<A.heap.size)
 (hY:∀ pre x W1,J pre W1→pre.length<s.size→x.size≤s.size→YieldAt Fence.wide (n - 1) Tryz.prog l #[.string x] W1 fun e W'=>e=.returned (.bool true)∧J (pre++[x]) W'∧W'.heap[Bn]? = W1.heap[Bn]?)
 (W:World) (hB:Boxed W Bn 9 (.string s)) (h0:J [] W) :
 CallsIn Fence.wide n Tryz.prog 268 #[.func (.yield l) #[] #[],.pointer (some ⟨Bn,0,none⟩)] W fun e W'=>(∃ v,e=.returned v)∧J ((wordsS (L s)).map bs) W':=by
 refine callsIn_of_wp Tryz.func268 rfl trivial ?_ rfl
 have c0:=hB.cell
 have f0:=hB.frozen
 have HB:=Lib.hid hB
 have H0:=Lib.hid h0
 clear hB h0
 simp only [Tryz.ntmps268,List.size_toArray,List.length_cons,List.length_nil,Nat.reduceAdd,Nat.reduceSub,Array.replicate_succ,Array.replicate_zero,List.push_toArray,List.append_toArray,List.nil_append,List.cons_append]
 gi_wp2_with (refine ⟨trivial,(fun h=>(by cases h)),?_⟩;gi_at_call 263;refine (callsIn_wide.2 (Trim_any _ _)).mono ?_;rintro e w2 ⟨rfl,rfl⟩)
 have hB1:Boxed (W.setCell ⟨Bn,0,none⟩ (.string (bs (trim (L s))))) Bn 9 (.string (bs (trim (L s)))):=HB.out.set _
 have hJ1:=hJb [] W (.string (bs (trim (L s)))) H0.out
 have HJ1:=Lib.hid hJ1
 have HB1:=Lib.hid hB1
 have ht:=trim_len (L s)
 rw [len_L] at ht
 have HJn:=Lib.hid hJn
 have HJb:=Lib.hid hJb
 have HJE:=Lib.hid hJE
 have HY:=Lib.hid hY
 clear hB1 hJ1 hJn hJb hJE hY c0 f0
 gi_loopw [4] (fun u wr=>∃ (pre:List Str) (t:Str),Hid (wordsS (L s)=pre++wordsT s.size t)∧pre.length+t.length≤s.size∧Hid (J (pre.map bs) wr)∧Hid (Boxed wr Bn 9 (.string (bs t)))) (fun u wr=>boxLen wr Bn)
 case atStart=>exact ⟨[],trim (L s),(by show wordsS (L s)=_;rw [wordsS,len_L];rfl),by simpa using ht,HJ1.out,HB1.out⟩
 case round =>
  obtain ⟨pre,t,hw,hl,hJ,hBx⟩:=hrel
  have c1:=hBx.out.cell
  have f1:=hBx.out.frozen
  have hlt:=hBx.out.lt
  by_cases h0:t=[]
  · subst h0
    have he:(bs []).toList.isEmpty=true:=by rw [tl,L_bs];rfl
    gi_wp2
    go_end0
    refine ⟨⟨_,rfl⟩,?_⟩
    rw [hw.out]
    have:wordsT s.size []=[]:=by cases s.size <;> rfl
    rw [this,List.append_nil]
    exact hJ.out
  · have he:(bs t).toList.isEmpty=false:=by rw [tl,L_bs];simpa using h0
    have hz:(bs t).size<4294967281:=by rw [size_bs];omega
    have hpos:0<t.length:=List.length_pos_iff.2 h0
    have HC:=Cut_any (bs t) ⟨#[32]⟩ wr (HJE.out _ _ hJ.out).1 hz
    rw [L_bs] at HC
    change Calls _ _ _ _ (fun e w'=>e=.returned (.tuple #[.string (bs (Lib.cut t [32]).1),.string (bs (Lib.cut t [32]).2.1),.bool (Lib.cut t [32]).2.2])∧∃ n,wr.drewN n=w') at HC
    have hc1:=(cut_len t [32]).1
    have hc2:=cut_short t h0
    have hwc:wordsS (L s)=(pre++[(Lib.cut t [32]).1])++wordsT s.size (trim (Lib.cut t [32]).2.1):=by
     rw [hw.out,wordsT_cons _ t h0 (by omega),List.append_assoc];rfl
    have hm:=boxLen_of c1
    rw [size_bs] at hm
    generalize (Lib.cut t [32]).1=a1 at *
    generalize (Lib.cut t [32]).2.1=a2 at *
    generalize (Lib.cut t [32]).2.2=a3 at *
    have HW:=Lib.hid hwc
    have HM:=Lib.hid hm
    clear hwc hm h0
    have e1:(bs a1).size≤s.size:=by rw [size_bs];omega
    gi_wp2_with (first | (refine ⟨trivial,(fun h=>(by cases h)),?_⟩;gi_at_call 159;refine (callsIn_wide.2 HC).mono ?_;rintro e w2 ⟨rfl,m,rfl⟩;have hyy:=HY.out (pre.map bs) (bs a1) (wr.drewN m) (HJn.out _ _ _ hJ.out (grown_drewN _ _ _)) (by simp;omega) e1;obtain ⟨fn,tmps,assign,body,hy,hR⟩:=hyy))
    refine ⟨(fun h=>(by cases h)),hR.mono ?_⟩
    rintro e W3 ⟨rfl,hJ3,hb3⟩
    have hB3:Boxed W3 Bn 9 (.string (bs t)):=hb3.trans hBx.out
    have hB4:=hB3.set (.string (bs a2))
    have c3:=hB3.cell
    have f3:=hB3.frozen
    have hJ4:=HJb.out _ _ (.string (bs a2)) hJ3
    have hlt3:=hB3.lt
    have HB4:=Lib.hid hB4
    have HJ4:=Lib.hid hJ4
    clear hB3 hB4 hJ4 hJ3 hb3 hy hR
    gi_wp2_with (first | (refine ⟨trivial,(fun h=>(by cases h)),?_⟩;gi_at_call 263;refine (callsIn_wide.2 (Trim_any _ _)).mono ?_;rintro e w2 ⟨rfl,rfl⟩))
    have hB5:=HB4.out.set (.string (bs (trim (L (bs a2)))))
    have hJ5:=HJb.out _ _ (.string (bs (trim (L (bs a2))))) HJ4.out
    have ht2:=trim_len a2
    go_roundw
    case rel =>
     refine ⟨pre++[a1],trim a2,HW.out,by simp;omega,?_,?_⟩
     · rw [L_bs] at hJ5 ⊢
       show J _ _
       rw [List.map_append]
       exact hJ5
     · rw [L_bs] at hB5 ⊢
       exact hB5
    case measure =>
     rw [boxLen_of hB5.cell,HM.out,size_bs,L_bs]
     omega
end
section
open Go.RowKit Go.Shelf
def Same1 (Bn:Nat) (W W':World):Prop:=W'.heap[Bn]? = W.heap[Bn]?
set_option maxHeartbeats 1000000 in
theorem range_words {g:Operand} {ps:Array Tmp} {assign body:Code} {Q:Exit→Act→World→Prop} {a:Act} {w:World} (n Bn:Nat) (s:ByteArray) (hs:s.size≤4294967)
 (hg:a.eval g=.func (.func 268) #[] #[.pointer (some ⟨Bn,0,none⟩)]) (hps:ps.size=1) (hB:Boxed w Bn 9 (.string s))
 (I:List ByteArray→World→Prop) (hI:OwnFrom w.heap.size I) (hIb:∀ pre A v,I pre A→I pre (A.setCell ⟨Bn,0,none⟩ v)) (hIE:∀ pre A,I pre A→Env A) (h0:I [] w) (a₁:ByteArray→Act)
 (hassign:∀ (l:Nat) (x:ByteArray) (W:World) (K:Act→World→Prop),K (a₁ x) W →
   assign.wpIn (Fence.wide.inRound l) (n - 1 - 1) Tryz.prog (Exit.then K (fun _ _ _=>False)) { tmps:=(ps.zip #[.string x]).foldl (fun t (p,v)=>t.setIfInBounds p v) a.tmps,defers:=[] } W)
 (hbody:∀ (l:Nat) (pre:List ByteArray) (x:ByteArray) (W:World),I pre W→pre.length<s.size→x.size≤s.size→Bn<W.heap.size→body.wpIn (Fence.wide.inRound l) (n - 1 - 1) Tryz.prog (ownPostK (Same1 Bn) I (fun _ _ _=>False) (pre++[x]) W) (a₁ x) W)
 (hdone:∀ (W:World),I ((wordsS (L s)).map bs) W→W.heap[w.heap.size]? = some (.deferred (some []))→Q .normal { a with defers:={ target:=.collected w.heap.size,args:=#[] } :: a.defers } W) :
 (Code.rangeFunc g ps assign body).wpIn Fence.wide n Tryz.prog Q a w:=by
 have hBn:=hB.lt
 refine wpIn_rangeFunc ?_
 intro fn hfn
 obtain ⟨rec,hrec⟩:∃ rec:LoopState→Option Code→Loop,rec=fun st pe=>{ state:=st,pending:=pe,fn,tmps:=a.tmps,params:=ps,assign,body,defers:=w.heap.size }:=⟨_,rfl⟩
 obtain ⟨W1,hW1⟩:∃ W1,(w.alloc (.deferred (some []))).alloc (.loop (rec .ready none))=W1:=⟨_,rfl⟩
 have hL1:W1.heap[w.heap.size+1]? = some (.loop (rec .ready none)):=by
  rw [←hW1];have:=World.alloc_heap_new (w.alloc (.deferred (some []))) (.loop (rec .ready none));rwa [World.size_alloc] at this
 have hK1:W1.heap[w.heap.size]? = some (.deferred (some [])):=by
  rw [←hW1];exact (Below.heap_alloc _ _ _ (by simp)).trans (World.alloc_heap_new w _)
 have hI1:I [] W1:=by rw [←hW1];exact hI.alloc _ (hI.alloc _ h0)
 have hBx1:Boxed W1 Bn 9 (.string s):=by rw [←hW1];exact (hB.alloc _).alloc _
 refine ⟨w.heap.size+1,[{ target:=.collected w.heap.size,args:=#[] }],W1,{ target:=.fn (.func 268) #[.pointer (some ⟨Bn,0,none⟩)],args:=#[.func (.yield (w.heap.size+1)) #[] #[]] },W1,268,
  #[.func (.yield (w.heap.size+1)) #[] #[]]++#[.pointer (some ⟨Bn,0,none⟩)],W1,?_,?_,?_,?_,(fun h=>(by cases h)),?_⟩
 · rw [←hW1,hrec];exact run_enterLoop_outer _ _ _ _ _
 · simp only [resolve,hg]
   simp [go_sem]
 · intro f' hf';trivial
 · have eg:=enters_of Tryz.func268 (by kernel_rfl) rfl
   simp [invoke,go_sem]
 · refine (words1_in (n - 1) (w.heap.size+1) Bn s hs
    (fun pre W=>I pre W∧W.heap[w.heap.size+1]? = some (.loop (rec .ready none))∧W.heap[w.heap.size]? = some (.deferred (some [])))
    (fun pre A B h hgr=>⟨hI pre A B none h.1 hgr (fun r e=>by cases e),(hgr.block _ (Array.getElem?_eq_some_iff.1 h.2.1).1 (by simp)).trans h.2.1,(hgr.block _ (Array.getElem?_eq_some_iff.1 h.2.2).1 (by simp)).trans h.2.2⟩)
    (fun pre A v h=>⟨hIb pre A v h.1,(heap_setCell_other _ _ _ _ (by simp;omega)).trans h.2.1,(heap_setCell_other _ _ _ _ (by simp;omega)).trans h.2.2⟩)
    (fun pre A h=>⟨hIE pre A h.1,by have:=(Array.getElem?_eq_some_iff.1 h.2.2).1;omega⟩)
    ?_ W1 hBx1 ⟨hI1,hL1,hK1⟩).mono ?_
   · rintro pre x W ⟨hi,hl,hk⟩ hlen hx
     have hlt:w.heap.size+1<W.heap.size:=(Array.getElem?_eq_some_iff.1 hl).1
     have hy:=run_yield (P:=Tryz.prog) (args:=#[.string x]) hl (by rw [hrec];exact hps.symm)
     rw [hrec] at hy
     refine ⟨fn,_,assign,body,hy,roundIn_of_wpIn hfn (hassign _ x W _ ⟨_,run_beginRound hl (by rw [hrec]),?_⟩)⟩
     have hl2:(W.putObj (w.heap.size+1) (.loop { rec .ready none with state:=.busy })).heap[w.heap.size+1]? = some (.loop { rec .ready none with state:=.busy }):=World.putObj_heap_same hlt
     have hk2:(W.putObj (w.heap.size+1) (.loop { rec .ready none with state:=.busy })).heap[w.heap.size]? = some (.deferred (some [])):=(World.putObj_heap_other (by omega)).trans hk
     have hb2:(W.putObj (w.heap.size+1) (.loop { rec .ready none with state:=.busy })).heap[Bn]? = W.heap[Bn]?:=World.putObj_heap_other (by omega)
     refine wpIn_mono (hbody _ pre x _ (hI.putObj _ hi (by omega) hl rfl) hlen hx (Nat.lt_of_lt_of_le (show Bn<W.heap.size by omega) (grownBy_putObj' _ _ _).size)) ?_
     rintro e a3 W3 hp
     cases e with
     | normal =>
       obtain ⟨hk3,hkp3,hi3⟩:=hp
       have hl3:=hk3.same _ _ hl2 rfl
       have hr:=run_endRound (P:=Tryz.prog) none hl3
       rw [hrec] at hr hl3
       refine ⟨_,_,hr,rfl,⟨hI.putObj _ hi3 (by omega) hl3 rfl,?_,?_⟩,?_⟩
       · rw [hrec];exact World.putObj_heap_same (Array.getElem?_eq_some_iff.1 hl3).1
       · exact (World.putObj_heap_other (by omega)).trans (hk3.same _ _ hk2 rfl)
       · exact (World.putObj_heap_other (by omega)).trans (hkp3.trans hb2)
     | ret=>exact hp.2.elim
     | exit id=>exact hp.2.elim
     | goto t=>exact hp.2.elim
     | panic ch=>exact hp.elim
     | outgrown=>exact hp.elim
   · rintro e W2 ⟨⟨v,rfl⟩,hi,hl,hk⟩
     exact ⟨none,_,by have:=run_endLoop (P:=Tryz.prog) hl (by rw [hrec];simp);rw [hrec] at this;exact this,hdone _ (hI.putObj _ hi (by omega) hl rfl) ((World.putObj_heap_other (by omega)).trans hk)⟩
end
section
open Go.RowKit Go.Shelf
attribute [local go_sem] Oper.semAt_some
def selW {α:Type} (k:Nat) (more:Bool) (l:List α):List α:=if more then l.drop (k - 1) else (l.drop (k - 1)).take 1
theorem selW_snoc {α:Type} (k:Nat) (hk:1≤k) (more:Bool) (l:List α) (x:α):selW k more (l++[x])=if l.length+1=k∨(k<l.length+1∧more=true) then selW k more l++[x] else selW k more l:=by
 have hd:(l++[x]).drop (k - 1)=if k≤l.length+1 then l.drop (k - 1)++[x] else []:=by
  rw [List.drop_append]
  by_cases h:k≤l.length+1
  · rw [if_pos h,show k - 1 - l.length=0 from by omega];rfl
  · rw [if_neg h,List.drop_of_length_le (by omega),List.drop_of_length_le (by simp;omega)];rfl
 have hl:(l.drop (k - 1)).length=l.length - (k - 1):=List.length_drop
 cases more
 · simp only [selW,Bool.false_eq_true,if_false,and_false,or_false]
   rw [hd]
   rcases Nat.lt_trichotomy (l.length+1) k with h | h | h
   · rw [if_neg (by omega),if_neg (by omega),List.drop_of_length_le (by omega)]; 
   · rw [if_pos (by omega),if_pos h,List.drop_of_length_le (by omega)];rfl
   · rw [if_pos (by omega),if_neg (by omega),List.take_append,hl,show 1 - (l.length - (k - 1))=0 from by omega]
     simp
 · simp only [selW,if_true,and_true]
   rw [hd]
   by_cases h:k≤l.length+1
   · rw [if_pos h,if_pos (by omega)]
   · rw [if_neg h,if_neg (by omega),List.drop_of_length_le (by omega)]
theorem selW_len {α:Type} (k:Nat) (more:Bool) (l:List α):(selW k more l).length≤l.length:=by
 unfold selW;split
 · rw [List.length_drop];omega
 · rw [List.length_take,List.length_drop];omega
theorem wordsT_len:∀ (n:Nat) (t:Str),(wordsT n t).length≤t.length∧∀ x∈wordsT n t,x.length≤t.length:=by
 intro n
 induction n with
 | zero=>intro t;exact ⟨Nat.zero_le _,fun x h=>by cases h⟩
 | succ n ih =>
   intro t
   by_cases h:t=[]
   · subst h;exact ⟨Nat.zero_le _,fun x h=>by cases h⟩
   · rw [wordsT,if_neg (by simpa using h)]
     have h1:=cut_short t h
     have h2:=(cut_len t [32]).1
     have h3:=trim_len (Lib.cut t [32]).2.1
     have h4:=ih (trim (Lib.cut t [32]).2.1)
     refine ⟨by rw [List.length_cons];omega,fun x hx=>?_⟩
     rcases List.mem_cons.1 hx with rfl | hx
     · exact h2
     · have:=h4.2 x hx;omega
theorem wordsS_len (s:Str):(wordsS s).length≤s.length∧∀ x∈wordsS s,x.length≤s.length:=by
 have h:=wordsT_len s.length (trim s)
 have h2:=trim_len s
 exact ⟨by unfold wordsS;omega,fun x hx=>by have:=h.2 x hx;omega⟩
def resultS (k:Nat) (more:Bool) (r:Str):Str:=if k=0 then r else Lib.join (selW k more (wordsS r)) [32]
def ResI (B:Nat) (w:World) (k:Nat) (more:Bool) (p1 p2:Array Value) (pre:List ByteArray) (W:World):Prop :=
 W.heap[B]? = some (.cells p1 249 (0,0))∧W.heap[B+1]? = some (.cells p2 207 (0,0))∧Boxed W (B+3) 3 (.int .i64 pre.length) ∧
 (∃ v,Boxed W (B+2) 32 v∧W.ownsRow (B+5) 9 1 v (selW k more pre).length ((selW k more pre).map Value.string))∧Below B w W
theorem alloc5 (w:World) (o1 o2 o3 o4 o5:Obj):(((((w.alloc o1).alloc o2).alloc o3).alloc o4).alloc o5).heap.size=w.heap.size+5 ∧
 (((((w.alloc o1).alloc o2).alloc o3).alloc o4).alloc o5).heap[w.heap.size]? = some o1∧(((((w.alloc o1).alloc o2).alloc o3).alloc o4).alloc o5).heap[w.heap.size+1]? = some o2 ∧
 (((((w.alloc o1).alloc o2).alloc o3).alloc o4).alloc o5).heap[w.heap.size+2]? = some o3∧(((((w.alloc o1).alloc o2).alloc o3).alloc o4).alloc o5).heap[w.heap.size+3]? = some o4 ∧
 (((((w.alloc o1).alloc o2).alloc o3).alloc o4).alloc o5).heap[w.heap.size+4]? = some o5∧Below w.heap.size w (((((w.alloc o1).alloc o2).alloc o3).alloc o4).alloc o5):=by
 have hn:∀ (W:World) (o:Obj) (k:Nat),k=W.heap.size→(W.alloc o).heap[k]? = some o:=fun W o k e=>by rw [e];exact World.alloc_heap_new W o
 have hs:∀ (W:World) (o:Obj),(W.alloc o).heap.size=W.heap.size+1:=fun W o=>by simp
 have ho:∀ (W:World) (o:Obj) (k:Nat),k<W.heap.size→(W.alloc o).heap[k]? = W.heap[k]?:=fun W o k h=>Below.heap_alloc W o k h
 refine ⟨by simp only [hs],?_,?_,?_,?_,?_,?_⟩
 · rw [ho _ _ _ (by simp only [hs];omega),ho _ _ _ (by simp only [hs];omega),ho _ _ _ (by simp only [hs];omega),ho _ _ _ (by simp only [hs];omega)];exact hn _ _ _ rfl
 · rw [ho _ _ _ (by simp only [hs];omega),ho _ _ _ (by simp only [hs];omega),ho _ _ _ (by simp only [hs];omega)];exact hn _ _ _ (by simp only [hs])
 · rw [ho _ _ _ (by simp only [hs];omega),ho _ _ _ (by simp only [hs];omega)];exact hn _ _ _ (by simp only [hs])
 · rw [ho _ _ _ (by simp only [hs];omega)];exact hn _ _ _ (by simp only [hs])
 · exact hn _ _ _ (by simp only [hs])
 · exact (((((Below.refl _ _).alloc (Nat.le_refl _) _).alloc (by simp only [hs];omega) _).alloc (by simp only [hs];omega) _).alloc (by simp only [hs];omega) _).alloc (by simp only [hs];omega) _
theorem cells_kept {A W:World} {row:Option Nat} {b:Nat} {c:Array Value} {t:TypeId} (h:A.heap[b]? = some (.cells c t (0,0))) (hg:A.grownBy W row) (hr:∀ r,row=some r→∃ o:Obj,A.heap[r]? = some o∧o.isCells=false):W.heap[b]? = some (.cells c t (0,0)):=by
 rw [hg.block b (Array.getElem?_eq_some_iff.1 h).1 (fun e=>by
  obtain ⟨o,ho,hc⟩:=hr b e.symm
  rw [h] at ho;cases ho;cases hc)]
 exact h
theorem resI_own (B:Nat) (w:World) (k:Nat) (more:Bool) (p1 p2:Array Value) (B0:Nat) (hB:B≤B0) (hw:B≤w.heap.size):OwnFrom B0 (ResI B w k more p1 p2):=by
 intro s A W row hs hg hr
 have hr':∀ r,row=some r→∃ o:Obj,A.heap[r]? = some o∧o.isCells=false:=fun r e=>(hr r e).2
 obtain ⟨h1,h2,h3,⟨v,h4,h5⟩,h6⟩:=hs
 refine ⟨cells_kept h1 hg hr',cells_kept h2 hg hr',cells_kept h3 hg hr',⟨v,cells_kept h4 hg hr',h5.kept hg ?_⟩,?_⟩
 · rcases h5.2 with ⟨rfl,_⟩ | ⟨g,cap,cur,rfl,_,hgb,_⟩
   · left;rfl
   · right
     intro e
     obtain ⟨o,ho,hc⟩:=hr' g (by simpa [Value.ownBlock] using e.symm)
     rw [hgb] at ho;cases ho;cases hc
 · exact h6.grown hg (Nat.le_trans hw h6.size) (fun r e=>Nat.le_trans hB (hr r e).1)
theorem selW_map {α β:Type} (f:α→β) (k:Nat) (more:Bool) (l:List α):selW k more (l.map f)=(selW k more l).map f:=by
 cases more <;> simp [selW,List.map_drop,List.map_take]
theorem selW_mem {α:Type} {k:Nat} {more:Bool} {l:List α} {x:α} (h:x∈selW k more l):x∈l:=by
 cases more
 · exact List.mem_of_mem_drop (List.mem_of_mem_take (by simpa [selW] using h))
 · exact List.mem_of_mem_drop (by simpa [selW] using h)
theorem join_len (M:Nat) (l:List Str) (h:∀ x∈l,x.length≤M):(Lib.join l [32]).length≤l.length*(M+1):=by
 induction l with
 | nil=>simp [Lib.join]
 | cons x l ih =>
   have h1:=h x (by simp)
   have h2:=ih (fun y hy=>h y (by simp [hy]))
   cases l with
   | nil=>simp [Lib.join] at h2 ⊢;omega
   | cons y l =>
     have hj:Lib.join (x :: y :: l) [32]=x++([32]++Lib.join (y :: l) [32]):=by
      simp [Lib.join,List.intercalate,List.intersperse]
     rw [hj]
     have e:=Nat.succ_mul (l.length+1) (M+1)
     simp only [Nat.succ_eq_add_one] at e
     simp only [List.length_append,List.length_cons,List.length_nil] at h2 ⊢
     rw [e]
     generalize (l.length+1)*(M+1)=Z at *
     omega
theorem Join_own (W:World) (base:Nat) (v:Value) (xs:List Str) (M:Nat) (hn:xs.length≤M) (hM:M≤4294967) (hx:∀ x∈xs,x.length≤M) (h:W.ownsRow base 9 1 v xs.length ((xs.map bs).map Value.string)) :
 Calls Tryz.prog 64 #[v,.string ⟨#[32]⟩] W fun e w'=>e=.returned (.string (bs (Lib.join xs [32])))∧Below W.heap.size W w':=by
 have hjl:=join_len M xs hx
 have hmul:xs.length*(M+1)≤140737488355328:=Nat.le_trans (Nat.mul_le_mul hn (Nat.le_refl (M+1))) (Nat.le_trans (Nat.mul_le_mul hM (Nat.succ_le_succ hM)) (by decide))
 cases xs with
 | nil =>
   rcases h.2 with ⟨rfl,_⟩ | ⟨g,cap,cur,rfl,_⟩
   · exact (Tryz.strings_Join_none none 0 ⟨#[32]⟩ W).mono fun e w' h=>⟨h.1,by rw [h.2];exact Below.refl _ _⟩
   · exact (Tryz.strings_Join_none (some ⟨g,0,none⟩) cap ⟨#[32]⟩ W).mono fun e w' h=>⟨h.1,by rw [h.2];exact Below.refl _ _⟩
 | cons x xs =>
   have hl:(((x :: xs).map bs).map (·.data.toList))=x :: xs:=by
    rw [List.map_map]
    exact (List.map_congr_left (fun y _=>L_bs y)).trans (List.map_id _)
   rcases h.2 with ⟨_,h0⟩ | ⟨g,cap,cur,rfl,hb,hgg,hroom,_,_,_⟩
   · simp at h0
   · have hc:∀ (j:Nat) (y:ByteArray),((x :: xs).map bs)[j]? = some y→W.cell? ⟨g,0+j,none⟩=some (.string y):=fun j y hy=>by
      have:=h.cells (g:=g) rfl j (.string y) (by rw [List.getElem?_map,hy];rfl)
      have hadd:(⟨g,0,none⟩:Addr).add j=⟨g,j,none⟩:=by unfold Addr.add;split <;> simp_all
      rw [hadd] at this
      rw [Nat.zero_add];exact this
     have hJ:=Tryz.strings_Join g 0 cap ((x :: xs).map bs) ⟨#[32]⟩ W hc (blk_lt hgg) (by rw [List.length_map];omega) (by rw [List.length_map];exact hroom) (by rw [hl];exact Nat.le_trans hjl hmul)
     rw [hl,List.length_map] at hJ
     exact hJ
theorem own_less {W:World} {b b':Nat} {e:TypeId} {n:Nat} {v:Value} {k:Nat} {xs:List Value} (h:W.ownsRow b e n v k xs) (hb:b'≤b):W.ownsRow b' e n v k xs:=by
 refine ⟨h.1,?_⟩
 rcases h.2 with h1 | ⟨g,cap,cur,e1,h2,h3⟩
 · exact .inl h1
 · exact .inr ⟨g,cap,cur,e1,by omega,h3⟩
theorem resI_skip {B:Nat} {w:World} {k:Nat} {more:Bool} {p1 p2:Array Value} {pre:List ByteArray} {x:ByteArray} {W:World} (h:ResI B w k more p1 p2 pre W) (_hw:B≤w.heap.size) (hsel:selW k more (pre++[x])=selW k more pre) :
 ResI B w k more p1 p2 (pre++[x]) (W.setCell ⟨B+3,0,none⟩ (.int .i64 ((pre.length:Int)+1))):=by
 obtain ⟨h1,h2,h3,⟨v',h4,h5⟩,h6⟩:=h
 have hk:∀ j,j≠B+3→(W.setCell ⟨B+3,0,none⟩ (.int .i64 ((pre.length:Int)+1))).heap[j]? = W.heap[j]?:=fun j hj=>heap_setCell_other _ _ _ _ hj
 refine ⟨(hk _ (by omega)).trans h1,(hk _ (by omega)).trans h2,?_,⟨v',(hk _ (by omega)).trans h4,?_⟩,h6.setCell (p:=⟨B+3,0,none⟩) (by simp) _⟩
 · have:=h3.set (.int .i64 ((pre.length:Int)+1))
   rw [List.length_append]
   exact this
 · rw [hsel]
   exact ownsRow_setCell_other h5 (fun e=>by have h7:=(h5.lt _ e).1;dsimp only at h7;omega) _
theorem resI_hit {B:Nat} {w:World} {k:Nat} {more:Bool} {p1 p2:Array Value} {pre:List ByteArray} {x:ByteArray} {W w1:World} {v':Value} {tmp:Obj} (h:ResI B w k more p1 p2 pre W) (hsel:selW k more (pre++[x])=selW k more pre++[x])
 {v0:Value} (hv0:Boxed W (B+2) 32 v0) (hlt:B+4<W.heap.size)
 (hown:w1.ownsRow (B+5) 9 1 v' ((selW k more pre).length+1) ((selW k more pre).map Value.string++[Value.string x]))
 (hg:((W.setCell ⟨B+3,0,none⟩ (.int .i64 ((pre.length:Int)+1))).alloc tmp).grownBy w1 v0.ownBlock) :
 ResI B w k more p1 p2 (pre++[x]) (w1.setCell ⟨B+2,0,none⟩ v')∧KeepsOthers W (w1.setCell ⟨B+2,0,none⟩ v')∧Same1 (B+4) W (w1.setCell ⟨B+2,0,none⟩ v')∧Boxed w1 (B+2) 32 v0:=by
 obtain ⟨h1,h2,h3,⟨vv,h4,h5⟩,h6⟩:=h
 obtain rfl:vv=v0:=by
  have:=(show W.heap[B+2]? = _ from h4).symm.trans hv0
  simpa using this
 have hrow:∀ j,vv.ownBlock=some j→B+5≤j:=fun j e=>(h5.lt j e).1
 obtain ⟨W2,hW2⟩:∃ W2,W.setCell ⟨B+3,0,none⟩ (.int .i64 ((pre.length:Int)+1))=W2:=⟨_,rfl⟩
 rw [hW2] at hg
 have hs2:W2.heap.size=W.heap.size:=by rw [←hW2];simp
 have hk2:∀ j,j≠B+3→W2.heap[j]? = W.heap[j]?:=fun j hj=>by rw [←hW2];exact heap_setCell_other _ _ _ _ hj
 have h32:Boxed W2 (B+3) 3 (.int .i64 ((pre.length:Int)+1)):=by rw [←hW2];exact h3.set _
 have hk1:∀ j,j<B+5→w1.heap[j]? = W2.heap[j]?:=fun j hj=>by
  rw [hg.block j (by simp;omega) (fun e=>by have:=hrow j e.symm;omega)]
  exact Below.heap_alloc _ _ _ (by omega)
 have hk3:∀ j,j≠B+2→(w1.setCell ⟨B+2,0,none⟩ v').heap[j]? = w1.heap[j]?:=fun j hj=>heap_setCell_other _ _ _ _ hj
 have hb1:Boxed w1 (B+2) 32 vv:=(hk1 _ (by omega)).trans ((hk2 _ (by omega)).trans h4)
 have hrow2:W2.ownsRow (B+5) 9 1 vv (selW k more pre).length ((selW k more pre).map Value.string):=by
  rw [←hW2];exact ownsRow_setCell_other h5 (fun e=>by have h7:=(h5.lt _ e).1;dsimp only at h7;omega) _
 have hv2:Boxed W2 (B+2) 32 vv:=(hk2 _ (by omega)).trans h4
 obtain ⟨_,_,_,hko,hbe⟩:=hv2.appended (by decide) (own_less hrow2 (show B≤B+5 by omega)) (by omega) (by omega) (own_less hown (show B≤B+5 by omega)) hg
 have hko2:KeepsOthers W W2:=by rw [←hW2];exact KeepsOthers.setCell _ _ _
 refine ⟨⟨?_,?_,?_,⟨v',hb1.set v',?_⟩,?_⟩,hko2.trans hko,?_,hb1⟩
 · rw [hk3 _ (by omega),hk1 _ (by omega),hk2 _ (by omega)];exact h1
 · rw [hk3 _ (by omega),hk1 _ (by omega),hk2 _ (by omega)];exact h2
 · rw [List.length_append]
   exact (hk3 _ (by omega)).trans ((hk1 _ (by omega)).trans h32)
 · rw [hsel,List.length_append,List.map_append]
   exact ownsRow_setCell_other hown (fun e=>by have h7:=(hown.lt _ e).1;dsimp only at h7;omega) _
 · have hb2:Below B w W2:=by rw [←hW2];exact h6.setCell (p:=⟨B+3,0,none⟩) (by simp) _
   exact hb2.trans hbe
 · show _=_
   rw [hk3 _ (by omega),hk1 _ (by omega),hk2 _ (by omega)]
set_option maxHeartbeats 2000000 in
theorem result_any (k:Nat) (more:Bool) (p:Pc) (v:Vs) (w:World) (hE:Env w) (hk:k≤1000) (hp:p.word=k) (hm:p.more=more) (hr:v.result.size≤4294967) :
 Calls Tryz.prog 211 #[encP p,encVs v] w (ValPost (bs (resultS k more (L v.result))) w):=by
 unfold encP encVs Lst.v
 rw [hp,hm]
 clear hp hm
 rcases Nat.eq_zero_or_pos k with h0 | h0
 · subst h0
   have hb:bs (resultS 0 more (L v.result))=v.result:=by rw [resultS,if_pos rfl,bs_L]
   rw [hb]
   clear hb
   go_enter Tryz.func211,Tryz.ntmps211
   go_wp2
   go_ret
   exact ⟨rfl,((Below.refl _ _).alloc (Nat.le_refl _) _).alloc (by simp) _⟩
 · have hk0:((k:Int) == 0)=false:=by simp;omega
   refine (callsIn_wide (n:=3)).1 ?_
   refine callsIn_of_wp_marks Tryz.func211 rfl trivial ?_ rfl
   simp only [Tryz.ntmps211,List.size_toArray,List.length_cons,List.length_nil,Nat.reduceAdd,Nat.reduceSub,Array.replicate_succ,Array.replicate_zero,List.push_toArray,List.append_toArray,List.nil_append,List.cons_append]
   have HWd:∀ W:World,Calls Tryz.prog 241 #[.string v.result] W fun e w'=>e=.returned (.func (.func 268) #[] #[.pointer (some ⟨W.heap.size,0,none⟩)])∧W.alloc (.cells #[.string v.result] 9)=w':=fun W=>by
    go_enter Tryz.func241,Tryz.ntmps241
    go_wp2
    go_ret
    exact ⟨rfl,rfl⟩
   gi_wp2_with (refine ⟨trivial,?_⟩;gi_at_call 241;refine (callsIn_wide.2 (HWd _)).mono ?_;rintro e w' ⟨rfl,rfl⟩)
   refine range_words 3 (w.heap.size+1+1+1+1) v.result hr rfl rfl ?hBox (ResI w.heap.size w k more #[.int .i64 p.kind,.string p.text,.int .i64 k,.bool more] #[.string v.kernel,.string v.devpath,.string v.id,.string v.driver,.string v.parent,.string v.name,.string v.result,.slice v.attrs.A v.attrs.l.length v.attrs.c,.slice v.above.A v.above.l.length v.above.c,.slice v.env.A v.env.l.length v.env.c]) ?hI ?hIb ?hIE ?h0 ?a1 ?assign ?body ?done
   case hBox=>exact (alloc5 w _ _ _ _ _).2.2.2.2.2.1
   case hI=>exact resI_own _ _ _ _ _ _ _ (by rw [(alloc5 w _ _ _ _ _).1];omega) (Nat.le_refl _)
   case hIE=>exact fun pre A h=>hE.keep h.2.2.2.2 hE.size
   case hIb =>
    rintro pre A x ⟨h1,h2,h3,⟨v',h4,h5⟩,h6⟩
    have hk:∀ j,j≠w.heap.size+4→(A.setCell ⟨w.heap.size+1+1+1+1,0,none⟩ x).heap[j]? = A.heap[j]?:=fun j hj=>heap_setCell_other _ _ _ _ (by simp;omega)
    refine ⟨(hk _ (by omega)).trans h1,(hk _ (by omega)).trans h2,(hk _ (by omega)).trans h3,⟨v',(hk _ (by omega)).trans h4,ownsRow_setCell_other h5 (fun e=>?_) _⟩,h6.setCell (p:=⟨w.heap.size+1+1+1+1,0,none⟩) (by simp;omega) _⟩
    have h7:=(h5.lt _ e).1
    dsimp only at h7
    omega
   case h0 =>
    obtain ⟨_,h1,h2,h3,h4,_,h6⟩:=alloc5 w (.cells #[.int .i64 p.kind,.string p.text,.int .i64 k,.bool more] 249) (.cells #[.string v.kernel,.string v.devpath,.string v.id,.string v.driver,.string v.parent,.string v.name,.string v.result,.slice v.attrs.A v.attrs.l.length v.attrs.c,.slice v.above.A v.above.l.length v.above.c,.slice v.env.A v.env.l.length v.env.c] 207) (.cells #[.slice none 0 0] 32) (.cells #[.int .i64 0] 3) (.cells #[.string v.result] 9)
    have e:selW k more ([]:List ByteArray)=[]:=List.length_eq_zero_iff.1 (Nat.le_zero.1 (selW_len k more _))
    exact ⟨h1,h2,h4,⟨.slice none 0 0,h3,by rw [e];exact ⟨rfl,.inl ⟨rfl,rfl⟩⟩⟩,h6⟩
   case assign =>
    intro l x W K hK
    gi_wp2
    exact hK
   case body =>
    rintro l pre x W ⟨h1,h2,h3,⟨v',h4,h5⟩,h6⟩ hlen hx hlt
    have q2:W.cell? ⟨w.heap.size,2,none⟩=some (.int .i64 k):=by rw [cell_of_row _ _ 2 _ _ _ h1];rfl
    have q3:W.cell? ⟨w.heap.size,3,none⟩=some (.bool more):=by rw [cell_of_row _ _ 3 _ _ _ h1];rfl
    have c6:W.cell? ⟨w.heap.size+1+1+1,0,none⟩=some (.int .i64 pre.length):=h3.cell
    have f6:W.frozen? ⟨w.heap.size+1+1+1,0,none⟩=false:=h3.frozen
    have c5:W.cell? ⟨w.heap.size+1+1,0,none⟩=some v':=h4.cell
    have f5:W.frozen? ⟨w.heap.size+1+1,0,none⟩=false:=h4.frozen
    have H1:=Lib.hid h1
    have H2:=Lib.hid h2
    have H3:=Lib.hid h3
    have H4:=Lib.hid h4
    have H5:=Lib.hid h5
    have H6:=Lib.hid h6
    have hs3:=selW_snoc k h0 more pre x
    have HI0:Hid (ResI w.heap.size w k more _ _ pre W):=Lib.hid ⟨h1,h2,h3,⟨v',h4,h5⟩,h6⟩
    have HS3:=Lib.hid hs3
    have hsz:w.heap.size+4<W.heap.size:=by omega
    clear h1 h2 h3 h4 h5 h6 hs3
    rcases Nat.lt_trichotomy (pre.length+1) k with hc | hc | hc
    · have t1:((pre.length:Int)+1 == (k:Int))=false:=by simp;omega
      have t2:((pre.length:Int)+1≤(k:Int)):=by omega
      gi_wp2
      exact ⟨KeepsOthers.setCell _ _ _,heap_setCell_other _ _ _ _ (by simp),resI_skip HI0.out (Nat.le_refl _) (HS3.out.trans (if_neg (by omega)))⟩
    · have t1:((pre.length:Int)+1 == (k:Int))=true:=by simp;omega
      obtain ⟨i0,hi0,hz0,hz1,hz2⟩:=info_parts strInfo
      have hsel:selW k more (pre++[x])=selW k more pre++[x]:=HS3.out.trans (if_pos (.inl hc))
      have Hsel:=Lib.hid hsel
      have hln:=selW_len k more pre
      have hv2:Boxed (W.setCell ⟨w.heap.size+1+1+1,0,none⟩ (.int .i64 ((pre.length:Int)+1))) (w.heap.size+1+1) 32 v':=(heap_setCell_other _ _ _ _ (by simp)).trans H4.out
      have c52:=hv2.cell
      have hrow2:Hid ((W.setCell ⟨w.heap.size+1+1+1,0,none⟩ (.int .i64 ((pre.length:Int)+1))).ownsRow (w.heap.size+5) 9 1 v' (selW k more pre).length ((selW k more pre).map Value.string)):=Lib.hid (ownsRow_setCell_other H5.out (fun e=>by have h7:=(H5.out.lt _ e).1;dsimp only at h7;omega) _)
      clear hsel hv2
      gi_wp2_with (gi_at_builtin;refine wpListIn_append_own _ rfl _ _ 32 rfl (w.heap.size+5) 9 i0 (.string ⟨#[]⟩) 1 16 Tryz.underlying32 hi0 hz0 hz1 hz2 rfl (by decide) _ _ _ rfl (hrow2.out.alloc _) ⟨W.heap.size,0,none⟩ 1 1 [.string x] rfl rfl (by have:=cell_one_new (W.setCell ⟨w.heap.size+1+1+1,0,none⟩ (.int .i64 ((pre.length:Int)+1))) (.string x) 9;rw [show (W.setCell ⟨w.heap.size+1+1+1,0,none⟩ (.int .i64 ((pre.length:Int)+1))).heap.size=W.heap.size from by simp] at this;exact this) (by simp [Value.oneCell']) (by unfold maxLen;omega) (by omega) (by simp;omega) ?_;intro v'' w1 hown' hgrow _;obtain ⟨g',cap',rfl⟩:=ownsRow_succ hown';have hfin:=resI_hit HI0.out Hsel.out H4.out (by omega) hown' hgrow;obtain ⟨hr1,hr2,hr3,hr4⟩:=hfin;have hc1:=hr4.cell;have hf1:=hr4.frozen;have HR1:=Lib.hid hr1;have HR2:=Lib.hid hr2;have HR3:=Lib.hid hr3;clear hr1 hr2 hr3 hr4)
      exact ⟨HR2.out,HR3.out,HR1.out⟩
    · have t1:((pre.length:Int)+1 == (k:Int))=false:=by simp;omega
      have t2:((k:Int)<(pre.length:Int)+1):=by omega
      cases more
      · gi_wp2
        exact ⟨KeepsOthers.setCell _ _ _,heap_setCell_other _ _ _ _ (by simp),resI_skip HI0.out (Nat.le_refl _) (HS3.out.trans (if_neg (by simp;omega)))⟩
      · obtain ⟨i0,hi0,hz0,hz1,hz2⟩:=info_parts strInfo
        have hsel:selW k true (pre++[x])=selW k true pre++[x]:=HS3.out.trans (if_pos (.inr ⟨hc,rfl⟩))
        have Hsel:=Lib.hid hsel
        have hln:=selW_len k true pre
        have hv2:Boxed (W.setCell ⟨w.heap.size+1+1+1,0,none⟩ (.int .i64 ((pre.length:Int)+1))) (w.heap.size+1+1) 32 v':=(heap_setCell_other _ _ _ _ (by simp)).trans H4.out
        have c52:=hv2.cell
        have hrow2:Hid ((W.setCell ⟨w.heap.size+1+1+1,0,none⟩ (.int .i64 ((pre.length:Int)+1))).ownsRow (w.heap.size+5) 9 1 v' (selW k true pre).length ((selW k true pre).map Value.string)):=Lib.hid (ownsRow_setCell_other H5.out (fun e=>by have h7:=(H5.out.lt _ e).1;dsimp only at h7;omega) _)
        clear hsel hv2
        gi_wp2_with (gi_at_builtin;refine wpListIn_append_own _ rfl _ _ 32 rfl (w.heap.size+5) 9 i0 (.string ⟨#[]⟩) 1 16 Tryz.underlying32 hi0 hz0 hz1 hz2 rfl (by decide) _ _ _ rfl (hrow2.out.alloc _) ⟨W.heap.size,0,none⟩ 1 1 [.string x] rfl rfl (by have:=cell_one_new (W.setCell ⟨w.heap.size+1+1+1,0,none⟩ (.int .i64 ((pre.length:Int)+1))) (.string x) 9;rw [show (W.setCell ⟨w.heap.size+1+1+1,0,none⟩ (.int .i64 ((pre.length:Int)+1))).heap.size=W.heap.size from by simp] at this;exact this) (by simp [Value.oneCell']) (by unfold maxLen;omega) (by omega) (by simp;omega) ?_;intro v'' w1 hown' hgrow _;obtain ⟨g',cap',rfl⟩:=ownsRow_succ hown';have hfin:=resI_hit HI0.out Hsel.out H4.out (by omega) hown' hgrow;obtain ⟨hr1,hr2,hr3,hr4⟩:=hfin;have hc1:=hr4.cell;have hf1:=hr4.frozen;have HR1:=Lib.hid hr1;have HR2:=Lib.hid hr2;have HR3:=Lib.hid hr3;clear hr1 hr2 hr3 hr4)
        exact ⟨HR2.out,HR3.out,HR1.out⟩
   case done =>
    rintro W ⟨h1,h2,h3,⟨v',h4,h5⟩,h6⟩ hK
    rw [selW_map,List.length_map] at h5
    have hwl:=wordsS_len (L v.result)
    rw [len_L] at hwl
    have hJ:=Join_own W (w.heap.size+5) v' (selW k more (wordsS (L v.result))) v.result.size (by have:=selW_len k more (wordsS (L v.result));omega) hr (fun x hx=>hwl.2 x (selW_mem hx)) h5
    have c5:W.cell? ⟨w.heap.size+1+1,0,none⟩=some v':=h4.cell
    have hres:bs (resultS k more (L v.result))=bs (Lib.join (selW k more (wordsS (L v.result))) [32]):=by rw [resultS,if_neg (by omega)]
    have HRes:=Lib.hid hres
    simp only [World.size_alloc] at hK
    have HK:=Lib.hid hK
    have H6:=Lib.hid h6
    clear h1 h2 h3 h4 h5 h6 hwl hres hK
    generalize bs (Lib.join (selW k more (wordsS (L v.result))) [32])=res at *
    gi_wp2_with (refine ⟨trivial,?_⟩;gi_at_call 64;refine (callsIn_wide.2 hJ).mono ?_;rintro e w9 ⟨rfl,hb9⟩)
    have hK9:=(hb9.block _ (Array.getElem?_eq_some_iff.1 HK.out).1).trans HK.out
    refine ⟨by simp,.inl ⟨_,_,rfl,run_takeDeferred hK9,?_⟩⟩
    refine ⟨_,results_tmp rfl _ _ _,?_⟩
    refine ⟨by rw [HRes.out];rfl,?_⟩
    have hW:Below w.heap.size w w9:=H6.out.trans (hb9.mono (by have:=H6.out.size;omega))
    exact hW.trans (belowK_b (w:=w) (Nat.le_refl _) w9 _ _ _ (by omega) hK9 rfl rfl)
end
section
open Go.RowKit
def valueS (p:Pc) (v:Vs):ByteArray :=
 if p.kind=1 then p.text else if p.kind=2 then v.kernel else if p.kind=3 then bs (numS (L v.kernel)) else if p.kind=4 then v.devpath
 else if p.kind=5 then v.id else if p.kind=6 then v.driver else if p.kind=7 then firstV [v.attrs,v.above] (L p.text) else if p.kind=8 then firstV [v.env] (L p.text)
 else if p.kind=9 then bs (resultS p.word.toNat p.more (L v.result)) else if p.kind=10 then v.parent else v.name
def outS (ps:List Pc) (v:Vs):ByteArray:=ps.foldl (fun a p=>a++valueS p v) ⟨#[]⟩
theorem outS_snoc (ps:List Pc) (p:Pc) (v:Vs):outS (ps++[p]) v=outS ps v++valueS p v:=by simp [outS]
def expandS (s:Str) (v:Vs):ByteArray × Int :=
 if (parseR s).2=0 then ((outS (parseR s).1 v).extract 0 256,0) else (⟨#[]⟩,(parseR s).2)
def Wf (q:Pc):Prop:=∃ k m:Nat,q.kind=k∧1≤k∧k<12∧q.word=m∧m≤99
theorem wf_txt (t:ByteArray):Wf (txt t):=⟨1,0,rfl,by omega,by omega,rfl,by omega⟩
theorem wf_place {k:Nat} {r r':Str} {p:Pc} (hk:k<12) (h:placeS k r=some (p,r')):Wf p:=by
 unfold placeS at h
 split at h
 · cases h
 rename_i h0
 split at h
 · cases hb:bracesS r with
   | none=>rw [hb] at h;cases h
   | some ab =>
     rw [hb] at h
     simp only [Option.bind_some] at h
     split at h
     · injection h with h;injection h with h1 h2;subst h1
       exact ⟨7,0,rfl,by omega,by omega,rfl,by omega⟩
     · cases h
 split at h
 · cases hb:bracesS r with
   | none=>rw [hb] at h;cases h
   | some ab =>
     rw [hb] at h
     simp only [Option.bind_some] at h
     split at h
     · injection h with h;injection h with h1 h2;subst h1
       exact ⟨8,0,rfl,by omega,by omega,rfl,by omega⟩
     · cases h
 split at h
 · cases hb:bracesS r with
   | none=>rw [hb] at h;cases h
   | some ab =>
     rw [hb] at h
     simp only [Option.bind_some] at h
     cases hc:countS ab.1 with
     | none=>rw [hc] at h;cases h
     | some nm =>
       rw [hc] at h
       simp only [Option.map_some] at h
       injection h with h;injection h with h1 h2;subst h1
       unfold countS at hc
       cases hf:(List.range 100).find? (fun n=>decide (1≤n) && Lib.decDigits n == Lib.trimSuffix ab.1 [43]) with
       | none=>rw [hf] at hc;cases hc
       | some n =>
         rw [hf] at hc
         injection hc with hc
         have:=List.mem_range.1 (List.mem_of_find?_eq_some hf)
         exact ⟨9,n,rfl,by omega,by omega,by rw [←hc],by omega⟩
 · injection h with h;injection h with h1 h2;subst h1
   exact ⟨k,0,rfl,by omega,hk,rfl,by omega⟩
theorem wf_piece {c:UInt8} {r r':Str} {p:Pc} (h:pieceS c r=some (p,r')):Wf p:=by
 unfold pieceS at h
 split at h
 · injection h with h;injection h with h1 h2;subst h1
   exact wf_txt _
 · exact wf_place (kindOf_lt _ _) h
theorem wf_add {ps:List Pc} {p:Pc} (h:∀ q∈ps,Wf q) (hp:Wf p):∀ q∈addP ps p,Wf q:=by
 unfold addP
 split
 · rcases List.eq_nil_or_concat ps with h0 | ⟨l,q,h0⟩
   · subst h0;simp [setLast]
   · rw [List.concat_eq_append] at h0
     subst h0
     rw [setLast_snoc]
     intro x hx
     rcases List.mem_append.1 hx with hx | hx
     · exact h x (by simp [hx])
     · simp only [List.mem_singleton] at hx
       subst hx
       exact h q (by simp)
 · intro x hx
   rcases List.mem_append.1 hx with hx | hx
   · exact h x hx
   · simp only [List.mem_singleton] at hx
     subst hx;exact hp
theorem wf_parseF:∀ (n:Nat) (r:Str) (acc ps:List Pc),(∀ q∈acc,Wf q)→parseF n r acc=some ps→∀ q∈ps,Wf q:=by
 intro n
 induction n with
 | zero =>
   intro r acc ps ha h
   cases r with
   | nil=>injection h with h;subst h;exact ha
   | cons c r=>cases h
 | succ n ih =>
   intro r acc ps ha h
   cases r with
   | nil=>injection h with h;subst h;exact ha
   | cons c r =>
     rw [parseF] at h
     split at h
     · cases hp:pieceS c r with
       | none=>rw [hp] at h;cases h
       | some pr =>
         obtain ⟨p,r'⟩:=pr
         rw [hp] at h
         exact ih _ _ _ (wf_add ha (wf_piece hp)) h
     · exact ih _ _ _ (wf_add ha (wf_txt _)) h
theorem wf_parseR (s:Str):∀ q∈(parseR s).1,Wf q:=by
 unfold parseR
 split
 · intro q hq;cases hq
 · split
   · cases h:parseS s with
     | none=>intro q hq;cases hq
     | some ps=>exact wf_parseF _ _ _ _ (fun q hq=>by cases hq) h
   · intro q hq;cases hq
theorem fits_parseF:∀ (n:Nat) (r:Str) (acc ps:List Pc),r.length≤256→Fits r.length acc→parseF n r acc=some ps→Fits 0 ps:=by
 intro n
 induction n with
 | zero =>
   intro r acc ps hr ha h
   cases r with
   | nil=>injection h with h;subst h;exact ha
   | cons c r=>cases h
 | succ n ih =>
   intro r acc ps hr ha h
   cases r with
   | nil=>injection h with h;subst h;exact ha
   | cons c r =>
     simp only [List.length_cons] at hr ha
     rw [parseF] at h
     split at h
     · cases hp:pieceS c r with
       | none=>rw [hp] at h;cases h
       | some pr =>
         obtain ⟨p,r'⟩:=pr
         rw [hp] at h
         have h1:=pieceS_len hp
         have h2:=pieceS_len' hp
         exact ih _ _ _ (by omega) (ha.add hr (by omega) (by omega)) h
     · exact ih _ _ _ (by omega) (ha.add hr (p:=txt (bs [c])) (by rw [show (txt (bs [c])).text=bs [c] from rfl,size_bs];simp;omega) (by omega)) h
theorem fits_parseR (s:Str):Fits 0 (parseR s).1:=by
 have h0:Fits 0 []:=⟨by simp,fun q hq=>by cases hq⟩
 unfold parseR
 split
 · exact h0
 · split
   · cases h:parseS s with
     | none=>exact h0
     | some ps=>exact fits_parseF _ _ _ _ (by omega) ⟨by simp;omega,fun q hq=>by cases hq⟩ h
   · exact h0
end
section
structure Hp where
 cmd:ByteArray
 out:ByteArray
 fails:Bool
 ticks:Int
def callS (l:List Hp) (lim calls:Int) (cmd:ByteArray):ByteArray × Int × Int :=
 if 16≤calls then (⟨#[]⟩,0,144) else match l.find? fun x=>globM (L x.cmd) (L cmd) with
  | none=>(⟨#[]⟩,0,143)
  | some x=>if lim<x.ticks then (⟨#[]⟩,lim,142) else if x.fails then (⟨#[]⟩,x.ticks,141) else (x.out,x.ticks,0)
def itemS (s:ByteArray):Option At:=if keyS (Lib.cut (L s) [61]).1 && !(Lib.cut (L s) [61]).2.1.isEmpty then some ⟨bs (Lib.cut (L s) [61]).1,bs (Lib.cut (L s) [61]).2.1⟩ else none
def itemsS (out:ByteArray):List At:=(partsC 59 out).filterMap itemS
structure Inp where
 act:ByteArray
 tree:List Dd
 ix:Int
 par:List At
 hps:List Hp
 lim:Int
structure Cst where
 i:Inp
 dev:Dd
 org:ByteArray
 pnt:ByteArray
structure Ev where
 dr:Dr
 ab:Dd
 re:Bool
def vsOf (c:Cst) (x:Ev):Vs:=⟨c.dev.og,c.org,x.ab.og,x.ab.dr,c.pnt,(if (L x.dr.nam).isEmpty then c.dev.og else x.dr.nam),x.dr.res,⟨none,0,c.dev.ats⟩,⟨none,0,x.ab.ats⟩,⟨none,0,x.dr.props⟩⟩
def expE (c:Cst) (x:Ev) (s:ByteArray):ByteArray:=(expandS (L s) (vsOf c x)).1
def callE (c:Cst) (x:Ev) (s:ByteArray):ByteArray × Int × Int:=callS c.i.hps c.i.lim x.dr.calls (expE c x s)
def tickE (x:Ev) (t:Int):Ev:={ x with dr:={ x.dr with calls:=x.dr.calls+1,ticks:=x.dr.ticks+t } }
def progL:Str:=[112,114,111,103,114,97,109]
def parL:Str:=[112,97,114,101,110,116]
def buiL:Str:=[98,117,105,108,116,105,110]
def impE (x:Ev) (l:List At):Ev:={ x with dr:=importS x.dr l }
def findsE (c:Cst) (x:Ev) (t:Tm):Ev × Bool :=
 if L t.name=progL then (impE (tickE x (callE c x t.value).2.1) (itemsS (callE c x t.value).1),(callE c x t.value).2.2 == 0)
 else if L t.name=parL then (if c.dev.pa=0 then (impE x [],false) else (impE x (c.i.par.filter fun p=>globM (L t.value) (L p.name)),true))
 else if L t.name=buiL then (impE x (runB t.value c.i.tree c.i.ix),!(runB t.value c.i.tree c.i.ix).isEmpty)
 else (impE x [],false)
def seenD (t:Tm) (d:Dd):Option ByteArray :=
 if t.key=2∨t.key=8 then some d.og else if t.key=3∨t.key=9 then some d.sb else if t.key=4∨t.key=10 then some d.dr else if t.key=5∨t.key=11 then some (attrS d.ats (L t.name)) else none
def devD (t:Tm) (d:Dd):Bool:=matchB t.op && match seenD t d with
 | some v=>holdsB t v
 | none=>false
def ancS (l:List Tm) (ds:List Dd) (n:Int):Option Dd:=(chS ds n).find? fun x => !(l.any fun t=>upB t && !devD t x)
def draftB (t:Tm) (act:ByteArray) (d:Dr):Bool:=matchB t.op &&
 (if t.key=1 then holdsB t act else if t.key=6 then holdsB t (attrS d.props (L t.name)) else if t.key=13 then holdsB t d.res else if t.key=7 then (d.tags.any fun s=>globM (L t.value) s) == (t.op == 1) else false)
def holdsE (c:Cst) (l:List Tm) (x:Ev) (t:Tm):Ev × Bool :=
 if staticB t then (x,devD t c.dev)
 else if upB t then (if x.re then (x,true) else match ancS l c.i.tree c.i.ix with
  | some a=>({ x with ab:=a,re:=true },true)
  | none=>({ x with re:=true },false))
 else if t.key=12 then (let y:=tickE x (callE c x t.value).2.1
  ({ y with dr:={ y.dr with res:=(callE c x t.value).1 } },((callE c x t.value).2.2 == 0) == (t.op == 1)))
 else if t.key=14 then ((findsE c x t).1,(findsE c x t).2 == (t.op == 1))
 else (x,draftB t c.i.act x.dr)
def matchE (c:Cst) (l:List Tm):List Tm→Ev→Ev × Bool
 | [],x=>(x,true)
 | t :: r,x=>if matchB t.op then (if (holdsE c l x t).2 then matchE c l r (holdsE c l x t).1 else ((holdsE c l x t).1,false)) else matchE c l r x
def asgE (c:Cst) (x:Ev) (t:Tm):Ev:={ x with dr:=applyS x.dr t (if t.key=22∨t.key=23∨t.key=24 then t.value else expE c x t.value) }
def readE (c:Cst) (x:Ev) (l:List Tm):Ev × Bool :=
 let y:=matchE c l l { x with ab:=c.dev,re:=false }
 if y.2 then ((l.filter fun t => !matchB t.op).foldl (asgE c) y.1,true) else (y.1,false)
def valT (l:List Tm) (k:Int):Option ByteArray:=(l.find? fun t=>t.key == k).map (·.value)
def nextS (ls:List (List Tm)) (at_:Nat) (l:List Tm):Nat:=match valT l 24 with
 | none=>at_+1
 | some tt=>match (ls.drop (at_+1)).findIdx? fun m=>match valT m 23 with
  | some x=>L x == L tt
  | none=>false with
  | some i=>at_+1+i
  | none=>at_+1
def runE (c:Cst) (ls:List (List Tm)):Nat→Nat→Ev→List Int→Ev × List Int
 | 0,_,x,held=>(x,held)
 | f+1,at_,x,held=>match ls[at_]? with
   | none=>(x,held)
   | some l=>if (readE c x l).2 then runE c ls f (nextS ls at_ l) (readE c x l).1 (held++[(at_:Int)]) else runE c ls f (at_+1) (readE c x l).1 held
def pntS (l:List Dd) (d:Dd):ByteArray:=match findD l d.pa with
 | some p=>(nodeB p).getD ⟨#[]⟩
 | none=>⟨#[]⟩
def evS (c:Cst):Ev:=⟨beginS (baseS c.i.tree c.i.ix),⟨0,0,⟨#[]⟩,⟨#[]⟩,⟨#[]⟩,⟨#[]⟩,⟨#[]⟩,0,0,[]⟩,false⟩
structure Rc where
 path:ByteArray
 ix:Int
 props:List At
 tags:List Str
 links:List Str
 run:List Str
 load:List Str
 nam:ByteArray
 prio:Int
 own:ByteArray
 grp:ByteArray
 mode:Int
def finS (d:Dr) (x:Dd) (o:ByteArray):Rc :=
 let k:=(nodeB x).isSome
 ⟨o,x.ix,d.props,d.tags,(if k then d.links else []),d.run,d.load,(if x.kd=4 then d.nam else ⟨#[]⟩),d.prio,(if k then d.own else ⟨#[]⟩),(if k then d.grp else ⟨#[]⟩),(if k then d.mode else 0)⟩
end
section
open Go.RowKit
theorem cut1 (c:UInt8) (t:Str):Lib.cut t [c]=(t.takeWhile (· != c),(t.dropWhile (· != c)).drop 1,t.contains c):=by
 induction t with
 | nil=>rfl
 | cons b l ih =>
   unfold Lib.cut at ih ⊢
   rw [index1_cons]
   by_cases hb:b=c
   · subst hb
     simp
   · have hbc:(b == c)=false:=by simpa using hb
     have hbn:(b != c)=true:=by simpa using hb
     have hcb:(c == b)=false:=by simpa using fun e=>hb e.symm
     rw [List.takeWhile_cons,List.dropWhile_cons,List.contains_cons,hbn,hbc,hcb]
     simp only [Bool.false_eq_true,if_false,if_true,Bool.false_or]
     have hge:=Lib.index_ge l [c]
     by_cases hm:Lib.index l [c] = -1
     · rw [hm] at ih ⊢
       simp only [beq_self_eq_true,if_true,show ¬ (0:Int) ≤ -1 from by omega,if_false] at ih ⊢
       simp only [Prod.mk.injEq] at ih ⊢
       exact ⟨by rw [←ih.1],ih.2.1,ih.2.2⟩
     · have hm':(Lib.index l [c] == -1)=false:=by simpa using hm
       rw [hm']
       simp only [Bool.false_eq_true,if_false]
       rw [if_pos (by omega)] at ih ⊢
       simp only [Prod.mk.injEq,List.length_singleton] at ih ⊢
       obtain ⟨i,hi⟩:=Int.eq_ofNat_of_zero_le (show 0≤Lib.index l [c] by omega)
       rw [hi] at ih ⊢
       rw [show ((i:Int)+1).toNat=i+1 from by omega]
       rw [show ((i:Int)).toNat=i from by omega] at ih
       exact ⟨by rw [List.take_succ_cons,ih.1],by rw [show i+1+1=(i+1)+1 from rfl,List.drop_succ_cons];exact ih.2.1,ih.2.2⟩
theorem join_cons2 (x y:Str) (l:List Str):Lib.join (x :: y :: l) [32]=x++[32]++Lib.join (y :: l) [32]:=by
 simp [Lib.join,List.intercalate,List.intersperse]
theorem join_one (x:Str):Lib.join [x] [32]=x:=by simp [Lib.join]
theorem join_nil:Lib.join [] [32]=[]:=by simp [Lib.join]
theorem join_wordsT:∀ (n:Nat) (t:Str),(Lib.join (wordsT n t) [32]).length≤t.length:=by
 intro n
 induction n with
 | zero=>intro t;simp [wordsT,join_nil]
 | succ n ih =>
   intro t
   rw [wordsT]
   split
   · simp [join_nil]
   · rename_i h0
     have hi:=ih (trim (Lib.cut t [32]).2.1)
     have ht:=trim_len (Lib.cut t [32]).2.1
     have hc:(Lib.cut t [32]).1.length+(Lib.cut t [32]).2.1.length≤t.length∧((Lib.cut t [32]).2.1≠[]→(Lib.cut t [32]).1.length+1+(Lib.cut t [32]).2.1.length≤t.length):=by
      rw [cut1]
      dsimp only
      have:=congrArg List.length (List.takeWhile_append_dropWhile (p:=(· != (32:UInt8))) (l:=t))
      rw [List.length_append] at this
      refine ⟨by rw [List.length_drop];omega,fun hne=>?_⟩
      have h1:0<((t.dropWhile (· != 32)).drop 1).length:=List.length_pos_iff.2 hne
      rw [List.length_drop] at h1 ⊢
      omega
     cases hw:wordsT n (trim (Lib.cut t [32]).2.1) with
     | nil=>rw [join_one];omega
     | cons y l =>
       rw [join_cons2,←hw,List.length_append,List.length_append]
       have hne:(Lib.cut t [32]).2.1≠[]:=by
        intro e
        rw [e] at hw
        have:trim []=[]:=rfl
        rw [this] at hw
        cases n <;> simp [wordsT] at hw
       have:=hc.2 hne
       simp only [List.length_singleton]
       omega
theorem join_wordsS (s:Str):(Lib.join (wordsS s) [32]).length≤s.length:=Nat.le_trans (join_wordsT _ _) (trim_len s)
theorem join_drop (l:List Str) (k:Nat):(Lib.join (l.drop k) [32]).length≤(Lib.join l [32]).length:=by
 induction k generalizing l with
 | zero=>simp
 | succ k ih =>
   cases l with
   | nil=>simp
   | cons x l =>
     rw [List.drop_succ_cons]
     refine Nat.le_trans (ih l) ?_
     cases l with
     | nil=>simp [join_nil]
     | cons y l=>rw [join_cons2,List.length_append];omega
theorem join_take1 (l:List Str):(Lib.join (l.take 1) [32]).length≤(Lib.join l [32]).length:=by
 cases l with
 | nil=>simp
 | cons x l =>
   cases l with
   | nil=>simp
   | cons y l=>rw [join_cons2];simp [join_one]
theorem join_selW (k:Nat) (more:Bool) (l:List Str):(Lib.join (selW k more l) [32]).length≤(Lib.join l [32]).length:=by
 unfold selW
 split
 · exact join_drop l _
 · exact Nat.le_trans (join_take1 _) (join_drop l _)
end
section
open Go.RowKit
structure VsSmall (M:Nat) (v:Vs):Prop where
 kernel:v.kernel.size≤M
 devpath:v.devpath.size≤M
 id:v.id.size≤M
 driver:v.driver.size≤M
 parent:v.parent.size≤M
 name:v.name.size≤M
 result:v.result.size≤M
 attrs:∀ x∈v.attrs.l,x.val.size≤M
 above:∀ x∈v.above.l,x.val.size≤M
 env:∀ x∈v.env.l,x.val.size≤M
theorem VsSmall.more {M N:Nat} {v:Vs} (h:VsSmall M v) (hM:M≤N):VsSmall N v :=
 ⟨Nat.le_trans h.kernel hM,Nat.le_trans h.devpath hM,Nat.le_trans h.id hM,Nat.le_trans h.driver hM,Nat.le_trans h.parent hM,Nat.le_trans h.name hM,Nat.le_trans h.result hM,
  fun x hx=>Nat.le_trans (h.attrs x hx) hM,fun x hx=>Nat.le_trans (h.above x hx) hM,fun x hx=>Nat.le_trans (h.env x hx) hM⟩
theorem getA_small {l:List At} {nm:Str} {u:ByteArray} {M:Nat} (h:∀ x∈l,x.val.size≤M) (hu:getA l nm=some u):u.size≤M:=by
 unfold getA at hu
 cases hf:l.find? (fun x=>L x.name == nm) with
 | none=>rw [hf] at hu;cases hu
 | some x =>
   rw [hf] at hu
   injection hu with hu
   subst hu
   exact h x (List.mem_of_find?_eq_some hf)
theorem firstV_small {M:Nat}:∀ (ls:List Lst) (nm:Str),(∀ y∈ls,∀ x∈y.l,x.val.size≤M)→(firstV ls nm).size≤M
 | [],_,_=>Nat.zero_le _
 | y :: ls,nm,h=>by
   rw [firstV]
   cases hg:getA y.l nm with
   | some u=>exact getA_small (h y (by simp)) hg
   | none=>exact firstV_small ls nm (fun z hz=>h z (by simp [hz]))
theorem resultS_len (k:Nat) (more:Bool) (r:Str):(resultS k more r).length≤r.length:=by
 unfold resultS
 split
 · exact Nat.le_refl _
 · exact Nat.le_trans (join_selW k more (wordsS r)) (join_wordsS r)
theorem valueS_small {M:Nat} {q:Pc} {v:Vs} (hv:VsSmall M v) (hq:q.text.size≤M):(valueS q v).size≤M:=by
 unfold valueS
 split
 · exact hq
 split
 · exact hv.kernel
 split
 · rw [size_bs]
   refine Nat.le_trans ?_ hv.kernel
   rw [←len_L]
   unfold numS
   rw [List.length_drop];omega
 split
 · exact hv.devpath
 split
 · exact hv.id
 split
 · exact hv.driver
 split
 · refine firstV_small _ _ (fun y hy=>?_)
   simp only [List.mem_cons,List.not_mem_nil,or_false] at hy
   rcases hy with rfl | rfl
   · exact hv.attrs
   · exact hv.above
 split
 · refine firstV_small _ _ (fun y hy=>?_)
   simp only [List.mem_cons,List.not_mem_nil,or_false] at hy
   subst hy
   exact hv.env
 split
 · rw [size_bs]
   refine Nat.le_trans (resultS_len _ _ _) ?_
   rw [len_L]
   exact hv.result
 split
 · exact hv.parent
 · exact hv.name
end
end Go.Proofs.YtobcmlmbblgcdaaGreatDoor
