/-
  Contract of the reader's piece.
  Contract of the reader's piece: the kinds with braces. (Printed by gen78.py.)
-/
import Derived.Test.YtobcmlmbblgcdaaGreatDoorG18
namespace Go.Proofs.YtobcmlmbblgcdaaGreatDoor
set_option maxRecDepth 100000
section
open Go.RowKit
def PiecePost (g:Nat) (ps:List Pc) (c:UInt8) (r:Str) (w:World) (e:Ending) (w':World):Prop :=
 e=.returned (.bool (pieceS c r).isSome)∧(∀ p r',pieceS c r=some (p,r')→∃ rest',L rest'=r'∧Rd w' g rest' (addP ps p))∧Below g w w'
theorem Rd.c0 {w:World} {g:Nat} {r:ByteArray} {ps:List Pc} (h:Rd w g r ps):w.cell? ⟨g,0,none⟩=some (.string r)∧w.frozen? ⟨g,0,none⟩=false:=by
 obtain ⟨v,hh,_⟩:=h.ex
 exact ⟨by rw [cell_of_row _ _ 0 _ _ _ hh];rfl,frozen_of_row _ _ _ _ _ hh⟩
theorem L_cons {s:ByteArray} {c:UInt8} {r:Str} (h:L s=c :: r):s.extract 0 1=bs [c]∧s.extract 1 s.size=bs r∧1≤s.size:=by
 have hz:s.size=r.length+1:=by rw [←len_L,h];rfl
 refine ⟨eq_bs ?_,eq_bs ?_,by omega⟩
 · rw [L_extract,h];rfl
 · rw [L_extract,h,hz];simp
theorem bs_ne {c:UInt8}:(bs [c]).toList=[c]:=by rw [tl,L_bs]
set_option maxHeartbeats 2000000 in
theorem piece_twice (g:Nat) (rest:ByteArray) (ps:List Pc) (c:UInt8) (r:Str) (w:World) (h:Rd w g rest ps) (hL:L rest=c :: r) (hc:r.head? = some c) (hr:rest.size≤1000) (hn:ps.length≤10000) (hq:∀ q∈ps,q.text.size≤1000000) :
 Calls Tryz.prog 200 #[.pointer (some ⟨g,0,none⟩)] w (PiecePost g ps c r w):=by
 obtain ⟨c0,f0⟩:=h.c0
 obtain ⟨e1,e2,h1⟩:=L_cons hL
 obtain ⟨r2,rfl⟩:∃ r2,r=c :: r2:=by
  cases r with
  | nil=>simp at hc
  | cons a b=>exact ⟨b,by simp at hc;rw [hc]⟩
 have HP:∀ W,Calls Tryz.prog 102 #[.string (bs (c :: r2)),.string (bs [c])] W fun e w'=>e=.returned (.bool true)∧W=w':=fun W=>(HasPrefix_any (bs (c :: r2)) (bs [c]) W).mono fun e w' h=>⟨by rw [h.1,L_bs,L_bs,prefix_one];simp,h.2⟩
 have e3:(bs (c :: r2)).extract 1 (bs (c :: r2)).size=bs r2:=(L_cons (L_bs (c :: r2))).2.1
 have h3:1≤(bs (c :: r2)).size:=(L_cons (L_bs (c :: r2))).2.2
 have hp:pieceS c (c :: r2)=some (txt (bs [c]),r2):=by rw [pieceS,if_pos (by simp)];rfl
 have Hp:=Lib.hid hp
 have HH:=Lib.hid h
 have hlt:=h.lt
 have Hq:=Lib.hid hq
 have ht:(bs [c]).size≤1000000:=by rw [size_bs];simp
 generalize bs (c :: r2)=s1 at *
 generalize bs [c]=sg at *
 have HL:=Lib.hid hL
 clear hL hp hq h
 go_enter Tryz.func200,Tryz.ntmps200
 go_wp2_with (first | (go_at_call 102;refine (HP _).mono ?_;rintro e w' ⟨rfl,rfl⟩))
 refine (add_any g (bs r2) ps (txt sg) _ ((HH.out.cut s1).cut (bs r2)) hn Hq.out ht (fun _=>rfl)).mono ?_
 rintro e w' ⟨rfl,hR,hB⟩
 go_wp2
 go_ret
 refine ⟨by rw [Hp.out];rfl,fun p r' e=>?_,?_⟩
 · rw [Hp.out] at e
   injection e with e
   injection e with e4 e5
   subst e4 e5
   exact ⟨bs r2,L_bs r2,hR⟩
 · exact ((((Below.refl g w).setCell (p:=⟨g,0,none⟩) (Nat.le_refl _) _).setCell (p:=⟨g,0,none⟩) (Nat.le_refl _) _)).trans hB
def kOf (c:UInt8) (r:Str):Nat:=kindOf (c == 36) (r.take (wordLen (c == 36) r))
def rOf (c:UInt8) (r:Str):Str:=r.drop (wordLen (c == 36) r)
theorem pieceS_kind {c:UInt8} {r:Str} (hc:r.head?≠some c):pieceS c r=placeS (kOf c r) (rOf c r):=by rw [pieceS,if_neg hc];rfl
set_option maxHeartbeats 2000000 in
theorem piece_none (g:Nat) (rest:ByteArray) (ps:List Pc) (c:UInt8) (r:Str) (w:World) (h:Rd w g rest ps) (hL:L rest=c :: r) (hc:r.head?≠some c) (hr:rest.size≤1000) (hk:kOf c r=0) :
 Calls Tryz.prog 200 #[.pointer (some ⟨g,0,none⟩)] w (PiecePost g ps c r w):=by
 obtain ⟨c0,f0⟩:=h.c0
 obtain ⟨e1,e2,h1⟩:=L_cons hL
 have HP:∀ W,Calls Tryz.prog 102 #[.string (bs r),.string (bs [c])] W fun e w'=>e=.returned (.bool false)∧W=w':=fun W=>(HasPrefix_any (bs r) (bs [c]) W).mono fun e w' h=>⟨by rw [h.1,L_bs,L_bs,prefix_one];simp [hc],h.2⟩
 have hs:(bs r).size≤1000:=by rw [size_bs];have:=len_L rest;rw [hL] at this;simp at this;omega
 have HK:Calls Tryz.prog 237 #[.pointer (some ⟨g,0,none⟩),.bool (c == 36)] (w.setCell ⟨g,0,none⟩ (.string (bs r))) fun e w'=>e=.returned (.int .i64 0)∧Rd w' g (bs (rOf c r)) ps∧Below g (w.setCell ⟨g,0,none⟩ (.string (bs r))) w':=by
  have:=kind_any (c == 36) g (bs r) ps _ (h.cut (bs r)) hs
  rw [L_bs] at this
  change Calls _ _ _ _ (fun e w'=>e=.returned (.int .i64 (kOf c r))∧Rd w' g (bs (rOf c r)) ps∧Below g _ w') at this
  rw [hk] at this
  exact this
 have hp:pieceS c r=none:=by rw [pieceS_kind hc,hk];rfl
 have Hp:=Lib.hid hp
 have hsg:((bs [c]).toList == [36])=(c == 36):=by rw [bs_ne];simp
 generalize (c == 36)=lg at *
 generalize bs [c]=sg at *
 generalize bs r=s1 at *
 have HL:=Lib.hid hL
 clear hL hp h hc hk
 go_enter Tryz.func200,Tryz.ntmps200
 go_wp2_with (first | (go_at_call 102;refine (HP _).mono ?_;rintro e w' ⟨rfl,rfl⟩) | (go_at_call 237;refine HK.mono ?_;rintro e w2 ⟨rfl,hR2,hB2⟩))
 go_ret
 exact ⟨by rw [Hp.out];rfl,(fun p r' e=>by rw [Hp.out] at e;cases e),(((Below.refl g w).setCell (p:=⟨g,0,none⟩) (Nat.le_refl _) _).trans hB2).alloc (Nat.le_of_lt hR2.lt) _⟩
theorem field_bra (a b x y:Value) (w:World):(Instr.field 245 (.agg #[a,b,x,y]) 2).run Tryz.prog w=.ok x w:=by kernel_rfl
theorem neq_nil (w:World):(binOp .neq 142 .nilFunc .nilFunc).run Tryz.prog w=.ok (.bool false) w:=by kernel_rfl
theorem neq_func (n:Nat) (w:World):(binOp .neq 142 (.func (.func n) #[] #[]) .nilFunc).run Tryz.prog w=.ok (.bool true) w:=by kernel_rfl
theorem braV_nil {k:Nat} (h7:k≠7) (h8:k≠8):braV k=.nilFunc:=by
 unfold braV
 split
 · exact absurd rfl h7
 · exact absurd rfl h8
 · rfl
set_option maxHeartbeats 4000000 in
theorem piece_plain (g:Nat) (rest:ByteArray) (ps:List Pc) (c:UInt8) (r:Str) (w:World) (h:Rd w g rest ps) (hE:Env w) (hg:nG≤g) (hL:L rest=c :: r) (hc:r.head?≠some c) (hr:rest.size≤1000) (hn:ps.length≤10000) (hq:∀ q∈ps,q.text.size≤1000000)
 (h0:kOf c r≠0) (h7:kOf c r≠7) (h8:kOf c r≠8) (h9:¬(kOf c r=9∧(rOf c r).head? = some 123)) (h1k:kOf c r≠1) :
 Calls Tryz.prog 200 #[.pointer (some ⟨g,0,none⟩)] w (PiecePost g ps c r w):=by
 obtain ⟨c0,f0⟩:=h.c0
 obtain ⟨e1,e2,h1⟩:=L_cons hL
 have HP:∀ W,Calls Tryz.prog 102 #[.string (bs r),.string (bs [c])] W fun e w'=>e=.returned (.bool false)∧W=w':=fun W=>(HasPrefix_any (bs r) (bs [c]) W).mono fun e w' h=>⟨by rw [h.1,L_bs,L_bs,prefix_one];simp [hc],h.2⟩
 have hs:(bs r).size≤1000:=by rw [size_bs];have:=len_L rest;rw [hL] at this;simp at this;omega
 have HK:Calls Tryz.prog 237 #[.pointer (some ⟨g,0,none⟩),.bool (c == 36)] (w.setCell ⟨g,0,none⟩ (.string (bs r))) fun e w'=>e=.returned (.int .i64 (kOf c r))∧Rd w' g (bs (rOf c r)) ps∧Below g (w.setCell ⟨g,0,none⟩ (.string (bs r))) w':=by
  have:=kind_any (c == 36) g (bs r) ps _ (h.cut (bs r)) hs
  rw [L_bs] at this
  exact this
 have hp:=pieceS_kind hc
 have hk12:kOf c r<12:=kindOf_lt _ _
 have hrl:(bs (rOf c r)).size≤1000:=by rw [size_bs,rOf,List.length_drop];rw [size_bs] at hs;omega
 have hsg:((bs [c]).toList == [36])=(c == 36):=by rw [bs_ne];simp
 generalize (c == 36)=lg at *
 generalize bs [c]=sg at *
 generalize bs r=s1 at *
 generalize kOf c r=k at *
 generalize rOf c r=rr at *
 have Hp:=Lib.hid hp
 have HL:=Lib.hid hL
 have hE2:∀ w2,Below g (w.setCell ⟨g,0,none⟩ (.string s1)) w2→Env w2:=fun w2 hb=>(hE.keep ((Below.refl g w).setCell (p:=⟨g,0,none⟩) (Nat.le_refl _) _) hg).keep hb hg
 have HE:=Lib.hid hE2
 clear hL hp h hc hE hE2
 have hv:=braV_nil h7 h8
 have hrow:=forms_row k hk12
 rw [hv] at hrow
 have hfield:=field_bra
 have hneq:=neq_nil
 have hps:pieceS c r=some (⟨k,bs [],0,false⟩,rr):=by
  rw [Hp.out,placeS,if_neg h0,if_neg h7,if_neg h8,if_neg h9]
 have HPS:=Lib.hid hps
 have k0:((k:Int) == 0)=false:=by simp;omega
 have HQ:=Lib.hid hq
 have H9:=Lib.hid h9
 have HP9:∀ W,Calls Tryz.prog 102 #[.string (bs rr),.string ⟨#[123]⟩] W fun e w'=>e=.returned (.bool (rr.head? == some 123))∧W=w':=fun W=>(HasPrefix_any (bs rr) ⟨#[123]⟩ W).mono fun e w' h=>⟨by rw [h.1,L_bs];exact congrArg (fun b=>Ending.returned (.bool b)) (prefix_one rr 123),h.2⟩
 have HA:=fun (k:Int) (hk1:k≠1) W (hR:Rd W g (bs rr) ps)=>add_any g (bs rr) ps ⟨k,⟨#[]⟩,0,false⟩ W hR hn HQ.out (Nat.zero_le _) (fun e=>absurd e hk1)
 clear hps hq h7 h8 h0 hv hr hs
 by_cases hk9:k=9
 · subst hk9
   have HA:=HA 9 (by decide)
   dsimp only at HA
   rw [beq_eq_false_iff_ne.2 (show rr.head?≠some 123 from fun h=>H9.out ⟨rfl,h⟩)] at HP9
   simp only [Int.cast_ofNat_Int] at HK hrow
   clear h9 h1k hk12 k0
   go_enter Tryz.func200,Tryz.ntmps200
   go_wp2_with (first | (go_at_call 102;refine (HP _).mono ?_;rintro e w' ⟨rfl,rfl⟩) | (go_at_call 237;refine HK.mono ?_;rintro e w2 ⟨rfl,hR2,hB2⟩))
   obtain ⟨W3,hW3⟩:∃ W3,w2.alloc (.cells #[.int .i64 9,.string ⟨#[]⟩,.int .i64 0,.bool false] 249)=W3:=⟨_,rfl⟩
   rw [hW3]
   have hblk:W3.heap[w2.heap.size]? = some (.cells #[.int .i64 9,.string ⟨#[]⟩,.int .i64 0,.bool false] 249 (0,0)):=by rw [←hW3];exact heap_alloc_new _ _
   have hR3:Rd W3 g (bs rr) ps:=hR2.keep (by rw [←hW3];exact (Below.refl _ _).alloc (Nat.le_refl _) _)
   have hB3:Below g w W3:=(((Below.refl g w).setCell (p:=⟨g,0,none⟩) (Nat.le_refl _) _).trans hB2).trans (by rw [←hW3];exact (Below.refl _ _).alloc (Nat.le_of_lt hR2.lt) _)
   have hE3:Env W3:=(HE.out w2 hB2).go (by rw [←hW3];exact (Below.refl _ _).alloc (Nat.le_refl _) _)
   generalize w2.heap.size=PB at *
   have hPB:PB<W3.heap.size:=blk_lt hblk
   have HBlk:=Lib.hid hblk
   have HR3:=Lib.hid hR3
   have HB3:=Lib.hid hB3
   have HE3:=Lib.hid hE3
   have q0:W3.cell? ⟨PB,0,none⟩=some (.int .i64 9):=by rw [cell_of_row _ _ 0 _ _ _ hblk];rfl
   clear hblk hR3 hB3 hE3 hR2 hB2 hW3 HK
   go_region_held3 (fun w'=>w'.cell? ⟨PB,0,none⟩=some (.int .i64 9)∧Below W3.heap.size W3 w') (first | exact ⟨q0,(Below.refl _ _).drew⟩ | exact ⟨(hb0.cell (p:=⟨PB,0,none⟩) (by simpa using hPB)).trans q0,((Below.refl _ _).drew).trans hb0⟩) (first | (go_at_call 169;refine (forms_any _).mono ?_;rintro e w0 ⟨rfl,hb0⟩))
   have hW:Below W3.heap.size W3 w0:=((Below.refl _ _).drew).trans hb0
   have hblk:w0.heap[PB]? = some (.cells #[.int .i64 9,.string ⟨#[]⟩,.int .i64 0,.bool false] 249 (0,0)):=by rw [hW.block PB hPB];exact HBlk.out
   have hR0:=HR3.out.keep hW
   have hlt0:=hR0.lt
   have HB0:=Lib.hid (HB3.out.trans (hW.mono (Nat.le_of_lt HR3.out.lt)))
   have HE0:=Lib.hid (HE3.out.go hW)
   have HR0:=Lib.hid hR0
   have q0':w0.cell? ⟨PB,0,none⟩=some (.int .i64 9):=by rw [cell_of_row _ _ 0 _ _ _ hblk];rfl
   have q1:w0.cell? ⟨PB,1,none⟩=some (.string ⟨#[]⟩):=by rw [cell_of_row _ _ 1 _ _ _ hblk];rfl
   have q2:w0.cell? ⟨PB,2,none⟩=some (.int .i64 0):=by rw [cell_of_row _ _ 2 _ _ _ hblk];rfl
   have q3:w0.cell? ⟨PB,3,none⟩=some (.bool false):=by rw [cell_of_row _ _ 3 _ _ _ hblk];rfl
   obtain ⟨c0',f0'⟩:=hR0.c0
   have hPB0:PB<w0.heap.size:=blk_lt hblk
   have HBlk0:=Lib.hid hblk
   clear hb0 hW q0 HBlk HR3 HB3 HE3 hR0 hPB hblk
   go_wp2_with (first | (go_at_call 102;refine (HP9 _).mono ?_;rintro e w' ⟨rfl,rfl⟩))
   with_reducible refine (HA _ HR0.out).mono ?_
   rintro e w5 ⟨rfl,hR5,hB5⟩
   go_wp2
   go_ret
   refine ⟨by rw [HPS.out];rfl,fun p r' e=>?_,HB0.out.trans hB5⟩
   rw [HPS.out] at e
   injection e with e
   injection e with e4 e5
   subst e4 e5
   exact ⟨bs rr,L_bs rr,hR5⟩
 · have k9:((k:Int) == 9)=false:=by simp;omega
   have HA:=HA k (by omega)
   dsimp only at HA
   clear h9
   go_enter Tryz.func200,Tryz.ntmps200
   go_wp2_with (first | (go_at_call 102;refine (HP _).mono ?_;rintro e w' ⟨rfl,rfl⟩) | (go_at_call 237;refine HK.mono ?_;rintro e w2 ⟨rfl,hR2,hB2⟩))
   obtain ⟨W3,hW3⟩:∃ W3,w2.alloc (.cells #[.int .i64 k,.string ⟨#[]⟩,.int .i64 0,.bool false] 249)=W3:=⟨_,rfl⟩
   rw [hW3]
   have hblk:W3.heap[w2.heap.size]? = some (.cells #[.int .i64 k,.string ⟨#[]⟩,.int .i64 0,.bool false] 249 (0,0)):=by rw [←hW3];exact heap_alloc_new _ _
   have hR3:Rd W3 g (bs rr) ps:=hR2.keep (by rw [←hW3];exact (Below.refl _ _).alloc (Nat.le_refl _) _)
   have hB3:Below g w W3:=(((Below.refl g w).setCell (p:=⟨g,0,none⟩) (Nat.le_refl _) _).trans hB2).trans (by rw [←hW3];exact (Below.refl _ _).alloc (Nat.le_of_lt hR2.lt) _)
   have hE3:Env W3:=(HE.out w2 hB2).go (by rw [←hW3];exact (Below.refl _ _).alloc (Nat.le_refl _) _)
   generalize w2.heap.size=PB at *
   have hPB:PB<W3.heap.size:=blk_lt hblk
   have HBlk:=Lib.hid hblk
   have HR3:=Lib.hid hR3
   have HB3:=Lib.hid hB3
   have HE3:=Lib.hid hE3
   have q0:W3.cell? ⟨PB,0,none⟩=some (.int .i64 k):=by rw [cell_of_row _ _ 0 _ _ _ hblk];rfl
   clear hblk hR3 hB3 hE3 hR2 hB2 hW3 HK
   go_region_held3 (fun w'=>w'.cell? ⟨PB,0,none⟩=some (.int .i64 k)∧Below W3.heap.size W3 w') (first | exact ⟨q0,(Below.refl _ _).drew⟩ | exact ⟨(hb0.cell (p:=⟨PB,0,none⟩) (by simpa using hPB)).trans q0,((Below.refl _ _).drew).trans hb0⟩) (first | (go_at_call 169;refine (forms_any _).mono ?_;rintro e w0 ⟨rfl,hb0⟩))
   have hW:Below W3.heap.size W3 w0:=((Below.refl _ _).drew).trans hb0
   have hblk:w0.heap[PB]? = some (.cells #[.int .i64 k,.string ⟨#[]⟩,.int .i64 0,.bool false] 249 (0,0)):=by rw [hW.block PB hPB];exact HBlk.out
   have hR0:=HR3.out.keep hW
   have hlt0:=hR0.lt
   have HB0:=Lib.hid (HB3.out.trans (hW.mono (Nat.le_of_lt HR3.out.lt)))
   have HE0:=Lib.hid (HE3.out.go hW)
   have HR0:=Lib.hid hR0
   have q0':w0.cell? ⟨PB,0,none⟩=some (.int .i64 k):=by rw [cell_of_row _ _ 0 _ _ _ hblk];rfl
   have q1:w0.cell? ⟨PB,1,none⟩=some (.string ⟨#[]⟩):=by rw [cell_of_row _ _ 1 _ _ _ hblk];rfl
   have q2:w0.cell? ⟨PB,2,none⟩=some (.int .i64 0):=by rw [cell_of_row _ _ 2 _ _ _ hblk];rfl
   have q3:w0.cell? ⟨PB,3,none⟩=some (.bool false):=by rw [cell_of_row _ _ 3 _ _ _ hblk];rfl
   obtain ⟨c0',f0'⟩:=hR0.c0
   have hPB0:PB<w0.heap.size:=blk_lt hblk
   have HBlk0:=Lib.hid hblk
   clear hb0 hW q0 HBlk HR3 HB3 HE3 hR0 hPB hblk
   go_wp2_with (first | (go_at_call 102;refine (HP9 _).mono ?_;rintro e w' ⟨rfl,rfl⟩))
   with_reducible refine (HA _ HR0.out).mono ?_
   rintro e w5 ⟨rfl,hR5,hB5⟩
   go_wp2
   go_ret
   refine ⟨by rw [HPS.out];rfl,fun p r' e=>?_,HB0.out.trans hB5⟩
   rw [HPS.out] at e
   injection e with e
   injection e with e4 e5
   subst e4 e5
   exact ⟨bs rr,L_bs rr,hR5⟩
end
section
open Go.RowKit
set_option maxHeartbeats 4000000 in
theorem piece_n7 (g:Nat) (rest:ByteArray) (ps:List Pc) (c:UInt8) (r:Str) (w:World) (h:Rd w g rest ps) (hE:Env w) (hg:nG≤g) (hL:L rest=c :: r) (hc:r.head?≠some c) (hr:rest.size≤1000) (_hn:ps.length≤10000) (hq:∀ q∈ps,q.text.size≤1000000)
 (hk:kOf c r=7) (hb:bracesS (rOf c r)=none) :
 Calls Tryz.prog 200 #[.pointer (some ⟨g,0,none⟩)] w (PiecePost g ps c r w):=by
 obtain ⟨c0,f0⟩:=h.c0
 obtain ⟨e1,e2,h1⟩:=L_cons hL
 have HP:∀ W,Calls Tryz.prog 102 #[.string (bs r),.string (bs [c])] W fun e w'=>e=.returned (.bool false)∧W=w':=fun W=>(HasPrefix_any (bs r) (bs [c]) W).mono fun e w' h=>⟨by rw [h.1,L_bs,L_bs,prefix_one];simp [hc],h.2⟩
 have hs:(bs r).size≤1000:=by rw [size_bs];have:=len_L rest;rw [hL] at this;simp at this;omega
 have HK:Calls Tryz.prog 237 #[.pointer (some ⟨g,0,none⟩),.bool (c == 36)] (w.setCell ⟨g,0,none⟩ (.string (bs r))) fun e w'=>e=.returned (.int .i64 (kOf c r))∧Rd w' g (bs (rOf c r)) ps∧Below g (w.setCell ⟨g,0,none⟩ (.string (bs r))) w':=by
  have:=kind_any (c == 36) g (bs r) ps _ (h.cut (bs r)) hs
  rw [L_bs] at this
  exact this
 have hp:=pieceS_kind hc
 have hk12:kOf c r<12:=kindOf_lt _ _
 have hrl:(bs (rOf c r)).size≤1000:=by rw [size_bs,rOf,List.length_drop];rw [size_bs] at hs;omega
 have hsg:((bs [c]).toList == [36])=(c == 36):=by rw [bs_ne];simp
 generalize (c == 36)=lg at *
 generalize bs [c]=sg at *
 generalize bs r=s1 at *
 rw [hk] at HK hk12 hp
 generalize rOf c r=rr at *
 have Hp:=Lib.hid hp
 have HL:=Lib.hid hL
 have hE2:∀ w2,Below g (w.setCell ⟨g,0,none⟩ (.string s1)) w2→Env w2:=fun w2 hb=>(hE.keep ((Below.refl g w).setCell (p:=⟨g,0,none⟩) (Nat.le_refl _) _) hg).keep hb hg
 have HE:=Lib.hid hE2
 clear hL hp h hc hE hE2
 have hrow:=forms_row 7 (by decide)
 rw [show braV 7=.func (.func 174) #[] #[] from rfl] at hrow
 have hfield:=field_bra
 have hneq:=neq_func
 have HQ:=Lib.hid hq
 simp only [Int.cast_ofNat_Int] at HK hrow
 have hps:pieceS c r=none:=by
  rw [Hp.out,placeS,if_neg (by decide),if_pos rfl,hb];rfl
 have HPS:=Lib.hid hps
 have hb':(bracesS (L (bs rr))).isSome=false:=by rw [L_bs,hb];rfl
 have Hb:=Lib.hid hb'
 clear hps hb hb'
 clear hq hs hr hk12 hk
 go_enter Tryz.func200,Tryz.ntmps200
 go_wp2_with (first | (go_at_call 102;refine (HP _).mono ?_;rintro e w' ⟨rfl,rfl⟩) | (go_at_call 237;refine HK.mono ?_;rintro e w2 ⟨rfl,hR2,hB2⟩))
 obtain ⟨W3,hW3⟩:∃ W3,w2.alloc (.cells #[.int .i64 7,.string ⟨#[]⟩,.int .i64 0,.bool false] 249)=W3:=⟨_,rfl⟩
 rw [hW3]
 have hblk:W3.heap[w2.heap.size]? = some (.cells #[.int .i64 7,.string ⟨#[]⟩,.int .i64 0,.bool false] 249 (0,0)):=by rw [←hW3];exact heap_alloc_new _ _
 have hR3:Rd W3 g (bs rr) ps:=hR2.keep (by rw [←hW3];exact (Below.refl _ _).alloc (Nat.le_refl _) _)
 have hB3:Below g w W3:=(((Below.refl g w).setCell (p:=⟨g,0,none⟩) (Nat.le_refl _) _).trans hB2).trans (by rw [←hW3];exact (Below.refl _ _).alloc (Nat.le_of_lt hR2.lt) _)
 have hE3:Env W3:=(HE.out w2 hB2).go (by rw [←hW3];exact (Below.refl _ _).alloc (Nat.le_refl _) _)
 have hgPB:g<w2.heap.size:=hR2.lt
 obtain ⟨v0,hC1,hV0⟩:=hR2.c1
 have hC3:W3.cell? ⟨g,1,none⟩=some v0:=by rw [←hW3];exact ((Below.refl w2.heap.size w2).alloc (Nat.le_refl _) _ |>.cell (p:=⟨g,1,none⟩) hgPB).trans hC1
 have hV1:v0.ownBlock≠some w2.heap.size:=fun e=>Nat.lt_irrefl _ (hV0 _ e)
 generalize w2.heap.size=PB at *
 have HV1:=Lib.hid hV1
 have HC3:=Lib.hid hC3
 have hgW3:=hR3.lt
 clear hC1 hV0 hV1 hC3
 have hPB:PB<W3.heap.size:=blk_lt hblk
 have HBlk:=Lib.hid hblk
 have HR3:=Lib.hid hR3
 have HB3:=Lib.hid hB3
 have HE3:=Lib.hid hE3
 have q0:W3.cell? ⟨PB,0,none⟩=some (.int .i64 7):=by rw [cell_of_row _ _ 0 _ _ _ hblk];rfl
 clear hblk hR3 hB3 hE3 hR2 hB2 hW3 HK
 go_region_held3 (fun w'=>w'.cell? ⟨PB,0,none⟩=some (.int .i64 7)∧Below W3.heap.size W3 w') (first | exact ⟨q0,(Below.refl _ _).drew⟩ | exact ⟨(hb0.cell (p:=⟨PB,0,none⟩) (by simpa using hPB)).trans q0,((Below.refl _ _).drew).trans hb0⟩) (first | (go_at_call 169;refine (forms_any _).mono ?_;rintro e w0 ⟨rfl,hb0⟩))
 have hW:Below W3.heap.size W3 w0:=((Below.refl _ _).drew).trans hb0
 have hblk:w0.heap[PB]? = some (.cells #[.int .i64 7,.string ⟨#[]⟩,.int .i64 0,.bool false] 249 (0,0)):=by rw [hW.block PB hPB];exact HBlk.out
 have hR0:=HR3.out.keep hW
 have HC0:=Lib.hid ((hW.cell (p:=⟨g,1,none⟩) hgW3).trans HC3.out)
 have hlt0:=hR0.lt
 have HB0:=Lib.hid (HB3.out.trans (hW.mono (Nat.le_of_lt HR3.out.lt)))
 have HE0:=Lib.hid (HE3.out.go hW)
 have HR0:=Lib.hid hR0
 have q0':w0.cell? ⟨PB,0,none⟩=some (.int .i64 7):=by rw [cell_of_row _ _ 0 _ _ _ hblk];rfl
 have q1:w0.cell? ⟨PB,1,none⟩=some (.string ⟨#[]⟩):=by rw [cell_of_row _ _ 1 _ _ _ hblk];rfl
 have q2:w0.cell? ⟨PB,2,none⟩=some (.int .i64 0):=by rw [cell_of_row _ _ 2 _ _ _ hblk];rfl
 have q3:w0.cell? ⟨PB,3,none⟩=some (.bool false):=by rw [cell_of_row _ _ 3 _ _ _ hblk];rfl
 obtain ⟨c0',f0'⟩:=hR0.c0
 have hPB0:PB<w0.heap.size:=blk_lt hblk
 have HBlk0:=Lib.hid hblk
 clear hgW3 HC3 hb0 hW q0 HBlk HR3 HB3 HE3 hR0 hPB hblk
 go_wp2_with fail
 refine (braces_any g (bs rr) ps _ HR0.out HE0.out hrl).mono ?_
 rintro e w5 ⟨t,rest5,rfl,_,_,_,hR5,hB5,_,_⟩
 rw [Hb.out]
 go_wp2
 go_ret
 exact ⟨by rw [HPS.out];rfl,(fun p r' e=>by rw [HPS.out] at e;cases e),HB0.out.trans hB5⟩
set_option maxHeartbeats 4000000 in
theorem piece_sf7 (g:Nat) (rest:ByteArray) (ps:List Pc) (c:UInt8) (r:Str) (w:World) (h:Rd w g rest ps) (hE:Env w) (hg:nG≤g) (hL:L rest=c :: r) (hc:r.head?≠some c) (hr:rest.size≤1000) (_hn:ps.length≤10000) (hq:∀ q∈ps,q.text.size≤1000000)
 (hk:kOf c r=7) (a b:Str) (hb:bracesS (rOf c r)=some (a,b)) (hV:validS a=false) :
 Calls Tryz.prog 200 #[.pointer (some ⟨g,0,none⟩)] w (PiecePost g ps c r w):=by
 obtain ⟨c0,f0⟩:=h.c0
 obtain ⟨e1,e2,h1⟩:=L_cons hL
 have HP:∀ W,Calls Tryz.prog 102 #[.string (bs r),.string (bs [c])] W fun e w'=>e=.returned (.bool false)∧W=w':=fun W=>(HasPrefix_any (bs r) (bs [c]) W).mono fun e w' h=>⟨by rw [h.1,L_bs,L_bs,prefix_one];simp [hc],h.2⟩
 have hs:(bs r).size≤1000:=by rw [size_bs];have:=len_L rest;rw [hL] at this;simp at this;omega
 have HK:Calls Tryz.prog 237 #[.pointer (some ⟨g,0,none⟩),.bool (c == 36)] (w.setCell ⟨g,0,none⟩ (.string (bs r))) fun e w'=>e=.returned (.int .i64 (kOf c r))∧Rd w' g (bs (rOf c r)) ps∧Below g (w.setCell ⟨g,0,none⟩ (.string (bs r))) w':=by
  have:=kind_any (c == 36) g (bs r) ps _ (h.cut (bs r)) hs
  rw [L_bs] at this
  exact this
 have hp:=pieceS_kind hc
 have hk12:kOf c r<12:=kindOf_lt _ _
 have hrl:(bs (rOf c r)).size≤1000:=by rw [size_bs,rOf,List.length_drop];rw [size_bs] at hs;omega
 have hsg:((bs [c]).toList == [36])=(c == 36):=by rw [bs_ne];simp
 generalize (c == 36)=lg at *
 generalize bs [c]=sg at *
 generalize bs r=s1 at *
 rw [hk] at HK hk12 hp
 generalize rOf c r=rr at *
 have Hp:=Lib.hid hp
 have HL:=Lib.hid hL
 have hE2:∀ w2,Below g (w.setCell ⟨g,0,none⟩ (.string s1)) w2→Env w2:=fun w2 hb=>(hE.keep ((Below.refl g w).setCell (p:=⟨g,0,none⟩) (Nat.le_refl _) _) hg).keep hb hg
 have HE:=Lib.hid hE2
 clear hL hp h hc hE hE2
 have hrow:=forms_row 7 (by decide)
 rw [show braV 7=.func (.func 174) #[] #[] from rfl] at hrow
 have hfield:=field_bra
 have hneq:=neq_func
 have HQ:=Lib.hid hq
 simp only [Int.cast_ofNat_Int] at HK hrow
 have hps:pieceS c r=none:=by
  rw [Hp.out,placeS,if_neg (by decide),if_pos rfl,hb];simp [hV]
 have HPS:=Lib.hid hps
 have hb':(bracesS (L (bs rr))).isSome=true:=by rw [L_bs,hb];rfl
 have hb2:bracesS (L (bs rr))=some (a,b):=by rw [L_bs,hb]
 have Hb:=Lib.hid hb'
 have Hb2:=Lib.hid hb2
 have HVV:=Lib.hid hV
 clear hps hb hb' hb2 hV
 clear hq hs hr hk12 hk
 go_enter Tryz.func200,Tryz.ntmps200
 go_wp2_with (first | (go_at_call 102;refine (HP _).mono ?_;rintro e w' ⟨rfl,rfl⟩) | (go_at_call 237;refine HK.mono ?_;rintro e w2 ⟨rfl,hR2,hB2⟩))
 obtain ⟨W3,hW3⟩:∃ W3,w2.alloc (.cells #[.int .i64 7,.string ⟨#[]⟩,.int .i64 0,.bool false] 249)=W3:=⟨_,rfl⟩
 rw [hW3]
 have hblk:W3.heap[w2.heap.size]? = some (.cells #[.int .i64 7,.string ⟨#[]⟩,.int .i64 0,.bool false] 249 (0,0)):=by rw [←hW3];exact heap_alloc_new _ _
 have hR3:Rd W3 g (bs rr) ps:=hR2.keep (by rw [←hW3];exact (Below.refl _ _).alloc (Nat.le_refl _) _)
 have hB3:Below g w W3:=(((Below.refl g w).setCell (p:=⟨g,0,none⟩) (Nat.le_refl _) _).trans hB2).trans (by rw [←hW3];exact (Below.refl _ _).alloc (Nat.le_of_lt hR2.lt) _)
 have hE3:Env W3:=(HE.out w2 hB2).go (by rw [←hW3];exact (Below.refl _ _).alloc (Nat.le_refl _) _)
 have hgPB:g<w2.heap.size:=hR2.lt
 obtain ⟨v0,hC1,hV0⟩:=hR2.c1
 have hC3:W3.cell? ⟨g,1,none⟩=some v0:=by rw [←hW3];exact ((Below.refl w2.heap.size w2).alloc (Nat.le_refl _) _ |>.cell (p:=⟨g,1,none⟩) hgPB).trans hC1
 have hV1:v0.ownBlock≠some w2.heap.size:=fun e=>Nat.lt_irrefl _ (hV0 _ e)
 generalize w2.heap.size=PB at *
 have HV1:=Lib.hid hV1
 have HC3:=Lib.hid hC3
 have hgW3:=hR3.lt
 clear hC1 hV0 hV1 hC3
 have hPB:PB<W3.heap.size:=blk_lt hblk
 have HBlk:=Lib.hid hblk
 have HR3:=Lib.hid hR3
 have HB3:=Lib.hid hB3
 have HE3:=Lib.hid hE3
 have q0:W3.cell? ⟨PB,0,none⟩=some (.int .i64 7):=by rw [cell_of_row _ _ 0 _ _ _ hblk];rfl
 clear hblk hR3 hB3 hE3 hR2 hB2 hW3 HK
 go_region_held3 (fun w'=>w'.cell? ⟨PB,0,none⟩=some (.int .i64 7)∧Below W3.heap.size W3 w') (first | exact ⟨q0,(Below.refl _ _).drew⟩ | exact ⟨(hb0.cell (p:=⟨PB,0,none⟩) (by simpa using hPB)).trans q0,((Below.refl _ _).drew).trans hb0⟩) (first | (go_at_call 169;refine (forms_any _).mono ?_;rintro e w0 ⟨rfl,hb0⟩))
 have hW:Below W3.heap.size W3 w0:=((Below.refl _ _).drew).trans hb0
 have hblk:w0.heap[PB]? = some (.cells #[.int .i64 7,.string ⟨#[]⟩,.int .i64 0,.bool false] 249 (0,0)):=by rw [hW.block PB hPB];exact HBlk.out
 have hR0:=HR3.out.keep hW
 have HC0:=Lib.hid ((hW.cell (p:=⟨g,1,none⟩) hgW3).trans HC3.out)
 have hlt0:=hR0.lt
 have HB0:=Lib.hid (HB3.out.trans (hW.mono (Nat.le_of_lt HR3.out.lt)))
 have HE0:=Lib.hid (HE3.out.go hW)
 have HR0:=Lib.hid hR0
 have q0':w0.cell? ⟨PB,0,none⟩=some (.int .i64 7):=by rw [cell_of_row _ _ 0 _ _ _ hblk];rfl
 have q1:w0.cell? ⟨PB,1,none⟩=some (.string ⟨#[]⟩):=by rw [cell_of_row _ _ 1 _ _ _ hblk];rfl
 have q2:w0.cell? ⟨PB,2,none⟩=some (.int .i64 0):=by rw [cell_of_row _ _ 2 _ _ _ hblk];rfl
 have q3:w0.cell? ⟨PB,3,none⟩=some (.bool false):=by rw [cell_of_row _ _ 3 _ _ _ hblk];rfl
 obtain ⟨c0',f0'⟩:=hR0.c0
 have hPB0:PB<w0.heap.size:=blk_lt hblk
 have HBlk0:=Lib.hid hblk
 clear hgW3 HC3 hb0 hW q0 HBlk HR3 HB3 HE3 hR0 hPB hblk
 go_wp2_with fail
 refine (braces_any g (bs rr) ps _ HR0.out HE0.out hrl).mono ?_
 rintro e w5 ⟨t,rest5,rfl,hx,ht,hrest,hR5,hB5,hG5,hC5⟩
 rw [Hb.out]
 obtain ⟨rfl,rfl⟩:=hx a b Hb2.out
 have HC:∀ W,Calls Tryz.prog 174 #[.string (bs a)] W fun e w'=>e=.returned (.bool false)∧Below W.heap.size W w':=fun W=>by
  have:=Valid_any (bs a) W (by omega)
  rw [L_bs,HVV.out] at this
  exact this
 clear hx
 generalize hta:bs a=ta at *
 have Hta:=Lib.hid hta
 clear hta
 go_wp2_with (go_at_call 174;refine (HC _).mono ?_;rintro e w6 ⟨rfl,hB6⟩)
 go_ret
 exact ⟨by rw [HPS.out];rfl,(fun p r' e=>by rw [HPS.out] at e;cases e),(HB0.out.trans hB5).trans (hB6.mono (Nat.le_of_lt hR5.lt))⟩
set_option maxHeartbeats 4000000 in
theorem piece_st7 (g:Nat) (rest:ByteArray) (ps:List Pc) (c:UInt8) (r:Str) (w:World) (h:Rd w g rest ps) (hE:Env w) (hg:nG≤g) (hL:L rest=c :: r) (hc:r.head?≠some c) (hr:rest.size≤1000) (hn:ps.length≤10000) (hq:∀ q∈ps,q.text.size≤1000000)
 (hk:kOf c r=7) (a b:Str) (hb:bracesS (rOf c r)=some (a,b)) (hV:validS a=true) :
 Calls Tryz.prog 200 #[.pointer (some ⟨g,0,none⟩)] w (PiecePost g ps c r w):=by
 obtain ⟨c0,f0⟩:=h.c0
 obtain ⟨e1,e2,h1⟩:=L_cons hL
 have HP:∀ W,Calls Tryz.prog 102 #[.string (bs r),.string (bs [c])] W fun e w'=>e=.returned (.bool false)∧W=w':=fun W=>(HasPrefix_any (bs r) (bs [c]) W).mono fun e w' h=>⟨by rw [h.1,L_bs,L_bs,prefix_one];simp [hc],h.2⟩
 have hs:(bs r).size≤1000:=by rw [size_bs];have:=len_L rest;rw [hL] at this;simp at this;omega
 have HK:Calls Tryz.prog 237 #[.pointer (some ⟨g,0,none⟩),.bool (c == 36)] (w.setCell ⟨g,0,none⟩ (.string (bs r))) fun e w'=>e=.returned (.int .i64 (kOf c r))∧Rd w' g (bs (rOf c r)) ps∧Below g (w.setCell ⟨g,0,none⟩ (.string (bs r))) w':=by
  have:=kind_any (c == 36) g (bs r) ps _ (h.cut (bs r)) hs
  rw [L_bs] at this
  exact this
 have hp:=pieceS_kind hc
 have hk12:kOf c r<12:=kindOf_lt _ _
 have hrl:(bs (rOf c r)).size≤1000:=by rw [size_bs,rOf,List.length_drop];rw [size_bs] at hs;omega
 have hsg:((bs [c]).toList == [36])=(c == 36):=by rw [bs_ne];simp
 generalize (c == 36)=lg at *
 generalize bs [c]=sg at *
 generalize bs r=s1 at *
 rw [hk] at HK hk12 hp
 generalize rOf c r=rr at *
 have Hp:=Lib.hid hp
 have HL:=Lib.hid hL
 have hE2:∀ w2,Below g (w.setCell ⟨g,0,none⟩ (.string s1)) w2→Env w2:=fun w2 hb=>(hE.keep ((Below.refl g w).setCell (p:=⟨g,0,none⟩) (Nat.le_refl _) _) hg).keep hb hg
 have HE:=Lib.hid hE2
 clear hL hp h hc hE hE2
 have hrow:=forms_row 7 (by decide)
 rw [show braV 7=.func (.func 174) #[] #[] from rfl] at hrow
 have hfield:=field_bra
 have hneq:=neq_func
 have HQ:=Lib.hid hq
 simp only [Int.cast_ofNat_Int] at HK hrow
 have hps:pieceS c r=some (⟨7,bs a,0,false⟩,b):=by
  rw [Hp.out,placeS,if_neg (by decide),if_pos rfl,hb];simp [hV]
 have HPS:=Lib.hid hps
 have hb':(bracesS (L (bs rr))).isSome=true:=by rw [L_bs,hb];rfl
 have hb2:bracesS (L (bs rr))=some (a,b):=by rw [L_bs,hb]
 have Hb:=Lib.hid hb'
 have Hb2:=Lib.hid hb2
 have HVV:=Lib.hid hV
 clear hps hb hb' hb2 hV
 clear hq hs hr hk12 hk
 go_enter Tryz.func200,Tryz.ntmps200
 go_wp2_with (first | (go_at_call 102;refine (HP _).mono ?_;rintro e w' ⟨rfl,rfl⟩) | (go_at_call 237;refine HK.mono ?_;rintro e w2 ⟨rfl,hR2,hB2⟩))
 obtain ⟨W3,hW3⟩:∃ W3,w2.alloc (.cells #[.int .i64 7,.string ⟨#[]⟩,.int .i64 0,.bool false] 249)=W3:=⟨_,rfl⟩
 rw [hW3]
 have hblk:W3.heap[w2.heap.size]? = some (.cells #[.int .i64 7,.string ⟨#[]⟩,.int .i64 0,.bool false] 249 (0,0)):=by rw [←hW3];exact heap_alloc_new _ _
 have hR3:Rd W3 g (bs rr) ps:=hR2.keep (by rw [←hW3];exact (Below.refl _ _).alloc (Nat.le_refl _) _)
 have hB3:Below g w W3:=(((Below.refl g w).setCell (p:=⟨g,0,none⟩) (Nat.le_refl _) _).trans hB2).trans (by rw [←hW3];exact (Below.refl _ _).alloc (Nat.le_of_lt hR2.lt) _)
 have hE3:Env W3:=(HE.out w2 hB2).go (by rw [←hW3];exact (Below.refl _ _).alloc (Nat.le_refl _) _)
 have hgPB:g<w2.heap.size:=hR2.lt
 obtain ⟨v0,hC1,hV0⟩:=hR2.c1
 have hC3:W3.cell? ⟨g,1,none⟩=some v0:=by rw [←hW3];exact ((Below.refl w2.heap.size w2).alloc (Nat.le_refl _) _ |>.cell (p:=⟨g,1,none⟩) hgPB).trans hC1
 have hV1:v0.ownBlock≠some w2.heap.size:=fun e=>Nat.lt_irrefl _ (hV0 _ e)
 generalize w2.heap.size=PB at *
 have HV1:=Lib.hid hV1
 have HC3:=Lib.hid hC3
 have hgW3:=hR3.lt
 clear hC1 hV0 hV1 hC3
 have hPB:PB<W3.heap.size:=blk_lt hblk
 have HBlk:=Lib.hid hblk
 have HR3:=Lib.hid hR3
 have HB3:=Lib.hid hB3
 have HE3:=Lib.hid hE3
 have q0:W3.cell? ⟨PB,0,none⟩=some (.int .i64 7):=by rw [cell_of_row _ _ 0 _ _ _ hblk];rfl
 clear hblk hR3 hB3 hE3 hR2 hB2 hW3 HK
 go_region_held3 (fun w'=>w'.cell? ⟨PB,0,none⟩=some (.int .i64 7)∧Below W3.heap.size W3 w') (first | exact ⟨q0,(Below.refl _ _).drew⟩ | exact ⟨(hb0.cell (p:=⟨PB,0,none⟩) (by simpa using hPB)).trans q0,((Below.refl _ _).drew).trans hb0⟩) (first | (go_at_call 169;refine (forms_any _).mono ?_;rintro e w0 ⟨rfl,hb0⟩))
 have hW:Below W3.heap.size W3 w0:=((Below.refl _ _).drew).trans hb0
 have hblk:w0.heap[PB]? = some (.cells #[.int .i64 7,.string ⟨#[]⟩,.int .i64 0,.bool false] 249 (0,0)):=by rw [hW.block PB hPB];exact HBlk.out
 have hR0:=HR3.out.keep hW
 have HC0:=Lib.hid ((hW.cell (p:=⟨g,1,none⟩) hgW3).trans HC3.out)
 have hlt0:=hR0.lt
 have HB0:=Lib.hid (HB3.out.trans (hW.mono (Nat.le_of_lt HR3.out.lt)))
 have HE0:=Lib.hid (HE3.out.go hW)
 have HR0:=Lib.hid hR0
 have q0':w0.cell? ⟨PB,0,none⟩=some (.int .i64 7):=by rw [cell_of_row _ _ 0 _ _ _ hblk];rfl
 have q1:w0.cell? ⟨PB,1,none⟩=some (.string ⟨#[]⟩):=by rw [cell_of_row _ _ 1 _ _ _ hblk];rfl
 have q2:w0.cell? ⟨PB,2,none⟩=some (.int .i64 0):=by rw [cell_of_row _ _ 2 _ _ _ hblk];rfl
 have q3:w0.cell? ⟨PB,3,none⟩=some (.bool false):=by rw [cell_of_row _ _ 3 _ _ _ hblk];rfl
 obtain ⟨c0',f0'⟩:=hR0.c0
 have hPB0:PB<w0.heap.size:=blk_lt hblk
 have HBlk0:=Lib.hid hblk
 clear hgW3 HC3 hb0 hW q0 HBlk HR3 HB3 HE3 hR0 hPB hblk
 go_wp2_with fail
 refine (braces_any g (bs rr) ps _ HR0.out HE0.out hrl).mono ?_
 rintro e w5 ⟨t,rest5,rfl,hx,ht,hrest,hR5,hB5,hG5,hC5⟩
 rw [Hb.out]
 obtain ⟨rfl,rfl⟩:=hx a b Hb2.out
 have HC:∀ W,Calls Tryz.prog 174 #[.string (bs a)] W fun e w'=>e=.returned (.bool true)∧Below W.heap.size W w':=fun W=>by
  have:=Valid_any (bs a) W (by omega)
  rw [L_bs,HVV.out] at this
  exact this
 clear hx
 generalize hta:bs a=ta at *
 have Hta:=Lib.hid hta
 clear hta
 have hblk5:w5.heap[PB]? = some (.cells #[.int .i64 7,.string ⟨#[]⟩,.int .i64 0,.bool false] 249 (0,0)):=(hG5.block PB hPB0 (fun e=>Nat.lt_irrefl _ (Option.some.inj e▸hgPB))).trans HBlk0.out
 have hPB5:PB<w5.heap.size:=blk_lt hblk5
 have HBlk5:=Lib.hid hblk5
 have HC5:=Lib.hid (hC5.trans HC0.out)
 have HR5:=Lib.hid hR5
 have HB5:=Lib.hid hB5
 have HRL0:=Lib.hid (Nat.le_trans ht hrl)
 clear hR5 hB5 hG5 hC5 hblk5 hrest
 go_wp2_with fail
 refine (HC _).mono ?_
 rintro e w6 ⟨rfl,hB6⟩
 have hblk6:w6.heap[PB]? = some (.cells #[.int .i64 7,.string ⟨#[]⟩,.int .i64 0,.bool false] 249 (0,0)):=(hB6.block PB hPB5).trans HBlk5.out
 have hR6:Rd w6 g (bs b) ps:=HR5.out.keep hB6
 have z0:w6.cell? ⟨PB,0,none⟩=some (.int .i64 7):=by rw [cell_of_row _ _ 0 _ _ _ hblk6];rfl
 have z1:w6.cell? ⟨PB,1,none⟩=some (.string ⟨#[]⟩):=by rw [cell_of_row _ _ 1 _ _ _ hblk6];rfl
 have z2:w6.cell? ⟨PB,2,none⟩=some (.int .i64 0):=by rw [cell_of_row _ _ 2 _ _ _ hblk6];rfl
 have z3:w6.cell? ⟨PB,3,none⟩=some (.bool false):=by rw [cell_of_row _ _ 3 _ _ _ hblk6];rfl
 have zf:w6.frozen? ⟨PB,1,none⟩=false:=frozen_of_row _ _ _ _ _ hblk6
 have hPB6:PB<w6.heap.size:=blk_lt hblk6
 have HC6:=Lib.hid ((hB6.cell (p:=⟨g,1,none⟩) HR5.out.lt).trans HC5.out)
 have HB6:=Lib.hid (hB6.mono (Nat.le_of_lt HR5.out.lt))
 have HR6:=Lib.hid hR6
 clear hB6 hR6 hblk6
 go_wp2_with fail
 have hR7:Rd (w6.setCell ⟨PB,1,none⟩ (.string ta)) g (bs b) ps:=HR6.out.other HC6.out HV1.out (Nat.ne_of_lt hgPB) 1 _
 have hB7:Below g w (w6.setCell ⟨PB,1,none⟩ (.string ta)):=((HB0.out.trans HB5.out).trans HB6.out).setCell (p:=⟨PB,1,none⟩) (Nat.le_of_lt hgPB) _
 have HB7:=Lib.hid hB7
 with_reducible refine (add_any g (bs b) ps ⟨7,ta,0,false⟩ _ hR7 hn HQ.out (by have:=HRL0.out;dsimp only;omega) (fun e=>absurd (show (7:Int)=1 from e) (by decide))).mono ?_
 rintro e w8 ⟨rfl,hR8,hB8⟩
 go_wp2
 go_ret
 refine ⟨by rw [HPS.out];rfl,fun p r' e=>?_,HB7.out.trans hB8⟩
 rw [HPS.out] at e
 injection e with e
 injection e with e4 e5
 rw [←e4,←e5]
 exact ⟨bs b,L_bs b,hR8⟩
set_option maxHeartbeats 4000000 in
theorem piece_n8 (g:Nat) (rest:ByteArray) (ps:List Pc) (c:UInt8) (r:Str) (w:World) (h:Rd w g rest ps) (hE:Env w) (hg:nG≤g) (hL:L rest=c :: r) (hc:r.head?≠some c) (hr:rest.size≤1000) (_hn:ps.length≤10000) (hq:∀ q∈ps,q.text.size≤1000000)
 (hk:kOf c r=8) (hb:bracesS (rOf c r)=none) :
 Calls Tryz.prog 200 #[.pointer (some ⟨g,0,none⟩)] w (PiecePost g ps c r w):=by
 obtain ⟨c0,f0⟩:=h.c0
 obtain ⟨e1,e2,h1⟩:=L_cons hL
 have HP:∀ W,Calls Tryz.prog 102 #[.string (bs r),.string (bs [c])] W fun e w'=>e=.returned (.bool false)∧W=w':=fun W=>(HasPrefix_any (bs r) (bs [c]) W).mono fun e w' h=>⟨by rw [h.1,L_bs,L_bs,prefix_one];simp [hc],h.2⟩
 have hs:(bs r).size≤1000:=by rw [size_bs];have:=len_L rest;rw [hL] at this;simp at this;omega
 have HK:Calls Tryz.prog 237 #[.pointer (some ⟨g,0,none⟩),.bool (c == 36)] (w.setCell ⟨g,0,none⟩ (.string (bs r))) fun e w'=>e=.returned (.int .i64 (kOf c r))∧Rd w' g (bs (rOf c r)) ps∧Below g (w.setCell ⟨g,0,none⟩ (.string (bs r))) w':=by
  have:=kind_any (c == 36) g (bs r) ps _ (h.cut (bs r)) hs
  rw [L_bs] at this
  exact this
 have hp:=pieceS_kind hc
 have hk12:kOf c r<12:=kindOf_lt _ _
 have hrl:(bs (rOf c r)).size≤1000:=by rw [size_bs,rOf,List.length_drop];rw [size_bs] at hs;omega
 have hsg:((bs [c]).toList == [36])=(c == 36):=by rw [bs_ne];simp
 generalize (c == 36)=lg at *
 generalize bs [c]=sg at *
 generalize bs r=s1 at *
 rw [hk] at HK hk12 hp
 generalize rOf c r=rr at *
 have Hp:=Lib.hid hp
 have HL:=Lib.hid hL
 have hE2:∀ w2,Below g (w.setCell ⟨g,0,none⟩ (.string s1)) w2→Env w2:=fun w2 hb=>(hE.keep ((Below.refl g w).setCell (p:=⟨g,0,none⟩) (Nat.le_refl _) _) hg).keep hb hg
 have HE:=Lib.hid hE2
 clear hL hp h hc hE hE2
 have hrow:=forms_row 8 (by decide)
 rw [show braV 8=.func (.func 160) #[] #[] from rfl] at hrow
 have hfield:=field_bra
 have hneq:=neq_func
 have HQ:=Lib.hid hq
 simp only [Int.cast_ofNat_Int] at HK hrow
 have hps:pieceS c r=none:=by
  rw [Hp.out,placeS,if_neg (by decide),if_neg (by decide),if_pos rfl,hb];rfl
 have HPS:=Lib.hid hps
 have hb':(bracesS (L (bs rr))).isSome=false:=by rw [L_bs,hb];rfl
 have Hb:=Lib.hid hb'
 clear hps hb hb'
 clear hq hs hr hk12 hk
 go_enter Tryz.func200,Tryz.ntmps200
 go_wp2_with (first | (go_at_call 102;refine (HP _).mono ?_;rintro e w' ⟨rfl,rfl⟩) | (go_at_call 237;refine HK.mono ?_;rintro e w2 ⟨rfl,hR2,hB2⟩))
 obtain ⟨W3,hW3⟩:∃ W3,w2.alloc (.cells #[.int .i64 8,.string ⟨#[]⟩,.int .i64 0,.bool false] 249)=W3:=⟨_,rfl⟩
 rw [hW3]
 have hblk:W3.heap[w2.heap.size]? = some (.cells #[.int .i64 8,.string ⟨#[]⟩,.int .i64 0,.bool false] 249 (0,0)):=by rw [←hW3];exact heap_alloc_new _ _
 have hR3:Rd W3 g (bs rr) ps:=hR2.keep (by rw [←hW3];exact (Below.refl _ _).alloc (Nat.le_refl _) _)
 have hB3:Below g w W3:=(((Below.refl g w).setCell (p:=⟨g,0,none⟩) (Nat.le_refl _) _).trans hB2).trans (by rw [←hW3];exact (Below.refl _ _).alloc (Nat.le_of_lt hR2.lt) _)
 have hE3:Env W3:=(HE.out w2 hB2).go (by rw [←hW3];exact (Below.refl _ _).alloc (Nat.le_refl _) _)
 have hgPB:g<w2.heap.size:=hR2.lt
 obtain ⟨v0,hC1,hV0⟩:=hR2.c1
 have hC3:W3.cell? ⟨g,1,none⟩=some v0:=by rw [←hW3];exact ((Below.refl w2.heap.size w2).alloc (Nat.le_refl _) _ |>.cell (p:=⟨g,1,none⟩) hgPB).trans hC1
 have hV1:v0.ownBlock≠some w2.heap.size:=fun e=>Nat.lt_irrefl _ (hV0 _ e)
 generalize w2.heap.size=PB at *
 have HV1:=Lib.hid hV1
 have HC3:=Lib.hid hC3
 have hgW3:=hR3.lt
 clear hC1 hV0 hV1 hC3
 have hPB:PB<W3.heap.size:=blk_lt hblk
 have HBlk:=Lib.hid hblk
 have HR3:=Lib.hid hR3
 have HB3:=Lib.hid hB3
 have HE3:=Lib.hid hE3
 have q0:W3.cell? ⟨PB,0,none⟩=some (.int .i64 8):=by rw [cell_of_row _ _ 0 _ _ _ hblk];rfl
 clear hblk hR3 hB3 hE3 hR2 hB2 hW3 HK
 go_region_held3 (fun w'=>w'.cell? ⟨PB,0,none⟩=some (.int .i64 8)∧Below W3.heap.size W3 w') (first | exact ⟨q0,(Below.refl _ _).drew⟩ | exact ⟨(hb0.cell (p:=⟨PB,0,none⟩) (by simpa using hPB)).trans q0,((Below.refl _ _).drew).trans hb0⟩) (first | (go_at_call 169;refine (forms_any _).mono ?_;rintro e w0 ⟨rfl,hb0⟩))
 have hW:Below W3.heap.size W3 w0:=((Below.refl _ _).drew).trans hb0
 have hblk:w0.heap[PB]? = some (.cells #[.int .i64 8,.string ⟨#[]⟩,.int .i64 0,.bool false] 249 (0,0)):=by rw [hW.block PB hPB];exact HBlk.out
 have hR0:=HR3.out.keep hW
 have HC0:=Lib.hid ((hW.cell (p:=⟨g,1,none⟩) hgW3).trans HC3.out)
 have hlt0:=hR0.lt
 have HB0:=Lib.hid (HB3.out.trans (hW.mono (Nat.le_of_lt HR3.out.lt)))
 have HE0:=Lib.hid (HE3.out.go hW)
 have HR0:=Lib.hid hR0
 have q0':w0.cell? ⟨PB,0,none⟩=some (.int .i64 8):=by rw [cell_of_row _ _ 0 _ _ _ hblk];rfl
 have q1:w0.cell? ⟨PB,1,none⟩=some (.string ⟨#[]⟩):=by rw [cell_of_row _ _ 1 _ _ _ hblk];rfl
 have q2:w0.cell? ⟨PB,2,none⟩=some (.int .i64 0):=by rw [cell_of_row _ _ 2 _ _ _ hblk];rfl
 have q3:w0.cell? ⟨PB,3,none⟩=some (.bool false):=by rw [cell_of_row _ _ 3 _ _ _ hblk];rfl
 obtain ⟨c0',f0'⟩:=hR0.c0
 have hPB0:PB<w0.heap.size:=blk_lt hblk
 have HBlk0:=Lib.hid hblk
 clear hgW3 HC3 hb0 hW q0 HBlk HR3 HB3 HE3 hR0 hPB hblk
 go_wp2_with fail
 refine (braces_any g (bs rr) ps _ HR0.out HE0.out hrl).mono ?_
 rintro e w5 ⟨t,rest5,rfl,_,_,_,hR5,hB5,_,_⟩
 rw [Hb.out]
 go_wp2
 go_ret
 exact ⟨by rw [HPS.out];rfl,(fun p r' e=>by rw [HPS.out] at e;cases e),HB0.out.trans hB5⟩
set_option maxHeartbeats 4000000 in
theorem piece_sf8 (g:Nat) (rest:ByteArray) (ps:List Pc) (c:UInt8) (r:Str) (w:World) (h:Rd w g rest ps) (hE:Env w) (hg:nG≤g) (hL:L rest=c :: r) (hc:r.head?≠some c) (hr:rest.size≤1000) (_hn:ps.length≤10000) (hq:∀ q∈ps,q.text.size≤1000000)
 (hk:kOf c r=8) (a b:Str) (hb:bracesS (rOf c r)=some (a,b)) (hV:keyS a=false) :
 Calls Tryz.prog 200 #[.pointer (some ⟨g,0,none⟩)] w (PiecePost g ps c r w):=by
 obtain ⟨c0,f0⟩:=h.c0
 obtain ⟨e1,e2,h1⟩:=L_cons hL
 have HP:∀ W,Calls Tryz.prog 102 #[.string (bs r),.string (bs [c])] W fun e w'=>e=.returned (.bool false)∧W=w':=fun W=>(HasPrefix_any (bs r) (bs [c]) W).mono fun e w' h=>⟨by rw [h.1,L_bs,L_bs,prefix_one];simp [hc],h.2⟩
 have hs:(bs r).size≤1000:=by rw [size_bs];have:=len_L rest;rw [hL] at this;simp at this;omega
 have HK:Calls Tryz.prog 237 #[.pointer (some ⟨g,0,none⟩),.bool (c == 36)] (w.setCell ⟨g,0,none⟩ (.string (bs r))) fun e w'=>e=.returned (.int .i64 (kOf c r))∧Rd w' g (bs (rOf c r)) ps∧Below g (w.setCell ⟨g,0,none⟩ (.string (bs r))) w':=by
  have:=kind_any (c == 36) g (bs r) ps _ (h.cut (bs r)) hs
  rw [L_bs] at this
  exact this
 have hp:=pieceS_kind hc
 have hk12:kOf c r<12:=kindOf_lt _ _
 have hrl:(bs (rOf c r)).size≤1000:=by rw [size_bs,rOf,List.length_drop];rw [size_bs] at hs;omega
 have hsg:((bs [c]).toList == [36])=(c == 36):=by rw [bs_ne];simp
 generalize (c == 36)=lg at *
 generalize bs [c]=sg at *
 generalize bs r=s1 at *
 rw [hk] at HK hk12 hp
 generalize rOf c r=rr at *
 have Hp:=Lib.hid hp
 have HL:=Lib.hid hL
 have hE2:∀ w2,Below g (w.setCell ⟨g,0,none⟩ (.string s1)) w2→Env w2:=fun w2 hb=>(hE.keep ((Below.refl g w).setCell (p:=⟨g,0,none⟩) (Nat.le_refl _) _) hg).keep hb hg
 have HE:=Lib.hid hE2
 clear hL hp h hc hE hE2
 have hrow:=forms_row 8 (by decide)
 rw [show braV 8=.func (.func 160) #[] #[] from rfl] at hrow
 have hfield:=field_bra
 have hneq:=neq_func
 have HQ:=Lib.hid hq
 simp only [Int.cast_ofNat_Int] at HK hrow
 have hps:pieceS c r=none:=by
  rw [Hp.out,placeS,if_neg (by decide),if_neg (by decide),if_pos rfl,hb];simp [hV]
 have HPS:=Lib.hid hps
 have hb':(bracesS (L (bs rr))).isSome=true:=by rw [L_bs,hb];rfl
 have hb2:bracesS (L (bs rr))=some (a,b):=by rw [L_bs,hb]
 have Hb:=Lib.hid hb'
 have Hb2:=Lib.hid hb2
 have HVV:=Lib.hid hV
 clear hps hb hb' hb2 hV
 clear hq hs hr hk12 hk
 go_enter Tryz.func200,Tryz.ntmps200
 go_wp2_with (first | (go_at_call 102;refine (HP _).mono ?_;rintro e w' ⟨rfl,rfl⟩) | (go_at_call 237;refine HK.mono ?_;rintro e w2 ⟨rfl,hR2,hB2⟩))
 obtain ⟨W3,hW3⟩:∃ W3,w2.alloc (.cells #[.int .i64 8,.string ⟨#[]⟩,.int .i64 0,.bool false] 249)=W3:=⟨_,rfl⟩
 rw [hW3]
 have hblk:W3.heap[w2.heap.size]? = some (.cells #[.int .i64 8,.string ⟨#[]⟩,.int .i64 0,.bool false] 249 (0,0)):=by rw [←hW3];exact heap_alloc_new _ _
 have hR3:Rd W3 g (bs rr) ps:=hR2.keep (by rw [←hW3];exact (Below.refl _ _).alloc (Nat.le_refl _) _)
 have hB3:Below g w W3:=(((Below.refl g w).setCell (p:=⟨g,0,none⟩) (Nat.le_refl _) _).trans hB2).trans (by rw [←hW3];exact (Below.refl _ _).alloc (Nat.le_of_lt hR2.lt) _)
 have hE3:Env W3:=(HE.out w2 hB2).go (by rw [←hW3];exact (Below.refl _ _).alloc (Nat.le_refl _) _)
 have hgPB:g<w2.heap.size:=hR2.lt
 obtain ⟨v0,hC1,hV0⟩:=hR2.c1
 have hC3:W3.cell? ⟨g,1,none⟩=some v0:=by rw [←hW3];exact ((Below.refl w2.heap.size w2).alloc (Nat.le_refl _) _ |>.cell (p:=⟨g,1,none⟩) hgPB).trans hC1
 have hV1:v0.ownBlock≠some w2.heap.size:=fun e=>Nat.lt_irrefl _ (hV0 _ e)
 generalize w2.heap.size=PB at *
 have HV1:=Lib.hid hV1
 have HC3:=Lib.hid hC3
 have hgW3:=hR3.lt
 clear hC1 hV0 hV1 hC3
 have hPB:PB<W3.heap.size:=blk_lt hblk
 have HBlk:=Lib.hid hblk
 have HR3:=Lib.hid hR3
 have HB3:=Lib.hid hB3
 have HE3:=Lib.hid hE3
 have q0:W3.cell? ⟨PB,0,none⟩=some (.int .i64 8):=by rw [cell_of_row _ _ 0 _ _ _ hblk];rfl
 clear hblk hR3 hB3 hE3 hR2 hB2 hW3 HK
 go_region_held3 (fun w'=>w'.cell? ⟨PB,0,none⟩=some (.int .i64 8)∧Below W3.heap.size W3 w') (first | exact ⟨q0,(Below.refl _ _).drew⟩ | exact ⟨(hb0.cell (p:=⟨PB,0,none⟩) (by simpa using hPB)).trans q0,((Below.refl _ _).drew).trans hb0⟩) (first | (go_at_call 169;refine (forms_any _).mono ?_;rintro e w0 ⟨rfl,hb0⟩))
 have hW:Below W3.heap.size W3 w0:=((Below.refl _ _).drew).trans hb0
 have hblk:w0.heap[PB]? = some (.cells #[.int .i64 8,.string ⟨#[]⟩,.int .i64 0,.bool false] 249 (0,0)):=by rw [hW.block PB hPB];exact HBlk.out
 have hR0:=HR3.out.keep hW
 have HC0:=Lib.hid ((hW.cell (p:=⟨g,1,none⟩) hgW3).trans HC3.out)
 have hlt0:=hR0.lt
 have HB0:=Lib.hid (HB3.out.trans (hW.mono (Nat.le_of_lt HR3.out.lt)))
 have HE0:=Lib.hid (HE3.out.go hW)
 have HR0:=Lib.hid hR0
 have q0':w0.cell? ⟨PB,0,none⟩=some (.int .i64 8):=by rw [cell_of_row _ _ 0 _ _ _ hblk];rfl
 have q1:w0.cell? ⟨PB,1,none⟩=some (.string ⟨#[]⟩):=by rw [cell_of_row _ _ 1 _ _ _ hblk];rfl
 have q2:w0.cell? ⟨PB,2,none⟩=some (.int .i64 0):=by rw [cell_of_row _ _ 2 _ _ _ hblk];rfl
 have q3:w0.cell? ⟨PB,3,none⟩=some (.bool false):=by rw [cell_of_row _ _ 3 _ _ _ hblk];rfl
 obtain ⟨c0',f0'⟩:=hR0.c0
 have hPB0:PB<w0.heap.size:=blk_lt hblk
 have HBlk0:=Lib.hid hblk
 clear hgW3 HC3 hb0 hW q0 HBlk HR3 HB3 HE3 hR0 hPB hblk
 go_wp2_with fail
 refine (braces_any g (bs rr) ps _ HR0.out HE0.out hrl).mono ?_
 rintro e w5 ⟨t,rest5,rfl,hx,ht,hrest,hR5,hB5,hG5,hC5⟩
 rw [Hb.out]
 obtain ⟨rfl,rfl⟩:=hx a b Hb2.out
 have HC:∀ W,Calls Tryz.prog 160 #[.string (bs a)] W fun e w'=>e=.returned (.bool false)∧Below W.heap.size W w':=fun W=>by
  have:=Key_any (bs a) W (by omega)
  rw [L_bs,HVV.out] at this
  exact this
 clear hx
 generalize hta:bs a=ta at *
 have Hta:=Lib.hid hta
 clear hta
 go_wp2_with (go_at_call 160;refine (HC _).mono ?_;rintro e w6 ⟨rfl,hB6⟩)
 go_ret
 exact ⟨by rw [HPS.out];rfl,(fun p r' e=>by rw [HPS.out] at e;cases e),(HB0.out.trans hB5).trans (hB6.mono (Nat.le_of_lt hR5.lt))⟩
set_option maxHeartbeats 4000000 in
theorem piece_st8 (g:Nat) (rest:ByteArray) (ps:List Pc) (c:UInt8) (r:Str) (w:World) (h:Rd w g rest ps) (hE:Env w) (hg:nG≤g) (hL:L rest=c :: r) (hc:r.head?≠some c) (hr:rest.size≤1000) (hn:ps.length≤10000) (hq:∀ q∈ps,q.text.size≤1000000)
 (hk:kOf c r=8) (a b:Str) (hb:bracesS (rOf c r)=some (a,b)) (hV:keyS a=true) :
 Calls Tryz.prog 200 #[.pointer (some ⟨g,0,none⟩)] w (PiecePost g ps c r w):=by
 obtain ⟨c0,f0⟩:=h.c0
 obtain ⟨e1,e2,h1⟩:=L_cons hL
 have HP:∀ W,Calls Tryz.prog 102 #[.string (bs r),.string (bs [c])] W fun e w'=>e=.returned (.bool false)∧W=w':=fun W=>(HasPrefix_any (bs r) (bs [c]) W).mono fun e w' h=>⟨by rw [h.1,L_bs,L_bs,prefix_one];simp [hc],h.2⟩
 have hs:(bs r).size≤1000:=by rw [size_bs];have:=len_L rest;rw [hL] at this;simp at this;omega
 have HK:Calls Tryz.prog 237 #[.pointer (some ⟨g,0,none⟩),.bool (c == 36)] (w.setCell ⟨g,0,none⟩ (.string (bs r))) fun e w'=>e=.returned (.int .i64 (kOf c r))∧Rd w' g (bs (rOf c r)) ps∧Below g (w.setCell ⟨g,0,none⟩ (.string (bs r))) w':=by
  have:=kind_any (c == 36) g (bs r) ps _ (h.cut (bs r)) hs
  rw [L_bs] at this
  exact this
 have hp:=pieceS_kind hc
 have hk12:kOf c r<12:=kindOf_lt _ _
 have hrl:(bs (rOf c r)).size≤1000:=by rw [size_bs,rOf,List.length_drop];rw [size_bs] at hs;omega
 have hsg:((bs [c]).toList == [36])=(c == 36):=by rw [bs_ne];simp
 generalize (c == 36)=lg at *
 generalize bs [c]=sg at *
 generalize bs r=s1 at *
 rw [hk] at HK hk12 hp
 generalize rOf c r=rr at *
 have Hp:=Lib.hid hp
 have HL:=Lib.hid hL
 have hE2:∀ w2,Below g (w.setCell ⟨g,0,none⟩ (.string s1)) w2→Env w2:=fun w2 hb=>(hE.keep ((Below.refl g w).setCell (p:=⟨g,0,none⟩) (Nat.le_refl _) _) hg).keep hb hg
 have HE:=Lib.hid hE2
 clear hL hp h hc hE hE2
 have hrow:=forms_row 8 (by decide)
 rw [show braV 8=.func (.func 160) #[] #[] from rfl] at hrow
 have hfield:=field_bra
 have hneq:=neq_func
 have HQ:=Lib.hid hq
 simp only [Int.cast_ofNat_Int] at HK hrow
 have hps:pieceS c r=some (⟨8,bs a,0,false⟩,b):=by
  rw [Hp.out,placeS,if_neg (by decide),if_neg (by decide),if_pos rfl,hb];simp [hV]
 have HPS:=Lib.hid hps
 have hb':(bracesS (L (bs rr))).isSome=true:=by rw [L_bs,hb];rfl
 have hb2:bracesS (L (bs rr))=some (a,b):=by rw [L_bs,hb]
 have Hb:=Lib.hid hb'
 have Hb2:=Lib.hid hb2
 have HVV:=Lib.hid hV
 clear hps hb hb' hb2 hV
 clear hq hs hr hk12 hk
 go_enter Tryz.func200,Tryz.ntmps200
 go_wp2_with (first | (go_at_call 102;refine (HP _).mono ?_;rintro e w' ⟨rfl,rfl⟩) | (go_at_call 237;refine HK.mono ?_;rintro e w2 ⟨rfl,hR2,hB2⟩))
 obtain ⟨W3,hW3⟩:∃ W3,w2.alloc (.cells #[.int .i64 8,.string ⟨#[]⟩,.int .i64 0,.bool false] 249)=W3:=⟨_,rfl⟩
 rw [hW3]
 have hblk:W3.heap[w2.heap.size]? = some (.cells #[.int .i64 8,.string ⟨#[]⟩,.int .i64 0,.bool false] 249 (0,0)):=by rw [←hW3];exact heap_alloc_new _ _
 have hR3:Rd W3 g (bs rr) ps:=hR2.keep (by rw [←hW3];exact (Below.refl _ _).alloc (Nat.le_refl _) _)
 have hB3:Below g w W3:=(((Below.refl g w).setCell (p:=⟨g,0,none⟩) (Nat.le_refl _) _).trans hB2).trans (by rw [←hW3];exact (Below.refl _ _).alloc (Nat.le_of_lt hR2.lt) _)
 have hE3:Env W3:=(HE.out w2 hB2).go (by rw [←hW3];exact (Below.refl _ _).alloc (Nat.le_refl _) _)
 have hgPB:g<w2.heap.size:=hR2.lt
 obtain ⟨v0,hC1,hV0⟩:=hR2.c1
 have hC3:W3.cell? ⟨g,1,none⟩=some v0:=by rw [←hW3];exact ((Below.refl w2.heap.size w2).alloc (Nat.le_refl _) _ |>.cell (p:=⟨g,1,none⟩) hgPB).trans hC1
 have hV1:v0.ownBlock≠some w2.heap.size:=fun e=>Nat.lt_irrefl _ (hV0 _ e)
 generalize w2.heap.size=PB at *
 have HV1:=Lib.hid hV1
 have HC3:=Lib.hid hC3
 have hgW3:=hR3.lt
 clear hC1 hV0 hV1 hC3
 have hPB:PB<W3.heap.size:=blk_lt hblk
 have HBlk:=Lib.hid hblk
 have HR3:=Lib.hid hR3
 have HB3:=Lib.hid hB3
 have HE3:=Lib.hid hE3
 have q0:W3.cell? ⟨PB,0,none⟩=some (.int .i64 8):=by rw [cell_of_row _ _ 0 _ _ _ hblk];rfl
 clear hblk hR3 hB3 hE3 hR2 hB2 hW3 HK
 go_region_held3 (fun w'=>w'.cell? ⟨PB,0,none⟩=some (.int .i64 8)∧Below W3.heap.size W3 w') (first | exact ⟨q0,(Below.refl _ _).drew⟩ | exact ⟨(hb0.cell (p:=⟨PB,0,none⟩) (by simpa using hPB)).trans q0,((Below.refl _ _).drew).trans hb0⟩) (first | (go_at_call 169;refine (forms_any _).mono ?_;rintro e w0 ⟨rfl,hb0⟩))
 have hW:Below W3.heap.size W3 w0:=((Below.refl _ _).drew).trans hb0
 have hblk:w0.heap[PB]? = some (.cells #[.int .i64 8,.string ⟨#[]⟩,.int .i64 0,.bool false] 249 (0,0)):=by rw [hW.block PB hPB];exact HBlk.out
 have hR0:=HR3.out.keep hW
 have HC0:=Lib.hid ((hW.cell (p:=⟨g,1,none⟩) hgW3).trans HC3.out)
 have hlt0:=hR0.lt
 have HB0:=Lib.hid (HB3.out.trans (hW.mono (Nat.le_of_lt HR3.out.lt)))
 have HE0:=Lib.hid (HE3.out.go hW)
 have HR0:=Lib.hid hR0
 have q0':w0.cell? ⟨PB,0,none⟩=some (.int .i64 8):=by rw [cell_of_row _ _ 0 _ _ _ hblk];rfl
 have q1:w0.cell? ⟨PB,1,none⟩=some (.string ⟨#[]⟩):=by rw [cell_of_row _ _ 1 _ _ _ hblk];rfl
 have q2:w0.cell? ⟨PB,2,none⟩=some (.int .i64 0):=by rw [cell_of_row _ _ 2 _ _ _ hblk];rfl
 have q3:w0.cell? ⟨PB,3,none⟩=some (.bool false):=by rw [cell_of_row _ _ 3 _ _ _ hblk];rfl
 obtain ⟨c0',f0'⟩:=hR0.c0
 have hPB0:PB<w0.heap.size:=blk_lt hblk
 have HBlk0:=Lib.hid hblk
 clear hgW3 HC3 hb0 hW q0 HBlk HR3 HB3 HE3 hR0 hPB hblk
 go_wp2_with fail
 refine (braces_any g (bs rr) ps _ HR0.out HE0.out hrl).mono ?_
 rintro e w5 ⟨t,rest5,rfl,hx,ht,hrest,hR5,hB5,hG5,hC5⟩
 rw [Hb.out]
 obtain ⟨rfl,rfl⟩:=hx a b Hb2.out
 have HC:∀ W,Calls Tryz.prog 160 #[.string (bs a)] W fun e w'=>e=.returned (.bool true)∧Below W.heap.size W w':=fun W=>by
  have:=Key_any (bs a) W (by omega)
  rw [L_bs,HVV.out] at this
  exact this
 clear hx
 generalize hta:bs a=ta at *
 have Hta:=Lib.hid hta
 clear hta
 have hblk5:w5.heap[PB]? = some (.cells #[.int .i64 8,.string ⟨#[]⟩,.int .i64 0,.bool false] 249 (0,0)):=(hG5.block PB hPB0 (fun e=>Nat.lt_irrefl _ (Option.some.inj e▸hgPB))).trans HBlk0.out
 have hPB5:PB<w5.heap.size:=blk_lt hblk5
 have HBlk5:=Lib.hid hblk5
 have HC5:=Lib.hid (hC5.trans HC0.out)
 have HR5:=Lib.hid hR5
 have HB5:=Lib.hid hB5
 have HRL0:=Lib.hid (Nat.le_trans ht hrl)
 clear hR5 hB5 hG5 hC5 hblk5 hrest
 go_wp2_with fail
 refine (HC _).mono ?_
 rintro e w6 ⟨rfl,hB6⟩
 have hblk6:w6.heap[PB]? = some (.cells #[.int .i64 8,.string ⟨#[]⟩,.int .i64 0,.bool false] 249 (0,0)):=(hB6.block PB hPB5).trans HBlk5.out
 have hR6:Rd w6 g (bs b) ps:=HR5.out.keep hB6
 have z0:w6.cell? ⟨PB,0,none⟩=some (.int .i64 8):=by rw [cell_of_row _ _ 0 _ _ _ hblk6];rfl
 have z1:w6.cell? ⟨PB,1,none⟩=some (.string ⟨#[]⟩):=by rw [cell_of_row _ _ 1 _ _ _ hblk6];rfl
 have z2:w6.cell? ⟨PB,2,none⟩=some (.int .i64 0):=by rw [cell_of_row _ _ 2 _ _ _ hblk6];rfl
 have z3:w6.cell? ⟨PB,3,none⟩=some (.bool false):=by rw [cell_of_row _ _ 3 _ _ _ hblk6];rfl
 have zf:w6.frozen? ⟨PB,1,none⟩=false:=frozen_of_row _ _ _ _ _ hblk6
 have hPB6:PB<w6.heap.size:=blk_lt hblk6
 have HC6:=Lib.hid ((hB6.cell (p:=⟨g,1,none⟩) HR5.out.lt).trans HC5.out)
 have HB6:=Lib.hid (hB6.mono (Nat.le_of_lt HR5.out.lt))
 have HR6:=Lib.hid hR6
 clear hB6 hR6 hblk6
 go_wp2_with fail
 have hR7:Rd (w6.setCell ⟨PB,1,none⟩ (.string ta)) g (bs b) ps:=HR6.out.other HC6.out HV1.out (Nat.ne_of_lt hgPB) 1 _
 have hB7:Below g w (w6.setCell ⟨PB,1,none⟩ (.string ta)):=((HB0.out.trans HB5.out).trans HB6.out).setCell (p:=⟨PB,1,none⟩) (Nat.le_of_lt hgPB) _
 have HB7:=Lib.hid hB7
 with_reducible refine (add_any g (bs b) ps ⟨8,ta,0,false⟩ _ hR7 hn HQ.out (by have:=HRL0.out;dsimp only;omega) (fun e=>absurd (show (8:Int)=1 from e) (by decide))).mono ?_
 rintro e w8 ⟨rfl,hR8,hB8⟩
 go_wp2
 go_ret
 refine ⟨by rw [HPS.out];rfl,fun p r' e=>?_,HB7.out.trans hB8⟩
 rw [HPS.out] at e
 injection e with e
 injection e with e4 e5
 rw [←e4,←e5]
 exact ⟨bs b,L_bs b,hR8⟩
end
end Go.Proofs.YtobcmlmbblgcdaaGreatDoor
