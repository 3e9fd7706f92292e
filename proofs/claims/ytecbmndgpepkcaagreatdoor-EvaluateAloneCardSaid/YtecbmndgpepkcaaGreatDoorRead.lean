/- Contracts that the law rests on, each under the premises that it names. -/
import Derived.Test.YtecbmndgpepkcaaGreatDoorG07
namespace Go.Proofs.YtecbmndgpepkcaaGreatDoor
open Tryz
set_option maxHeartbeats 8000000
set_option maxRecDepth 100000
open Go.RowKit
structure Rd(w:World)(g:Nat)(rest:ByteArray)(ps:List Pc):Prop where
 ex:∃v,w.heap[g]? =some (.cells #[.string rest,v] 270 (0,0))/\w.ownsRow (g+1) 243 4 v ps.length (cellsOf ZY ps)
theorem Xc{w:World}{g:Nat}{o:Obj}(h:w.heap[g]? =some o):g<w.heap.size:=(Array.getElem?_eq_some_iff.1 h).1
theorem Rd.lt{w:World}{g:Nat}{r:ByteArray}{ps:List Pc}(h:Rd w g r ps):g<w.heap.size:=by
 obtain⟨v,hb,_⟩:=h.ex;exact Xc hb
theorem Rd.keep{w w':World}{g:Nat}{r:ByteArray}{ps:List Pc}(h:Rd w g r ps)(hb:Below w.heap.size w w'):Rd w' g r ps:=by
 obtain⟨v,hh,ho⟩:=h.ex;refine⟨v,by rw[hb.block g (Xc hh)];exact hh,?_⟩;exact ho.kept (row:=none) ⟨hb.os,hb.tape,hb.output,hb.size,fun k hk _=>hb.block k hk⟩ (by
  rcases ho.2 with⟨h1,_⟩|⟨g',cap,cur,h1,_⟩
  · left;rw[h1];rfl
  · right;rw[h1];simp[Value.ownBlock])
theorem Rd.cut{w:World}{g:Nat}{r:ByteArray}{ps:List Pc}(h:Rd w g r ps)(r':ByteArray):Rd (w.setCell ⟨g,0,none⟩ (.string r')) g r' ps:=by
 obtain⟨v,hh,ho⟩:=h.ex;exact⟨v,by rw[heap_setCell_same _ _ _ _ _ _ hh];rfl,ownsRow_setCell_below ho zl _⟩
theorem LW(j:Nat)(b:UInt8)(h:V9[j]? =some b):b.toNat<128:=by
 have hm:b∈V9:=X7 h;simp only[V9,List.mem_cons,List.not_mem_nil,or_false]at hm;exact vD
theorem jm:(prog.info? 239).map (fun i=>(i.zero,i.size))=some (some (.agg #[sv [],sv [],.nilFunc,.nilFunc]),4):=zg
theorem zgf(k:Nat):(kX k).oneCell'=true:=by unfold kX;split<;>rfl
theorem zg8(k:Nat):(Q2 k).oneCell'=true:=by unfold Q2;split<;>rfl
theorem Eh(long:Bool)(wd:ByteArray)(k:Nat):Yf long (L wd) k=(!wd.toList.isEmpty&&((long&&k8 k==wd.toList)||(!long&&Kh k==wd.toList))):=by
 rw[tl];rfl
theorem zfp(long:Bool)(g:Nat)(rest:ByteArray)(ps:List Pc)(w:World)(h:Rd w g rest ps)(hr:rest.size<=1000):
 Calls prog 238 #[.pointer (some ⟨g,0,none⟩),.bool long] w fun e w'=>
  e=.returned (.int .i64 (U4 long ((L rest).take (XQ long (L rest)))))/\Rd w' g (bs ((L rest).drop (XQ long (L rest)))) ps/\Below g w w':=by
 obtain⟨v,hh,ho⟩:=h.ex;have c0:w.cell? ⟨g,0,none⟩=some (.string rest):=zd hh rfl;have f0:w.frozen? ⟨g,0,none⟩=false:=frozen_of_row _ _ _ _ _ hh;have HH:=za h;clear hh ho h;cases long
 · go_enter func238,ntmps238;go_wp2_with (go_at_call 164;refine(MQ _).mono ?_;rintro e w1 ⟨rfl,hb1⟩)
   have HW:Hid (L (rest.extract 0 (min 1 (rest.size:Int)).toNat)=(L rest).take (XQ false (L rest))):=by
    show L _=_;rw[Ye,zl4,XQ];rw[if_neg zl,zF];congr 1;omega
   have HR:Hid (rest.extract (min 1 (rest.size:Int)).toNat rest.size=bs ((L rest).drop (XQ false (L rest)))):=by
    show rest.extract (min 1 (rest.size:Int)).toNat rest.size=_;refine KY ?_;rw[Ye,List.take_of_length_le VQ,XQ];rw[if_neg zl,zF];congr 1;omega
   generalize rest.extract (min 1 (rest.size:Int)).toNat rest.size=rr at*;generalize rest.extract 0 (min 1 (rest.size:Int)).toNat=wd at*;have HC:Hid (Rd w1 g rr ps/\Below g w w1):=⟨(HH.out.cut rr).keep hb1,((Below.refl g w).setCell zo _).trans (hb1.mono (by simp;exact X3 HH.out.lt))⟩;clear hb1;by_cases h0:wd.toList=[]
   · go_loopg [44] 12 (fun gk i wr=>∃k:Nat,k+gk=12/\i=.int .i64 k/\Hid (∀j,j<k->Yf false (L wd) j=false)/\Hid (Below w1.heap.size w1 wr))
     case atStart=>exact⟨0,zb,rfl,fun j hj=>absurd hj zb,zj⟩
     case round=>
      obtain⟨k,hk,rfl,hp,hb⟩:=hrel;have hk':k<=12:=zb;have HK:=za hk;clear hk;by_cases hlt:k<12
      · have hrow:=GL k hlt;have HV:Hid (Yf false (L wd) k=false):=by
         show Yf false (L wd) k=false;rw[Yf,<-tl,h0];rfl
        exact Ad
      · exact Mv
   · have he:wd.toList.isEmpty=false:=by rw[tl];exact XC h0
     go_loopg [44] 12 (fun gk i wr=>∃k:Nat,k+gk=12/\i=.int .i64 k/\Hid (∀j,j<k->Yf false (L wd) j=false)/\Hid (Below w1.heap.size w1 wr))
     case atStart=>exact⟨0,zb,rfl,fun j hj=>absurd hj zb,zj⟩
     case round=>
      obtain⟨k,hk,rfl,hp,hb⟩:=hrel;have hk':k<=12:=zb;have HK:=za hk;clear hk;by_cases hlt:k<12
      · have hrow:=GL k hlt;cases hq:Kh k==wd.toList
        all_goals
         have hv:=Eh false wd k;rw[he,hq]at hv;simp only[Bool.not_false,Bool.false_and,Bool.and_true,Bool.and_false,Bool.or_false,Bool.false_or]at hv;have HV:=za hv;clear hv;go_wp2_with (first|(refine G1 rfl 239 rfl _ ((zero_of_info jm).1 _) ?_)|(refine jA rfl 239 _ _ rfl _ _ _ _ rfl rfl rfl zk MH jq ?_))
        · exact PS
        · exact Ac
      · exact Mv
 · have hcs:=LW;have HT:∀W,Calls prog 264 #[.string rest,.string ⟨#[97,98,99,100,101,102,103,104,105,106,107,108,109,110,111,112,113,114,115,116,117,118,119,120,121,122]⟩] W (fun e w'=>e=.returned (.string (bs (Lib.trimLeftS (L rest) V9)))/\Below W.heap.size W w'):=fun W=>
    Any.strings_TrimLeft_laid lays161 zg rest ⟨#[97,98,99,100,101,102,103,104,105,106,107,108,109,110,111,112,113,114,115,116,117,118,119,120,121,122]⟩ W zi LW
   have hl:(Lib.trimLeftS (L rest) V9).length<=rest.size:=by
    rw[<-zF];exact(List.dropWhile_sublist (V9.contains ·)).length_le
   have HZ:Hid (rest.size - (bs (Lib.trimLeftS (L rest) V9)).size=(L rest).length - (Lib.trimLeftS (L rest) V9).length):=by
    show _=_;rw[Zg,zF]
   rw[<-Zg]at hl;generalize bs (Lib.trimLeftS (L rest) V9)=tr at*;clear hcs;go_enter func238,ntmps238;go_wp2;have hg:g<w.heap.size:=HH.out.lt;have HF:=za f0;clear f0
   go_region_held3 (fun w'=>w'.cell? ⟨g,0,none⟩=some (.string rest)/\Below w.heap.size w w') (first|exact⟨c0,zj.drew⟩|exact⟨(hb0.cell (p:=⟨g,0,none⟩) (by simpa using hg)).trans c0,(zj.drew).trans hb0⟩) (first|(go_at_call 264;refine(HT _).mono ?_;rintro e w0 ⟨rfl,hb0⟩))
   have hW:Below w.heap.size w w0:=(zj.drew).trans hb0;have c0':w0.cell? ⟨g,0,none⟩=some (.string rest):=(hW.cell (p:=⟨g,0,none⟩) hg).trans c0;have f0':w0.frozen? ⟨g,0,none⟩=false:=(hW.frozen (p:=⟨g,0,none⟩) hg).trans HF.out;have e1:IntKind.i64.wrap ((rest.size:Int) - (tr.size:Int))=((rest.size - tr.size:Nat):Int):=by
    rw[IntWalk.i64_in _ zb];omega
   rw[e1];clear e1 hb0 c0;have hle:rest.size - tr.size<=rest.size:=zb;go_wp2_with (go_at_call 164;refine(MQ _).mono ?_;rintro e w1 ⟨rfl,hb1⟩)
   have HW:Hid (L (rest.extract 0 (rest.size - tr.size))=(L rest).take (XQ true (L rest))):=by
    show L _=_;rw[Ye,zl4,XQ];rw[if_pos rfl,<-HZ.out]
   have HR:Hid (rest.extract (rest.size - tr.size) rest.size=bs ((L rest).drop (XQ true (L rest)))):=by
    show rest.extract (rest.size - tr.size) rest.size=_;refine KY ?_;rw[Ye,List.take_of_length_le VQ,XQ];rw[if_pos rfl,<-HZ.out]
   generalize rest.extract (rest.size - tr.size) rest.size=rr at*;generalize rest.extract 0 (rest.size - tr.size)=wd at*;have HC:Hid (Rd w1 g rr ps/\Below g w w1):=⟨((HH.out.keep hW).cut rr).keep hb1,((hW.mono (X3 hg)).setCell (p:=⟨g,0,none⟩) zo _).trans (hb1.mono (by simp;exact X3 (i4 hg hW.size)))⟩;clear hb1 hW hg;by_cases h0:wd.toList=[]
   · go_loopg [44] 12 (fun gk i wr=>∃k:Nat,k+gk=12/\i=.int .i64 k/\Hid (∀j,j<k->Yf true (L wd) j=false)/\Hid (Below w1.heap.size w1 wr))
     case atStart=>exact⟨0,zb,rfl,fun j hj=>absurd hj zb,zj⟩
     case round=>
      obtain⟨k,hk,rfl,hp,hb⟩:=hrel;have hk':k<=12:=zb;have HK:=za hk;clear hk;by_cases hlt:k<12
      · have hrow:=GL k hlt;have HV:Hid (Yf true (L wd) k=false):=by
         show Yf true (L wd) k=false;rw[Yf,<-tl,h0];rfl
        exact Ad
      · exact Mv
   · have he:wd.toList.isEmpty=false:=by rw[tl];exact XC h0
     go_loopg [44] 12 (fun gk i wr=>∃k:Nat,k+gk=12/\i=.int .i64 k/\Hid (∀j,j<k->Yf true (L wd) j=false)/\Hid (Below w1.heap.size w1 wr))
     case atStart=>exact⟨0,zb,rfl,fun j hj=>absurd hj zb,zj⟩
     case round=>
      obtain⟨k,hk,rfl,hp,hb⟩:=hrel;have hk':k<=12:=zb;have HK:=za hk;clear hk;by_cases hlt:k<12
      · have hrow:=GL k hlt;cases hq:k8 k==wd.toList
        all_goals
         have hv:=Eh true wd k;rw[he,hq]at hv;simp only[Bool.not_true,Bool.not_false,Bool.false_and,Bool.and_true,Bool.and_false,Bool.or_false]at hv;have HV:=za hv;clear hv;go_wp2_with (first|(refine G1 rfl 239 rfl _ ((zero_of_info jm).1 _) ?_)|(refine jA rfl 239 _ _ rfl _ _ _ _ rfl rfl rfl zk MH jq ?_))
        · exact PS
        · exact Ac
      · exact Mv
end Go.Proofs.YtecbmndgpepkcaaGreatDoor
