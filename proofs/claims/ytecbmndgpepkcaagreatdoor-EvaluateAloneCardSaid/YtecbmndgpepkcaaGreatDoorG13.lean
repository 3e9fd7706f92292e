/- Contracts that the law rests on, each under the premises that it names. -/
import Derived.Test.YtecbmndgpepkcaaGreatDoorPGlobD
namespace Go.Proofs.YtecbmndgpepkcaaGreatDoor
open Tryz
set_option maxHeartbeats 8000000
set_option maxRecDepth 100000
section
open Go.RowKit
def Xv(x:El):List Value:=(qF x.litN x.isStar x.has).toList
theorem zbi(x:El):(Xv x).length=129:=by rw[Xv,Array.length_toList,U9]
abbrev OB:=ZZ (α:=El) 232 267 129 Xv
def OD(p:ByteArray)(g:Nat)(w:World)(e:Ending)(w':World):Prop:=w.grownBy w' (some g) /\
 match Kz (L p)with
 |none=>e=.returned (.tuple #[.slice none 0 0,.bool false])
 |some alts=>∃v,e=.returned (.tuple #[v,.bool true])/\Js 232 267 129 Xv w' w.heap.size v alts
theorem zeM(w:World)(n:Nat)(st:Bool)(f:Nat->Bool):(IQ (.pointer (some ⟨w.heap.size,0,none⟩)) (.agg (qF n st f))).run prog (w.alloc (.cells zeroCells267 267))=.ok () ((w.alloc (.cells zeroCells267 267)).setRow w.heap.size (qF n st f)):=
 Mo (i5 w _) (by rw[zga,U9]) (U9 _ _ _) (GM _ _ _)
theorem zhk(w:World)(n:Nat)(st:Bool)(f:Nat->Bool):((w.alloc (.cells zeroCells267 267)).setRow w.heap.size (qF n st f)).heap[w.heap.size]? =some (.cells (qF n st f) 267 (0,0)):=setRow_heap _ _ _ _ _ _ (i5 w _)
theorem zi4(w:World)(n:Nat)(st:Bool)(f:Nat->Bool):Below w.heap.size w ((w.alloc (.cells zeroCells267 267)).setRow w.heap.size (qF n st f)):=
 (zL w _).grown (qR _ _ _) zl (fun j e=>Vb)
attribute [local go_sem ↓] Th Rr vj zdk zir zko zaK
theorem zaP(a:Int):(a<a+1)=True:=eq_true zb
attribute [local go_sem] zaP
theorem zf0 (p:ByteArray)(g:Nat)(w:World)(hp:p.size<=256)(hpr:qZ (L p)=true)(hg:w.heap[g]? =some (QC p 0)):
 Calls prog 196 #[.pointer (some ⟨g,0,none⟩)] w (OD p g w):=by
 have hglt:=zh hg;have HP:=za hpr;have HR0:Hid ((w.alloc (.cells #[.slice none 0 0] 232)).heap[g]? =some (QC p 0)):=za ((heap_alloc_old _ _ hglt).trans hg);have HGl:Hid (Kz (L p)=UR (L p) [] []):=za rfl;clear hpr hg;go_enter func196,ntmps196;go_wp2;go_loopg [2,3,4,5,6,7,8] (p.size+1) (fun gk s2 s3 s4 _ _ _ _ wr=>∃(i c go:Nat) (us:List Value) (x:Value) (ms:List (List El)) (cur:List El),s2=.slice none 0 0/\s3=.bool false/\s4=.slice (some ⟨go,0,none⟩) (us.length+1) c/\i+gk=p.size+1/\i<=p.size/\us.length+cur.length<=i /\
  Hid (OB wr w.heap.size (.slice (some ⟨go,0,none⟩) (us.length+1) c) (us++[x]) (ms++[cur]))/\Hid (w.grownBy wr (some g))/\Hid (wr.heap[g]? =some (QC p (i:Nat)))/\Hid (UR (L p) [] []=UR ((L p).drop i) ms cur))
 case atStart=>exact⟨0,1,w.heap.size,[],.slice none 0 0,[],[],rfl,rfl,rfl,zb,X1 _,zo,ZZ.first zo,World.grownBy_alloc _ _ _,HR0.out,rfl⟩
 case round=>
  obtain⟨i,c,go,us,x,ms,cur,rfl,rfl,rfl,hig,hi,hul,hN,hG,hR,hK⟩:=hrel;have c0:=zd (j:=0) (u:=.string p) hR.out rfl;have c1:=zd (j:=1) (u:=.int .i64 (i:Nat)) hR.out rfl;have f1:=frozen_of_row _ _ 1 _ _ hR.out;by_cases hlt0:i<p.size
  · have hlt :(i:Int)<(p.size:Int):=by omega
    have hp127:=zfL HP.out i hlt0;have hdr:=Us p i hlt0;go_upto_region 3 with(go_quiet (fail))
    go_cut [5]from 20 to 28 (fun s5 wx=>s5=.int .u8 (p[i].toNat:Int)/\Hid (OB wx w.heap.size (.slice (some ⟨go,0,none⟩) (us.length+1) c) (us++[x]) (ms++[cur]))/\Hid (w.grownBy wx (some g))/\Hid (wx.heap[g]? =some (QC p (i:Nat))))
    case first=>
     go_quiet (fail)
     go_wp2;go_meet;exact⟨rfl,hN.out.below (ZO (ZO zj _) _),qY (qY hG.out (Y2 _ _ _)) (Y2 _ _ _),hR.out⟩
    case rest=>
    obtain⟨rfl,hN2,hG2,hR2⟩:=hcut;clear hN hG hR c0 c1 f1;have c1:=zd (j:=1) (u:=.int .i64 (i:Nat)) hR2.out rfl;have f1:=frozen_of_row _ _ 1 _ _ hR2.out;obtain⟨W1,hW1⟩:∃W1,wc.setCell ⟨g,1,none⟩ (.int .i64 ((i:Int)+1))=W1:=⟨_,rfl⟩;have hR3:W1.heap[g]? =some (QC p ((i:Int)+1)):=by rw[<-hW1];exact Jv hR2.out
    have hG3:w.grownBy W1 (some g):=by rw[<-hW1];exact qY hG2.out (qE _ _ _ _)
    have hN3:OB W1 w.heap.size (.slice (some ⟨go,0,none⟩) (us.length+1) c) (us++[x]) (ms++[cur]):=by rw[<-hW1];exact hN2.out.other (qE _ _ _ _) (fun k e=>by cases e;exact Or.inl hglt)
    have hs1:W1.heap.size=wc.heap.size:=by rw[<-hW1];simp[World.setCell]
    have hst:=zeM W1 p[i].toNat false (fun _=>false);have hbd:=zaG p[i].toNat W1;obtain⟨W2,hW2⟩:∃W2,(W1.alloc (.cells zeroCells267 267)).setRow W1.heap.size (qF p[i].toNat false (fun _=>false))=W2:=⟨_,rfl⟩;have hb2:Below W1.heap.size W1 W2:=by rw[<-hW2];exact zi4 _ _ _ _
    have hE2:W2.heap[W1.heap.size]? =some (.cells (qF p[i].toNat false (fun _=>false)) 267 (0,0)):=by rw[<-hW2];exact zhk _ _ _ _
    rw[hW2]at hst;have HR:=za ((hb2.block g (zh hR3)).trans hR3);have HG:=za (qY hG3 (zG hb2 _));have HN:=za (hN3.below hb2);have HF:=za (hN3.fresh (Nat.le_refl W1.heap.size));have hEb:w.heap.size<=W1.heap.size:=hG3.size;have hgE:g<W1.heap.size:=zh hR3;rw[hs1]at hst hE2 HF hEb hgE;have HE2:=za hE2;have HW1:=za hW1;clear hN2 hG2 hR2 hR3 hG3 hN3 hE2 hb2 hW2
    go_upto_block 2 with fail
    clear hW1 HW1;generalize wc.heap.size=E at*;clear hs1;by_cases h124:p[i]=124
    · have e124:((p[i].toNat:Int)==124)=true:=by rw[h124];rfl
      have hK2:=hK.out;rw[hdr,h124,ziS]at hK2;have HK:=za hK2;have ho:=HN.out.outer;rw[r7,List.length_singleton]at ho;have HO:=za ho;obtain⟨i1,hi0,hz0,hz1,hz2⟩:=info_parts zhv;have Hi0:=za hi0;have Hz0:=za hz0;have Hz1:=za hz1;have Hz2:=za hz2;have hws:=HG.out.size;have hgr:=HR.out;have hgl2:=zh hgr;clear hK hK2 ho hi0 hz0 hz1 hz2 h124 hdr HE2 HF hst hbd hgr;go_wp2_with (refine wpList_append_lies _ rfl _ _ _ zk w.heap.size 232 i1 _ 1 24 underlying229 Hi0.out Hz0.out Hz1.out Hz2.out rfl zb (.slice (some ⟨go,0,none⟩) (us.length+1) c) (us.length+1) (us++[x]) zk (OI HO.out Zc) _ 1 1 [.slice none 0 0] zk zk (by exact World.news_of_block (B:=W2.heap.size) qt) qP zb ql zb zK _ rfl ?_;intro g2 cap w2 hown2 hgrow2 hat2 hlt2)
      have HN3:=za ((HN.out.below zu).pushNil (A:=some ⟨g2,0,none⟩) (c:=cap) rfl (by simpa using hown2) hgrow2 hat2);have HG3:=za (YL (qY HG.out (World.grownBy_alloc _ _ _)) hgrow2 (fun k hk=>Or.inl (HO.out.lt k hk).1));have HR3:=za ((hgrow2.block g zK (fun e=>by have:=(HO.out.lt g e.symm).1;omega)).trans ((heap_alloc_old _ _ hgl2).trans HR.out));clear hown2 hgrow2 hat2;go_wp2;go_roundg (gk - 1)
      case measure=>omega
      case rel=>exact⟨i+1,cap,g2,us++[x],.slice none 0 0,ms++[cur],[],rfl,rfl,zl,zb,zb,zK,HN3.out,HG3.out,HR3.out,HK.out⟩
    · have e124:((p[i].toNat:Int)==124)=false:=by
       rw[beq_eq_false_iff_ne];intro e;exact h124 (UInt8.toNat_inj.1 (Int.ofNat.inj e))
      go_cut [2,3,4,7,8]from 42 to 65 (fun s2 s3 s4 _ _ wx=>s2=.slice none 0 0/\s3=.bool false/\s4=.slice (some ⟨go,0,none⟩) (us.length+1) c/\∃(j:Nat) (e:El),i+1<=j/\j<=p.size/\Hid (Ui p[i] ((L p).drop (i+1))=some (e,(L p).drop j))/\Hid (wx.heap[g]? =some (QC p (j:Nat)))/\Hid (wx.heap[E]? =some (.cells (qF e.litN e.isStar e.has) 267 (0,0))) /\
       Hid (OB wx w.heap.size (.slice (some ⟨go,0,none⟩) (us.length+1) c) (us++[x]) (ms++[cur]))/\Hid (w.grownBy wx (some g)))
      case first=>
       have c5:=zd HE2.out (LZ _ _ _ p[i].toNat zb);have f5:=frozen_of_row _ _ (2+p[i].toNat) _ _ HE2.out;by_cases h42:p[i]=42
       · have e42:((p[i].toNat:Int)==42)=true:=by rw[h42];rfl
         have HEl:Hid (Ui p[i] ((L p).drop (i+1))=some (.star,(L p).drop (i+1))):=za (by rw[h42];rfl);clear h42 h124 hdr hst hbd;go_wp2_with (go_at_call 232;refine(yF _).mono ?_;rintro e w3 ⟨rfl,hb3⟩;have hbd:=zbY Qu w3;have hE3:=(hb3.block _ (zh HE2.out)).trans HE2.out;have hst:=Mo hE3 (U9 _ _ _) (U9 0 true Qu) (GM 0 true Qu);have HB3:=za hb3;have HE3:=za hE3;clear hb3 hE3)
         go_meet;exact⟨rfl,rfl,rfl,i+1,.star,zo,hlt0,HEl.out,Bg,setRow_heap _ _ _ _ _ _ HE3.out,(HN.out.below HB3.out).beside (qR _ _ _) HF,YL (qY HG.out (zG HB3.out _)) (qR _ _ _) (fun k e=>O6)⟩
       have e42:((p[i].toNat:Int)==42)=false:=by
        rw[beq_eq_false_iff_ne];intro e;exact h42 (UInt8.toNat_inj.1 (Int.ofNat.inj e))
       by_cases h63:p[i]=63
       · have e63:((p[i].toNat:Int)==63)=true:=by rw[h63];rfl
         have HEl:Hid (Ui p[i] ((L p).drop (i+1))=some (.any,(L p).drop (i+1))):=za (by rw[h63];rfl);clear h63 h42 h124 hdr hst hbd;go_wp2_with (go_at_call 232;refine(yF _).mono ?_;rintro e w3 ⟨rfl,hb3⟩;have hbd:=FJ Qu w3;have hE3:=(hb3.block _ (zh HE2.out)).trans HE2.out;have hst:=Mo hE3 (U9 _ _ _) (U9 0 false Qu) (GM 0 false Qu);have HB3:=za hb3;have HE3:=za hE3;clear hb3 hE3)
         go_meet;exact⟨rfl,rfl,rfl,i+1,.any,zo,hlt0,HEl.out,Bg,setRow_heap _ _ _ _ _ _ HE3.out,(HN.out.below HB3.out).beside (qR _ _ _) HF,YL (qY HG.out (zG HB3.out _)) (qR _ _ _) (fun k e=>O6)⟩
       have e63:((p[i].toNat:Int)==63)=false:=by
        rw[beq_eq_false_iff_ne];intro e;exact h63 (UInt8.toNat_inj.1 (Int.ofNat.inj e))
       by_cases h91:p[i]=91
       · have e91:((p[i].toNat:Int)==91)=true:=by rw[h91];rfl
         have hels:Ui p[i] ((L p).drop (i+1))=Vj ((L p).drop (i+1)):=by rw[h91];rfl
         have hset:=zcI p (i+1) g W2 hp HP.out hlt0 HR.out;unfold On at hset;cases hs:Vj ((L p).drop (i+1))with
         | none=>
           rw[hs]at hset hels;have hK2:=hK.out;rw[hdr,ze4 _ _ _ _ h124 hels]at hK2;have HK:=za hK2;have HSet:=za hset;clear hset hels hs hdr hK hK2 h124 h42 h63 h91 hst hbd;go_wp2_with (go_at_call 233;refine HSet.out.mono ?_;rintro e w3 ⟨hg3,rfl⟩;have hst:=ND w3 (fun _=>false))
           go_ret2;unfold OD;rw[HGl.out,HK.out];exact⟨I2 _ (qY HG.out hg3),rfl⟩
         | some y=>
           obtain⟨⟨no,rs,e1⟩,m,m1,m2,e2⟩:=zfE _ _ hs;obtain⟨e,r'⟩:=y;dsimp only at e1 e2;have hl0:El.litN e=0/\El.isStar e=false:=by rw[e1];exact⟨rfl,rfl⟩
           rw[zl8]at e2;rw[W8,zF]at m2;subst e2;rw[hs]at hset hels;dsimp only at hset;rw[W8,zF,show((p.size:Int) - ((p.size - (i+1+m):Nat):Int))=((i+1+m:Nat):Int)from by omega]at hset;have HEl:=za hels;have HSet:=za hset;clear hset hels hs hdr h124 h42 h63 h91 hst hbd e1;go_wp2_with (go_at_call 233;refine HSet.out.mono ?_;rintro e9 w3 ⟨hg3,rfl,hr3⟩;have hst:=ND w3 e.has;have hl:=MP (Px w3 e.has) (Yo _ _);have hbd:=FJ e.has ((w3.alloc (.cells zeroCells265 265)).setRow w3.heap.size (qc 127 e.has));have hE3:=K5 w3 e.has ((hg3.block E (zh HE2.out) (by intro x;have:=zx x;omega)).trans HE2.out);have hst2:=Mo hE3 (U9 _ _ _) (U9 0 false e.has) (GM 0 false e.has);have HE3:=za hE3;have HG3:=za hg3;have HR3:=za hr3;clear hE3 hg3 hr3)
           go_meet;refine⟨rfl,rfl,rfl,i+1+m,e,zb,zb,HEl.out,?_,?_,?_,YL (I2 _ (qY HG.out HG3.out)) (qR _ _ _) (fun k e=>O6)⟩
           · show _=_;rw[setRow_other _ _ _ _ zb];exact K5 w3 _ HR3.out
           · show _=_;rw[hl0.1,hl0.2];exact setRow_heap _ _ _ _ _ _ HE3.out
           · refine ZZ.beside ?_ (qR _ _ _) HF;exact(HN.out.other HG3.out (fun k x=>by cases x;exact Or.inl hglt)).other (I2 (row:=none) _ (Ga w3 none)) (fun k x=>by cases x)
       · have e91:((p[i].toNat:Int)==91)=false:=by
          rw[beq_eq_false_iff_ne];intro e;exact h91 (UInt8.toNat_inj.1 (Int.ofNat.inj e))
         have HEl:Hid (Ui p[i] ((L p).drop (i+1))=some (.lit p[i],(L p).drop (i+1))):=za (by rw[Ui,if_neg h42,if_neg h63,if_neg h91]);have hs1:=Ix HE2.out (zcm p[i].toNat false (fun _=>false) p[i].toNat true);have e:qF p[i].toNat false (fun d=>if d=p[i].toNat then true else false)=qF (El.litN (.lit p[i])) (El.isStar (.lit p[i])) (El.has (.lit p[i])):=zkT fun d _=>by
          show _=(p[i].toNat==d);by_cases h:d=p[i].toNat
          · rw[if_pos h,h];simp
          · rw[if_neg h];simp;exact fun x=>h x.symm
         rw[e]at hs1;have HE3:=za hs1;clear h42 h124 h63 h91 hdr hs1 e hst hbd;go_wp2;go_meet;exact⟨rfl,rfl,rfl,i+1,.lit p[i],zo,hlt0,HEl.out,VM HR.out zb,HE3.out,HN.out.beside (qE _ _ _ _) HF,YL HG.out (qE _ _ _ _) (fun k e=>O6)⟩
      case rest=>
       obtain⟨rfl,rfl,rfl,j,e,hj1,hj2,hel,hRj,hE,hN,hG⟩:=hcut;have hK2:=hK.out;rw[hdr,zix _ _ _ _ h124 e _ hel.out]at hK2;have HK:=za hK2;have ho:=hN.out.outer;simp only[r7,List.length_singleton]at ho;have hcx:=ho.cellAt us.length zb;rw[ze3 zo,zj2,zl7]at hcx;have hfx:=ho.frozenAt us.length;have hlm:us.length=ms.length:=by have:=hN.out.len;simpa using this
       have hin:=hN.out.inner us.length x cur zl (by rw[hlm];simp);have HLm:=za hlm;clear hlm;have HI:=za hin;have hsz:=U9 e.litN e.isStar e.has;have he:=zif (w:=wc.drew) (g:=E) hE.out hsz;have hall:∀u∈(qF e.litN e.isStar e.has).toList,u.oneCell'=true:=fun u hu=>Array.all_eq_true_iff_forall_mem.1 (GM e.litN e.isStar e.has) u (by simpa using hu);have hbs:=zju _ hsz;have henc:(qF e.litN e.isStar e.has).toList=Xv e:=rfl;generalize qF e.litN e.isStar e.has=cs at*;have HSz:=za hsz;have HAll:=za hall;have HEnc:=za henc;clear hK hK2 ho hin hsz hall henc hdr h124 e124 hE HE2 HN HF hel hst hbd HR HG;have hxo:some go≠x.ownBlock:=fun e=>hN.out.off us.length x go zl e.symm rfl;have HX:=za hxo;have hwc:=hG.out.size;have hgo:=(hN.out.outer.lt go rfl).2;obtain⟨i0,z,hi0,hz0,hz1,hz2,hz3⟩:=EA;have Hi0:=za hi0;have Hz0:=za hz0;have Hz1:=za hz1;have Hz2:=za hz2;have Hz3:=za hz3;clear hxo hi0 hz0 hz1 hz2 hz3;have hwr:IntKind.i64.wrap (us.length:Int)=(us.length:Int):=by rw[IntKind.wrap_i64];omega
       go_wp2
       go_region_law (first|(refine step_append_lies _ zk _ _ _ zk w.heap.size 267 i0 z 129 129 underlying232 Hi0.out Hz0.out Hz1.out Hz2.out Hz3.out zb x cur.length (cellsOf Xv cur) zk (OI HI.out Zc) _ 1 1 cs.toList zk (by have:=HSz.out;simp[this]) (by exact World.news_of_block (B:=wc.heap.size) qt) HAll.out zb ql zb zK _ rfl ?_;intro g2 cap w2 hown2 hgrow2 hat2 hlt2;have c2:=((zG (by go_grown:Below wc.heap.size wc _) _).trans hgrow2).cell (a:=⟨go,us.length,none⟩) hcx HX.out;have f2:=(((zG (by go_grown:Below wc.heap.size wc _) _).trans hgrow2).frozen_far ⟨go,us.length,none⟩ hgo HX.out).trans hfx))
       all_goals
        rw[HEnc.out]at hown2;have hgb:=(hN.out.outer.lt go rfl).1;have HN3:=za ((hN.out.below Zc).appendLast hown2 hgrow2 hat2);have HG3:=za (YL (YL (qY hG.out (zG Zc _)) hgrow2 (fun k hk=>Or.inl (HI.out.lt k hk).1)) (qE _ go us.length (.slice (some ⟨g2,0,none⟩) (cur.length+1) cap)) (fun k x=>by cases x;exact Or.inl hgb));have HR3:=za (VM (g:=go) (i:=us.length) (u:=.slice (some ⟨g2,0,none⟩) (cur.length+1) cap) ((hgrow2.block g (by have:=zh hRj.out;simp;omega) (fun e=>by have:=(HI.out.lt g e.symm).1;omega)).trans (((show Below wc.heap.size wc _ by go_grown).block g (zh hRj.out)).trans hRj.out)) zb);clear hown2 hgrow2 hat2 c2 f2 he hbs hcx hfx hN hG hRj;go_wp2;go_roundg (gk - (j - i))
        case measure=>omega
        case rel=>exact⟨j,c,go,us,_,ms,cur++[e],rfl,rfl,rfl,zb,zb,zK,HN3.out,HG3.out,HR3.out,HK.out⟩
  · have hlt:¬(i:Int)<(p.size:Int):=by omega
    have hK2:=hK.out;rw[List.drop_eq_nil_of_le Kl,zj7]at hK2;have HK:=za hK2;clear hK2 hK;go_wp2;go_quiet (fail)
    go_wp2;go_ret2;unfold OD;rw[HGl.out,HK.out];exact⟨by first|exact qY hG.out (Y2 _ _ _)|exact qY (qY hG.out (Y2 _ _ _)) (Y2 _ _ _),_,rfl,⟨_,hN.out.below (ZO zj _)⟩⟩
end
section
open Go.RowKit
def Cl(s:ze)(w:World)(e:Ending)(w':World):Prop:=Below w.heap.size w w' /\
 match Qe s with
 |none=>∃n:Int,e=.returned (.tuple #[.slice none 0 0,.int .i64 n])/\n=VC s
 |some alts=>∃v,e=.returned (.tuple #[v,.int .i64 0])/\Js 232 267 129 Xv w' w.heap.size v alts
theorem Se{w:World}{base base' kk n:Nat}{e:TypeId}{v:Value}{xs:List Value}(h:w.ownsRow base' e kk v n xs)(hb:base<=base'):w.ownsRow base e kk v n xs:=Ll
theorem zjE{w:World}{a b:Nat}{v:Value}{l:List (List El)}(h:Js 232 267 129 Xv w a v l)(hb:b<=a):Js 232 267 129 Xv w b v l:=by
 obtain⟨vs,hN⟩:=h;exact⟨vs,hN.len,Se hN.outer hb,fun i x l hx hl=>Se (hN.inner i x l hx hl) hb,hN.off,hN.apart⟩
theorem zcc(p:ByteArray)(w:World)(hsz:p.size<=9223372036854775807):Calls prog 161 #[.string p] w (Cl (L p) w):=by
 by_cases h256:256<p.size
 · have hI:(256:Int)<(p.size:Int):=by omega
   have hE:VC (L p)=21:=by rw[VC,zF,if_pos h256]
   have hS:Qe (L p)=none:=by rw[Qe,if_neg (fun h=>by have:=h.1;rw[zF]at this;omega)]
   have HE:=za hE;have HS:=za hS;clear hE hS;go_enter func161,ntmps161;go_wp2;go_ret2;refine⟨zj,?_⟩;rw[HS.out];exact⟨21,rfl,HE.out.symm⟩
 · have hI:¬(256:Int)<(p.size:Int):=by omega
   have hT:=OS p w hsz;have htx:Y3 (L p)=qZ (L p):=by rw[Y3,zF,zl1 zb,Bool.and_true]
   rw[htx]at hT;have hge:=zbF (s:=L p) Kl;cases hpr:qZ (L p)with
   | false=>
     rw[hpr]at hT hge;have HT:=za hT;have HE:Hid (VC (L p)=20):=za (by rw[hge];rfl);have HS:Hid (Qe (L p)=none):=za (by rw[Qe,if_neg (fun h=>by rw[hpr]at h;cases h.2)]);clear hT hge hpr htx;go_enter func161,ntmps161;go_wp2_with (go_at_call 195;refine HT.out.mono ?_;rintro e w' ⟨rfl,rfl⟩)
     go_ret2;refine⟨zj,?_⟩;rw[HS.out];exact⟨20,rfl,HE.out.symm⟩
   | true=>
     rw[hpr]at hT hge;simp only[if_true]at hge;have HT:=za hT;have HGs:Hid (Qe (L p)=Kz (L p)):=za (by rw[Qe,if_pos ⟨Kl,hpr⟩]);have hA:=zf0 p w.heap.size (w.alloc (QC p 0)) zb hpr (i5 w _);unfold OD at hA;cases hg:Kz (L p)with
     | none=>
       rw[hg]at hA hge HGs;have HA:=za hA;have HE:Hid (VC (L p)=20):=za (by rw[hge];rfl);clear hT hge hpr htx hA hg;go_enter func161,ntmps161;go_wp2_with (first|(go_at_call 195;refine HT.out.mono ?_;rintro e w' ⟨rfl,rfl⟩)|(go_at_call 196;refine HA.out.mono ?_;rintro e w2 ⟨hg2,rfl⟩))
       go_ret2;refine⟨(zL w _).grown hg2 zl (fun j e=>Vb),?_⟩;rw[HGs.out];exact⟨20,rfl,HE.out.symm⟩
     | some alts=>
       rw[hg]at hA HGs;have HA:=za hA;clear hT hge hpr htx hA hg;go_enter func161,ntmps161;go_wp2_with (first|(go_at_call 195;refine HT.out.mono ?_;rintro e w' ⟨rfl,rfl⟩)|(go_at_call 196;refine HA.out.mono ?_;rintro e w2 ⟨hg2,v,rfl,hN⟩))
       go_ret2;refine⟨(zL w _).grown hg2 zl (fun j e=>Vb),?_⟩;rw[HGs.out];exact⟨v,rfl,zjE hN zl⟩
end
section
open Go.RowKit
theorem za7(n:Nat)(st:Bool)(f:Nat->Bool):(qF n st f)[1]? =some (.bool st):=by
 rw[qF,Array.getElem?_append_left zl];rfl
theorem zjc(x:El):(Xv x)[1]? =some (.bool x.isStar):=by
 rw[Xv,zm2,za7]
theorem zcX(x:El){c:Nat}(h:c<127):(Xv x)[2+c]? =some (.bool (x.has c)):=by
 rw[Xv,zm2,LZ _ _ _ c h]
theorem Ay{w wr:World}{B:Nat}{A:Option Addr}{l:List El}(h:zr w B A 129 l.length (cellsOf Xv l))(hb:Below B w wr){k:Nat}(hlt:k<l.length):
 ∃ba off,A=some ⟨ba,off,none⟩/\wr.cell? ⟨ba,off+k*129+1,none⟩=some (.bool l[k].isStar)/\∀c,c<127->wr.cell? ⟨ba,off+k*129+2+c,none⟩=some (.bool (l[k].has c)):=by
 obtain⟨ba,off,hA,hba,hc⟩:=h.cell zbi hlt;have hx:l[k]? =some l[k]:=l0 hlt;refine⟨ba,off,hA,?_,fun c hc'=>?_⟩
 · rw[hb.cell (p:=⟨ba,off+k*129+1,none⟩) hba];exact hc k _ hx 1 _ (zjc _)
 · rw[hb.cell (p:=⟨ba,off+k*129+2+c,none⟩) hba,show off+k*129+2+c=off+(k*129+(2+c))from by omega];exact hc k _ hx (2+c) _ (zcX _ hc')
def Xd(L n:Nat)(st:Option (Nat×Nat))(i:Nat):Nat:=match st with
 |none=>(L+1)*((n+2)*(n+2))+(n - i)
 |some (k,f)=>(L - k)*((n+2)*(n+2))+(n - f)*(n+2)+(n - i)
theorem zi0{n i:Nat}:(n - i)*(n+2)+(n - i)<(n+2)*(n+2):=by
 have h1:(n - i)*(n+2)<=n*(n+2):=Nat.mul_le_mul_right _ (Nat.sub_le _ _);have h2:(n+2)*(n+2)=n*(n+2)+2*(n+2):=Nat.add_mul _ _ _;omega
theorem zei{L n a i:Nat}{st:Option (Nat×Nat)}(ha:a<L)(hst:∀k f,st=some (k,f)->k<a):Xd L n (some (a,i)) i<Xd L n st i:=by
 have h0:=zi0 (n:=n) (i:=i);generalize hQ:(n+2)*(n+2)=Q at*;cases st with
 | none=>
   unfold Xd;rw[hQ];have:(L - a)*Q+Q<=(L+1)*Q:=by
    have:=Nat.mul_le_mul_right Q (show L - a+1<=L+1 by omega);rw[Nat.add_mul,Nat.one_mul]at this;exact this
   dsimp only;omega
 | some x=>
   obtain⟨k,f⟩:=x;have hk:=hst k f rfl;unfold Xd;rw[hQ];have:(L - a)*Q+Q<=(L - k)*Q:=by
    have:=Nat.mul_le_mul_right Q (show L - a+1<=L - k by omega);rw[Nat.add_mul,Nat.one_mul]at this;exact this
   dsimp only;omega
theorem zh8{L n i:Nat}{st:Option (Nat×Nat)}(hi:i<n):Xd L n st (i+1)<Xd L n st i:=by
 unfold Xd;cases st<;>(dsimp only;omega)
theorem D7{L n k f i:Nat}(hf:f<=i)(hi:i<n):Xd L n (some (k,f+1)) (f+1)<Xd L n (some (k,f)) i:=by
 unfold Xd;dsimp only;have h1:(n - f)*(n+2)=(n - (f+1))*(n+2)+(n+2):=by
  rw[show n - f=(n - (f+1))+1 by omega,Nat.add_mul,Nat.one_mul]
 omega
def MT(st:Option (Nat×Nat)):Int:=match st with
 |none=> -1
 |some (k,_)=>k
def Jz(st:Option (Nat×Nat)):Int:=match st with
 |none=>0
 |some (_,f)=>f
theorem zgy (A:Option Addr)(c:Nat)(l:List El)(s:ByteArray)(w:World)(hl:l.length<=1000000)(hsz:s.size<=9223372036854775806)(h:zr w w.heap.size A 129 l.length (cellsOf Xv l))(hb:∀i,(hi:i<s.size)->s[i].toNat<127):
 Calls prog 162 #[.slice A l.length c,.string s] w fun e w'=>e=.returned (.bool (Yk l (L s)))/\Below w.heap.size w w':=by
 have H:=za h;have HBy:=za hb;have HSt:=za (YM.start El.isStar Vm l (L s));have HLs:=za (zF s);have HGt:Hid (∀i,(h:i<s.size)->∃h2:i<(L s).length,(L s)[i]=s[i]):=za fun i h=>⟨VV,rfl⟩;clear h hb;obtain⟨N,hN⟩:∃N,l.length=N:=⟨_,rfl⟩;have HN:=za hN;rw[hN]at hl⊢;clear hN;go_enter func162,ntmps162;go_wp2_with fail
 go_loopg [5,6,7,8] (Xd N s.size none 0+1) (fun gk s5 s6 s7 s8 wr=>∃(a i:Nat) (st:Option (Nat×Nat)),s5=.int .i64 a/\s6=.int .i64 (MT st)/\s7=.int .i64 (Jz st)/\s8=.int .i64 i/\gk=Xd N s.size st i+1/\a<=N/\i<=s.size/\Hid (YM El.isStar Vm l (L s) a i st)/\Hid (Below w.heap.size w wr))
 case atStart=>exact⟨0,0,none,rfl,rfl,rfl,rfl,rfl,X1 _,X1 _,HSt.out,zj⟩
 case round =>
  obtain⟨a,i,st,rfl,rfl,rfl,rfl,rfl,haN,hiN,hG,hB⟩:=hrel;have hstk:∀k f,st=some (k,f)->k<a/\f<=i:=fun k f e=>⟨(hG.out.last k f e).1,(hG.out.last k f e).2.2.1⟩;by_cases hi:i<s.size
  · have hiI:(i:Int)<(s.size:Int):=by omega
    obtain⟨hi2,hie⟩:=HGt.out i hi;have hby:=HBy.out i hi;by_cases ha:a<N
    · have haI:(a:Int)<(N:Int):=by omega
      have ha2:a<l.length:=by rw[HN.out];exact ha
      obtain⟨ba,off,rfl,c1,ch⟩:=Ay H.out hB.out ha2;have c2:=ch (s[i]'hi).toNat hby;cases hs:l[a].isStar with
      | true=>
        rw[hs]at c1;have HG2:=za (hG.out.atStar ha2 hs);have hmu:=zei (L:=N) (n:=s.size) (i:=i) (a:=a) ha (fun k f e=>(hstk k f e).1);clear c2 ch hs ha2 hi2 hie hby;go_wp2;go_roundg (Xd N s.size (some (a,i)) i+1)
        case measure=>omega
        case rel=>exact⟨a+1,i,some (a,i),zU,rfl,rfl,rfl,rfl,zb,hiN,HG2.out,hB.out⟩
      | false=>
        rw[hs]at c1;cases hh:l[a].has (s[i]'hi).toNat with
        | true=>
          rw[hh]at c2;have HG2:=za (hG.out.atByte ha2 hi2 hs (by unfold Vm;rw[hie];exact hh));have hmu:=zh8 (L:=N) (st:=st) hi;clear ch hs hh ha2 hi2 hie;go_wp2;go_quiet (fail)
          go_wp2;go_roundg (Xd N s.size st (i+1)+1)
          case measure=>omega
          case rel=>exact⟨a+1,i+1,st,zU,rfl,rfl,zU,rfl,zb,zb,HG2.out,ZO hB.out _⟩
        | false=>
          rw[hh]at c2;have hdead:∀h:a<l.length,l[a].isStar=false/\Vm l[a] (L s)[i]=false:=fun _=>⟨hs,by unfold Vm;rw[hie];exact hh⟩;cases st with
          | none=>
            have HF:=za (hG.out.fails hi2 hdead);clear ch hs hh ha2 hi2 hie hdead;exact Cv
          | some x=>
            obtain⟨k,f⟩:=x;have HG2:=za (hG.out.goBack hi2 hdead);have hkf:=hstk k f rfl;have hmu:=D7 (L:=N) (k:=k) hkf.2 hi;clear ch hs hh ha2 hi2 hie hdead hstk;unfold MT Jz;go_wp2;go_quiet (fail)
            go_wp2;go_roundg (Xd N s.size (some (k,f+1)) (f+1)+1)
            case measure=>omega
            case rel=>exact⟨k+1,f+1,some (k,f+1),zU,rfl,by unfold Jz;go_num,zU,rfl,zb,zb,HG2.out,ZO hB.out _⟩
    · obtain rfl:a=N:=by omega
      have hdead:∀h:a<l.length,l[a].isStar=false/\Vm l[a] (L s)[i]=false:=fun h=>absurd h EK;cases st with
      | none=>
        have HF:=za (hG.out.fails hi2 hdead);clear hi2 hie hdead;exact Cv
      | some x=>
        obtain⟨k,f⟩:=x;have HG2:=za (hG.out.goBack hi2 hdead);have hkf:=hstk k f rfl;have hmu:=D7 (L:=a) (k:=k) hkf.2 hi;clear hi2 hie hdead hstk;unfold MT Jz;go_wp2;go_quiet (fail)
        go_wp2;go_roundg (Xd a s.size (some (k,f+1)) (f+1)+1)
        case measure=>omega
        case rel=>exact⟨k+1,f+1,some (k,f+1),zU,rfl,by unfold Jz;go_num,zU,rfl,zb,zb,HG2.out,ZO hB.out _⟩
  · obtain rfl:i=s.size:=by omega
    have HD:Hid (Yk l (L s)=qM El.isStar Vm (l.drop a) []):=za (by
     have:=hG.out;rw[<-HLs.out]at this;exact this.done)
    clear hstk hi hG;go_wp2;go_loopg [5] (N+1 - a) (fun gk s5 wr=>∃b:Nat,s5=.int .i64 b/\b+gk=N+1/\b<=N/\Hid (Yk l (L s)=qM El.isStar Vm (l.drop b) [])/\Hid (Below w.heap.size w wr))
    case atStart=>exact⟨a,rfl,zb,haN,HD.out,hB.out⟩
    case round=>
     obtain⟨b,rfl,hbg,hbN,hM,hB⟩:=hrel;by_cases hb:b<N
     · have hbI:(b:Int)<(N:Int):=by omega
       have hb2:b<l.length:=by rw[HN.out];exact hb
       obtain⟨ba,off,rfl,c1,ce⟩:=Ay H.out hB.out hb2;clear ce;cases hs:l[b].isStar with
       | true=>
         rw[hs]at c1;have HM2:Hid (Yk l (L s)=qM El.isStar Vm (l.drop (b+1)) []):=za (by rw[hM.out,zcG hb2 hs]);clear hs hb2;go_wp2;go_roundg (gk - 1)
         case measure=>omega
         case rel=>exact⟨b+1,zU,zb,zb,HM2.out,hB.out⟩
       | false=>
         rw[hs]at c1;have HM2:Hid (Yk l (L s)=false):=za (by rw[hM.out,LQ (fun _=>hs) (X3 hb2)];simp;omega);have hbne:¬(b:Int)=(N:Int):=zb;clear hs hb2;go_wp2;go_ret;exact⟨by rw[HM2.out];simp[hbne],hB.out⟩
     · obtain rfl:b=N:=by omega
       have HM2:Hid (Yk l (L s)=true):=za (by rw[hM.out,LQ (fun h=>absurd h EK) (by rw[HN.out];exact zo),HN.out];simp);go_wp2;go_ret;exact⟨by rw[HM2.out];simp,hB.out⟩
end
section
open Go.RowKit
theorem ZZ.altAt{α:Type}{enc:α->List Value}{TO TI:TypeId}{k:Nat}{w:World}{base:Nat}{v:Value}{vs:List Value}{ls:List (List α)}(h:ZZ TO TI k enc w base v vs ls){i:Nat}(hi:i<ls.length):
 ∃g cv A c,v=.slice (some ⟨g,0,none⟩) ls.length cv/\g<w.heap.size/\w.cell? ⟨g,i,none⟩=some (.slice A ls[i].length c)/\zr w w.heap.size A k ls[i].length (cellsOf enc ls[i]):=by
 have hi2:i<vs.length:=by rw[h.len];exact hi
 obtain⟨g,cap,hv,hb,hg⟩:=h.outer.form zb;have ho:=h.outer;rw[hv]at ho;have hc:=ho.cellAt i zb;have hx:vs[i]? =some vs[i]:=l0 hi2;have hin:=h.inner i vs[i] ls[i] hx (l0 hi);obtain⟨A,c,e⟩:=Qf hin;refine⟨g,cap,A,c,by rw[hv,h.len],hg,by rw[hc,hx,e],?_⟩;rw[e]at hin;exact zr.of_own hin
theorem Js.slice{α:Type}{enc:α->List Value}{TO TI:TypeId}{k:Nat}{w:World}{base:Nat}{v:Value}{ls:List (List α)}(h:Js TO TI k enc w base v ls):∃A c,v=.slice A ls.length c:=by
 obtain⟨vs,h⟩:=h;obtain⟨A,c,e⟩:=Qf h.outer;exact⟨A,c,by rw[e,h.len]⟩
theorem zki{s:ByteArray}(h:qZ (L s)=true):∀i,(hi:i<s.size)->32<=s[i].toNat/\s[i].toNat<=126:=fun i hi=>by
 have h2:i<(L s).length:=by rw[zF];exact hi
 have h1:=List.all_eq_true.1 h (L s)[i] (X8 h2);have e:(L s)[i]=s[i]:=rfl;rw[e]at h1;simp[pr]at h1;omega
theorem zkJ{α:Type}{f:α->Bool}{l:List α}{i:Nat}(hi:i<l.length):(l.take (i+1)).any f=((l.take i).any f||f l[i]):=by
 rw[List.take_succ_eq_append_getElem hi,List.any_append];simp
theorem zhV{p:ze}(h:Qe p=none):VC p≠0:=by
 unfold VC
 split
 · decide
 · rw[h];decide
theorem zk0{p s:ze}(h:Qe p=none):zS p s=false:=by unfold zS;rw[h]
theorem zkX{p s:ze}(h:qZ s=false):zS p s=false:=by unfold zS;cases Qe p<;>simp[h]
theorem zgH{p s:ze}{alts:List (List El)}(h:Qe p=some alts)(hs:qZ s=true):zS p s=alts.any fun l=>Yk l s:=by unfold zS;rw[h,hs];simp
theorem zef{s:ByteArray}{k:Nat}(hk:k<s.size)(h:pr s[k]=false):qZ (L s)=false:=by
 rw[Bool.eq_false_iff];intro h1;have h2:k<(L s).length:=by rw[zF];exact hk
 have h3:=List.all_eq_true.1 h1 (L s)[k] (X8 h2);have e:(L s)[k]=s[k]:=rfl;rw[e,h]at h3;cases h3
theorem zdz{s:ByteArray}(h:∀k,(hk:k<s.size)->pr s[k]=true):qZ (L s)=true:=by
 refine List.all_eq_true.2 fun c hc=>?_;obtain⟨i,hi,rfl⟩:=List.getElem_of_mem hc;have h2:i<s.size:=by rw[zF]at hi;exact hi
 have e:(L s)[i]=s[i]:=rfl;rw[e];exact h i h2
theorem MM (p s:ByteArray)(w:World)(hp:p.size<=4611686018427387904)(hs:s.size<=4611686018427387904):
 Calls prog 127 #[.string p,.string s] w fun e w'=>e=.returned (.bool (zS (L p) (L s)))/\Below w.heap.size w w':=by
 have HPa:=za (zcc p w zb);unfold Cl at HPa;cases hg:Qe (L p)with
 | none=>
   have hE:=zhV hg;have HM:=za (zk0 (s:=L s) hg);rw[hg]at HPa;dsimp only at HPa;generalize VC (L p)=n at*;have h1:(n==0)=false:=by simp[hE]
   have h2:(n !=0)=true:=by simp[hE]
   clear hg hE;go_enter func127,ntmps127;go_wp2_with (go_at_call 161;refine HPa.out.mono ?_;rintro e w1 ⟨hb1,n',rfl,rfl⟩;have HB1:=za hb1;clear hb1)
   go_ret;exact⟨by rw[HM.out];rfl,HB1.out⟩
 | some alts=>
   have hZ:=zdC hg;have HZ:=za hZ;have HGs:=za hg;rw[hg]at HPa;dsimp only at HPa;clear hg hZ;go_enter func127,ntmps127;go_wp2_with (go_at_call 161;refine HPa.out.mono ?_;rintro e w2 ⟨hb2,v,rfl,hN⟩;obtain⟨A,c,rfl⟩:=hN.slice;have HN:=za hN;have HB2:=za hb2;clear hb2 hN)
   go_loopg [19] (s.size+1) (fun gk s19 wr=>∃k:Nat,s19=.int .i64 k/\k+gk=s.size+1/\k<=s.size/\Hid (∀j,(hj:j<s.size)->j<k->pr s[j]=true)/\w2=wr)
   case atStart=>exact⟨0,rfl,zb,X1 _,(fun j _ h=>absurd h (Nat.not_lt_zero _)),rfl⟩
   case round=>
    obtain⟨k,rfl,hkg,hkN,hPr,rfl⟩:=hrel;by_cases hlt:k<s.size
    · have hltI:(k:Int)<(s.size:Int):=by omega
      have hpr2:pr s[k]=(decide (32<=(s[k].toNat:Int))&&decide ((s[k].toNat:Int)<=126)):=rfl;by_cases hlo:s[k].toNat<32
      · have hloI:(s[k].toNat:Int)<32:=by omega
        exact C9
      have hloI:¬(s[k].toNat:Int)<32:=zb;by_cases hhi:126<s[k].toNat
      · have hhiI:(126:Int)<(s[k].toNat:Int):=by omega
        exact C9
      have hhiI:¬(126:Int)<(s[k].toNat:Int):=zb;have HPr2:Hid (∀j,(hj:j<s.size)->j<k+1->pr s[j]=true):=za fun j hj h=>by
       rcases(by omega:j<k∨j=k)with h|rfl
       · exact hPr.out j hj h
       · rw[hpr2];simp;omega
      clear hpr2;go_wp2;go_roundg (gk - 1)
      case measure=>omega
      case rel=>exact⟨k+1,zU,zb,zb,HPr2.out,rfl⟩
    · obtain rfl:k=s.size:=by omega
      have hpr:=zdz (s:=s) (fun j hj=>hPr.out j hj hj);have HM:=za (zgH HGs.out hpr);have HBy:=za (zki hpr);obtain⟨vs,hV⟩:=HN.out;have HAt:=za (fun i (hi:i<alts.length)=>hV.altAt hi);clear hV hpr hlt hkg;go_wp2_with fail
      go_loopg [35] (alts.length+1) (fun gk s35 wr=>∃k:Nat,s35=.int .i64 k/\k+gk=alts.length+1/\k<=alts.length/\Hid ((alts.take k).any (fun l=>Yk l (L s))=false)/\Hid (Below w2.heap.size w2 wr))
      case atStart=>exact⟨0,rfl,zb,X1 _,rfl,zj⟩
      case round=>
       obtain⟨k,rfl,hkg,hkN,hAn,hB⟩:=hrel;have hM:=HZ.out.2;by_cases hlt:k<alts.length
       · have hltI:(k:Int)<(alts.length:Int):=by omega
         obtain⟨g,cv,A',c',hv,hgl,hcell,hrow⟩:=HAt.out k hlt;obtain⟨rfl,rfl⟩:A=some ⟨g,0,none⟩/\c=cv:=by injection hv with h1 _ h2;exact⟨h1,h2⟩
         have hl:=HZ.out.1 alts[k] (X8 _);have hc1:wr.cell? ⟨g,k,none⟩=some (.slice A' alts[k].length c'):=(hB.out.cell (p:=⟨g,k,none⟩) hgl).trans hcell;have HTk:=za (zkJ (f:=fun l=>Yk l (L s)) hlt);have HOn:=za (zgy A' c' alts[k] s wr zb zb ((hrow.keep hB.out).up hB.out.size) (fun i hi=>by have:=HBy.out i hi;omega));generalize alts[k]=l at*;generalize l.length=ll at*;clear hv hcell hrow;cases hab:Yk l (L s)with
         | true=>
           rw[hab]at HOn;have HFin:Hid (alts.any (fun l=>Yk l (L s))=true):=za (by
            have h1:=HTk.out;rw[hab,Bool.or_true]at h1;obtain⟨x,hx,hx2⟩:=List.any_eq_true.1 h1;exact List.any_eq_true.2 ⟨x,List.mem_of_mem_take hx,hx2⟩)
           clear hab;go_wp2_with (go_at_call 162;refine HOn.out.mono ?_;rintro e w3 ⟨rfl,hb3⟩;have HB3:=za (bt HB2.out (bt hB.out hb3));clear hb3)
           go_ret;exact⟨by rw[HM.out,HFin.out];rfl,HB3.out⟩
         | false=>
           rw[hab]at HOn;have HAn2:Hid ((alts.take (k+1)).any (fun l=>Yk l (L s))=false):=za (by rw[HTk.out,hAn.out,hab];rfl);clear hab;go_wp2_with (go_at_call 162;refine HOn.out.mono ?_;rintro e w3 ⟨rfl,hb3⟩;have HB3:=za (bt hB.out hb3);clear hb3)
           go_roundg (gk - 1)
           case measure=>omega
           case rel=>exact⟨k+1,zU,zb,zb,HAn2.out,HB3.out⟩
       · obtain rfl:k=alts.length:=by omega
         have HFin:Hid (alts.any (fun l=>Yk l (L s))=false):=za (by have:=hAn.out;rwa [List.take_length]at this);go_wp2;go_ret;exact⟨by rw[HM.out,HFin.out];rfl,bt HB2.out hB.out⟩
end
section
open Go.RowKit
theorem GC{w W:World}(h:Below w.heap.size w W):Below w.heap.size w W.drew:=h.drew
end
section
open Go.RowKit
structure VJ(d:Dv):Prop where
 og:d.og.size<=4611686018427387904
 sb:d.sb.size<=4611686018427387904
 dr:d.dr.size<=4611686018427387904
 ats:∀x∈d.ats.l,x.val.size<=4611686018427387904
 len:d.ats.l.length<=4611686018427387904
abbrev LU(w:World)(B:Nat)(d:Dv):Prop:=zr w B d.ats.A 2 d.ats.l.length (cellsOf zw d.ats.l)
theorem Lx(l:List At)(n:ze):JE (zX l n)=.tuple #[.string (qQ l n),.bool (zX l n).isSome]:=by
 unfold qQ;cases zX l n<;>rfl
theorem zdP{l:List At}(h:∀x∈l,x.val.size<=4611686018427387904)(n:ze):(qQ l n).size<=4611686018427387904:=by
 unfold qQ;cases hf:zX l n with
 |none=>exact X1 _
 |some x=>exact h x (R5 hf).2
theorem zan{t:Tm}{d:Dv}(h:Z0 t=false)(h2:qT t=false):YK t d=false:=by
 unfold Z0 at h;unfold qT at h2;unfold YK yg;cases hm:qH t.op with
 |false=>rfl
 | true=>
   rw[hm]at h h2;simp only[Bool.true_and,Bool.or_eq_false_iff,beq_eq_false_iff_ne]at h h2;rw[if_neg zb,if_neg zb,if_neg zb,if_neg zb];rfl
theorem Ou{t:Tm}{d:Dv}(hm:qH t.op=true)(v:ByteArray)(h:yg t d=some v):YK t d=YN t v:=by
 unfold YK;rw[hm,h];rfl
end
end Go.Proofs.YtecbmndgpepkcaaGreatDoor
