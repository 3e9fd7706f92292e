/- Contracts of functions that the law reaches, and what they rest on; each under the premises that it names. Shortened by a program. -/
import Derived.WalkKit
import Derived.WalkSpells
import Derived.WalkLawsBesides
import Derived.Handy
import Derived.LoopTactic
import Derived.Lib.Hide
import Derived.Deep.QuietTactic
import Derived.BigQuiet
import Derived.Deep.LoopGhost
import Derived.Deep.DeepFit
import Derived.Deep.RegionWith
import Derived.Deep.AppendLies
import Derived.StillTailTactics
import Derived.Deep.RegionHeld3
import Derived.Lib.Strings
import Derived.Laws.Rows
import Derived.Test.YtecbmndgpepkcaaGreatDoorProg
import Derived.Deep.WholeRow
import Derived.Laws.OwnMore
import Derived.Deep.MidRow
import Derived.Laws.EntriesVeiled
import Derived.Shelf.SlicesQ.Load
import Derived.Great.BuildSlice
import Derived.RangeFuncKeeps
import Derived.RangeFuncFrom
import Derived.Lib.Replace
import Derived.Laws.AppendOwnNone
import Derived.Test.YtecbmndgpepkcaaGreatDoorShelf
import Derived.Lib.SplitLaws
import Derived.Lib.CountLaws
namespace Go.Proofs.YtecbmndgpepkcaaGreatDoor
open Tryz
theorem za {p:Prop}(h:p):RowKit.Hid p:=h
set_option maxHeartbeats 8000000
set_option maxRecDepth 100000
section
variable{p:Prop}
theorem I1(h:p:=by
  go_wp2_with (first
   |(go_at_call 48;refine(HIt.out nb z5 z6 _ (bt HB04.out HBg.out)).mono ?_;rintro e wi ⟨rfl,hbi⟩;have H6i:=za (H6.out.keep hbi);have HBh:=za (bt HBg.out hbi);(have hiz:=zcZ nb (by omega) (by omega));obtain⟨u0,u1,u2,u3,u4,u5,u6,u7,u8,u9⟩:=HQ.out _ (bt HBg.out hbi);clear hbi)
   |(go_at_call 27;(with_reducible refine(Ke H7.out (by decide) _ _ (by decide) (by omega)).mono ?_);rintro e wz ⟨X8,x8,m8,rfl,h8,hb⟩;have H8:=za h8;clear h8 hb)
   |(go_at_call 27;(with_reducible refine(Ke H6i.out (by decide) _ _ (by decide) hiz).mono ?_);rintro e wy ⟨X7,x7,m7,rfl,h7,hb⟩;have H7:=za h7;obtain⟨v0,v1,v2,v3,v4,v5,v6,v7,v8,v9⟩:=HQ.out _ (bt HBh.out hb);clear h7 hb)
   |(go_at_call 27;(with_reducible refine(Ke H5.out (by decide) _ _ (by decide) (by omega)).mono ?_);rintro e wg ⟨X6,x6,m6,rfl,h6,hb⟩;have H6:=za h6;have HBg:=za (bt HBf.out hb);obtain⟨g0,g1,g2,g3,g4,g5,g6,g7,g8,g9⟩:=HQ.out _ (bt HBf.out hb);clear h6 hb))
  go_ret
  first
   |exact⟨_,_,m8,rfl,H8.out⟩
   |exact⟨_,_,m7,rfl,H7.out.more (by decide)⟩
   |exact⟨_,_,m6,rfl,H6.out.more (by decide)⟩
   |exact⟨_,_,m4,rfl,H5.out.more (by decide)⟩):p:=h
theorem UG(h:p:=by
  have hk':=hk;have hbf:Below W4.heap.size W4 w0:=((hbr.out.trans (hb5.mono hwB4)).drew).trans (hb0.mono (by have:=hb5.size;simp;omega));go_wp2;go_roundg (gk - 1)
  case measure=>omega
  case rel=>exact⟨k+1,by omega,by go_num,by rw[HSn.out],hbf⟩):p:=h
theorem Pz(h:p:=by
  have HPut:=za (fun(W:World) (hW:Below wr.heap.size wr W)=>Pi yk.links.A yk.links.c yk.links.l t 16 W (qg hEk.rows.lk hW) (by have:=HOkk.out.2;omega) (by omega) (Nat.le_trans hgB hW.size) HOkk.out.1);clear hcl HFin hEk;go_wp2_with (first
   |(go_at_call 217;refine HCl2.out.mono ?_;rintro e w3 ⟨rfl,hb3⟩;have HB3:=za hb3;have q3:=(ZF (HEk.out.below hb3).box).2.2.1;have f3:=qb (HEk.out.below hb3).box 2;clear hb3)
   |(go_at_call 173;refine(HPut.out _ HB3.out).mono ?_;rintro e w5 hI;obtain⟨A5,c5,rfl,q5,f5,hP⟩:=Qq.edLinks (HEk.out.below HB3.out) hI;have HP:=za hP;clear hP hI q3 f3))
  go_roundg (gk - 1)
  case measure=>omega
  case rel=>exact⟨k+1,_,by go_num,by omega,by omega,za (HF2.out _ _ _ _ HB3.out HP.out)⟩):p:=h
theorem qs(h:p:=by
  intro w hSw
  go_simp
  try with_reducible rfl):p:=h
theorem PY(h:p:=by
  have HK:=za HK0;have HT:=za HT0;have HG:=za HG0;clear HK0 HT0 HG0;generalize hN:y.props.l.length=N at*;have HN:=za hN;clear hN;go_enter func159,ntmps159;go_wp2_with (first|(go_at_call 33;refine HG.out.mono ?_;rintro e w2 ⟨rfl,hb2⟩;have HB2:=za hb2;clear hb2)|(go_at_call 194;refine(HK.out _).mono ?_;rintro e w3 ⟨rfl,hb3⟩;have HB3:=za (bt HB2.out hb3);obtain⟨q3,f3⟩:=HQ.out w3 HB3.out;clear hb3)|(go_at_call 195;refine(HT.out _).mono ?_;rintro e w4 ⟨rfl,rfl⟩))
  refine bodyPost_ret (v:=.tuple #[]) (results_none rfl _ _ _) rfl ?_;exact qx.same HH.out HB3.out):p:=h
theorem RJ(h:p:=by
  have hb2:Below w1.heap.size w1 (wr.alloc (.cells #[.string ⟨(ku k).toArray⟩,.string ⟨(kw k).toArray⟩,kK k,QZ k] 239)):=hb.out.alloc hb.out.size _;have hk:=HK.out;go_roundg (gk - 1)
  case measure=>omega
  case rel=>
   refine⟨k+1,by omega,by go_num,fun j hj=>?_,hb2⟩;rcases(by omega:j=k∨j<k)with e|e
   · subst e;exact HV.out
   · exact hp.out j e):p:=h
theorem IM(h:p:=by
  clear hp;go_enter func174,ntmps174;go_wp2_with (first|(go_at_call 223;refine HA.out.mono ?_;rintro e w1 ⟨rfl,hb1⟩)|(go_at_call 48;refine(HI.out _ hb1).mono ?_;rintro e w2 ⟨rfl,hb2⟩;obtain⟨q6,f6⟩:=HF.out w2 (bt hb1 hb2)))
  refine bodyPost_ret (v:=.tuple #[]) (results_none rfl _ _ _) rfl ?_;exact HN.out _ (bt hb1 hb2)):p:=h
theorem jW(h:p:=by
  have HK:=za HK0;have HT:=za HT0;have HG:=za HG0;clear HK0 HT0 HG0;generalize hN:y.props.l.length=N at*;have HN:=za hN;clear hN;go_enter func159,ntmps159;go_wp2_with (first|(go_at_call 33;refine HG.out.mono ?_;rintro e w2 ⟨rfl,hb2⟩;have HB2:=za hb2;clear hb2)|(go_at_call 194;refine(HK.out _).mono ?_;rintro e w3 ⟨rfl,hb3⟩;have HB3:=za (bt HB2.out hb3);obtain⟨q3,f3⟩:=HQ.out w3 HB3.out;clear hb3)|(go_at_call 195;refine(HT.out _).mono ?_;rintro e w4 ⟨rfl,rfl⟩)|(go_at_call 115;refine(HS.out _ HB3.out).mono ?_;rintro e w5 ⟨v5,rfl,hO⟩;obtain⟨A5,c5,rfl⟩:=Z3 hO.1;have HO:=za hO;obtain⟨q5,f5⟩:=HQ.out w5 (bt HB3.out hO.2);clear hO))
  refine bodyPost_ret (v:=.tuple #[]) (results_none rfl _ _ _) rfl ?_;exact qx.setProps HH.out HB3.out HO.out):p:=h
theorem Cu(h:p:=by
  clear e1 HF;cases hv:ZT (L v)with
  | true=>
    rw[hv]at HC0;have HC:=za HC0;clear HC0 hv;rw[if_pos rfl];go_enter func130,ntmps130;go_upto_region 1 with fail
    rw[HW1.out];go_wp2_with (go_at_call 169;refine HC.out.mono ?_;rintro e w2 ⟨rfl,hb2⟩;have HB2:=za hb2;obtain⟨q5,f5⟩:=HFz.out w2 hb2;clear hb2)
    refine bodyPost_ret (v:=.tuple #[]) (results_none rfl _ _ _) rfl ?_;exact HSet.out w2 HB2.out
  | false=>
    rw[hv]at HC0;have HC:=za HC0;clear HC0 hv;rw[if_neg (by decide)];go_enter func130,ntmps130;go_upto_region 1 with fail
    rw[HW1.out];go_wp2_with (go_at_call 169;refine HC.out.mono ?_;rintro e w2 ⟨rfl,hb2⟩;have HB2:=za hb2;obtain⟨q5,f5⟩:=HFz.out w2 hb2;clear hb2)
    refine bodyPost_ret (v:=.tuple #[]) (results_none rfl _ _ _) rfl ?_;exact HSame.out w2 HB2.out):p:=h
theorem Gx(h:p:=by
  rw[hs]at ha;rcases List.mem_or_eq_of_mem_set ha with hm|rfl
  · exact Or.inr ⟨a,hm,p,e,rfl⟩
  · rcases hA p e with k|⟨q,k1,k2⟩
    · exact Or.inl k
    · exact Or.inr ⟨_,hmem,q,k1,k2⟩):p:=h
theorem je(h:p:=by
  rw[e]at HTk;rw[hcl]at HCl;have HCl2:=za HCl.out;clear HCl hcl e;unfold Ih at HCl2;go_wp2_with (go_at_call 217;refine HCl2.out.mono ?_;rintro e w3 ⟨rfl,hb3⟩)
  go_roundg (gk - 1)
  case measure=>omega
  case rel=>exact⟨k+1,yk,by go_num,by omega,by omega,za ⟨HR.out.q.trans (zQ.same hEk hb3),by rw[HTk.out,HDk.out];exact HR.out.d⟩⟩):p:=h
theorem Ok(h:p:=by
  go_wp2;go_ret;have hk12:k=12:=by omega
  subst hk12;refine⟨G0 ?_,?_,?_⟩
  · rw[<-HW.out,zdx _ _ hp.out];rfl
  · rw[<-HR.out];exact HC.out.1.keep hb.out
  · exact HC.out.2.trans (hb.out.mono (Nat.le_of_lt HC.out.1.lt))):p:=h
theorem T9(h:p:=by
  rw[hl2,HMe.out,List.append_assoc]at HC1;have HV2:=za hv2;have HC:=za HC1;have HbW:=za hbW4;clear HC1 hbW hT hv2 hown hb4 hLs hl2 hbW4 hcp;go_wp2_with (go_at_call 148;refine HC.out.mono ?_;rintro e w5 ⟨v,rfl,hO⟩)
  go_ret;exact⟨v,rfl,HFin.out w4 v w5 HbW.out (by rw[<-HMID.out,HV2.out];exact hO)⟩):p:=h
theorem Xl(h:p:=by
  unfold Zu;exact run_build W _ _ _ (by kernel_rfl)):p:=h
theorem Dy(h:p:=by
  rw[hf]at HG0;clear hf;have HK:=za HK0;have HT:=za HT0;have HG:=za HG0;clear HK0 HT0 HG0;generalize hN:y.props.l.length=N at*;have HN:=za hN;clear hN;go_enter func159,ntmps159;go_wp2_with (first|(go_at_call 33;refine HG.out.mono ?_;rintro e w2 ⟨rfl,hb2⟩;have HB2:=za hb2;clear hb2)|(go_at_call 194;refine(HK.out _).mono ?_;rintro e w3 ⟨rfl,hb3⟩;have HB3:=za (bt HB2.out hb3);obtain⟨q3,f3⟩:=HQ.out w3 HB3.out;clear hb3))
  refine bodyPost_ret (v:=.tuple #[]) (results_none rfl _ _ _) rfl ?_;exact qx.same HH.out HB3.out):p:=h
theorem jj(h:p:=by
  rw[HKe.out,HMe.out]at HC1;have HV2:=za hv2;have HC:=za HC1;have HbW:=za hbW;clear HC1 hbW hT hv2;go_wp2_with (go_at_call 148;refine HC.out.mono ?_;rintro e w4 ⟨v,rfl,hO⟩)
  go_ret;exact⟨v,rfl,HFin.out W v w4 HbW.out (by rw[<-HMID.out,HV2.out];exact hO)⟩):p:=h
theorem L5(h:p:=by
  go_upto_region 1 with fail
  rw[HW.out];go_wp2_with (first
   |(refine wpList_load_row rfl 30 _ rfl _ rfl _ _ _ _ H0.out underlying30 rfl (by exact FC) ?_)
   |(go_at_call 9;refine HF.out.mono ?_;rintro e w2 ⟨rfl,hb2⟩;have HB2:=za (bt HB1.out hb2);have hsz:=hb2.size;have hrow:=heap_alloc_new w2 (.cells (zq qc) zp);clear hb2)
   |(refine wpList_store_row rfl 43 _ _ rfl _ _ rfl rfl _ _ hrow (by exact T5) rfl (by simp[Value.oneCell']) ?_))
  go_ret;exact⟨none,0,rfl,zB.empty,qz (zV HB2.out) (HB2.out.size)⟩):p:=h
theorem Lq(h:p:=by
  go_wp2_with (first
   |(go_at_call 154;refine HCt.out.mono ?_;rintro e w7 ⟨rfl,nd,rfl⟩)
   |(go_at_call 155;refine(HKy.out _).mono ?_;rintro e w8 ⟨rfl,hb8⟩;have HB8:=za (bt (ZC (Below.refl wr.heap.size wr) nd) hb8);clear hb8))
  go_roundg (gk - 1)
  case measure=>omega
  case rel=>
   have e:=HSc.out;rw[HIt.out]at e;dsimp only at e;rw[List.append_nil]at e;refine⟨k+1,A,c,by go_num,by omega,by omega,by rw[e],za ?_,za (bt HB.out HB8.out)⟩;rw[e];exact qg HO.out HB8.out):p:=h
theorem Cy(h:p:=by
  rw[e];clear e hw k;go_enter func228,ntmps228;go_wp2;go_ret;exact⟨rfl,0,rfl⟩):p:=h
theorem Fk(h:p:=by
  go_enter func116,ntmps116;go_upto_region 1 with fail
  go_wp2_with (go_at_call 90;refine HM.out.mono ?_;rintro e w2 ⟨rfl,hb2⟩;have hz2:=(hb2.block _ (zh HW2.out)).trans HW2.out;have hst:=J4 (cs:=Xq) hz2 rfl rfl PM;have HB2:=za hb2;have HZ2:=za hz2;clear hb2 hz2;obtain⟨d0,d1,d2,d3⟩:=HSx.out w2 HB2.out)
  refine Yx rfl (by rfl) HZ2.out underlying184 rfl (by exact MN) (by rfl) ?_;exact⟨by rw[HE.out],HEnd.out _ _ HB2.out⟩):p:=h
theorem NU(h:p:=by
  go_wp2;go_loopg [5,8] 0 (fun _ _ s8 wr=>s8=.int .i64 0/\wr=w)
  case atStart=>exact⟨rfl,rfl⟩
  case round=>
   obtain⟨rfl,rfl⟩:=hrel;go_wp2;go_ret;exact⟨rfl,rfl⟩):p:=h
theorem Da(h:p:=by
  have HG:=za HG0;clear HG0;generalize hN:y.props.l.length=N at*;have HN:=za hN;clear hN;go_enter func165,ntmps165;go_wp2_with (first|(go_at_call 33;refine HG.out.mono ?_;rintro e w2 ⟨rfl,hb2⟩;have HB2:=za hb2;clear hb2)|(go_at_call 159;refine(HV.out _ (by rw[GT];omega) _ HB2.out).mono ?_;rintro e w3 hP;obtain⟨rfl,-⟩:=id hP;have HP:=za hP;clear hP))
  refine bodyPost_ret (v:=.tuple #[]) (results_none rfl _ _ _) rfl ?_;exact HP.out):p:=h
theorem Ko(h:p:=by
  refine bodyPost_ret (v:=.tuple #[]) (results_none rfl _ _ _) rfl ?_;exact HL.out HP.out):p:=h
theorem D5(h:p:=by
  go_enter func97,ntmps97;go_upto_region 1 with fail
  rw[HW1.out];obtain⟨c0,c1,c2,c3,d0,d1,d2⟩:=HSx.out w1 zk;go_wp2_with (first|(go_at_call 90;refine(HM.out _).mono ?_;rintro e w2 ⟨rfl,hb2⟩;have HB2:=za hb2;obtain⟨e0,e1,e2,e3,f0,f1,f2⟩:=HSx.out w2 hb2;clear hb2 c0 c1 c2 c3 d0 d1 d2)|(go_at_call 117;refine(HH.out _).mono ?_;rintro e w3 ⟨rfl,hb3⟩))
  go_ret;exact⟨rfl,bt HB1.out (bt HB2.out hb3)⟩):p:=h
theorem O3(h:p:=by
  go_wp2_with (go_at_call 16;refine HVy.out.mono ?_;rintro e wv ⟨rfl,hv⟩;obtain rfl:wo=wv:=hv)
  go_roundg (gk - 1)
  case measure=>omega
  case rel=>exact⟨m+1,by rw[HNw.out];rfl,by go_num,by omega,by omega,rfl⟩):p:=h
theorem kx(h:p:=by
  go_wp2;go_ret;exact⟨rfl,(zk.alloc zo _).alloc (by simp) _⟩):p:=h
theorem Rj(h:p:=by
  obtain rfl:k=N:=by omega
  go_wp2;refine bodyPost_ret (v:=.tuple #[]) (results_none rfl _ _ _) rfl ?_;rw[HEq.out];have hd:=HR.out.d;rw[<-HN.out,List.take_length]at hd;exact(HQ2.out.trans HR.out.q).p hd):p:=h
theorem y0(h:p:=by
  generalize ds.length=N at*;clear hI e1 e2 hb1 hr1 hq1 hw1 hd0 h;go_enter func24,ntmps24;go_upto_region 1 with fail
  rw[HW1.out];go_wp2_with (go_at_call 44;refine HI.out.mono ?_;rintro e w2 ⟨rfl,rfl⟩)
  refine Qs rfl (by rfl) (by rfl) (setRow_heap _ _ _ _ _ _ HQ1.out) underlying43 rfl (by exact T5) (by rfl) ?_;exact⟨by rw[HX.out];rfl,qz HB1.out (by omega)⟩):p:=h
theorem j8(h:p:=by
  rw[hf]at HG0;clear hf;have HG:=za HG0;clear HG0;generalize hN:y.props.l.length=N at*;have HN:=za hN;clear hN;go_enter func165,ntmps165;go_wp2_with (first|(go_at_call 33;refine HG.out.mono ?_;rintro e w2 ⟨rfl,hb2⟩;have HB2:=za hb2;clear hb2))
  refine bodyPost_ret (v:=.tuple #[]) (results_none rfl _ _ _) rfl ?_;exact qx.same HH.out HB2.out):p:=h
theorem LG(h:p:=by
  generalize rl[k].tms.l.length=n9 at*;generalize rl[k].file=ff at*;generalize rl[k].line=ll at*;generalize rl[k].tms.A=ttA at*;generalize rl[k].tms.c=ttc at*;go_wp2_with (go_at_call 76;refine HC2.out.mono ?_;rintro e w3 ⟨rfl,hb3⟩)
  go_roundg (gk - 1)
  case measure=>omega
  case rel=>exact⟨k+1,by go_num,by omega,by omega,by omega,za (bt HB.out hb3),HA2⟩):p:=h
theorem M3(h:p:=by
  refine bodyPost_ret (v:=.tuple #[]) (results_none rfl _ _ _) rfl ?_;exact HP.out):p:=h
theorem Ja(h:p:=by
  rw[hpb]at k;obtain⟨q,e1,e2⟩:=ZJ k.symm;exact Or.inr ⟨q,e1,e2⟩):p:=h
theorem E6(h:p:=by
  have hb2:Below w1.heap.size w1 (wr.alloc (.cells #[.string ⟨(ku k).toArray⟩,.string ⟨(kw k).toArray⟩,kK k,QZ k] 239)):=hb.out.alloc hb.out.size _;go_ret;refine⟨G0 ?_,?_,?_⟩
  · rw[<-HW.out,zg3 _ _ k hlt HV.out hp.out]
  · rw[<-HR.out];exact HC.out.1.keep hb2
  · exact HC.out.2.trans (hb2.mono (Nat.le_of_lt HC.out.1.lt))):p:=h
theorem D3(h:p:=by
  go_enter func166,ntmps166;go_wp2_with (go_at_call 169;refine HV.out.mono ?_;rintro e w2 ⟨rfl,hb2⟩;have HB2:=za hb2;have hbx:=(HH.out.below hb2).box;have q1:=(ZF hbx).2.1;have f1:=qb hbx 1;clear hbx hb2)
  refine bodyPost_ret (v:=.tuple #[]) (results_none rfl _ _ _) rfl ?_;exact(zQ.same HH.out HB2.out).p rfl):p:=h
theorem TD(h:p:=by
  refine Qs rfl (by rfl) (by rfl) (HR3.out _ _ HB2.out) underlying30 rfl (by exact En) (by rfl) ?_;exact HEnd.out _ _ HB2.out (by decide) _ (by omega) _):p:=h
theorem VM(h:p:=by
  go_wp2;go_ret;exact⟨rfl,rfl⟩):p:=h
theorem AL(h:p:=by
  have hl:ss.length=k:=by rw[<-hk,<-Array.length_toList,e,List.length_map]
  subst hl;refine(yP g 0 c ss h h3 hg hk0 hk1 (fun i s hi=>?_)).mono fun e w' ⟨s,h1,he,ht⟩=>⟨s,hs s h1,he,ht⟩;rw[Nat.zero_add,cell_of_row _ _ i _ _ _ hrow,<-Array.getElem?_toList,e,List.getElem?_map,hi];rfl):p:=h
theorem AV(h:p:=by
  rw[hlb]at HLk HE5;go_wp2_with (first|(go_at_call 65;refine HJ.out.mono ?_;rintro e w7 ⟨rfl,hb7⟩;have HB7:=za (bt HBf.out hb7);clear hb7)|(go_at_call 246;refine(HLk.out _ HB7.out).mono ?_;rintro e w8 ⟨rfl,hb8⟩))
  go_ret2;rw[HE5.out];exact⟨rfl,bt HB7.out hb8⟩):p:=h
theorem jF(h:p:=by
  go_ret;exact⟨rfl,rfl⟩):p:=h
theorem yN(h:p:=by
  cases hb:ZL r with
  |none=>rw[hb]at h;cases h
  | some ab=>
    obtain⟨a,b⟩:=ab;have hl:=yy hb;rw[hb]at h;simp only[Option.bind_some]at h
    split at h
    · injection h with h
      injection h with h1 h2
      subst h1 h2;dsimp only;rw[qY];exact hl
    · cases h):p:=h
theorem vN(h:p:=by
  have hp':a.tmps[p]?.getD undef=.pointer (some ⟨g,0,none⟩):=by simpa using hp
  have hq':a.tmps[q]?.getD undef=u:=by simpa using hq
  refine bodyPost_ret (v:=.tuple #[.agg cs,u]) ?_ hdef hR;simp[results,h,hp',hq',asAddr,run_loadVar_row W g t ty cs fr d hg hu hd hi]):p:=h
theorem Dx(h:p:=by
  have hkJ:¬(k:Int)<(M:Int):=by omega
  have HNo:Hid (∀x,cs≠xs++[x]):=za fun x e=>by
   have h1:=congrArg List.length e;rw[List.length_append,HN.out,HM.out]at h1;simp at h1;omega
  go_wp2
  all_goals
   go_ret;exact⟨_,rfl,fun x e=>absurd e (HNo.out x),HL.out⟩):p:=h
theorem PE(h:p:=by
  go_wp2;go_meet;exact⟨by simp[HRr.out],Jk (IH HG.out _),U3 (IH HB.out _) hne,((Yj.refl g b w).drewN _).set⟩):p:=h
theorem LK(h:p:=by
  go_region
  all_goals first
   | (go_wp2
      go_meet;exact⟨rfl,A3,c3,za (HQa.out W3 _ HBW.out).1,za (HQa.out W3 _ HBW.out).2.1,HE3⟩)
   | (go_wp2
      go_meet;exact⟨rfl,B3,e3,za (HQa.out V3 _ HBV.out).1,za (HQa.out V3 _ HBV.out).2.1,HF9⟩)):p:=h
theorem RF(h:p:=by
  refine bodyPost_ret (v:=.tuple #[]) (results_none rfl _ _ _) rfl ?_;exact HSame.out _ hb1):p:=h
theorem AN(h:p:=by
  have h0:l=[]:=by
   rcases Nat.eq_zero_or_pos l.length with e|e
   · exact List.length_eq_zero_iff.1 e
   · obtain⟨_,_,e2,_⟩:=hr.row.at_ e;cases e2
  subst h0;rw[hnil rfl];exact(Be _ w).mono fun _ _ ⟨h1,h2⟩=>⟨h1,by rw[h2];exact zk⟩):p:=h
theorem DN(h:p:=by
  go_enter func96,ntmps96;go_upto_region 1 with fail
  rw[HW1.out];go_wp2_with (go_at_call 124;refine HI0.out.mono ?_;rintro e w5 hP;obtain⟨y,rfl,hst,hEnd⟩:=HFd.out _ _ hP;have HEnd:=za hEnd;clear hP hEnd hld)
  go_ret;exact HEnd.out):p:=h
theorem EV(h:p:=by
  refine Qs rfl (by rfl) (by rfl) (setRow_heap _ _ _ _ _ _ (((zI w3 _).block _ (zh HR3.out)).trans HR3.out)) underlying290 rfl Xd (by rfl) ?_;rw[<-HQ.out];exact HBd.out 70 _ hX (by decide) (qz (bt HB3.out zw) zo)):p:=h
theorem Im(h:p:=by
  rw[heap_setCell_other _ _ _ _ hg'];exact hg.block b hb' (hn b hn')):p:=h
theorem Kq(h:p:=by exact⟨rfl,rfl⟩):p:=h
theorem Li(h:p:=by exact⟨hg2.os.trans hk.os,hg2.tape.trans hk.tape,hg2.output.trans hk.output,Nat.le_trans hk.size hg2.size,fun b hb3 hn=>(hg2.block b (Nat.lt_of_lt_of_le hb3 hk.size) fun e=>by injection e with e;omega).trans (hk.block b hb3 hn)⟩):p:=h
theorem Aq(h:p:=by
  go_wp2_with (first|(go_at_call 105;refine(HP9 _).mono ?_;rintro e w' ⟨rfl,rfl⟩))
  with_reducible refine(HA _ HR0.out).mono ?_
  rintro e w5 ⟨rfl,hR5,hB5⟩;go_wp2;go_ret;exact Mw HPS.out hR5 (HB0.out.trans hB5)):p:=h
theorem Gz(h:p:=by
  obtain⟨p,e1,e2⟩:=ZJ e.symm;exact hb _ hmem p e1 e2):p:=h
theorem Lz(h:p:=by
  go_enter func171,ntmps171;go_wp2_with (go_at_call 172;refine(HT.out _).mono ?_;rintro e w2 ⟨rfl,rfl⟩)
  refine bodyPost_ret (v:=.tuple #[]) (results_none rfl _ _ _) rfl ?_;exact(zQ.same HH.out zk).p rfl):p:=h
theorem L2(h:p:=by
  go_wp2;go_quiet (fail)
  go_wp2_with (go_at_call 13;refine(TE _ _ _ (by omega) (by omega) (by omega)).mono ?_;rintro e w' ⟨rfl,rfl⟩)
  go_ret;exact⟨_,(Kg _ _ h1).1,(Kg _ _ h1).2,rfl,_,rfl⟩):p:=h
theorem EQ(h:p:=by
  have:=h.cells (g:=g) rfl j (.string y) (by rw[List.getElem?_map,hy];rfl);have hadd:(⟨g,0,none⟩:Addr).add j=⟨g,j,none⟩:=by unfold Addr.add;split<;>simp_all
  rw[hadd]at this;rw[Nat.zero_add];exact this):p:=h
theorem Cw(h:p:=by
  rw[hj];have e:=Nat.succ_mul (l.length+1) (M+1);simp only[Nat.succ_eq_add_one]at e;simp only[List.length_append,List.length_cons,List.length_nil]at h2⊢;rw[e];generalize (l.length+1)*(M+1)=Z at*;omega):p:=h
theorem EO(h:p:=by
  go_wp2;go_roundg (gk - 1)
  case measure=>omega
  case rel=>
   have e:=HSc.out;rw[hkp,if_neg (by decide),List.append_nil]at e;refine⟨k+1,A,c,by go_num,by omega,by omega,by rw[e],?_,HB⟩;rw[e];exact HO):p:=h
theorem CK(h:p:=by
  go_wp2_with (go_at_call 16;refine HVz.out.mono ?_;rintro e wv ⟨rfl,hv⟩;obtain rfl:wx=wv:=hv)
  go_roundg (gk - 1)
  case measure=>omega
  case rel=>exact⟨m+1,by go_num,by omega,by omega,by omega,rfl⟩):p:=h
theorem vz(h:p:=by
  generalize l.length=N at*;generalize Zl l (L v)=i at*;go_enter func173,ntmps173;go_wp2_with (go_at_call 221;refine HB.out.mono ?_;rintro e w2 ⟨rfl,hb2⟩)
  go_ret;exact HSame.out _ hb2):p:=h
theorem GJ(h:p:=by
  have:=hg.size;simp only[World.setCell];simpa using this):p:=h
theorem yJ(h:p:=by
  go_wp2_with (go_at_call 16;refine HVx.out.mono ?_;rintro e wv ⟨rfl,hv⟩;obtain rfl:wx=wv:=hv)
  go_roundg (G - 1)
  case measure=>omega
  case rel=>exact⟨i+1,by go_num,by omega,by omega,HBx⟩):p:=h
theorem Fy(h:p:=by
  rw[if_neg h3,if_neg h1];obtain⟨k,rfl⟩:∃k,j=i+(k+1):=⟨j - i - 1,by omega⟩;rw[show i+(k+1) - i=k+1 from by omega,List.getElem?_cons_succ,List.getElem?_eq_none (by rw[hd];omega)]):p:=h
theorem jA(h:p:=by
  rcases Nat.lt_or_ge j k with h1|h1
  · exact hno.out j h h1
  · obtain rfl:j=k:=by omega
    exact hne):p:=h
theorem Av(h:p:=by
  have hbx:=(HS.out.go HTd.out).bx;have:=zd (j:=0) ((heap_setCell_other W ⟨q,0,none⟩ _ v hq).trans ((hW.block _ (zh hbx)).trans hbx)) rfl;rw[HN.out]at this;exact this):p:=h
theorem Q2(h:p:=by simpa using this):p:=h
theorem Ef(h:p:=by
  clear hx;go_wp2_with (go_at_call 147;refine HCc.out.mono ?_;rintro e w2 ⟨rfl,hb2⟩;have HB2:=za (bt hB.out hb2);clear hb2)
  go_ret2;exact⟨by rw[hok];rfl,HB2.out⟩):p:=h
theorem DF(h:p:=by
  rintro e w' ⟨rfl,hb⟩;go_wp2;go_ret;exact⟨rfl,((((Below.refl w.heap.size w).alloc zo _).alloc (by simp) _).alloc (by simp;omega) _).trans (hb.mono (by simp;omega))⟩):p:=h
theorem KN(h:p:=by exact zib O4 (by decide)):p:=h
theorem Ng(h:p:=by unfold zS;rw[e];simp[e2,Ye,qG,El.isStar,US,El.has]):p:=h
theorem FP(h:p:=by rcases(by omega:k=0∨k=1∨k=2∨k=3∨k=4∨k=5∨k=6∨k=7∨k=8∨k=9∨k=10∨k=11)with h|h|h|h|h|h|h|h|h|h|h|h<;>subst h<;>kernel_rfl):p:=h
theorem LJ(h:p:=by
  go_enter func47,ntmps47;go_wp2_with (go_at_call 66;refine(HR.out _ zw).mono ?_;rintro e w2 ⟨rfl,hb2⟩)
  go_ret2;exact⟨_,_,rfl,HZ.out,bt zw hb2⟩):p:=h
theorem EN(h:p:=by
  go_roundg (gk - 1)
  case measure=>omega
  case rel=>exact⟨k+1,yk,by go_num,by omega,by omega,za (HQs.out _ HB4.out),za (by rw[HIt.out,HD.out];rfl)⟩):p:=h
theorem Cb(h:p:=by
  have HNx:=za HN;clear HN hg;generalize s[k]=b at*;go_wp2;go_roundg (gk - 1)
  case measure=>omega
  case rel=>exact⟨k+1,by go_num,by omega,by omega,HNx⟩):p:=h
theorem Lu(h:p:=by
  go_wp2_with (go_at_call 116;refine HO.out.mono ?_;rintro e w2 ⟨rfl,hb2⟩;have HB2:=za hb2;clear hb2)
  go_ret;exact⟨rfl,bt zw HB2.out⟩):p:=h
theorem Ac(h:p:=by
  have HM:=za (zbJ (p:=L p) (zff hlt (by rw[hpr2];simp;omega)));clear hpr2;go_wp2;go_ret;exact⟨by rw[HM.out];rfl,HB2.out⟩):p:=h
theorem vh(h:p:=by
  refine⟨h.1,?_⟩;rcases h.2 with h1|⟨g,cap,cur,h1,h2,h3⟩
  · exact Or.inl h1
  · exact Or.inr ⟨g,cap,cur,h1,Nat.le_trans hb h2,h3⟩):p:=h
theorem E4(h:p:=by rcases hm with h|h|h|h|h|h|h|h|h|h|h|h|h|h|h|h|h|h|h|h|h|h|h|h|h|h<;>subst h<;>decide):p:=h
theorem yq(h:p:=by
  go_enter func167,ntmps167;go_wp2_with (go_at_call 169;refine HV.out.mono ?_;rintro e w2 ⟨rfl,hb2⟩)
  go_ret;exact⟨rfl,hb2⟩):p:=h
theorem Pg(h:p:=by
  rw[List.getElem?_toArray,List.getElem?_eq_getElem hj]at hA;exact zx hA):p:=h
theorem j2(h:p:=by
  refine bodyPost_end (v:=.tuple #[]) (results_none rfl _ _ _) rfl ?_;exact⟨rfl,HP.out.setB _,HG.out.trans (qu _ _ _ _)⟩):p:=h
theorem Cv(h:p:=by rw[<-hW1];have:=World.alloc_heap_new (w.alloc (.deferred (some []))) (.loop (rec .ready none));rwa [World.size_alloc]at this):p:=h
theorem Dz(h:p:=by
  have hbx:=(HS.out.go HTd.out).bx;have:=zd (j:=0) ((hW.block _ (zh hbx)).trans hbx) rfl;rw[HN.out]at this;exact this):p:=h
theorem Er(h:p:=by
  rw[hy1];exact zQ.set_links (l':=[]) (A':=none) (c':=0) h (Jq _ _) (World.ownsRow_nil _ _ _ _) (fun p e=>by cases e)):p:=h
theorem TR(h:p:=by exact⟨zd h1 rfl,zd h1 rfl,zd h1 rfl,zd h1 rfl⟩):p:=h
theorem Rr(h:p:=by exact⟨zd h2 rfl,zd h2 rfl,zd h2 rfl,zd h2 rfl⟩):p:=h
theorem Ec(h:p:=by
  cases i with
  | zero=>
    obtain rfl:Value.slice none 0 0=x:=by simpa using hx
    simp[Value.ownBlock]at hg
  |succ i=>simp at hx):p:=h
theorem Ah(h:p:=by
  simp only[QU,List.mem_cons,List.not_mem_nil,or_false]at hy;rcases hy with rfl|rfl|rfl|rfl<;>(dsimp only;decide)):p:=h
theorem MU(h:p:=by
  rw[<-HR.out];unfold Za;rw[if_neg h16];rfl):p:=h
theorem Do(h:p:=by
  unfold Oa Ji;go_wp2;go_quiet (fail)
  go_wp2;go_ret;exact⟨by unfold Ye;rw[HF.out];rfl,ZC hB.out _⟩):p:=h
theorem FH(h:p:=by
  go_enter func129,ntmps129;go_wp2
  all_goals (go_ret;exact⟨ZD (by simp[*]),hb.alloc hb.size _⟩)):p:=h
theorem Gh(h:p:=by
  rw[List.length_drop]at this;omega):p:=h
theorem OF(h:p:=by injection h with h;injection h with h1 h2;subst h2;exact hm):p:=h
theorem vA(h:p:=by
  go_ret2;exact⟨.slice none 0 0,by rw[HR.out];rfl,by rw[HR.out];exact⟨rfl,.inl ⟨rfl,rfl⟩⟩,zk⟩):p:=h
theorem Dk(h:p:=by
  refine⟨k+1,A5,c5,by go_num,by omega,by omega,by rw[hl5],za ?_,HB5⟩;rw[hl5,HE5.out];exact HO5.out):p:=h
theorem kJ(h:p:=by exact Or.inl (by omega)):p:=h
theorem Ed(h:p:=by
  clear h1;go_enter func90,ntmps90;go_wp2;go_ret;exact⟨ZD (by rw[HM.out]),by go_grown⟩):p:=h
theorem Mr(h:p:=by
  go_ret;exact⟨rfl,bt HB1.out HB2.out⟩):p:=h
theorem EH(h:p:=by
  obtain⟨p,e1,e2⟩:=ZJ hb;have:=qo HO.out p e1;rw[<-e2];exact⟨this.1,this.2,p,e1,rfl⟩):p:=h
theorem Cg(h:p:=by
  go_ret;exact⟨ZD (by rw[YZ,jR s (by assumption) rfl (by simp[pr];omega)];rfl),rfl⟩):p:=h
theorem Ch(h:p:=by
  rcases Nat.lt_or_ge j k with h1|h1
  · exact hno.out j h h1
  · obtain rfl:j=k:=by omega
    exact hq):p:=h
theorem Zw(h:p:=by simp[Dm.as]):p:=h
theorem Ae(h:p:=by
  go_ret;exact⟨ZD (by rw[jR s (by assumption) rfl (by simp[pr];omega)]),rfl⟩):p:=h
theorem Ms(h:p:=by
  go_ret;exact⟨rfl,hb2⟩):p:=h
theorem An(h:p:=by
  rw[Z9]at h1;obtain⟨NA,nc,rfl⟩:=Z3 h2;exact⟨NA,nc,w',h1,h2,yg h3⟩):p:=h
theorem RV(h:p:=by simp[Lib.join,List.intercalate,List.intersperse]):p:=h
theorem AH(h:p:=by
  have a1:=Ll (zm ds) n;have a2:=h.len;rw[hch,Ki,List.length_cons]at a1;omega):p:=h
theorem j7(h:p:=by
  go_quiet (fail)
  go_wp2_with fail
  go_meet;exact⟨rfl,za (ZC HBr.out _)⟩):p:=h
theorem As(h:p:=by
  rw[List.map_map];exact(List.map_congr_left (fun y _=>qr y)).trans (List.map_id _)):p:=h
theorem vZ(h:p:=by rw[<-hW1];exact(Below.heap_alloc _ _ _ (by simp)).trans (World.alloc_heap_new w _)):p:=h
theorem Ha(h:p:=by
  induction l with
  |nil=>rfl
  |cons s l ih=>rw[List.map_cons,List.map_cons,<-ih];rfl):p:=h
theorem LR(h:p:=by
  have:=congrArg List.length e;rw[List.length_drop,hxl,List.length_nil]at this;omega):p:=h
theorem yM(h:p:=by
  rw[Array.getElem?_eq_getElem hi]at h;have h':=zx h;rw[h'];simp[Value.oneCell']):p:=h
theorem jL(h:p:=by
  rw[XS,Nat.zero_add];exact zd hg (by rw[<-hu,<-Array.getElem?_toList];rfl)):p:=h
theorem Lc(h:p:=by
  rw[Z9]at h1;obtain⟨NA,nc,rfl⟩:=Z3 h2;exact⟨NA,nc,w',h1,h2,h3⟩):p:=h
theorem Dl(h:p:=by
  go_wp2;go_meet;exact⟨rfl,qQ hG.out (YD _ _ _),hR.out,hB.out⟩):p:=h
theorem FO(h:p:=by
  rw[show i+(k+1) - (i+1)=k from by omega,show i+(k+1) - i=k+1 from by omega];rfl):p:=h
theorem yQ(h:p:=by exact⟨⟨x,h x (List.mem_cons_self ..)⟩::zs,by rw[List.map_cons,hz]⟩):p:=h
theorem I2(h:p:=by exact Or.inl (Nat.le_trans hs h)):p:=h
theorem vR(h:p:=by
  by_cases hjk:j=k
  · rw[<-hjk];exact hun
  · rwa [getD_set_ne true hjk]at hku):p:=h
theorem Pw(h:p:=by exact⟨List.Pairwise.nil,Nat.zero_le _⟩):p:=h
theorem vM(h:p:=by exact⟨Int.le_refl _,by show(0:Int)<=lim;omega,Nat.zero_le _,fun _=>rfl⟩):p:=h
theorem LD(h:p:=by exact⟨s[k],by rw[<-jx s k hk];exact List.getElem_mem _,by simp[h]⟩):p:=h
theorem DM(h:p:=by rw[hrec];exact World.putObj_heap_same (Array.getElem?_eq_some_iff.1 hl3).1):p:=h
theorem Ea(h:p:=by
  cases r with
  |nil=>injection h with h;subst h;exact ha
  |cons c r=>cases h):p:=h
theorem FD(h:p:=by rw[ho _ _ _ (by simp only[hs];omega)];exact hn _ _ _ (by simp only[hs])):p:=h
theorem Lh(h:p:=by exact(World.putObj_heap_other (by omega)).trans (hk3.same _ _ hk2 rfl)):p:=h
theorem PR(h:p:=by
  go_wp2;go_ret;exact⟨rfl,bt zw zw⟩):p:=h
theorem va(h:p:=by
  obtain rfl:[]=l:=by simpa using hl
  exact World.ownsRow_nil _ _ _ _):p:=h
theorem CN(h:p:=by
  have h1:=(h.own.lt b e).1;have h2:=h.nx.st.lt;have h3:=h.lo;omega):p:=h
theorem MF(h:p:=by
  unfold qw zZ
  kernel_rfl):p:=h
theorem Dc(h:p:=by
  simp only[Bool.and_eq_false_iff,decide_eq_false_iff_not];omega):p:=h
theorem N1(h:p:=by rw[List.length_take];omega):p:=h
theorem NC(h:p:=by
  go_wp2;go_ret;exact HE2.out):p:=h
theorem Dh(h:p:=by rcases hu with rfl|rfl|rfl|rfl|rfl|rfl|rfl<;>rfl):p:=h
theorem LS(h:p:=by rw[<-hcur,List.getElem?_take,if_pos hj,Array.getElem?_toList]):p:=h
theorem j3(h:p:=by rw[List.take_succ_eq_append_getElem hk,List.foldl_append];rfl):p:=h
theorem Ci(h:p:=by
  rw[Un cells cs (by rw[h1,h2])]at this;exact this):p:=h
theorem TC(h:p:=by exact⟨_,_,by rw[h2];exact h1⟩):p:=h
theorem Iz(h:p:=by have k2:=g3 q r2;omega):p:=h
theorem GW(h:p:=by rw[if_neg b];exact h0):p:=h
theorem yv(h:p:=by exact⟨FY h.1 _,Nat.le_trans (jc _ _) h.2⟩):p:=h
theorem P3(h:p:=by obtain rfl:=zx h;dsimp only;omega):p:=h
theorem Je(h:p:=by exact Nat.zero_le _):p:=h
theorem LH(h:p:=by
  rw[e2];exact⟨rfl,fun hh=>absurd hh (Nat.lt_irrefl 0)⟩):p:=h
theorem Lt(h:p:=by
  go_ret;rw[HBs.out];exact Hz.out.outL (bt HB4.out HBz.out)):p:=h
theorem Et(h:p:=by
  rw[Lib.splitK,List.mem_singleton]at hx;rw[hx];exact zo):p:=h
theorem zb(h:p:=by omega):p:=h
theorem zX(h:p:=by simp only[List.getElem?_toArray,List.getElem?_cons_succ,List.getElem?_cons_zero];rfl):p:=h
theorem zg(h:p:=by kernel_rfl):p:=h
theorem zi(h:p:=by decide):p:=h
theorem zl(h:p:=by simp):p:=h
theorem zj(h:p:=by rfl):p:=h
theorem qf(h:p:=by exact fun _ _ _ h=>h):p:=h
theorem qi(h:p:=by unfold maxLen;omega):p:=h
theorem zH(h:p:=by simp;omega):p:=h
theorem qJ(h:p:=by simp[Value.oneCell']):p:=h
theorem Zr(h:p:=by injection e with e;omega):p:=h
theorem qj(h:p:=by assumption):p:=h
theorem ZV(h:p:=by rw[<-hw1];exact zw):p:=h
theorem zP(h:p:=by go_num):p:=h
theorem Qc(h:p:=by rw[<-hw1];exact qv):p:=h
theorem Zh(h:p:=by exact T5):p:=h
theorem Y4(h:p:=by rw[List.length_drop];omega):p:=h
theorem qD(h:p:=by cases h):p:=h
theorem qW(h:p:=by go_grown):p:=h
theorem Yr(h:p:=by simp only[hs];omega):p:=h
theorem UF(h:p:=by injection hF with hF;injection hF):p:=h
theorem Pq(h:p:=by first|exact heap_alloc_new wN _|exact heap_alloc2_new wN _ _|exact heap_alloc2_old wN _ _|exact HR.out|exact(heap_alloc_old wN _ (zh HR.out)).trans HR.out):p:=h
theorem QX(h:p:=by dsimp only;omega):p:=h
theorem Vx(h:p:=by rw[zC];exact zo):p:=h
theorem Qu(h:p:=by exact zhq):p:=h
theorem YO(h:p:=by dsimp only;decide):p:=h
theorem Zp(h:p:=by cases e):p:=h
theorem YJ(h:p:=by rw[<-hw1];simp):p:=h
theorem Vb(h:p:=by rw[<-hw1];exact zV zw):p:=h
theorem Lr(h:p:=by have:=cell_one_new (W.setCell ⟨w.heap.size+1+1+1,0,none⟩ (.int .i64 ((pre.length:Int)+1))) (.string x) 9;rw[show(W.setCell ⟨w.heap.size+1+1+1,0,none⟩ (.int .i64 ((pre.length:Int)+1))).heap.size=W.heap.size from by simp]at this;exact this):p:=h
theorem Yu(h:p:=by simp[Dm.as]):p:=h
theorem Js(h:p:=by first|(simp;done)|(dsimp only;omega)):p:=h
theorem YC(h:p:=by exact zcy):p:=h
theorem Xv(h:p:=by simp[cellsOf]):p:=h
theorem ks(h:p:=by first|(simp;done)|omega):p:=h
theorem Vz(h:p:=by rw[zC];exact h):p:=h
theorem JO(h:p:=by have:=HS1.out;have:=HB3.out.size;omega):p:=h
theorem Xz(h:p:=by simpa using h):p:=h
theorem KU(h:p:=by rw[<-hu,<-Array.getElem?_toList];rfl):p:=h
theorem Mn(h:p:=by simp only[List.getElem?_toArray,List.getElem?_cons_zero];rfl):p:=h
theorem KE(h:p:=by exact World.news_of_block qv):p:=h
theorem JI(h:p:=by rw[XF];simp[cellsOf]):p:=h
theorem VQ(h:p:=by first|rfl|go_num):p:=h
theorem Vq(h:p:=by have:=zx e;omega):p:=h
theorem NJ(h:p:=by rw[show((k - 1:Nat):Int)=(k:Int) - 1 from by omega]):p:=h
theorem Vf(h:p:=by simp[Y0,hk]):p:=h
theorem UV(h:p:=by unfold Zu;rfl):p:=h
theorem Us(h:p:=by exact zcX):p:=h
theorem Vt(h:p:=by show 1<=1;omega):p:=h
theorem ke(h:p:=by rw[HN.out];omega):p:=h
theorem YS(h:p:=by cases hx):p:=h
theorem Tc(h:p:=by exact World.news_of_block (B:=w.heap.size+1) (heap_alloc2_new w _ _)):p:=h
theorem Kz(h:p:=by rw[HN.out];exact hlt):p:=h
theorem TJ(h:p:=by exact zg8 rfl rfl (zga _) (ziN _)):p:=h
theorem V6(h:p:=by show 5<6;decide):p:=h
theorem km(h:p:=by cases e;exact zo):p:=h
theorem Ic(h:p:=by simpa [Value.ownBlock]using e):p:=h
theorem kW(h:p:=by rw[zC];omega):p:=h
theorem Vo(h:p:=by subst hk;rfl):p:=h
theorem Gc(h:p:=by have:=h.lt;have:=h.size;omega):p:=h
theorem OO(h:p:=by have:=HFk.out;have h2:(⟨ba,off,none⟩:Addr).block=ba:=rfl;omega):p:=h
theorem Ny(h:p:=by dsimp only;first|assumption|decide):p:=h
theorem JV(h:p:=by rw[List.length_cons];omega):p:=h
theorem GO(h:p:=by rw[List.length_append];rfl):p:=h
theorem R4(h:p:=by rw[ByteArray.size_append];show 3+u.size<=1000000;omega):p:=h
theorem kY(h:p:=by simpa using hx):p:=h
theorem kO(h:p:=by unfold qB;rfl):p:=h
theorem kN(h:p:=by unfold Zo;rfl):p:=h
theorem Ig(h:p:=by rw[HSz.out];exact Hi.out):p:=h
theorem Oq(h:p:=by rw[<-hu,<-Array.getElem?_toList]):p:=h
theorem GA(h:p:=by rw[H3.out];exact Hi.out):p:=h
theorem M2(h:p:=by intro e;injection e with e;omega):p:=h
theorem Km(h:p:=by show 4<6;decide):p:=h
theorem Hg(h:p:=by rw[hlen,TZ,List.length_append,List.length_cons,List.length_take,List.length_drop,hxl];omega):p:=h
theorem JQ(h:p:=by rw[<-tl];exact hv):p:=h
theorem Ib(h:p:=by rw[GT];omega):p:=h
theorem NI(h:p:=by rw[HMe.out];have:=HM.out;omega):p:=h
theorem Pj(h:p:=by first|exact hw2b (zx e)|exact hw2c (zx e)):p:=h
theorem Pl(h:p:=by have:=YW.out;rw[<-HN.out]at this;exact this):p:=h
theorem kI(h:p:=by exact zgl):p:=h
theorem ja(h:p:=by rw[HMe.out];exact(hT.keep hbW4).up hbW4.size):p:=h
theorem PG(h:p:=by have:=HT.out.st.size;have:=HT.out.st.lt;omega):p:=h
theorem Iu(h:p:=by rw[<-HN.out];exact h):p:=h
theorem jp(h:p:=by rw[HMe.out];exact(hT.keep hbW).up hbW.size):p:=h
theorem jv(h:p:=by rw[XF];simp[cellsOf,zF,Ya]):p:=h
theorem Jo(h:p:=by rw[hc];exact h2):p:=h
theorem jH(h:p:=by rw[HNx.out];exact(HL.out.keep HBq.out).up):p:=h
theorem Py(h:p:=by rw[List.length_append,HKe.out];exact hown):p:=h
theorem Nu(h:p:=by simp[zN,Value.oneCell']):p:=h
theorem NQ(h:p:=by rw[decide_eq_decide];omega):p:=h
theorem IQ(h:p:=by rw[<-hw1];exact bt zw zw):p:=h
theorem vE(h:p:=by have:=run_endLoop (P:=prog) hl (by rw[hrec];simp);rw[hrec]at this;exact this):p:=h
theorem Dj(h:p:=by unfold kp;rw[hnd];show(if x.kd=4 then _ else _)=_;rw[if_pos hk,<-HL8.out];rfl):p:=h
theorem Fm(h:p:=by unfold kp;rw[hnd];show(if x.kd=4 then _ else _)=_;rw[if_neg hk,<-HL8.out];rfl):p:=h
theorem Pp(h:p:=by show¬9223372036854775807<3+u.size;omega):p:=h
theorem K1(h:p:=by exact En):p:=h
theorem jg(h:p:=by rw[kA ZG 4 JL];omega):p:=h
theorem Gr(h:p:=by exact Nat.le_refl 7):p:=h
theorem RK(h:p:=by simp[results,results14,go_sem, *]):p:=h
theorem R0(h:p:=by simp[results,results94,go_sem, *]):p:=h
theorem KT(h:p:=by simpa using hj):p:=h
theorem KS(h:p:=by simp only[hs]):p:=h
theorem KP(h:p:=by simpa using h1):p:=h
theorem Jx(h:p:=by exact FC):p:=h
theorem Jb(h:p:=by rw[hz];decide):p:=h
theorem Na(h:p:=by rw[Hs.out];exact Hi.out):p:=h
theorem RW(h:p:=by rw[<-hW];exact ZC HB2.out _):p:=h
theorem Nj(h:p:=by cases e;exact Or.inl hEb):p:=h
theorem Kb(h:p:=by rw[hp];rfl):p:=h
theorem OU(h:p:=by have:=HFr.out a ha;have:=zx e;omega):p:=h
theorem Pv(h:p:=by rw[List.length_append,HKe.out];rfl):p:=h
theorem T4(h:p:=by unfold Addr.add;split<;>simp_all):p:=h
theorem MX(h:p:=by have:=HSf.out.lB;omega):p:=h
theorem JK(h:p:=by simp[Rm.as]):p:=h
theorem ML(h:p:=by rw[Yk];omega):p:=h
theorem Mt(h:p:=by have:=HSz.out.1;omega):p:=h
theorem Nw(h:p:=by exact ziG):p:=h
theorem GB(h:p:=by exact OR _):p:=h
theorem Il(h:p:=by show 3<6;decide):p:=h
theorem Nr(h:p:=by simp[World.setCell]):p:=h
theorem PL(h:p:=by rw[Po,Xm,HSz.out]):p:=h
theorem Gl(h:p:=by rw[hz1];omega):p:=h
theorem GF(h:p:=by unfold Xt;rfl):p:=h
theorem O7(h:p:=by rw[Lib.bytesWorld_size];omega):p:=h
theorem PV(h:p:=by rw[<-HN.out]at hlt;exact hlt):p:=h
theorem Oc(h:p:=by have:=HS1.out;omega):p:=h
theorem NO(h:p:=by exact sizeOf43):p:=h
theorem MB(h:p:=by have:=h1 a ha;omega):p:=h
theorem OT(h:p:=by rw[Yk];exact PH):p:=h
theorem JZ(h:p:=by cases e;omega):p:=h
theorem NY(h:p:=by rw[qY];omega):p:=h
theorem MS(h:p:=by rw[h.2];exact zk):p:=h
theorem IU(h:p:=by exact isAgg43):p:=h
theorem Nd(h:p:=by rw[<-tl];exact n2):p:=h
theorem Nh(h:p:=by have:=HV.out;omega):p:=h
theorem Lv(h:p:=by rw[List.length_append,List.length_singleton];exact hown):p:=h
theorem P8(h:p:=by simp[zu,Value.oneCell']):p:=h
theorem Ox(h:p:=by rw[List.length_take];omega):p:=h
theorem CP(h:p:=by first|exact QW.start.drew|exact QW.start.drew.drew):p:=h
theorem Ov(h:p:=by rw[HX4.out];exact HGd2.out):p:=h
theorem Nv(h:p:=by have:=h.len;omega):p:=h
theorem PD(h:p:=by first|assumption|omega):p:=h
theorem Cp(h:p:=by have:=Fa ps k;have:=HpL.out;have:=HTs.out;omega):p:=h
theorem T7(h:p:=by unfold maxLen at hmx;omega):p:=h
theorem PJ(h:p:=by rw[HNx.out];exact HL9.out):p:=h
theorem Jy(h:p:=by simp[hx]):p:=h
theorem LC(h:p:=by have:=LF (L s) k p3;rw[hk]at this;exact this):p:=h
theorem Th(h:p:=by rw[hk,Nat.add_mul];omega):p:=h
theorem Rh(h:p:=by intro e;have:=zx e;omega):p:=h
theorem N3(h:p:=by cases e;exact hg):p:=h
theorem Ru(h:p:=by have:=hF.out.2 q hq;omega):p:=h
theorem Ct(h:p:=by rw[<-hw4];exact(World.frozen?_setCell ..).trans u1):p:=h
theorem vq(h:p:=by rw[<-hw4];exact(World.frozen?_setCell ..).trans u2):p:=h
theorem CQ(h:p:=by rw[List.length_append,List.length_singleton];omega):p:=h
theorem GK(h:p:=by rw[he];rfl):p:=h
theorem G9(h:p:=by rw[h];simp):p:=h
theorem jU(h:p:=by rw[<-hw4];exact World.cell?_setCell_same _ _ _ p2):p:=h
theorem Mc(h:p:=by exact ziS):p:=h
theorem CB(h:p:=by have h7:=(H5.out.lt _ e).1;dsimp only at h7;omega):p:=h
theorem NM(h:p:=by exact Nl _):p:=h
theorem TS(h:p:=by simp[Lib.compareBytes]):p:=h
theorem jh(h:p:=by exact underlying28):p:=h
theorem yX(h:p:=by exact World.news_of_block (B:=w2.heap.size) qv):p:=h
theorem Am(h:p:=by exact World.news_of_block (B:=w4.heap.size) qv):p:=h
theorem Gb(h:p:=by rw[e];rfl):p:=h
theorem AM(h:p:=by first|exact trivial|simp[WideAt.IsKeyLit]):p:=h
theorem MM(h:p:=by simpa using hz):p:=h
theorem Ex(h:p:=by rw[HKe.out];exact(hHH.keep hbW).up hbW.size):p:=h
theorem Ax(h:p:=by simp[results,results240,go_sem];try rfl):p:=h
theorem Ak(h:p:=by have h7:=(h5.lt _ e).1;dsimp only at h7;omega):p:=h
theorem TG(h:p:=by dsimp only;assumption):p:=h
theorem R1(h:p:=by rw[HM.out];exact hlt):p:=h
theorem EX(h:p:=by rw[Lp (fun h=>Hk.out h.2)];exact hR.1):p:=h
theorem vK(h:p:=by rw[heap_setCell_same _ _ _ _ _ _ h.box];rfl):p:=h
theorem Rb(h:p:=by unfold Zn;rw[hcl]):p:=h
theorem Ce(h:p:=by rw[<-hW1];exact hI.alloc _ (hI.alloc _ h0)):p:=h
theorem Ee(h:p:=by rw[List.length_map,List.length_take];omega):p:=h
theorem Pb(h:p:=by rw[<-hW1];exact qv):p:=h
theorem O1(h:p:=by exact Nat.succ_pos 6):p:=h
theorem Dt(h:p:=by rw[<-hr2];exact⟨A3,c3,rfl,h3,bt HB2.out hb3⟩):p:=h
theorem jK(h:p:=by rw[<-hw3];exact zw):p:=h
theorem jw(h:p:=by rw[<-hw3];exact qv):p:=h
theorem IX(h:p:=by simp[h1,h2]):p:=h
theorem O2(h:p:=by simp[Op.bytesLess]):p:=h
theorem FB(h:p:=by have:=List.find?_some h;simpa using this):p:=h
theorem Lb(h:p:=by rw[hch];exact List.mem_cons_of_mem _ hy):p:=h
theorem M1(h:p:=by rw[tl,qr]):p:=h
theorem Fb(h:p:=by rw[<-Array.getElem?_toList,hx];exact hu):p:=h
theorem DD(h:p:=by show(-9223372036854775808:Int)<=1;omega):p:=h
theorem DH(h:p:=by have:=(h.own.lt j e).1;have:=h.lo;omega):p:=h
theorem Du(h:p:=by rw[HKe.out,HMe.out];have:=HM.out;omega):p:=h
theorem DE(h:p:=by show(1:Int)<=9223372036854775807;omega):p:=h
theorem JC(h:p:=by rw[h]):p:=h
theorem R3(h:p:=by rw[HKe.out];omega):p:=h
theorem Rk(h:p:=by rw[hl2];exact hcp):p:=h
theorem yu(h:p:=by simpa [L]using (congrArg Prod.fst ht)):p:=h
theorem J2(h:p:=by cases hy):p:=h
theorem LM(h:p:=by have:=(h.lt b hv).1;have:=zx hb;omega):p:=h
theorem LQ(h:p:=by show _<w1.heap.size;rw[HS1.out];omega):p:=h
theorem FI(h:p:=by first|exact H9.out|exact H9.out.dr):p:=h
theorem FE(h:p:=by show(bs _).size<=_;rw[qY];omega):p:=h
theorem CX(h:p:=by rw[List.mem_singleton.1 hz];exact x.2):p:=h
theorem Ao(h:p:=by have:(⟨#[47]⟩:ByteArray).size=1:=rfl;omega):p:=h
theorem FA(h:p:=by rw[<-hW1];exact(hB.alloc _).alloc _):p:=h
theorem yz(h:p:=by rw[<-Array.getElem?_toList];exact hu):p:=h
theorem Ln(h:p:=by rw[<-h3];exact List.mem_map.2 ⟨x,hx,rfl⟩):p:=h
theorem My(h:p:=by rw[hs];rfl):p:=h
theorem Tn(h:p:=by rw[HRes.out];rfl):p:=h
theorem T3(h:p:=by cases e;exact hgb):p:=h
theorem EB(h:p:=by rw[<-hwd];exact heap_alloc_new wp _):p:=h
theorem vw(h:p:=by rw[hl2,HMe.out];have:=HM.out;omega):p:=h
theorem D2(h:p:=by unfold maxLen;show(2:Nat)<=_;omega):p:=h
theorem vB(h:p:=by rw[hl];exact Nat.le_trans hjl hmul):p:=h
theorem IZ(h:p:=by rw[ho,hs]):p:=h
theorem Hy(h:p:=by rw[Ka,Ka];omega):p:=h
theorem TM(h:p:=by have:=h.pl;omega):p:=h
theorem OG(h:p:=by have:=h.tl;omega):p:=h
theorem Fs(h:p:=by rw[Zi,hl];dsimp only;rw[h];rfl):p:=h
theorem L9(h:p:=by rw[HN.out];exact Nat.lt_irrefl _):p:=h
theorem jO(h:p:=by have:=HpL.out;have:=HTs.out;omega):p:=h
theorem EE(h:p:=by have:=HS2.out;have:=HS1.out;omega):p:=h
theorem AQ(h:p:=by have:=h.nx.st.lt;have:=h.lo;omega):p:=h
theorem Hv(h:p:=by simp[h2];exact fun e=>hb e.symm):p:=h
theorem E7(h:p:=by simpa [Value.ownBlock]using hyg):p:=h
theorem Cf(h:p:=by simp[Value.ownBlock]at e;omega):p:=h
theorem Pf(h:p:=by cases b<;>rfl):p:=h
theorem Tu(h:p:=by simpa using hrl):p:=h
theorem LY(h:p:=by rw[<-hW3];exact zk.alloc zo _):p:=h
theorem AC(h:p:=by rw[List.length_map];exact hroom):p:=h
theorem OW(h:p:=by show 0<10;omega):p:=h
theorem Pe(h:p:=by simp[M6]):p:=h
theorem jt(h:p:=by show 2<6;decide):p:=h
theorem jI(h:p:=by exact zbM):p:=h
theorem TY(h:p:=by show 0<12;omega):p:=h
theorem Oh(h:p:=by simp[hq]):p:=h
theorem EF(h:p:=by rw[<-HN.out]at*;exact HR.out):p:=h
theorem Au(h:p:=by have:=(HDN.out.pl a ha).2;omega):p:=h
theorem LW(h:p:=by
  go_wp2_with (first|(refine Gp rfl 239 rfl _ ((zero_of_info P6).1 _) ?_)|(refine Rx rfl 239 _ _ rfl _ _ _ _ rfl rfl rfl zj Nw TJ ?_))
  exact RJ):p:=h
theorem Nx(h:p:=by
  have e:YU (x:Int)=95:=by unfold YU;rw[if_neg zb]
  exact Cy):p:=h
theorem Lf(h:p:=by
  go_enter func170,ntmps170;go_wp2_with (go_at_call 220;refine HP.out.mono ?_;rintro e w1 ⟨⟨u,T,x,rfl⟩,hb1⟩)
  exact RF):p:=h
theorem jG(h:p:=by
  have e:YU (x:Int)=x:=by unfold YU;rw[if_pos zb]
  exact Cy):p:=h
theorem FW(h:p:=by
  rw[<-hw1];have:=heap_alloc_new (w.alloc (.cells #[.slice A ds.length c] 30)) (.cells (zq qc) zp);exact Q2):p:=h
theorem CL(h:p:=by
  go_enter func70,ntmps70;go_wp2_with fail
  exact jF):p:=h
theorem kB(h:p:=by rw[<-hw1];exact(zw.block _ zl).trans qv):p:=h
theorem JN(h:p:=by rw[<-hw1,heap_alloc_old _ _ zl];exact qv):p:=h
theorem IF(h:p:=by rw[Q8,List.take_of_length_le Vx]):p:=h
theorem RA(h:p:=by rw[<-hq,Q8,List.take_of_length_le Vx]):p:=h
theorem DJ(h:p:=by rw[setRow_other _ _ _ _ zb];exact(HB3.out.block g (zh HR.out)).trans HR.out):p:=h
theorem DI(h:p:=by rw[<-hw4];exact(World.cell?_setCell_other _ _ _ _ (fun e=>Zr)).trans p1):p:=h
theorem vd(h:p:=by rw[Q8,List.drop_zero,List.take_of_length_le Vz]):p:=h
theorem AY(h:p:=by first|exact HQ9.out|exact HQ.out _ qW):p:=h
theorem La(h:p:=by rw[hy1];unfold Xw;rw[if_pos zi];rfl):p:=h
theorem Le(h:p:=by have:=hf q e;exact⟨zb,zb,zb⟩):p:=h
end
section
open Go.RowKit
abbrev ze:=List UInt8
abbrev L(s:ByteArray):ze:=s.data.toList
def bs(l:ze):ByteArray:=⟨l.toArray⟩
theorem qr(l:ze):L (bs l)=l:=by simp[L,bs]
theorem Ya(s:ByteArray):bs (L s)=s:=by simp[L,bs]
theorem qY(l:ze):(bs l).size=l.length:=by simp[bs,ByteArray.size]
theorem zC(s:ByteArray):(L s).length=s.size:=Array.length_toList
theorem Kh{a b:ByteArray}(h:L a=L b):a=b:=by rw[<-Ya a,<-Ya b,h]
theorem jx(s:ByteArray)(k:Nat)(h:k<s.size):(L s)[k]' Vz=s[k]:=rfl
theorem Kd{r:ByteArray}{l:ze}(h:L r=l):r=bs l:=by rw[<-h,Ya]
theorem GD(s:ByteArray)(k:Nat)(h:k<s.size):(L s).take (k+1)=(L s).take k++[s[k]]:=by
 rw[List.take_succ_eq_append_getElem Vz];rfl
theorem UE(s:ByteArray)(k:Nat)(h:k<s.size):(L s).drop k=s[k]::(L s).drop (k+1):=by
 rw[List.drop_eq_getElem_cons Vz];rfl
theorem It(s:ByteArray)(k:Nat)(h:¬k<s.size):(L s).take k=L s:=List.take_of_length_le kW
theorem tl(s:ByteArray):s.toList=L s:=Lib.toList_data s
theorem JU{s:ByteArray}(h:s.toList=[]):L s=[]:=by rw[<-tl];exact h
theorem XL{s:ByteArray}(h:¬s.toList=[]):(L s).isEmpty=false:=by rw[<-tl];cases hs:s.toList with|nil=>exact absurd hs h|cons a b=>rfl
theorem Q8(s:ByteArray)(a b:Nat):L (s.extract a b)=((L s).take b).drop a:=by
 simp only[L,ByteArray.data_extract,Array.toList_extract,List.extract_eq_take_drop];rw[List.drop_take]
theorem Rw(a b:ByteArray):L (a++b)=L a++L b:=by simp[L,ByteArray.data_append]
theorem GT(s:ByteArray)(a b:Nat):(s.extract a b).size=min b s.size - a:=by rw[<-zC,Q8,List.length_drop,List.length_take,zC]
theorem bt{w a b:World}(h:Below w.heap.size w a)(k:Below a.heap.size a b):Below w.heap.size w b:=h.trans (k.mono h.size)
theorem ZC{B:Nat}{a w:World}(h:Below B a w)(n:Nat):Below B a (w.drewN n):=⟨h.os,h.tape,h.output,h.size,h.block⟩
theorem zk{b:Nat}{w:World}:Below b w w:=Below.refl b w
theorem zw{w:World}{o:Obj}:Below w.heap.size w (w.alloc o):=zk.alloc (Nat.le_refl _) o
theorem qv{w:World}{o:Obj}:(w.alloc o).heap[w.heap.size]? =some o:=heap_alloc_new w o
theorem zo{n:Nat}:n<=n:=Nat.le_refl n
theorem zx{α:Type}{a b:α}(h:some a=some b):a=b:=Option.some.inj h
theorem zd{W:World}{g j:Nat}{A:Array Value}{T:TypeId}{u:Value}(h:W.heap[g]? =some (.cells A T (0,0)))(hA:A[j]? =some u):W.cell? ⟨g,j,none⟩=some u:=by rw[cell_of_row _ _ j _ _ _ h];exact hA
theorem Jq(w:World)(row:Option Nat):w.grownBy w row:=⟨rfl,rfl,rfl,Nat.le_refl _,fun _ _ _=>rfl⟩
theorem YD(w:World)(k:Nat)(row:Option Nat):w.grownBy (w.drewN k) row:=⟨rfl,rfl,rfl,Nat.le_refl _,fun _ _ _=>rfl⟩
theorem ZD{a b:Bool}(h:a=b):Ending.returned (.bool a)=.returned (.bool b):=JC
theorem G0{k:IntKind}{a b:Int}(h:a=b):Ending.returned (.int k a)=.returned (.int k b):=JC
theorem zbQ{a b:ByteArray}(h:a=b):Ending.returned (.string a)=.returned (.string b):=JC
end
section
open Go.RowKit
theorem yF:(prog.info? 9).map (fun i=>(i.zero,i.size,i.bytes))=some (some (.string ⟨#[]⟩),1,16):=zg
def pr(c:UInt8):Bool:=decide (32<=(c.toNat:Int))&&decide ((c.toNat:Int)<=126)
def qR(l:ze):Bool:=l.all pr
def YZ(l:ze):Bool:=qR l&&decide (l.length<=256)
theorem Ca(l:ze)(c:UInt8):qR (l++[c])=(qR l&&pr c):=by simp[qR]
theorem jR{l:ze}{k:Nat}(s:ByteArray)(hk:k<s.size)(hl:L s=l)(h:pr s[k]=false):qR l=false:=by
 subst hl;rw[qR,List.all_eq_false];exact LD
theorem Mh(s:ByteArray)(w:World)(hs:s.size<=9223372036854775807):
 Calls prog 195 #[.string s] w fun e w'=>e=.returned (.bool (YZ (L s)))/\w=w':=by
 go_enter func195,ntmps195;go_wp2
 go_loop [6] (fun i=>∃k:Nat,k<=s.size/\i=.int .i64 k/\Hid (qR ((L s).take k)=true)) (fun i=>s.size - (intOf i).toNat)
 case atStart=>exact⟨0,Nat.zero_le _,rfl,rfl⟩
 case round=>
  obtain⟨k,hk,rfl,hp⟩:=hrel;go_wp2
  case roundEnd=>
   go_round
   case rel=>exact⟨k+1,zb,zP,by
    show qR _=true;rw[GD s k zb,Ca,hp.out];simp[pr];omega⟩
   case measure=>simp[intOf];omega
  · exact Cg
  · exact Cg
  · go_ret;refine⟨ZD ?_,rfl⟩;have h:=hp.out;rw[It s k qj]at h;rw[YZ,h,zC];simp;omega
def setA(f:Nat->Bool):Array Value:=Array.ofFn (n:=256) fun i=>.bool (f i)
def qt(f:Nat->Bool)(l:ze):Nat->Bool:=fun c=>f c||l.any fun b=>b.toNat==c
def Qp:Nat->Bool:=fun _=>false
theorem kT:(prog.info? 256).map (fun i=>(i.zero,i.size))=some (some (.agg (setA Qp)),256):=zg
theorem Xm(f:Nat->Bool):(setA f).size=256:=by simp[setA]
theorem Kl(f:Nat->Bool)(c:Nat)(h:c<256):(setA f)[c]? =some (.bool (f c)):=by
 simp[setA,h]
theorem NW{B:Nat}{a w:World}(h:Below B a w){g:Nat}(hg:B<=g)(cs:Array Value):Below B a (w.setRow g cs):=
 h.trans ⟨rfl,rfl,rfl,zl,fun k hk=>setRow_other w g k cs zb⟩
theorem zdN(f:Nat->Bool)(c:Nat)(h:c<256):(setA f).setIfInBounds c (.bool true)=setA (fun d=>f d||d==c):=by
 apply Array.ext_getElem?;intro i;rw[Array.getElem?_setIfInBounds];by_cases e:c=i
 · subst e;rw[if_pos rfl,if_pos (by rw[Xm];exact h),Kl _ _ h];simp
 · have e':(i==c)=false:=by rw[beq_eq_false_iff_ne];exact fun h=>e h.symm
   rw[if_neg e];by_cases hi:i<256
   · rw[Kl _ _ hi,Kl _ _ hi,e',Bool.or_false]
   · rw[Array.getElem?_eq_none (by rw[Xm];omega),Array.getElem?_eq_none (by rw[Xm];omega)]
theorem If(f:Nat->Bool):(setA f).all (·.oneCell')=true:=by
 rw[Array.all_eq_true];intro i hi;have h:=Kl f i (by rw[Xm]at hi;exact hi);exact yM
theorem za7(f:Nat->Bool):qt f []=f:=by funext c;simp[qt]
attribute [irreducible] setA Qp
theorem zh6(f:Nat->Bool)(l:ze)(b:UInt8):(fun d=>qt f l d||d==b.toNat)=qt f (l++[b]):=by
 funext d
 simp only[qt,List.any_append,List.any_cons,List.any_nil,Bool.or_false,Bool.or_assoc];rw[show(d==b.toNat)=(b.toNat==d)from by rw[Bool.eq_iff_iff];simp;exact eq_comm]
theorem VV(f:Nat->Bool)(s:ByteArray)(w:World)(hs:s.size<=9223372036854775807):
 Calls prog 188 #[.agg (setA f),.string s] w fun e w'=>e=.returned (.agg (setA (qt f (L s))))/\Below w.heap.size w w':=by
 have hz:=(zero_of_info kT).1;have hi:=(zero_of_info kT).2;go_enter func188,ntmps188;go_wp2;clear hz;have Hi:=za hi;clear hi;go_loopg [8] (s.size) (fun g i wr=>∃k:Nat,k+g=s.size/\i=.int .i64 k/\wr=(w.alloc (.cells (setA (qt f ((L s).take k))) 256)).alloc (.cells (setA Qp) 256))
 case atStart=>exact⟨0,zb,rfl,by simp[za7]⟩
 case round=>
  obtain⟨k,hk,rfl,rfl⟩:=hrel;by_cases hlt:k<s.size
  · have hb:(s[k].toNat:Int)<256:=by have:=s[k].toNat_lt;omega
    have hg:=Kl (qt f ((L s).take k)) s[k].toNat zb;have HG:=za (zdN (qt f ((L s).take k)) s[k].toNat zb);have Hk:=za hk;clear hk;go_wp2;have hk:=Hk.out;go_roundg (gk - 1)
    case measure=>omega
    case rel=>
     refine⟨k+1,zb,zP,?_⟩;rw[HG.out,zh6,GD s k hlt]
  · have hall:=It s k hlt;rw[hall];clear hall;have h1:=Xm (qt f (L s));have h2:=If (qt f (L s));have h0:=Xm Qp;have HS:Hid (∃S,setA (qt f (L s))=S):=⟨_,rfl⟩;obtain⟨S,hS⟩:=HS.out;rw[hS]at h1 h2⊢;have HS:=za hS;clear hS;generalize setA Qp=S0 at*;have hl1:=heap_alloc2_old w (.cells S 256) (.cells S0 256);have hl2:=heap_alloc2_new w (.cells S 256) (.cells S0 256);have H1:=za hl1;have H2:=za hl2;have H3:=za h1;have H4:=za h2;have H5:=za h0;clear hl1 hl2 h1 h2 h0;go_wp2_with (first|(refine wpList_load_row rfl 256 _ rfl _ rfl _ _ _ _ H1.out underlying256 rfl GA ?_)|(refine wpList_store_row rfl 256 _ _ rfl _ _ rfl rfl _ _ H2.out GA (by rw[H3.out,H5.out]) H4.out ?_))
    refine bodyPost_ret (v:=.agg S) (results_cell_row rfl _ _ (w.heap.size+1) 256 S (0,0) _ rfl (setRow_heap _ _ _ _ _ _ H2.out) underlying256 rfl GA) rfl ⟨by rw[HS.out],?_⟩;exact NW ((zk.alloc zo _).alloc zl _) zb _
theorem zjt(f:Nat->Bool)(w:World)(c:Nat)(h:c<256):(w.alloc (.cells (setA f) 256)).cell? ⟨w.heap.size,c,none⟩=some (.bool (f c)):=by
 rw[cell_of_row _ _ c (setA f) _ (0,0) (heap_alloc_new w _),Kl f c h]
def QO(f:Nat->Bool)(l:ze):Bool:=l.all fun b=>f b.toNat
theorem ziw(f:Nat->Bool)(l:ze)(c:UInt8):QO f (l++[c])=(QO f l&&f c.toNat):=by simp[QO]
theorem zic{f:Nat->Bool}{l:ze}{k:Nat}(s:ByteArray)(hk:k<s.size)(hl:L s=l)(h:f s[k].toNat=false):QO f l=false:=by
 subst hl;rw[QO,List.all_eq_false];exact LD
theorem Mg(f:Nat->Bool)(s:ByteArray)(w:World)(hs:s.size<=9223372036854775807):
 Calls prog 189 #[.agg (setA f),.string s] w fun e w'=>e=.returned (.bool (QO f (L s)))/\Below w.heap.size w w':=by
 go_enter func189,ntmps189;go_wp2;go_loopg [8] (s.size) (fun g i wr=>∃k:Nat,k+g=s.size/\i=.int .i64 k/\w.alloc (.cells (setA f) 256)=wr/\Hid (QO f ((L s).take k)=true))
 case atStart=>exact⟨0,zb,rfl,rfl,rfl⟩
 case round=>
  obtain⟨k,hk,rfl,rfl,hp⟩:=hrel;have hkk:k<=s.size:=zb;have Hk:=za hk;clear hk;by_cases hlt:k<s.size
  · have hb:(s[k].toNat:Int)<256:=by have:=s[k].toNat_lt;omega
    have hc:=zjt f w s[k].toNat zb;cases hf:f s[k].toNat
    · rw[hf]at hc;have HF:=za hf;clear hf;go_wp2;go_ret;exact⟨ZD (by rw[zic s hlt rfl HF.out]),zk.alloc zo _⟩
    · rw[hf]at hc;have HF:=za hf;clear hf;go_wp2;have hk:=Hk.out;go_roundg (gk - 1)
      case measure=>omega
      case rel=>exact⟨k+1,zb,zP,rfl,by show QO _ _=true;rw[GD s k hlt,ziw,hp.out,HF.out];rfl⟩
  · go_wp2;go_ret;have h:=hp.out;rw[It s k hlt]at h;exact⟨ZD JC,zk.alloc zo _⟩
end
section
open Go.RowKit
def VD(v n:Int):Int:=if n<=1 then 0 else v % n
theorem Kg(v n:Int)(h:1<=n):0<=VD v n/\VD v n<n:=by
 unfold VD
 split
 · omega
 · exact⟨Int.emod_nonneg _ zb,Int.emod_lt_of_pos _ zb⟩
theorem zbR(v n:Int)(hn:0<n)(h:0<=v.tmod n):v.tmod n=v % n:=by
 rw[Int.tmod_eq_emod]at h⊢
 split at h
 · simp_all
 · have h1:=Int.emod_nonneg v (show n≠0 by omega);have h2:=Int.emod_lt_of_pos v hn;exfalso;omega
theorem zbd(v n:Int)(hn:0<n)(h:v.tmod n<0):v.tmod n+n=v % n:=by
 rw[Int.tmod_eq_emod]at h⊢
 split at h
 · have h1:=Int.emod_nonneg v (show n≠0 by omega);exfalso;omega
 · rename_i h3;rw[if_neg h3];omega
theorem TE(v n:Int)(w:World)(_h1: -9223372036854775808<=v)(_h2:v<=9223372036854775807)(h3:n<=9223372036854775807):
 Calls prog 13 #[.int .i64 v,.int .i64 n] w fun e w'=>e=.returned (.int .i64 (VD v n))/\w=w':=by
 go_enter func13,ntmps13;go_wp2
 · go_ret;exact⟨G0 (by simp[VD];omega),rfl⟩
 · go_ret;have hn:1<n:=qj;have ht:v.tmod n<0:=qj;have e:=zbd v n zb ht;have r:=Kg v n zb;rw[VD,if_neg zb]at r;exact⟨G0 (by rw[e,VD,if_neg zb];exact IntWalk.wrap64_in _ ⟨zb,zb⟩),rfl⟩
 · go_ret;have hn:1<n:=qj;have ht:0<=v.tmod n:=qj;exact⟨G0 (by rw[zbR v n zb ht,VD,if_neg zb]),rfl⟩
structure kR(w:World)(b:Nat)(n:Nat)(p:Nat):Prop where
 blk:∃A c t,w.heap[b]? =some (.cells #[.slice A n c,.int .i64 p] t (0,0))/\∃ba off,(0<n->A=some ⟨ba,off,none⟩)/\ba≠b/\∀i,i<n->∃z:Int,w.cell? ⟨ba,off+i,none⟩=some (.int .i64 z) /\ -9223372036854775808<=z/\z<=9223372036854775807
 small:n<=9223372036854775807
theorem kR.lt{w:World}{b n p:Nat}(h:kR w b n p):b<w.heap.size:=by
 obtain⟨A,c,t,hb,_⟩:=h.blk;rcases Nat.lt_or_ge b w.heap.size with hlt|hge
 · exact hlt
 · rw[Array.getElem?_eq_none hge]at hb;cases hb
def DA(m:Int)(P:World->Prop)(e:Ending)(w':World):Prop:=∃r:Int,0<=r/\r<m/\e=.returned (.int .i64 r)/\P w'
theorem zaZ(b n p:Nat)(m:Int)(w:World)(h:kR w b n p)(h1:1<=m)(h2:m<=1000000)(h3:p<=1000000):
 Calls prog 17 #[.pointer (some ⟨b,0,none⟩),.int .i64 m] w (DA m fun w'=>∃k,(w.setCell ⟨b,1,none⟩ (.int .i64 (p+1))).drewN k=w'):=by
 obtain⟨⟨A,c,t,hb,ba,off,hA,hne,hz⟩,hs⟩:=h;have c0:w.cell? ⟨b,0,none⟩=some (.slice A n c):=zd hb rfl;have c1:w.cell? ⟨b,1,none⟩=some (.int .i64 p):=zd hb rfl;have f1:w.frozen? ⟨b,1,none⟩=false:=frozen_of_row _ _ _ _ _ hb;clear hb;by_cases hlt:p<n
 · obtain rfl:=hA zb;obtain⟨z,hc,z1,z2⟩:=hz p hlt;clear hz hA;go_enter func17,ntmps17;go_wp2;go_quiet (fail)
   exact L2
 · clear hz hA;go_enter func17,ntmps17;exact L2
def Iy(Q:ByteArray->Prop)(P:World->Prop)(e:Ending)(w':World):Prop:=∃s:ByteArray,Q s/\e=.returned (.string s)/\P w'
end
section
open Go.RowKit
structure zr(w:World)(B:Nat)(A:Option Addr)(k n:Nat)(xs:List Value):Prop where
 len:xs.length=n*k
 at_:0<n->∃ba off,A=some ⟨ba,off,none⟩/\ba<B/\∀j u,xs[j]? =some u->w.cell? ⟨ba,off+j,none⟩=some u
theorem zr.keep{w w':World}{B k n:Nat}{A:Option Addr}{xs:List Value}(h:zr w B A k n xs)(hb:Below B w w'):zr w' B A k n xs:=
 ⟨h.len,fun hn=>by
  obtain⟨ba,off,e,hB,hc⟩:=h.at_ hn;exact⟨ba,off,e,hB,fun j u hu=>by rw[hb.cell (p:=⟨ba,off+j,none⟩) hB];exact hc j u hu⟩⟩
theorem zr.of_own{w:World}{base k n:Nat}{e:TypeId}{A:Option Addr}{c:Nat}{xs:List Value}(h:w.ownsRow base e k (.slice A n c) n xs):zr w w.heap.size A k n xs:=by
 refine⟨h.1,fun hn=>?_⟩;obtain⟨g,cap,hv,_,hlt⟩:=h.form hn;have hA:A=some ⟨g,0,none⟩:=by injection hv
 subst hA;refine⟨g,0,rfl,hlt,fun j u hu=>?_⟩;have:=h.cells (g:=g) rfl j u hu;have hadd:(⟨g,0,none⟩:Addr).add j=⟨g,j,none⟩:=T4;rw[hadd]at this;rw[Nat.zero_add];exact this
def cellsOf{α:Type}(enc:α->List Value)(l:List α):List Value:=l.flatMap enc
theorem kA{α:Type}(enc:α->List Value)(k:Nat)(hk:∀x,(enc x).length=k)(l:List α):(cellsOf enc l).length=l.length*k:=by
 induction l with
 |nil=>simp[cellsOf]
 |cons x l ih=>simp only[cellsOf,List.flatMap_cons,List.length_append,List.length_cons,hk]at ih⊢;rw[ih,Nat.add_mul];omega
theorem ziq{α:Type}(enc:α->List Value)(k:Nat)(hk:∀x,(enc x).length=k)(l:List α)(i f:Nat)(x:α)(hx:l[i]? =some x)(hf:f<k):(cellsOf enc l)[i*k+f]? =(enc x)[f]?:=by
 induction l generalizing i with
 |nil=>simp at hx
 | cons y l ih=>
   cases i with
   | zero=>
     simp at hx;subst hx;simp only[cellsOf,List.flatMap_cons,Nat.zero_mul,Nat.zero_add];rw[List.getElem?_append_left (by rw[hk];exact hf)]
   | succ i=>
     simp at hx;simp only[cellsOf,List.flatMap_cons];rw[List.getElem?_append_right Th,hk,show(i+1)*k+f - k=i*k+f from by rw[Nat.add_mul];omega];exact ih i hx
theorem XF{α:Type}(enc:α->List Value)(l m:List α):cellsOf enc (l++m)=cellsOf enc l++cellsOf enc m:=Xv
theorem zr.cell{α:Type}{enc:α->List Value}{k:Nat}(hk:∀x,(enc x).length=k){w:World}{B:Nat}{A:Option Addr}{l:List α}(h:zr w B A k l.length (cellsOf enc l)){i:Nat}(hi:i<l.length):
 ∃ba off,A=some ⟨ba,off,none⟩/\ba<B/\∀j x,l[j]? =some x->∀f u,(enc x)[f]? =some u->w.cell? ⟨ba,off+(j*k+f),none⟩=some u:=by
 obtain⟨ba,off,e,hB,hc⟩:=h.at_ zb;refine⟨ba,off,e,hB,fun j x hx f u hu=>hc _ _ ?_⟩;have hf:f<k:=by
  have:=List.getElem?_eq_some_iff.1 hu;obtain⟨h1,_⟩:=this;rw[hk]at h1;exact h1
 rw[ziq enc k hk l j f x hx hf];exact hu
structure At where
 name:ByteArray
 val:ByteArray
def zu(x:At):List Value:=[.string x.name,.string x.val]
theorem MK(x:At):(zu x).length=2:=rfl
def X9(l:List At)(nm:ze):Option ByteArray:=(l.find? fun x=>L x.name==nm).map (·.val)
end
section
open Go.RowKit
structure Ls(β:Type) where
 A:Option Addr
 c:Nat
 l:List β
def Ls.v{β:Type}(y:Ls β):Value:=.slice y.A y.l.length y.c
structure Um(w:World)(B:Nat)(row:Option Nat)(A:Option Addr)(k n:Nat)(xs:List Value):Prop where
 at_:zr w B A k n xs
 off:0<n->∀a,A=some a->some a.block≠row
theorem zr.grown{w w':World}{B k n:Nat}{A:Option Addr}{xs:List Value}{row:Option Nat}(h:zr w B A k n xs)(hB:B<=w.heap.size)(hg:w.grownBy w' row)(hne:0<n->∀a,A=some a->some a.block≠row):zr w' B A k n xs:=
 ⟨h.len,fun hn=>by
  obtain⟨ba,off,e,hb,hc⟩:=h.at_ hn;refine⟨ba,off,e,hb,fun j u hu=>?_⟩;rw[World.cell?_of_block (w:=w) (hg.block ba (Nat.lt_of_lt_of_le hb hB) (hne hn _ e))];exact hc j u hu⟩
theorem zr.up{w:World}{B B' k n:Nat}{A:Option Addr}{xs:List Value}(h:zr w B A k n xs)(hB:B<=B'):zr w B' A k n xs:=
 ⟨h.len,fun hn=>by
  obtain⟨ba,off,e,hb,hc⟩:=h.at_ hn;exact⟨ba,off,e,Nat.lt_of_lt_of_le hb hB,hc⟩⟩
theorem Um.grown{w w':World}{B k n:Nat}{A:Option Addr}{xs:List Value}{row:Option Nat}(h:Um w B row A k n xs)(hB:B<=w.heap.size)(hg:w.grownBy w' row):Um w' B row A k n xs:=
 ⟨h.at_.grown hB hg h.off,h.off⟩
theorem Um.keep{w w':World}{B k n:Nat}{A:Option Addr}{xs:List Value}{row:Option Nat}(h:Um w B row A k n xs)(hb:Below B w w'):Um w' B row A k n xs:=⟨h.at_.keep hb,h.off⟩
theorem zr.offOf{w:World}{B k n:Nat}{A:Option Addr}{xs:List Value}(h:zr w B A k n xs){row:Option Nat}(hr:∀g,row=some g->B<=g):Um w B row A k n xs:=
 ⟨h,fun hn a e hx=>by
  obtain⟨ba,off,e',hb,_⟩:=h.at_ hn;rw[e]at e';obtain rfl:=zx e';have:=hr _ hx.symm;dsimp only at this;omega⟩
section
variable{α β:Type}(k:Nat)(enc:β->List Value)(inn:α->Ls β)
def Yq(w:World)(B:Nat)(ls:List α):Prop:=∀y∈ls,zr w B (inn y).A k (inn y).l.length (cellsOf enc (inn y).l)
def Ze(w:World)(B:Nat)(row:Option Nat)(ls:List α):Prop:=∀y∈ls,Um w B row (inn y).A k (inn y).l.length (cellsOf enc (inn y).l)
variable{k enc inn}
theorem Yq.keep{w w':World}{B:Nat}{ls:List α}(h:Yq k enc inn w B ls)(hb:Below B w w'):Yq k enc inn w' B ls:=fun y hy=>(h y hy).keep hb
theorem Yq.up{w:World}{B B':Nat}{ls:List α}(h:Yq k enc inn w B ls)(hB:B<=B'):Yq k enc inn w B' ls:=fun y hy=>(h y hy).up hB
theorem Ze.at_{w:World}{B:Nat}{row:Option Nat}{ls:List α}(h:Ze k enc inn w B row ls):Yq k enc inn w B ls:=fun y hy=>(h y hy).at_
theorem Ze.keep{w w':World}{B:Nat}{row:Option Nat}{ls:List α}(h:Ze k enc inn w B row ls)(hb:Below B w w'):Ze k enc inn w' B row ls:=fun y hy=>(h y hy).keep hb
theorem Ze.grown{w w':World}{B:Nat}{row:Option Nat}{ls:List α}(h:Ze k enc inn w B row ls)(hB:B<=w.heap.size)(hg:w.grownBy w' row):Ze k enc inn w' B row ls:=fun y hy=>(h y hy).grown hB hg
theorem Yq.offOf{w:World}{B:Nat}{ls:List α}(h:Yq k enc inn w B ls){row:Option Nat}(hr:∀g,row=some g->B<=g):Ze k enc inn w B row ls:=fun y hy=>(h y hy).offOf hr
theorem Ze.up{w:World}{B B':Nat}{row:Option Nat}{ls:List α}(h:Ze k enc inn w B row ls)(hB:B<=B'):Ze k enc inn w B' row ls:=fun y hy=>⟨(h y hy).at_.up hB,(h y hy).off⟩
theorem Ze.nil{w:World}{B:Nat}{row:Option Nat}:Ze k enc inn w B row []:=fun _ h=>qD
theorem Ze.snoc{w:World}{B:Nat}{row:Option Nat}{ls:List α}{x:α}(h:Ze k enc inn w B row ls)(hx:Um w B row (inn x).A k (inn x).l.length (cellsOf enc (inn x).l)):Ze k enc inn w B row (ls++[x]):=fun y hy=>by
 rcases List.mem_append.1 hy with hy|hy
 · exact h y hy
 · obtain rfl:=List.mem_singleton.1 hy;exact hx
theorem Yq.sub{w:World}{B:Nat}{ls ms:List α}(h:Yq k enc inn w B ls)(hs:∀y∈ms,y∈ls):Yq k enc inn w B ms:=fun y hy=>h y (hs y hy)
theorem Ze.moved{w w':World}{B:Nat}{row row':Option Nat}{ls:List α}(h:Ze k enc inn w B row ls)(hB:B<=w.heap.size)(hg:w.grownBy w' row)(hr:row'=row∨∀g,row'=some g->B<=g):Ze k enc inn w' B row' ls:=by
 rcases hr with rfl|hr
 · exact h.grown hB hg
 · exact(Ze.at_ (h.grown hB hg)).offOf hr
end
end
section
open Go.RowKit
structure VG(W:World)(b n q base:Nat):Prop where
 blk:∃A c t,W.heap[b]? =some (.cells #[.slice A n c,.int .i64 q] t (0,0))/\∃ba off,(0<n->A=some ⟨ba,off,none⟩)/\ba≠b/\(0<n->ba<base)/\∀i,i<n->∃z:Int,W.cell? ⟨ba,off+i,none⟩=some (.int .i64 z) /\ -9223372036854775808<=z/\z<=9223372036854775807
 small:n<=9223372036854775807
 lt:b<base
theorem VG.is{W:World}{b n q base:Nat}(h:VG W b n q base):kR W b n q:=by
 obtain⟨A,c,t,hh,ba,off,hA,hne,_,hz⟩:=h.blk;exact⟨⟨A,c,t,hh,ba,off,hA,hne,hz⟩,h.small⟩
theorem VG.of{W:World}{b n q:Nat}(h:kR W b n q):VG W b n q W.heap.size:=by
 have hl:=h.lt;obtain⟨⟨A,c,t,hh,ba,off,hA,hne,hz⟩,hs⟩:=h;exact⟨⟨A,c,t,hh,ba,off,hA,hne,fun h0=>by obtain⟨z,hc,_⟩:=hz 0 h0;exact block_lt_of_cell hc,hz⟩,hs,hl⟩
theorem VG.keep{W W':World}{b n q q' base:Nat}(h:VG W b n q base)(hb:∀A c t,W.heap[b]? =some (.cells #[.slice A n c,.int .i64 q] t (0,0))->W'.heap[b]? =some (.cells #[.slice A n c,.int .i64 q'] t (0,0)))(ho:∀k,k<base->k≠b->W'.heap[k]? =W.heap[k]?):VG W' b n q' base:=by
 obtain⟨A,c,t,hh,ba,off,hA,hne,hlt,hz⟩:=h.blk;refine⟨⟨A,c,t,hb A c t hh,ba,off,hA,hne,hlt,fun i hi=>?_⟩,h.small,h.lt⟩;obtain⟨z,hc,z1,z2⟩:=hz i hi;exact⟨z,by rw[World.cell?_of_block (w:=W) (ho ba (hlt zb) hne)];exact hc,z1,z2⟩
theorem zh{w:World}{g:Nat}{o:Obj}(h:w.heap[g]? =some o):g<w.heap.size:=(Array.getElem?_eq_some_iff.1 h).1
theorem zG{w w':World}(h:Below w.heap.size w w')(row:Option Nat):w.grownBy w' row:=⟨h.os,h.tape,h.output,h.size,fun k hk _=>h.block k hk⟩
theorem qQ{a b c:World}{row:Option Nat}(h:a.grownBy b row)(k:b.grownBy c row):a.grownBy c row:=h.trans k
theorem Yz{a b c:World}{row row':Option Nat}(h:a.grownBy b row)(k:b.grownBy c row')(hr:∀j,row'=some j->a.heap.size<=j∨row=some j):a.grownBy c row:=h.andThen k hr
theorem yg{a b:World}(h:a.grownBy b none):Below a.heap.size a b:=⟨h.os,h.tape,h.output,h.size,fun k hk=>h.block k hk zl⟩
theorem qu(w:World)(B i:Nat)(u:Value):w.grownBy (w.setCell ⟨B,i,none⟩ u) (some B):=⟨rfl,rfl,rfl,Nr,fun k _ hk=>heap_setCell_other _ _ _ _ (fun e=>hk (by rw[e]))⟩
theorem qK(w:World)(B:Nat)(c:Array Value):w.grownBy (w.setRow B c) (some B):=⟨rfl,rfl,rfl,by simp[World.setRow],fun k _ hk=>setRow_other w B k c (fun e=>hk (by rw[e]))⟩
structure qp(w0:World)(b n p d:Nat)(W:World):Prop where
 tape:∃q,p<=q/\q<=p+d/\VG W b n q w0.heap.size
 gr:w0.grownBy W (some b)
theorem qp.lt{w0 W:World}{b n p d:Nat}(h:qp w0 b n p d W):b<w0.heap.size:=by obtain⟨q,_,_,hq⟩:=h.tape;exact hq.lt
theorem qp.start{w:World}{b n p:Nat}(h:kR w b n p):qp w b n p 0 w:=⟨⟨p,zo,zb,.of h⟩,Jq _ _⟩
theorem qp.more{w0 W:World}{b n p d d':Nat}(h:qp w0 b n p d W)(hd:d<=d'):qp w0 b n p d' W:=by
 obtain⟨⟨q,q1,q2,hq⟩,hg⟩:=h;exact⟨⟨q,q1,zb,hq⟩,hg⟩
theorem qp.size{w0 W:World}{b n p d:Nat}(h:qp w0 b n p d W):w0.heap.size<=W.heap.size:=h.gr.size
theorem qp.grown{w0 W W':World}{b n p d:Nat}{row:Option Nat}(h:qp w0 b n p d W)(hg:W.grownBy W' row)(hr:∀j,row=some j->w0.heap.size<=j):qp w0 b n p d W':=by
 have hs:=h.size;have hl:=h.lt;obtain⟨⟨q,q1,q2,hq⟩,h2⟩:=h;have hk:∀k,k<w0.heap.size->W'.heap[k]? =W.heap[k]?:=fun k hk=>hg.block k zb (fun e=>by have:=hr k e.symm;omega);exact⟨⟨q,q1,q2,hq.keep (fun A c t hh=>by rw[hk b hl];exact hh) (fun k hk' _=>hk k hk')⟩,Yz h2 hg fun j e=>Or.inl (hr j e)⟩
theorem qp.below{w0 W W':World}{b n p d:Nat}(h:qp w0 b n p d W)(hb:Below W.heap.size W W'):qp w0 b n p d W':=h.grown (zG hb none) (fun _ e=>Zp)
theorem qp.alloc{w0 W:World}{b n p d:Nat}(h:qp w0 b n p d W)(o:Obj):qp w0 b n p d (W.alloc o):=h.grown (World.grownBy_alloc W o none) (fun _ e=>Zp)
theorem qp.took{w0 W:World}{b n p d q:Nat}(h:w0.grownBy W (some b))(hq:VG W b n q w0.heap.size)(q1:p<=q)(q2:q<=p+d)(k:Nat):qp w0 b n p (d+1) ((W.setCell ⟨b,1,none⟩ (.int .i64 (q+1))).drewN k):=by
 have hblk:∀j,j≠b->((W.setCell ⟨b,1,none⟩ (.int .i64 (q+1))).drewN k).heap[j]? =W.heap[j]?:=fun j hj=>heap_setCell_other _ _ _ _ hj;refine⟨⟨q+1,zb,zb,hq.keep (fun A c t hh=>?_) (fun j hj hne=>hblk j hne)⟩,qQ h (qQ (qu W b 1 _) (YD _ _ _))⟩;show(W.setCell _ _).heap[b]? =_;rw[heap_setCell_same _ _ _ _ _ _ hh];rfl
structure zA(w0:World)(b n p d:Nat)(W W':World):Prop where
 st:qp w0 b n p d W'
 gr:W.grownBy W' (some b)
theorem QL{w0 W:World}{b n p d:Nat}(m:Int)(h:qp w0 b n p d W)(h1:1<=m)(h2:m<=1000000)(h3:p+d<=1000000):
 Calls prog 17 #[.pointer (some ⟨b,0,none⟩),.int .i64 m] W (DA m (zA w0 b n p (d+1) W)):=by
 obtain⟨⟨q,q1,q2,hq⟩,hg⟩:=h;refine(zaZ b n q m W hq.is h1 h2 zb).mono fun e w' ⟨r,r0,r1,he,k,hw⟩=>⟨r,r0,r1,he,?_⟩;subst hw;exact⟨qp.took hg hq q1 q2 k,qQ (qu W b 1 _) (YD _ _ _)⟩
theorem zfF(b n p:Nat)(m:Int)(w:World)(h:kR w b n p)(h1:1<=m)(h2:m<=1000000)(h3:p<=1000000):
 ∃r:Int,0<=r/\r<m/\∀W,Below w.heap.size w W->Calls prog 17 #[.pointer (some ⟨b,0,none⟩),.int .i64 m] W fun e w'=>e=.returned (.int .i64 r)/\∃k,(W.setCell ⟨b,1,none⟩ (.int .i64 (p+1))).drewN k=w':=by
 have hlt:=h.lt;obtain⟨⟨A,c,t,hb,ba,off,hA,hne,hz⟩,hs⟩:=h;have HC:Hid (∀W,Below w.heap.size w W->W.cell? ⟨b,0,none⟩=some (.slice A n c)/\W.cell? ⟨b,1,none⟩=some (.int .i64 p)/\W.frozen? ⟨b,1,none⟩=false):=za fun W hW=>by
  have hb':=(hW.block b hlt).trans hb;exact⟨zd hb' rfl,zd hb' rfl,frozen_of_row _ _ _ _ _ hb'⟩
 clear hb;by_cases hp:p<n
 · obtain rfl:=hA zb;obtain⟨z,hc,z1,z2⟩:=hz p hp;have HZ:Hid (∀W,Below w.heap.size w W->W.cell? ⟨ba,off+p,none⟩=some (.int .i64 z)):=za fun W hW=>by
    rw[hW.cell (p:=⟨ba,off+p,none⟩) (block_lt_of_cell hc)];exact hc
   clear hz hA hc;refine⟨VD z m,(Kg _ _ h1).1,(Kg _ _ h1).2,fun W hW=>?_⟩;obtain⟨c0,c1,f1⟩:=HC.out W hW;have c2:=HZ.out W hW;have HW:=za hW;clear hW;go_enter func17,ntmps17;go_wp2;go_quiet (fail)
   go_wp2;go_quiet (fail)
   go_wp2_with (go_at_call 13;refine(TE _ _ _ zb zb zb).mono ?_;rintro e w' ⟨rfl,rfl⟩)
   go_ret;exact⟨rfl,_,rfl⟩
 · clear hz hA;refine⟨VD (((p:Int)*7).tmod 11) m,(Kg _ _ h1).1,(Kg _ _ h1).2,fun W hW=>?_⟩;obtain⟨c0,c1,f1⟩:=HC.out W hW;have HW:=za hW;clear hW;go_enter func17,ntmps17;go_wp2;go_quiet (fail)
   go_wp2_with (go_at_call 13;refine(TE _ _ _ zb zb zb).mono ?_;rintro e w' ⟨rfl,rfl⟩)
   go_ret;refine⟨?_,_,rfl⟩
   first|rfl|(congr 2;simp;done)|(rw[Int.tmod_eq_emod_of_nonneg zb])
theorem K8{w0 W:World}{b n p d:Nat}(m:Int)(h:qp w0 b n p d W)(h1:1<=m)(h2:m<=1000000)(h3:p+d<=1000000):
 ∃r:Int,0<=r/\r<m/\∀W1,Below W.heap.size W W1->Calls prog 17 #[.pointer (some ⟨b,0,none⟩),.int .i64 m] W1 fun e w'=>e=.returned (.int .i64 r)/\zA w0 b n p (d+1) W1 w':=by
 have h':=h;obtain⟨⟨q,q1,q2,hq⟩,hg⟩:=h;obtain⟨r,r0,r1,hr⟩:=zfF b n q m W hq.is h1 h2 zb;refine⟨r,r0,r1,fun W1 hW=>(hr W1 hW).mono fun e w' ⟨he,k,hw⟩=>⟨he,?_⟩⟩;subst hw;have hq1:VG W1 b n q w0.heap.size:=hq.keep (fun A c t hh=>by rw[hW.block b (zh hh)];exact hh) (fun k hk _=>hW.block k (Nat.lt_of_lt_of_le hk h'.size));exact⟨qp.took (h'.below hW).gr hq1 q1 q2 k,qQ (qu W1 b 1 _) (YD _ _ _)⟩
theorem yP{w0 W:World}{b n p d:Nat}(g off c:Nat)(ss:List ByteArray)(h:qp w0 b n p d W)(h3:p+d<=1000000)(hg:g≠b)(h0:0<ss.length)(h1:ss.length<=1000)
 (hc:∀i s,ss[i]? =some s->W.cell? ⟨g,off+i,none⟩=some (.string s)):
 Calls prog 18 #[.pointer (some ⟨b,0,none⟩),.slice (some ⟨g,off,none⟩) ss.length c] W (Iy (· ∈ss) (zA w0 b n p (d+1) W)):=by
 have HN:=QL (ss.length:Nat) h zb zb h3;have H:=za h;have HC:=za hc;clear h hc;have hne:((ss.length:Int)==0)=false:=by simp;intro e;rw[e]at h0;simp at h0
 have h2:(ss.length:Int)<=1000:=zb;go_enter func18,ntmps18;go_wp2_with fail
 refine HN.mono ?_;rintro e w' ⟨r,r0,r1,rfl,hT⟩;obtain⟨j,rfl⟩:=Int.eq_ofNat_of_zero_le r0;have hj:j<ss.length:=zb;have hcell:w'.cell? ⟨g,off+j,none⟩=some (.string ss[j]):=by
  have h4:=HC.out j ss[j] (List.getElem?_eq_getElem hj);exact hT.gr.cell h4 (fun e=>hg (zx e))
 have HT:=za hT;clear hT;generalize hs:ss[j]=s at hcell;have HS:=za hs;clear hs;go_wp2;go_ret;exact⟨s,by rw[<-HS.out];exact List.getElem_mem _,rfl,HT.out⟩
def MY(m:Nat)(A:Array Value):Bool:=A.toList.all fun
 | .string s=>decide (s.size<=m)
 |_=>false
theorem Rn{m:Nat}:∀{l:List Value},(l.all fun| .string s=>decide (s.size<=m)|_=>false)=true->∃ss:List ByteArray,l=ss.map Value.string/\∀s∈ss,s.size<=m
 | [],_=>⟨[],rfl,fun _ h=>qD⟩
 | v ::r,h=>by
   rw[List.all_cons,Bool.and_eq_true]at h;obtain⟨ss,e,hs⟩:=Rn h.2;cases v with
   | string s=>
     refine⟨s::ss,Gb,fun x hx=>?_⟩;rcases List.mem_cons.1 hx with rfl|hx
     · simpa using h.1
     · exact hs x hx
   |_=>simp at h
theorem Ve{w0 W:World}{b n p d:Nat}(m:Nat)(A:Array Value)(T:TypeId)(g k c:Nat)(h:qp w0 b n p d W)(hA:MY m A=true)(hk:A.size=k)(hk0:0<k)(hk1:k<=1000)(hg:g=W.heap.size)(h3:p+d<=1000000):
 Calls prog 18 #[.pointer (some ⟨b,0,none⟩),.slice (some ⟨g,0,none⟩) k c] (W.alloc (.cells A T)) (Iy (·.size<=m) (zA w0 b n p (d+1) W)):=by
 subst hg;obtain⟨ss,e,hs⟩:=Rn hA;have hl:ss.length=k:=by rw[<-hk,<-Array.length_toList,e,List.length_map]
 subst hl;have hs0:=h.size;have hlt:=h.lt;refine(yP W.heap.size 0 c ss (h.alloc (.cells A T)) h3 zb hk0 hk1 (fun i s hi=>?_)).mono fun e w' ⟨s,h1,he,ht⟩=>⟨s,hs s h1,he,ht.st,qQ (World.grownBy_alloc W _ _) ht.gr⟩;rw[Nat.zero_add,cell_of_row _ _ i _ _ _ (heap_alloc_new W _),<-Array.getElem?_toList,e,List.getElem?_map,hi];rfl
end
section
open Go.RowKit
variable{P:Program}
theorem zaM{o:Oper}{a:Act}{w:World}{K:Act->World->Prop}{Q:Exit->Act->World->Prop}(ty:TypeId)(ho:o.op=.alloc ty)(z:Value)(hz:(zeroValue ty).run P w=.ok z w)
 (h:K (a.put o.dst (.pointer (some ⟨w.heap.size,0,none⟩))) (w.alloc (.cells z.cells ty))):o.wp P a w K Q:=by
 unfold Oper.wp execOp;simp only[ho,Instr.alloc,Sem.run_bind,hz,Result.andThen_ok,newVar];exact h
theorem Gp{ops:Array Oper}{rest:List Oper}{o:Oper}{a:Act}{w:World}{Q:Exit->Act->World->Prop}(hgd:o.guard=none)(ty:TypeId)(ho:o.op=.alloc ty)(z:Value)(hz:(zeroValue ty).run P w=.ok z w)
 (h:wpList P ops Q rest (a.put o.dst (.pointer (some ⟨w.heap.size,0,none⟩))) (w.alloc (.cells z.cells ty))):wpList P ops Q (o::rest) a w:=
 wpList_plain hgd fun _ hK=>zaM ty ho z hz (hK _ _ h)
def ZS:Array Value->Nat->List Value->Array Value
 |c,_,[]=>c
 |c,o,v::r=>ZS (c.setIfInBounds o v) (o+1) r
theorem Ka:∀(vs:List Value) (c:Array Value) (o:Nat),(ZS c o vs).size=c.size
 | [],_,_=>rfl
 |v::r,c,o=>by rw[ZS,Ka r];simp
theorem zhE(w:World)(c:Array Value)(t:TypeId)(o:Nat)(v:Value):(w.alloc (.cells c t)).setCell ⟨w.heap.size,o,none⟩ v=w.alloc (.cells (c.setIfInBounds o v) t):=by
 rw[setCell_eq_setRow _ _ _ c t (0,0) v (heap_alloc_last w _),World.setRow_alloc_new]
theorem ED(w:World)(t:TypeId):∀(vs:List Value) (c:Array Value) (o:Nat),(w.alloc (.cells c t)).setCells w.heap.size o vs=w.alloc (.cells (ZS c o vs) t)
 | [],_,_=>rfl
 | v::r,c,o=>by
   rw[World.setCells,zhE,ED w t r];rfl
theorem ziP(w:World)(c:Array Value)(t:TypeId)(o n:Nat)(h:o+n<=c.size):(w.alloc (.cells c t)).there w.heap.size o n:=fun j hj=>by
 refine⟨?_,frozen_of_row _ _ _ _ _ (heap_alloc_last w _)⟩;rw[cell_of_row _ _ _ _ _ _ (heap_alloc_last w (.cells c t)),Array.getElem?_eq_getElem zb];rfl
theorem He{ops:Array Oper}{rest:List Oper}{op:Oper}{a:Act}{w:World}{Q:Exit->Act->World->Prop}(hgd:op.guard=none)(ty:TypeId)(x y:Operand)(ho:op.op=.store ty x y)
 (c:Array Value)(t:TypeId)(g o:Nat)(cells:Array Value)(hg:w.heap.size=g)(hx:a.eval x=.pointer (some ⟨g,o,none⟩))(hy:a.eval y=.agg cells)
 (hb:o+cells.size<=c.size)(hi:(P.info? ty).map (·.size)=some cells.size)(h1:cells.all (·.oneCell')=true)
 (h:wpList P ops Q rest (a.put op.dst undef) (w.alloc (.cells (ZS c o cells.toList) t))):wpList P ops Q (op::rest) a (w.alloc (.cells c t)):=by
 subst hg;refine wpList_store_mid hgd ty x y ho w.heap.size o cells hx hy (ziP w c t o cells.size hb) hi h1 ?_;rw[ED];exact h
theorem Jh:∀(vs:List Value) (c:Array Value) (o j:Nat),o+vs.length<=c.size->(ZS c o vs)[j]? =if o<=j/\j<o+vs.length then vs[j - o]? else c[j]?
 | [],c,o,j,_=>by rw[ZS,if_neg (fun h=>by simp at h;omega)]
 | v ::r,c,o,j,h=>by
   rw[ZS,Jh r _ (o+1) j (by simp at h⊢;omega)];simp only[List.length_cons]at h⊢;by_cases h1:o+1<=j/\j<o+1+r.length
   · rw[if_pos h1,if_pos zb,show j - o=(j - (o+1))+1 from by omega,List.getElem?_cons_succ]
   · rw[if_neg h1,Array.getElem?_setIfInBounds];by_cases h2:o=j
     · subst h2;rw[if_pos rfl,if_pos zb,if_pos zb,Nat.sub_self];rfl
     · rw[if_neg h2,if_neg zb]
theorem Un(c cells:Array Value)(h:cells.size=c.size):ZS c 0 cells.toList=cells:=by
 apply Array.ext_getElem?;intro j;rw[Jh _ _ _ _ (by simp[h])];by_cases hj:j<cells.size
 · rw[if_pos KT];simp
 · rw[if_neg zH,Array.getElem?_eq_none zb,Array.getElem?_eq_none zb]
theorem Rx{ops:Array Oper}{rest:List Oper}{op:Oper}{a:Act}{w:World}{Q:Exit->Act->World->Prop}(hgd:op.guard=none)(ty:TypeId)(x y:Operand)(ho:op.op=.store ty x y)
 (c:Array Value)(t:TypeId)(g:Nat)(cells:Array Value)(hg:w.heap.size=g)(hx:a.eval x=.pointer (some ⟨g,0,none⟩))(hy:a.eval y=.agg cells)
 (hb:cells.size=c.size)(hi:(P.info? ty).map (·.size)=some cells.size)(h1:cells.all (·.oneCell')=true)
 (h:wpList P ops Q rest (a.put op.dst undef) (w.alloc (.cells cells t))):wpList P ops Q (op::rest) a (w.alloc (.cells c t)):=by
 refine He hgd ty x y ho c t g 0 cells hg hx hy zb hi h1 ?_;rw[Un c cells hb];exact h
theorem zg8{a b c d:Value}(ha:a.oneCell'=true)(hb:b.oneCell'=true)(hc:c.oneCell'=true)(hd:d.oneCell'=true):(#[a,b,c,d]:Array Value).all (·.oneCell')=true:=by simp[ha,hb,hc,hd]
end
section
open Go.RowKit
variable{P:Program}
noncomputable def qB(T:TypeId)(v:Value):Sem Value:=Instr.loadAt T v
noncomputable def Zo(T:TypeId)(v u:Value):Sem Unit:=Instr.storeAt T v u
theorem XS(g off j:Nat):(⟨g,off,none⟩:Addr).add j=⟨g,off+j,none⟩:=T4
theorem Gn{w:World}{T:TypeId}{n g o:Nat}{l:List Value}(hA:∀w,(isAgg T).run P w=.ok true w)(hz:∀w,(Go.sizeOf T).run P w=.ok n w)(hl:l.length=n)(hc:∀j u,l[j]? =some u->w.cell? ⟨g,o+j,none⟩=some u):
 (qB T (.pointer (some ⟨g,o,none⟩))).run P w=.ok (.agg l.toArray) w:=by
 unfold qB;have h:=run_loadCells_list (P:=P) w ⟨g,o,none⟩ l (fun j v hv=>by rw[XS];exact hc j v hv);rw[hl]at h;simp[Instr.loadAt,Instr.sureAddr,loadVar,hA,hz,h]
theorem UU{w:World}{T:TypeId}{n g o:Nat}{cs:Array Value}{t:TypeId}{fr:Nat×Nat}(hA:∀w,(isAgg T).run P w=.ok true w)(hz:∀w,(Go.sizeOf T).run P w=.ok n w)(h:w.heap[g]? =some (.cells cs t fr))(hs:o+n<=cs.size):
 (qB T (.pointer (some ⟨g,o,none⟩))).run P w=.ok (.agg (cs.extract o (o+n))) w:=by
 have h1:=Gn (P:=P) (w:=w) (T:=T) (n:=n) (g:=g) (o:=o) (l:=(cs.extract o (o+n)).toList) hA hz zH (fun j u hu=>by
  rw[cell_of_row _ _ _ _ _ _ h];rw[Array.getElem?_toList,Array.getElem?_extract]at hu
  split at hu
  · exact hu
  · cases hu)
 rw[h1]
theorem KD(g:Nat)(t:TypeId)(fr:Nat×Nat):∀(vs:List Value) (c:Array Value) (o:Nat) (w:World),vs≠[]->w.heap[g]? =some (.cells c t fr)->w.setCells g o vs=w.setRow g (ZS c o vs)
 | [],_,_,_,h,_=>absurd rfl h
 | [v],c,o,w,_,h=>by
   rw[World.setCells,World.setCells,setCell_eq_setRow _ _ _ _ _ _ _ h];rfl
 | v::u::r,c,o,w,_,h=>by
   rw[World.setCells,setCell_eq_setRow _ _ _ _ _ _ _ h,KD g t fr (u::r) (c.setIfInBounds o v) (o+1) _ zl (setRow_heap _ _ _ _ _ _ h),setRow_setRow];rfl
theorem XC{w:World}{T:TypeId}{g o:Nat}{cs vs:Array Value}{t:TypeId}(h:w.heap[g]? =some (.cells cs t (0,0)))(hs:o+vs.size<=cs.size)(h0:0<vs.size)(hi:(P.info? T).map (·.size)=some vs.size)(h1:vs.all (·.oneCell')=true):
 (Zo T (.pointer (some ⟨g,o,none⟩)) (.agg vs)).run P w=.ok () (w.setRow g (ZS cs o vs.toList)):=by
 unfold Zo;have ht:w.there g o vs.size:=fun j hj=>⟨by rw[cell_of_row _ _ _ _ _ _ h,Array.getElem?_eq_getElem zb];rfl,frozen_of_row _ _ _ _ _ h⟩;rw[run_storeAt_mid w g o T vs ht hi h1,KD g t (0,0) vs.toList cs o w (by intro e;rw[Array.toList_eq_nil_iff]at e;rw[e]at h0;simp at h0) h]
noncomputable def Xt(t:TypeId)(n:Nat)(parts:Array (Nat×Value)):Sem Value:=Instr.buildSlice t n parts
theorem Ab:∀(l:List Value) (k:Nat) (c:Array Value),(l.zipIdx k).foldl (fun acc x=>acc.setIfInBounds (0+x.2) x.1) c=ZS c k l
 | [],_,_=>rfl
 | v::r,k,c=>by
   rw[List.zipIdx_cons,List.foldl_cons,ZS];show List.foldl _ (c.setIfInBounds (0+k) v) _=_;rw[Nat.zero_add];exact Ab r (k+1) _
theorem zjo(cs cells:Array Value)(n:Nat)(h1:cs.size=n)(h2:cells.size=n):Instr.fill (fun i=>some (i*n,n)) cells [(0,.agg cs)]=some cs:=by
 have e:(Value.agg cs).cells=cs:=rfl;simp only[Instr.fill,e,Nat.zero_mul];rw[if_neg IX]
 congr 1
 rw[<-Array.foldl_toList,Array.toList_zipIdx];have:=Ab cs.toList 0 cells;exact Ci
theorem kE{t e:TypeId}{z:Value}{k b:Nat}(hu:P.underlying t=some (.slice e))(hi:(P.info? e).map (fun i=>(i.zero,i.size,i.bytes))=some (some z,k,b))(hk:0<k)(hk2:k<=1000)(cs:Array Value)(hs:cs.size=k)(w:World):
 (Xt t 1 #[(0,.agg cs)]).run P w=.ok (.slice (some ⟨w.heap.size,0,none⟩) 1 1) (w.alloc (.cells cs e)):=by
 obtain⟨i0,hi0,hz0,hz1,hz2⟩:=info_parts hi;unfold Xt;refine run_buildSlice w _ _ 1 _ cs i0 z hu hi0 hz0 Gl Gl ?_;rw[hz1];exact zjo cs _ k hs zl
noncomputable def Z2(ts:Array TypeId)(ty:TypeId)(args:Array Value):Sem Value:=Builtin.append_ ts ty args
theorem Z9(ts:Array TypeId)(ty:TypeId)(args:Array Value):Builtin.append_ ts ty args=Z2 ts ty args:=rfl
attribute [irreducible] qB Zo Xt Z2
theorem Qs{P:Program}{fn:Func}{R:Ending->World->Prop}{a:Act}{W:World}{g:Nat}{p q:Tmp}{ty t:TypeId}{cs:Array Value}{u:Value}{fr:Nat×Nat}{d:TypeDesc}(h:fn.results=#[.cell p ty,.tmp q])(hp:a.tmps.getD p undef=.pointer (some ⟨g,0,none⟩))(hq:a.tmps.getD q undef=u)
 (hg:W.heap[g]? =some (.cells cs t fr))(hu:P.underlying ty=some d)(hd:(match d with| .struct _| .array _ _=>true|_=>false)=true)(hi:(P.info? ty).map (·.size)=some cs.size)(hdef:a.defers=[])
 (hR:R (.returned (.tuple #[.agg cs,u])) W):bodyPost P fn R .ret a W:=by
 exact vN
theorem UK{P:Program}{fn:Func}{R:Ending->World->Prop}{a:Act}{W:World}{g:Nat}{p:Tmp}{ty t:TypeId}{cs:Array Value}{fr:Nat×Nat}{d:TypeDesc}(h:fn.results=#[.cell p ty])(hp:a.tmps.getD p undef=.pointer (some ⟨g,0,none⟩))
 (hg:W.heap[g]? =some (.cells cs t fr))(hu:P.underlying ty=some d)(hd:(match d with| .struct _| .array _ _=>true|_=>false)=true)(hi:(P.info? ty).map (·.size)=some cs.size)(hdef:a.defers=[])
 (hR:R (.returned (.agg cs)) W):bodyPost P fn R .ret a W:=
 bodyPost_ret (results_cell_row h _ _ g t cs fr d hp hg hu hd hi) hdef hR
structure zD(w:World)(A:Option Addr)(k n:Nat)(xs:List Value):Prop where
 row:zr w w.heap.size A k n xs
 pl:∀a,A=some a->a=⟨a.block,a.off,none⟩/\a.block<w.heap.size
theorem zD.keep{w w':World}{A:Option Addr}{k n:Nat}{xs:List Value}(h:zD w A k n xs)(hb:Below w.heap.size w w'):zD w' A k n xs:=
 ⟨(h.row.keep hb).up hb.size,fun a e=>⟨(h.pl a e).1,Nat.lt_of_lt_of_le (h.pl a e).2 hb.size⟩⟩
theorem zD.grown{w w':World}{A:Option Addr}{k n:Nat}{xs:List Value}{row:Option Nat}(h:zD w A k n xs)(hg:w.grownBy w' row)(hr:∀a,A=some a->some a.block≠row):zD w' A k n xs:=
 ⟨(h.row.grown zo hg (fun _ a e=>hr a e)).up hg.size,fun a e=>⟨(h.pl a e).1,Nat.lt_of_lt_of_le (h.pl a e).2 hg.size⟩⟩
theorem zD.ownf{w w':World}{A:Option Addr}{k n:Nat}{xs:List Value}{row:Option Nat}(h:zD w A k n xs)(hg:w.grownBy w' row)(hr:∀r,row=some r->∃o:Obj,w.heap[r]? =some o/\o.isCells=false):zD w' A k n xs:=
 ⟨⟨h.row.len,fun hn=>by
   obtain⟨ba,off,e,hb,hc⟩:=h.row.at_ hn;exact⟨ba,off,e,Nat.lt_of_lt_of_le hb hg.size,fun j u hu=>cell_kept (hc j u hu) hg hr⟩⟩,fun a e=>⟨(h.pl a e).1,Nat.lt_of_lt_of_le (h.pl a e).2 hg.size⟩⟩
theorem Y2{W W':World}{base kk n:Nat}{T:TypeId}{v:Value}{xs:List Value}{row:Option Nat}(h:W.ownsRow base T kk v n xs)(hg:W.grownBy W' row)(ha:∀g,row=some g->v.ownBlock≠some g):W'.ownsRow base T kk v n xs:=
 h.kept hg (by
  cases hv:v.ownBlock with
  |none=>exact Or.inl rfl
  |some g=>right;intro e;exact ha g e.symm hv)
theorem PP{W:World}{base kk n:Nat}{T:TypeId}{v:Value}{xs:List Value}(h:W.ownsRow base T kk v n xs){g:Nat}(hv:v.ownBlock=some g):∃o:Obj,W.heap[g]? =some o/\o.isCells=true:=by
 rcases h.2 with⟨rfl,_⟩|⟨g',cap,cur,rfl,_,hg,_⟩
 · cases hv
 · obtain rfl:=zx hv;exact⟨_,hg,rfl⟩
theorem zD.nil{w:World}{k:Nat}:zD w none k 0 []:=⟨⟨zl,fun h=>absurd h (Nat.lt_irrefl 0)⟩,fun a e=>Zp⟩
def Zc(B:Nat)(A:Option Addr):Prop:=∀a,A=some a->B<=a.block
theorem zD.of_own{w:World}{base k n:Nat}{e:TypeId}{A:Option Addr}{c:Nat}{xs:List Value}(h:w.ownsRow base e k (.slice A n c) n xs):zD w A k n xs/\Zc base A:=by
 refine⟨⟨zr.of_own h,fun a ea=>?_⟩,fun a ea=>?_⟩
 · subst ea;rcases h.2 with⟨h1,_⟩|⟨g,cap,cur,h1,_,h3,_⟩
   · cases h1
   · injection h1 with h1
     obtain rfl:=zx h1;exact⟨rfl,(Array.getElem?_eq_some_iff.1 h3).1⟩
 · exact(h.lt a.block (by rw[ea];rfl)).1
structure zB{β:Type}(k:Nat)(enc:β->List Value)(w:World)(y:Ls β):Prop where
 row:zD w y.A k y.l.length (cellsOf enc y.l)
 cap:y.l.length<=y.c
 big:y.c<=maxLen
 nil:y.A=none->y.c=0
theorem zB.keep{β:Type}{k:Nat}{enc:β->List Value}{w w':World}{y:Ls β}(h:zB k enc w y)(hb:Below w.heap.size w w'):zB k enc w' y:=⟨h.row.keep hb,h.cap,h.big,h.nil⟩
theorem zB.grown{β:Type}{k:Nat}{enc:β->List Value}{w w':World}{y:Ls β}{row:Option Nat}(h:zB k enc w y)(hg:w.grownBy w' row)(hr:∀a,y.A=some a->some a.block≠row):zB k enc w' y:=⟨h.row.grown hg hr,h.cap,h.big,h.nil⟩
theorem zB.of_own{β:Type}{k:Nat}{enc:β->List Value}{w:World}{base:Nat}{T:TypeId}{A:Option Addr}{c:Nat}{l:List β}(h:w.ownsRow base T k (.slice A l.length c) l.length (cellsOf enc l)):zB k enc w ⟨A,c,l⟩/\Zc base A:=by
 refine⟨⟨(zD.of_own h).1,?_,?_,?_⟩,(zD.of_own h).2⟩
 · rcases h.2 with⟨_,h2⟩|⟨g,cap,cur,h1,_,_,h4,_⟩
   · show l.length<=c;omega
   · injection h1 with _ _ h1;show l.length<=c;omega
 · rcases h.2 with⟨h1,_⟩|⟨g,cap,cur,h1,_,_,h4,h5,_⟩
   · injection h1 with _ _ h1;show c<=maxLen;unfold maxLen;omega
   · injection h1 with _ _ h1;show c<=maxLen;omega
 · intro e;rcases h.2 with⟨h1,_⟩|⟨g,cap,cur,h1,_⟩
   · injection h1
   · injection h1 with h1;rw[show A=none from e]at h1;cases h1
theorem zB.empty{β:Type}{k:Nat}{enc:β->List Value}{w:World}:zB k enc w ⟨none,0,[]⟩:=⟨zD.nil,zo,by unfold maxLen;show(0:Nat)<=_;omega,fun _=>rfl⟩
theorem zr.tail{w:World}{B k n ba off:Nat}{xs:List Value}(h:zr w B (some ⟨ba,off,none⟩) k n xs){m:Nat}(hm:m<=n):zr w B (some ⟨ba,off+m*k,none⟩) k (n - m) (xs.drop (m*k)):=by
 refine⟨by rw[List.length_drop,h.len,Nat.sub_mul],fun hn=>?_⟩;obtain⟨b2,o2,e,hB,hc⟩:=h.at_ zb;injection e with e
 injection e with e1 e2
 subst e1 e2;refine⟨ba,off+m*k,rfl,hB,fun j u hu=>?_⟩;rw[List.getElem?_drop]at hu;rw[Nat.add_assoc];exact hc _ u hu
theorem D1{β:Type}(enc:β->List Value)(k:Nat)(hk:∀x,(enc x).length=k):∀(l:List β) (m:Nat),(cellsOf enc l).drop (m*k)=cellsOf enc (l.drop m)
 | [],m=>Xv
 |x::l,0=>zl
 | x::l,m+1=>by
   have e:cellsOf enc (x::l)=enc x++cellsOf enc l:=Xv;rw[e,List.drop_succ_cons,<-D1 enc k hk l m,List.drop_append,hk,List.drop_of_length_le Th,show(m+1)*k - k=m*k from by rw[Nat.add_mul];omega];rfl
end
section
open Go.RowKit
theorem zI(W:World)(o:Obj):Below W.heap.size W (W.alloc o):=zk.alloc zo _
theorem zc3(c b:UInt8)(l:ze):[c].isPrefixOf (b::l)=(b==c):=by
 simp only[List.isPrefixOf,Bool.and_true];rw[Bool.eq_iff_iff];simp;exact eq_comm
theorem zcS(c b:UInt8)(l:ze):Lib.index (b::l) [c]=if b==c then 0 else if Lib.index l [c]== -1 then -1 else Lib.index l [c]+1:=by
 rw[Lib.index,zc3]
theorem kV(w:World)(o1 o2 o3:Obj):(((w.alloc o1).alloc o2).alloc o3).heap.size=w.heap.size+3/\(((w.alloc o1).alloc o2).alloc o3).heap[w.heap.size]? =some o1 /\
 (((w.alloc o1).alloc o2).alloc o3).heap[w.heap.size+1]? =some o2/\(((w.alloc o1).alloc o2).alloc o3).heap[w.heap.size+2]? =some o3/\Below w.heap.size w (((w.alloc o1).alloc o2).alloc o3):=by
 have hn:∀(W:World) (o:Obj) (k:Nat),k=W.heap.size->(W.alloc o).heap[k]? =some o:=fun W o k e=>by rw[e];exact heap_alloc_last W o
 have hs:∀(W:World) (o:Obj),(W.alloc o).heap.size=W.heap.size+1:=fun W o=>zl;have ho:∀(W:World) (o:Obj) (k:Nat),k<W.heap.size->(W.alloc o).heap[k]? =W.heap[k]?:=fun W o k h=>Below.heap_alloc W o k h;refine⟨KS,?_,?_,hn _ _ _ KS,((zk.alloc zo _).alloc Yr _).alloc Yr _⟩
 · rw[ho _ _ _ Yr,ho _ _ _ Yr];exact hn _ _ _ rfl
 · exact FD
theorem zr.more{w:World}{B B' k n:Nat}{A:Option Addr}{xs:List Value}(h:zr w B A k n xs)(hB:B<=B'):zr w B' A k n xs:=
 ⟨h.len,fun hn=>by
  obtain⟨ba,off,e,h1,hc⟩:=h.at_ hn;exact⟨ba,off,e,Nat.lt_of_lt_of_le h1 hB,hc⟩⟩
theorem Z3{W:World}{b:Nat}{e:TypeId}{sz:Nat}{v:Value}{n:Nat}{xs:List Value}(h:W.ownsRow b e sz v n xs):∃A c,v=.slice A n c:=by
 rcases h.2 with⟨h1,h2⟩|⟨g',cap,cur,h1,_⟩
 · exact TC
 · exact⟨_,_,h1⟩
end
section
def Yw{α:Type}(q:α->Bool)(l:List α):Int:=match l.findIdx? q with
 |some k=>k
 |none=> -1
theorem Od{α:Type}{q:α->Bool}{l:List α}{k:Nat}(hno:∀j (h:j<l.length),j<k->q l[j]=false)(hk:k<l.length)(h:q l[k]=true):Yw q l=k:=by
 unfold Yw;have:l.findIdx? q=some k:=by
  rw[List.findIdx?_eq_some_iff_getElem];exact⟨hk,h,fun j hj=>by simpa using hno j zb hj⟩
 rw[this]
theorem Nt{α:Type}{q:α->Bool}{l:List α}(hno:∀j (h:j<l.length),q l[j]=false):Yw q l= -1:=by
 unfold Yw;have:l.findIdx? q=none:=by
  rw[List.findIdx?_eq_none_iff];intro t ht;obtain⟨j,hj,rfl⟩:=List.getElem_of_mem ht;exact hno j hj
 rw[this]
end
section
open Go.RowKit
variable{P:Program}{w:World}
theorem yY(base:Nat)(t ty e:TypeId)(i:TypeInfo)(size:Nat)(ht:P.underlying t=some (.slice e))(hi:P.info? e=some i)
 (v:Value)(n:Nat)(xs:List Value)(hown:w.ownsRow base e size v n xs)(A:Option Addr)(c:Nat):
 (Builtin.append_ #[t,t] ty #[v,.slice A 0 c]).run P w=.ok v w:=by
 cases A with
 | none=>
   rcases hown.2 with⟨rfl,rfl⟩|⟨g,cap,cur,rfl,_,_,hnc,_⟩
   · simp[Builtin.append_,run_underlying ht,sizeOf,typeInfo,hi,Builtin.lenOf,Builtin.firstCells]
   · simp[Builtin.append_,run_underlying ht,sizeOf,typeInfo,hi,Builtin.lenOf,Builtin.firstCells,hnc,storeCells]
 | some a=>
   rcases hown.2 with⟨rfl,rfl⟩|⟨g,cap,cur,rfl,_,_,hnc,_⟩
   · simp[Builtin.append_,run_underlying ht,sizeOf,typeInfo,hi,Builtin.lenOf,Builtin.firstCells,loadCells,loadCellsFrom]
   · simp[Builtin.append_,run_underlying ht,sizeOf,typeInfo,hi,Builtin.lenOf,Builtin.firstCells,hnc,storeCells,loadCells,loadCellsFrom]
theorem jd(g off j:Nat):(⟨g,off,none⟩:Addr).add j=⟨g,off+j,none⟩:=T4
theorem EZ{o:Oper}{a:Act}{K:Act->World->Prop}{Q:Exit->Act->World->Prop}(s x:Operand)(t:TypeId)
 (ho:o.op=.call {callee:=.builtin .append,args:=#[s,x],argTypes:=#[t,t]})
 (base:Nat)(e:TypeId)(i:TypeInfo)(z:Value)(size bytes:Nat)(ht:P.underlying t=some (.slice e))(hi:P.info? e=some i)(hz:i.zero=some z)
 (hsize:i.size=size)(hby:i.bytes=bytes)(hzs:z.cells.size=size)(hsz:0<size)
 (v:Value)(n:Nat)(xs:List Value)(hs:a.eval s=v)(hown:w.ownsRow base e size v n xs)
 (A:Option Addr)(m c B:Nat)(news:List Value)(hx:a.eval x=.slice A m c)(hrow:zr w B A size m news)(h1:∀u∈news,u.oneCell'=true)
 (h63:n+m<=maxLen)(hbytes:(n+m)*bytes<=140737488355328)(hbase:base<=w.heap.size)
 (h:∀v' w',w'.ownsRow base e size v' (n+m) (xs++news)->w.grownBy w' v.ownBlock->(v'.ownBlock=v.ownBlock∨v'.ownBlock=some w.heap.size)->(0<m->v'≠.slice none 0 0)->K (a.put o.dst v') w'):o.wp P a w K Q:=by
 rcases Nat.eq_zero_or_pos m with rfl|hm
 · have hn:news=[]:=by have:=hrow.len;simpa using this
   subst hn;have hrun:=yY (P:=P) (w:=w) base t o.type e i size ht hi v n xs hown A c;unfold Oper.wp;simp only[execOp,ho,resolve,invoke,builtin];simp[hs,hx,hrun,Result.andThen];exact h v w (by simpa using hown) ⟨rfl,rfl,rfl,zo,fun _ _ _=>rfl⟩ (Or.inl rfl) (fun h=>absurd h zb)
 · obtain⟨ba,off,rfl,hB,hc⟩:=hrow.at_ hm;refine wp_append_lies w s x t ho base e i z size bytes ht hi hz hsize hby hzs hsz v n xs hs hown ⟨ba,off,none⟩ m c news hx hrow.len (fun j u hu=>by rw[jd];exact hc j u hu) h1 hm h63 hbytes hbase w.heap.size rfl fun g cap w' h2 h3 h4 h5=>?_;refine h _ w' h2 h3 ?_ (fun _ e=>Zp);rcases h4 with h4|h4
   · exact Or.inl h4.symm
   · exact Or.inr (by rw[h4];rfl)
theorem ON{ops:Array Oper}{rest:List Oper}{o:Oper}{a:Act}{Q:Exit->Act->World->Prop}(hgd:o.guard=none)(s x:Operand)(t:TypeId)
 (ho:o.op=.call {callee:=.builtin .append,args:=#[s,x],argTypes:=#[t,t]})
 (base:Nat)(e:TypeId)(i:TypeInfo)(z:Value)(size bytes:Nat)(ht:P.underlying t=some (.slice e))(hi:P.info? e=some i)(hz:i.zero=some z)
 (hsize:i.size=size)(hby:i.bytes=bytes)(hzs:z.cells.size=size)(hsz:0<size)
 (v:Value)(n:Nat)(xs:List Value)(hs:a.eval s=v)(hown:w.ownsRow base e size v n xs)
 (A:Option Addr)(m c B:Nat)(news:List Value)(hx:a.eval x=.slice A m c)(hrow:zr w B A size m news)(h1:∀u∈news,u.oneCell'=true)
 (h63:n+m<=maxLen)(hbytes:(n+m)*bytes<=140737488355328)(hbase:base<=w.heap.size)
 (h:∀v' w',w'.ownsRow base e size v' (n+m) (xs++news)->w.grownBy w' v.ownBlock->(v'.ownBlock=v.ownBlock∨v'.ownBlock=some w.heap.size)->(0<m->v'≠.slice none 0 0)->wpList P ops Q rest (a.put o.dst v') w'):wpList P ops Q (o::rest) a w:=
 wpList_plain hgd fun _ hK=>EZ s x t ho base e i z size bytes ht hi hz hsize hby hzs hsz v n xs hs hown A m c B news hx hrow h1 h63 hbytes hbase fun v' w' h2 h3 h4 h5=>hK _ _ (h v' w' h2 h3 h4 h5)
theorem zfs{ops:Array Oper}{o:Oper}{a:Act}{K:Act->World->Prop}{Q:Exit->Act->World->Prop}{E:Prop}(hgd:o.guard=none)(s x:Operand)(t:TypeId)
 (ho:o.op=.call {callee:=.builtin .append,args:=#[s,x],argTypes:=#[t,t]})
 (base:Nat)(e:TypeId)(i:TypeInfo)(z:Value)(size bytes:Nat)(ht:P.underlying t=some (.slice e))(hi:P.info? e=some i)(hz:i.zero=some z)
 (hsize:i.size=size)(hby:i.bytes=bytes)(hzs:z.cells.size=size)(hsz:0<size)
 (v:Value)(n:Nat)(xs:List Value)(hs:a.eval s=v)(hown:w.ownsRow base e size v n xs)
 (A:Option Addr)(m c B:Nat)(news:List Value)(hx:a.eval x=.slice A m c)(hrow:zr w B A size m news)(h1:∀u∈news,u.oneCell'=true)
 (h63:n+m<=maxLen)(hbytes:(n+m)*bytes<=140737488355328)(hbase:base<=w.heap.size)
 (h:∀v' w',w'.ownsRow base e size v' (n+m) (xs++news)->w.grownBy w' v.ownBlock->(v'.ownBlock=v.ownBlock∨v'.ownBlock=some w.heap.size)->(0<m->v'≠.slice none 0 0)->K (a.put o.dst v') w'):
 if Region.wanted o (yielded ops a.tmps)=true then Oper.wp P o a w K Q else E:=by
 have hw:Region.wanted o (yielded ops a.tmps)=true:=by simp[Region.wanted,hgd]
 rw[if_pos hw];exact EZ s x t ho base e i z size bytes ht hi hz hsize hby hzs hsz v n xs hs hown A m c B news hx hrow h1 h63 hbytes hbase h
end
section
open Go.RowKit
theorem K0(s p:ByteArray)(w:World):
 Calls prog 105 #[.string s,.string p] w fun e w'=>e=.returned (.bool (Lib.hasPrefix (L s) (L p)))/\w=w':=
 (strings_HasPrefix s p w).mono fun _e _w' ⟨h1,h2⟩=>⟨h1,h2.symm⟩
end
section
open Go.RowKit
theorem jT(c:UInt8)(s:ze):(Lib.index s [c]= -1/\c∉s)∨∃(a r:ze),s=a++c::r/\c∉a/\Lib.index s [c]=a.length:=by
 induction s with
 |nil=>left;exact⟨rfl,zl⟩
 | cons b l ih=>
   have e:Lib.index (b::l) [c]=if b==c then 0 else if Lib.index l [c]== -1 then -1 else Lib.index l [c]+1:=by
    rw[Lib.index];have:[c].isPrefixOf (b::l)=(b==c):=by
     simp only[List.isPrefixOf,Bool.and_true];rw[Bool.eq_iff_iff];simp;exact eq_comm
    rw[this]
   rw[e];by_cases hb:b=c
   · subst hb;right;exact⟨[],l,rfl,zl,zl⟩
   · have hbc:(b==c)=false:=by simpa using hb
     rw[hbc];rcases ih with⟨h1,h2⟩|⟨a,r,h1,h2,h3⟩
     · left;rw[h1];exact⟨zl,Hv⟩
     · right;refine⟨b::a,r,by rw[h1];rfl,Hv,?_⟩;have:(Lib.index l [c]== -1)=false:=by rw[h3];simp
       rw[this,h3];simp
theorem RT(c:UInt8)(new s:ze)(h:c∉s):(s.flatMap fun b=>if b=c then new else [b])=s:=by
 induction s with
 |nil=>rfl
 | cons b l ih=>
   rw[List.flatMap_cons,ih (fun h'=>h (by simp[h'])),if_neg (fun e=>h (by simp[e]))];rfl
theorem zir(c:UInt8)(new:ze):∀(k:Nat) (s:ze),Lib.count s [c]<=k->Lib.replaceK [c] new k s=s.flatMap fun b=>if b=c then new else [b]:=by
 intro k;induction k with
 | zero=>
   intro s h;rcases jT c s with⟨_,h2⟩|⟨a,r,h1,_,h3⟩
   · rw[RT c new s h2];rfl
   · rw[Lib.count_hit zl h3]at h;omega
 | succ k ih=>
   intro s h;rcases jT c s with⟨h1,h2⟩|⟨a,r,h1,h2,h3⟩
   · rw[RT c new s h2,Lib.replaceK,h1];rfl
   · have hd:s.drop (a.length+1)=r:=by rw[h1];simp
     rw[Lib.count_hit zl h3]at h;rw[Lib.replaceK_hit _ _ _ _ _ h3];simp only[List.length_singleton]at h⊢;rw[hd]at h⊢;rw[ih r zb,h1];rw[List.flatMap_append,List.flatMap_cons,if_pos rfl,RT c new a h2];simp
theorem Ts(s:ze)(c:UInt8)(new:ze)(h:new≠[c]):Lib.replaceAll s [c] new=s.flatMap fun b=>if b=c then new else [b]:=by
 unfold Lib.replaceAll Lib.replace;have hn:([c]==new)=false:=by
  rw[beq_eq_false_iff_ne];exact fun e=>h e.symm
 rw[hn];exact zir c new _ s (by unfold Lib.replaceNum;rw[if_pos (Or.inl zb)];exact zo)
theorem zbl(c:UInt8)(d:ze)(hd:d.length<=2)(s:ze):(s.flatMap fun b=>if b=c then d else [b]).length<=2*s.length:=by
 induction s with
 |nil=>simp
 | cons b s ih=>
   rw[List.flatMap_cons,List.length_append,List.length_cons]
   split
   · omega
   · rw[List.length_singleton];omega
end
end Go.Proofs.YtecbmndgpepkcaaGreatDoor
