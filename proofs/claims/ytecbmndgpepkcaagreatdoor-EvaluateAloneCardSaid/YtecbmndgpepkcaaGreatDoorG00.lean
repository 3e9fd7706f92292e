/- Contracts that the law rests on, each under the premises that it names. -/
import Derived.WalkKit
import Derived.WalkSpells
import Derived.WalkLawsBesides
import Derived.Handy
import Derived.LoopTactic
import Derived.Lib.Hide
import Derived.Deep.QuietTactic
import Derived.BigQuiet
import Derived.Deep.LoopGhost
import Derived.Deep.DeepFit
import Derived.Deep.RegionWith
import Derived.Deep.AppendLies
import Derived.StillTailTactics
import Derived.Deep.RegionHeld3
import Derived.Lib.Strings
import Derived.Laws.Rows
import Derived.Test.YtecbmndgpepkcaaGreatDoorProg
import Derived.Deep.WholeRow
import Derived.Laws.OwnMore
import Derived.Deep.MidRow
import Derived.Laws.EntriesVeiled
import Derived.Shelf.SlicesQ.Load
import Derived.Great.BuildSlice
import Derived.RangeFuncKeeps
import Derived.RangeFuncFrom
import Derived.Lib.Replace
import Derived.Laws.AppendOwnNone
import Derived.Test.YtecbmndgpepkcaaGreatDoorShelf
import Derived.Lib.SplitLaws
import Derived.Lib.CountLaws
namespace Go.Proofs.YtecbmndgpepkcaaGreatDoor
open Tryz
abbrev i3:=@Nat.le_trans
abbrev i4:=@Nat.lt_of_lt_of_le
abbrev i5:=@heap_alloc_new
abbrev i6:=@List.setIfInBounds_toArray
abbrev i7:=@List.set_cons_zero
abbrev i8:=@List.set_cons_succ
abbrev l0:=@List.getElem?_eq_getElem
abbrev r7:=@List.length_append
abbrev u0:=@List.length_cons
abbrev W7:=@List.length_map
abbrev W8:=@List.length_drop
abbrev W9:=@List.length_take
abbrev X1:=@Nat.zero_le
abbrev X2:=@Nat.le_succ
abbrev X3:=@Nat.le_of_lt
abbrev X4:=@List.mem_cons_self
abbrev X6:=@List.mem_cons_of_mem
abbrev X7:=@List.mem_of_getElem?
abbrev X8:=@List.getElem_mem
abbrev zd0:=@Nat.lt_irrefl
abbrev zd1:=@Nat.le_add_right
abbrev zd2:=@Nat.lt_succ_self
abbrev zd3:=@Bool.false_eq_true
abbrev zd4:=@List.getElem?_map
abbrev zd5:=@List.getElem?_drop
abbrev zd6:=@Option.map_some
abbrev zd7:=@List.drop_eq_getElem_cons
abbrev zd8:=@List.mem_map_of_mem
abbrev zd9:=@List.getElem?_append_left
abbrev ze3:=@List.getElem?_append_right
abbrev zj2:=@Nat.sub_self
abbrev zk2:=@Nat.mul_one
abbrev zk3:=@Nat.add_zero
abbrev zk4:=@Nat.zero_add
abbrev zk5:=@Nat.add_assoc
abbrev zk6:=@Nat.add_comm
abbrev zk7:=@List.append_nil
abbrev zk8:=@List.nil_append
abbrev zk9:=@List.append_assoc
abbrev zl0:=@decide_eq_false
abbrev zl1:=@decide_eq_true
abbrev zl2:=@List.foldl_cons
abbrev zl3:=@List.map_cons
abbrev zl4:=@List.drop_zero
abbrev zl5:=@List.getElem?_toArray
abbrev zl6:=@List.getElem?_cons_succ
abbrev zl7:=@List.getElem?_cons_zero
abbrev zl8:=@List.drop_drop
abbrev zl9:=@List.drop_append
abbrev zm0:=@List.find?_cons_of_neg
abbrev zm1:=@List.find?_cons_of_pos
abbrev zm2:=@Array.getElem?_toList
abbrev zm3:=@Bool.and_eq_true
abbrev zm4:=@beq_iff_eq
theorem za {p:Prop}(h:p):RowKit.Hid p:=h
set_option maxHeartbeats 8000000
set_option maxRecDepth 100000
section
variable{p:Prop}
theorem Ns(h:p:=by
  go_wp2_with (first
   |(go_at_call 48;refine(HIt.out nb z5 z6 _ (bt HB04.out HBg.out)).mono ?_;rintro e wi ⟨rfl,hbi⟩;have H6i:=za (H6.out.keep hbi);have HBh:=za (bt HBg.out hbi);(have hiz:=zfM nb (by omega) (by omega));obtain⟨u0,u1,u2,u3,u4,u5,u6,u7,u8,u9⟩:=HQ.out _ (bt HBg.out hbi);clear hbi)
   |(go_at_call 27;(with_reducible refine(KZ H7.out (by decide) _ _ (by decide) (by omega)).mono ?_);rintro e wz ⟨X8,x8,m8,rfl,h8,hb⟩;have H8:=za h8;clear h8 hb)
   |(go_at_call 27;(with_reducible refine(KZ H6i.out (by decide) _ _ (by decide) hiz).mono ?_);rintro e wy ⟨X7,x7,m7,rfl,h7,hb⟩;have H7:=za h7;obtain⟨v0,v1,v2,v3,v4,v5,v6,v7,v8,v9⟩:=HQ.out _ (bt HBh.out hb);clear h7 hb)
   |(go_at_call 27;(with_reducible refine(KZ H5.out (by decide) _ _ (by decide) (by omega)).mono ?_);rintro e wg ⟨X6,x6,m6,rfl,h6,hb⟩;have H6:=za h6;have HBg:=za (bt HBf.out hb);obtain⟨g0,g1,g2,g3,g4,g5,g6,g7,g8,g9⟩:=HQ.out _ (bt HBf.out hb);clear h6 hb))
  go_ret
  first
   |exact⟨_,_,m8,rfl,H8.out⟩
   |exact⟨_,_,m7,rfl,H7.out.more (by decide)⟩
   |exact⟨_,_,m6,rfl,H6.out.more (by decide)⟩
   |exact⟨_,_,m4,rfl,H5.out.more (by decide)⟩):p:=h
theorem U1(h:p:=by
  have hk':=hk;have hbf:Below W4.heap.size W4 w0:=((hbr.out.trans (hb5.mono hwB4)).drew).trans (hb0.mono (by have:=hb5.size;simp;omega));go_wp2;go_roundg (gk - 1)
  case measure=>omega
  case rel=>exact⟨k+1,by omega,by go_num,by rw[HSn.out],hbf⟩):p:=h
theorem Po(h:p:=by
  have HPut:=za (fun(W:World) (hW:Below wr.heap.size wr W)=>P7 yk.links.A yk.links.c yk.links.l t 16 W (qi hEk.rows.lk hW) (by have:=HOkk.out.2;omega) (by omega) (i3 hgB hW.size) HOkk.out.1);clear hcl HFin hEk;go_wp2_with (first
   |(go_at_call 217;refine HCl2.out.mono ?_;rintro e w3 ⟨rfl,hb3⟩;have HB3:=za hb3;have q3:=(ZV (HEk.out.below hb3).box).2.2.1;have f3:=qe (HEk.out.below hb3).box 2;clear hb3)
   |(go_at_call 173;refine(HPut.out _ HB3.out).mono ?_;rintro e w5 hI;obtain⟨A5,c5,rfl,q5,f5,hP⟩:=Qr.edLinks (HEk.out.below HB3.out) hI;have HP:=za hP;clear hP hI q3 f3))
  go_roundg (gk - 1)
  case measure=>omega
  case rel=>exact⟨k+1,_,by go_num,by omega,by omega,za (HF2.out _ _ _ _ HB3.out HP.out)⟩):p:=h
theorem qA(h:p:=by
  intro w hSw
  go_simp
  try with_reducible rfl):p:=h
theorem jn(h:p:=by
  have HK:=za HK0;have HT:=za HT0;have HG:=za HG0;clear HK0 HT0 HG0;generalize hN:y.props.l.length=N at*;have HN:=za hN;clear hN;go_enter func159,ntmps159;go_wp2_with (first|(go_at_call 33;refine HG.out.mono ?_;rintro e w2 ⟨rfl,hb2⟩;have HB2:=za hb2;clear hb2)|(go_at_call 194;refine(HK.out _).mono ?_;rintro e w3 ⟨rfl,hb3⟩;have HB3:=za (bt HB2.out hb3);obtain⟨q3,f3⟩:=HQ.out w3 HB3.out;clear hb3)|(go_at_call 195;refine(HT.out _).mono ?_;rintro e w4 ⟨rfl,rfl⟩))
  refine bodyPost_ret (v:=.tuple #[]) (results_none rfl _ _ _) rfl ?_;exact qG.same HH.out HB3.out):p:=h
theorem PS(h:p:=by
  have hb2:Below w1.heap.size w1 (wr.alloc (.cells #[.string ⟨(k8 k).toArray⟩,.string ⟨(Kh k).toArray⟩,kX k,Q2 k] 239)):=hb.out.alloc hb.out.size _;have hk:=HK.out;go_roundg (gk - 1)
  case measure=>omega
  case rel=>
   refine⟨k+1,by omega,by go_num,fun j hj=>?_,hb2⟩;rcases(by omega:j=k∨j<k)with e|e
   · subst e;exact HV.out
   · exact hp.out j e):p:=h
theorem Me(h:p:=by
  clear hp;go_enter func174,ntmps174;go_wp2_with (first|(go_at_call 223;refine HA.out.mono ?_;rintro e w1 ⟨rfl,hb1⟩)|(go_at_call 48;refine(HI.out _ hb1).mono ?_;rintro e w2 ⟨rfl,hb2⟩;obtain⟨q6,f6⟩:=HF.out w2 (bt hb1 hb2)))
  refine bodyPost_ret (v:=.tuple #[]) (results_none rfl _ _ _) rfl ?_;exact HN.out _ (bt hb1 hb2)):p:=h
theorem ER(h:p:=by
  have HK:=za HK0;have HT:=za HT0;have HG:=za HG0;clear HK0 HT0 HG0;generalize hN:y.props.l.length=N at*;have HN:=za hN;clear hN;go_enter func159,ntmps159;go_wp2_with (first|(go_at_call 33;refine HG.out.mono ?_;rintro e w2 ⟨rfl,hb2⟩;have HB2:=za hb2;clear hb2)|(go_at_call 194;refine(HK.out _).mono ?_;rintro e w3 ⟨rfl,hb3⟩;have HB3:=za (bt HB2.out hb3);obtain⟨q3,f3⟩:=HQ.out w3 HB3.out;clear hb3)|(go_at_call 195;refine(HT.out _).mono ?_;rintro e w4 ⟨rfl,rfl⟩)|(go_at_call 115;refine(HS.out _ HB3.out).mono ?_;rintro e w5 ⟨v5,rfl,hO⟩;obtain⟨A5,c5,rfl⟩:=Qf hO.1;have HO:=za hO;obtain⟨q5,f5⟩:=HQ.out w5 (bt HB3.out hO.2);clear hO))
  refine bodyPost_ret (v:=.tuple #[]) (results_none rfl _ _ _) rfl ?_;exact qG.setProps HH.out HB3.out HO.out):p:=h
theorem D0(h:p:=by
  clear e1 HF;cases hv:Z4 (L v)with
  | true=>
    rw[hv]at HC0;have HC:=za HC0;clear HC0 hv;rw[if_pos rfl];go_enter func130,ntmps130;go_upto_region 1 with fail
    rw[HW1.out];go_wp2_with (go_at_call 169;refine HC.out.mono ?_;rintro e w2 ⟨rfl,hb2⟩;have HB2:=za hb2;obtain⟨q5,f5⟩:=HFz.out w2 hb2;clear hb2)
    refine bodyPost_ret (v:=.tuple #[]) (results_none rfl _ _ _) rfl ?_;exact HSet.out w2 HB2.out
  | false=>
    rw[hv]at HC0;have HC:=za HC0;clear HC0 hv;rw[if_neg (by decide)];go_enter func130,ntmps130;go_upto_region 1 with fail
    rw[HW1.out];go_wp2_with (go_at_call 169;refine HC.out.mono ?_;rintro e w2 ⟨rfl,hb2⟩;have HB2:=za hb2;obtain⟨q5,f5⟩:=HFz.out w2 hb2;clear hb2)
    refine bodyPost_ret (v:=.tuple #[]) (results_none rfl _ _ _) rfl ?_;exact HSame.out w2 HB2.out):p:=h
theorem I3(h:p:=by
  rw[hs]at ha;rcases List.mem_or_eq_of_mem_set ha with hm|rfl
  · exact Or.inr ⟨a,hm,p,e,rfl⟩
  · rcases hA p e with k|⟨q,k1,k2⟩
    · exact Or.inl k
    · exact Or.inr ⟨_,hmem,q,k1,k2⟩):p:=h
theorem yL(h:p:=by
  rw[e]at HTk;rw[hcl]at HCl;have HCl2:=za HCl.out;clear HCl hcl e;unfold Ii at HCl2;go_wp2_with (go_at_call 217;refine HCl2.out.mono ?_;rintro e w3 ⟨rfl,hb3⟩)
  go_roundg (gk - 1)
  case measure=>omega
  case rel=>exact⟨k+1,yk,by go_num,by omega,by omega,za ⟨HR.out.q.trans (zT.same hEk hb3),by rw[HTk.out,HDk.out];exact HR.out.d⟩⟩):p:=h
theorem Mv(h:p:=by
  go_wp2;go_ret;have hk12:k=12:=by omega
  subst hk12;refine⟨IR ?_,?_,?_⟩
  · rw[<-HW.out,za6 _ _ hp.out];rfl
  · rw[<-HR.out];exact HC.out.1.keep hb.out
  · exact HC.out.2.trans (hb.out.mono (X3 HC.out.1.lt))):p:=h
theorem TR(h:p:=by
  rw[hl2,HMe.out,zk9]at HC1;have HV2:=za hv2;have HC:=za HC1;have HbW:=za hbW4;clear HC1 hbW hT hv2 hown hb4 hLs hl2 hbW4 hcp;go_wp2_with (go_at_call 148;refine HC.out.mono ?_;rintro e w5 ⟨v,rfl,hO⟩)
  go_ret;exact⟨v,rfl,HFin.out w4 v w5 HbW.out (by rw[<-HMID.out,HV2.out];exact hO)⟩):p:=h
theorem Xr(h:p:=by
  unfold ZI;exact run_build W _ _ _ (by kernel_rfl)):p:=h
theorem Bw(h:p:=by
  rw[hf]at HG0;clear hf;have HK:=za HK0;have HT:=za HT0;have HG:=za HG0;clear HK0 HT0 HG0;generalize hN:y.props.l.length=N at*;have HN:=za hN;clear hN;go_enter func159,ntmps159;go_wp2_with (first|(go_at_call 33;refine HG.out.mono ?_;rintro e w2 ⟨rfl,hb2⟩;have HB2:=za hb2;clear hb2)|(go_at_call 194;refine(HK.out _).mono ?_;rintro e w3 ⟨rfl,hb3⟩;have HB3:=za (bt HB2.out hb3);obtain⟨q3,f3⟩:=HQ.out w3 HB3.out;clear hb3))
  refine bodyPost_ret (v:=.tuple #[]) (results_none rfl _ _ _) rfl ?_;exact qG.same HH.out HB3.out):p:=h
theorem jC(h:p:=by
  rw[HKe.out,HMe.out]at HC1;have HV2:=za hv2;have HC:=za HC1;have HbW:=za hbW;clear HC1 hbW hT hv2;go_wp2_with (go_at_call 148;refine HC.out.mono ?_;rintro e w4 ⟨v,rfl,hO⟩)
  go_ret;exact⟨v,rfl,HFin.out W v w4 HbW.out (by rw[<-HMID.out,HV2.out];exact hO)⟩):p:=h
theorem Bk(h:p:=by
  go_upto_region 1 with fail
  rw[HW.out];go_wp2_with (first
   |(refine wpList_load_row rfl 30 _ rfl _ rfl _ _ _ _ H0.out underlying30 rfl (by exact Am) ?_)
   |(go_at_call 9;refine HF.out.mono ?_;rintro e w2 ⟨rfl,hb2⟩;have HB2:=za (bt HB1.out hb2);have hsz:=hb2.size;have hrow:=i5 w2 (.cells (zq qd) zp);clear hb2)
   |(refine wpList_store_row rfl 43 _ _ rfl _ _ rfl rfl _ _ hrow (by exact jg) rfl (by simp[Value.oneCell']) ?_))
  go_ret;exact⟨none,0,rfl,zB.empty,qB (zP HB2.out) (HB2.out.size)⟩):p:=h
theorem DG(h:p:=by
  go_wp2_with (first
   |(go_at_call 154;refine HCt.out.mono ?_;rintro e w7 ⟨rfl,nd,rfl⟩)
   |(go_at_call 155;refine(HKy.out _).mono ?_;rintro e w8 ⟨rfl,hb8⟩;have HB8:=za (bt (ZO (Below.refl wr.heap.size wr) nd) hb8);clear hb8))
  go_roundg (gk - 1)
  case measure=>omega
  case rel=>
   have e:=HSc.out;rw[HIt.out]at e;dsimp only at e;rw[zk7]at e;refine⟨k+1,A,c,by go_num,by omega,by omega,by rw[e],za ?_,za (bt HB.out HB8.out)⟩;rw[e];exact qi HO.out HB8.out):p:=h
theorem CI(h:p:=by
  rw[e];clear e hw k;go_enter func228,ntmps228;go_wp2;go_ret;exact⟨rfl,0,rfl⟩):p:=h
theorem Cu(h:p:=by
  go_enter func116,ntmps116;go_upto_region 1 with fail
  go_wp2_with (go_at_call 90;refine HM.out.mono ?_;rintro e w2 ⟨rfl,hb2⟩;have hz2:=(hb2.block _ (zh HW2.out)).trans HW2.out;have hst:=Is (cs:=XD) hz2 rfl rfl Ry;have HB2:=za hb2;have HZ2:=za hz2;clear hb2 hz2;obtain⟨d0,d1,d2,d3⟩:=HSx.out w2 HB2.out)
  refine Yx rfl (by rfl) HZ2.out underlying184 rfl (by exact OG) (by rfl) ?_;exact⟨by rw[HE.out],HEnd.out _ _ HB2.out⟩):p:=h
theorem OJ(h:p:=by
  go_wp2;go_loopg [5,8] 0 (fun _ _ s8 wr=>s8=.int .i64 0/\wr=w)
  case atStart=>exact⟨rfl,rfl⟩
  case round=>
   obtain⟨rfl,rfl⟩:=hrel;go_wp2;go_ret;exact⟨rfl,rfl⟩):p:=h
theorem SM(h:p:=by
  have HG:=za HG0;clear HG0;generalize hN:y.props.l.length=N at*;have HN:=za hN;clear hN;go_enter func165,ntmps165;go_wp2_with (first|(go_at_call 33;refine HG.out.mono ?_;rintro e w2 ⟨rfl,hb2⟩;have HB2:=za hb2;clear hb2)|(go_at_call 159;refine(HV.out _ (by rw[IY];omega) _ HB2.out).mono ?_;rintro e w3 hP;obtain⟨rfl,-⟩:=id hP;have HP:=za hP;clear hP))
  refine bodyPost_ret (v:=.tuple #[]) (results_none rfl _ _ _) rfl ?_;exact HP.out):p:=h
theorem KX(h:p:=by
  refine bodyPost_ret (v:=.tuple #[]) (results_none rfl _ _ _) rfl ?_;exact HL.out HP.out):p:=h
theorem Fm(h:p:=by
  go_enter func97,ntmps97;go_upto_region 1 with fail
  rw[HW1.out];obtain⟨c0,c1,c2,c3,d0,d1,d2⟩:=HSx.out w1 zj;go_wp2_with (first|(go_at_call 90;refine(HM.out _).mono ?_;rintro e w2 ⟨rfl,hb2⟩;have HB2:=za hb2;obtain⟨e0,e1,e2,e3,f0,f1,f2⟩:=HSx.out w2 hb2;clear hb2 c0 c1 c2 c3 d0 d1 d2)|(go_at_call 117;refine(HH.out _).mono ?_;rintro e w3 ⟨rfl,hb3⟩))
  go_ret;exact⟨rfl,bt HB1.out (bt HB2.out hb3)⟩):p:=h
theorem Ps(h:p:=by
  go_wp2_with (go_at_call 16;refine HVy.out.mono ?_;rintro e wv ⟨rfl,hv⟩;obtain rfl:wo=wv:=hv)
  go_roundg (gk - 1)
  case measure=>omega
  case rel=>exact⟨m+1,by rw[HNw.out];rfl,by go_num,by omega,by omega,rfl⟩):p:=h
theorem Kk(h:p:=by
  go_wp2;go_ret;exact⟨rfl,(zj.alloc zo _).alloc (by simp) _⟩):p:=h
theorem Tu(h:p:=by
  obtain rfl:k=N:=by omega
  go_wp2;refine bodyPost_ret (v:=.tuple #[]) (results_none rfl _ _ _) rfl ?_;rw[HEq.out];have hd:=HR.out.d;rw[<-HN.out,List.take_length]at hd;exact(HQ2.out.trans HR.out.q).p hd):p:=h
theorem Si(h:p:=by
  generalize ds.length=N at*;clear hI e1 e2 hb1 hr1 hq1 hw1 hd0 h;go_enter func24,ntmps24;go_upto_region 1 with fail
  rw[HW1.out];go_wp2_with (go_at_call 44;refine HI.out.mono ?_;rintro e w2 ⟨rfl,rfl⟩)
  refine Qx rfl (by rfl) (by rfl) (setRow_heap _ _ _ _ _ _ HQ1.out) underlying43 rfl (by exact jg) (by rfl) ?_;exact⟨by rw[HX.out];rfl,qB HB1.out (by omega)⟩):p:=h
theorem AH(h:p:=by
  rw[hf]at HG0;clear hf;have HG:=za HG0;clear HG0;generalize hN:y.props.l.length=N at*;have HN:=za hN;clear hN;go_enter func165,ntmps165;go_wp2_with (first|(go_at_call 33;refine HG.out.mono ?_;rintro e w2 ⟨rfl,hb2⟩;have HB2:=za hb2;clear hb2))
  refine bodyPost_ret (v:=.tuple #[]) (results_none rfl _ _ _) rfl ?_;exact qG.same HH.out HB2.out):p:=h
theorem AL(h:p:=by
  generalize rl[k].tms.l.length=n9 at*;generalize rl[k].file=ff at*;generalize rl[k].line=ll at*;generalize rl[k].tms.A=ttA at*;generalize rl[k].tms.c=ttc at*;go_wp2_with (go_at_call 76;refine HC2.out.mono ?_;rintro e w3 ⟨rfl,hb3⟩)
  go_roundg (gk - 1)
  case measure=>omega
  case rel=>exact⟨k+1,by go_num,by omega,by omega,by omega,za (bt HB.out hb3),HA2⟩):p:=h
theorem MK(h:p:=by
  refine bodyPost_ret (v:=.tuple #[]) (results_none rfl _ _ _) rfl ?_;exact HP.out):p:=h
theorem JZ(h:p:=by
  rw[hpb]at k;obtain⟨q,e1,e2⟩:=ZQ k.symm;exact Or.inr ⟨q,e1,e2⟩):p:=h
theorem Ac(h:p:=by
  have hb2:Below w1.heap.size w1 (wr.alloc (.cells #[.string ⟨(k8 k).toArray⟩,.string ⟨(Kh k).toArray⟩,kX k,Q2 k] 239)):=hb.out.alloc hb.out.size _;go_ret;refine⟨IR ?_,?_,?_⟩
  · rw[<-HW.out,zfj _ _ k hlt HV.out hp.out]
  · rw[<-HR.out];exact HC.out.1.keep hb2
  · exact HC.out.2.trans (hb2.mono (X3 HC.out.1.lt))):p:=h
theorem vE(h:p:=by
  go_enter func166,ntmps166;go_wp2_with (go_at_call 169;refine HV.out.mono ?_;rintro e w2 ⟨rfl,hb2⟩;have HB2:=za hb2;have hbx:=(HH.out.below hb2).box;have q1:=(ZV hbx).2.1;have f1:=qe hbx 1;clear hbx hb2)
  refine bodyPost_ret (v:=.tuple #[]) (results_none rfl _ _ _) rfl ?_;exact(zT.same HH.out HB2.out).p rfl):p:=h
theorem PX(h:p:=by
  refine Qx rfl (by rfl) (by rfl) (HR3.out _ _ HB2.out) underlying30 rfl (by exact FN) (by rfl) ?_;exact HEnd.out _ _ HB2.out (by decide) _ (by omega) _):p:=h
theorem kl(h:p:=by
  go_wp2;go_ret;exact⟨rfl,rfl⟩):p:=h
theorem Hv(h:p:=by
  have hl:ss.length=k:=by rw[<-hk,<-Array.length_toList,e,W7]
  subst hl;refine(De g 0 c ss h h3 hg hk0 hk1 (fun i s hi=>?_)).mono fun e w' ⟨s,h1,he,ht⟩=>⟨s,hs s h1,he,ht⟩;rw[zk4,cell_of_row _ _ i _ _ _ hrow,<-zm2,e,zd4,hi];rfl):p:=h
theorem Lg(h:p:=by
  rw[hlb]at HLk HE5;go_wp2_with (first|(go_at_call 65;refine HJ.out.mono ?_;rintro e w7 ⟨rfl,hb7⟩;have HB7:=za (bt HBf.out hb7);clear hb7)|(go_at_call 246;refine(HLk.out _ HB7.out).mono ?_;rintro e w8 ⟨rfl,hb8⟩))
  go_ret2;rw[HE5.out];exact⟨rfl,bt HB7.out hb8⟩):p:=h
theorem jp(h:p:=by
  go_ret;exact⟨rfl,rfl⟩):p:=h
theorem EJ(h:p:=by
  cases hb:ZW r with
  |none=>rw[hb]at h;cases h
  | some ab=>
    obtain⟨a,b⟩:=ab;have hl:=LY hb;rw[hb]at h;simp only[Option.bind_some]at h
    split at h
    · injection h with h
      injection h with h1 h2
      subst h1 h2;dsimp only;rw[Zg];exact hl
    · cases h):p:=h
theorem AC(h:p:=by
  have hp':a.tmps[p]?.getD undef=.pointer (some ⟨g,0,none⟩):=by simpa using hp
  have hq':a.tmps[q]?.getD undef=u:=by simpa using hq
  refine bodyPost_ret (v:=.tuple #[.agg cs,u]) ?_ hdef hR;simp[results,h,hp',hq',asAddr,run_loadVar_row W g t ty cs fr d hg hu hd hi]):p:=h
theorem Fo(h:p:=by
  have hkJ:¬(k:Int)<(M:Int):=by omega
  have HNo:Hid (∀x,cs≠xs++[x]):=za fun x e=>by
   have h1:=congrArg List.length e;rw[r7,HN.out,HM.out]at h1;simp at h1;omega
  go_wp2
  all_goals
   go_ret;exact⟨_,rfl,fun x e=>absurd e (HNo.out x),HL.out⟩):p:=h
theorem PZ(h:p:=by
  go_wp2;go_meet;exact⟨by simp[HRr.out],Jv (M1 HG.out _),VM (M1 HB.out _) hne,((Yp.refl g b w).drewN _).set⟩):p:=h
theorem AT(h:p:=by
  go_region
  all_goals first
   | (go_wp2
      go_meet;exact⟨rfl,A3,c3,za (HQa.out W3 _ HBW.out).1,za (HQa.out W3 _ HBW.out).2.1,HE3⟩)
   | (go_wp2
      go_meet;exact⟨rfl,B3,e3,za (HQa.out V3 _ HBV.out).1,za (HQa.out V3 _ HBV.out).2.1,HF9⟩)):p:=h
theorem kS(h:p:=by exact⟨rfl,rfl⟩):p:=h
theorem PO(h:p:=by
  refine bodyPost_ret (v:=.tuple #[]) (results_none rfl _ _ _) rfl ?_;exact HSame.out _ hb1):p:=h
theorem ve(h:p:=by
  have h0:l=[]:=by
   rcases Nat.eq_zero_or_pos l.length with e|e
   · exact List.length_eq_zero_iff.1 e
   · obtain⟨_,_,e2,_⟩:=hr.row.at_ e;cases e2
  subst h0;rw[hnil rfl];exact(zdR _ w).mono fun _ _ ⟨h1,h2⟩=>⟨h1,by rw[h2];exact zj⟩):p:=h
theorem SY(h:p:=by
  go_enter func96,ntmps96;go_upto_region 1 with fail
  rw[HW1.out];go_wp2_with (go_at_call 124;refine HI0.out.mono ?_;rintro e w5 hP;obtain⟨y,rfl,hst,hEnd⟩:=HFd.out _ _ hP;have HEnd:=za hEnd;clear hP hEnd hld)
  go_ret;exact HEnd.out):p:=h
theorem AW(h:p:=by
  refine Qx rfl (by rfl) (by rfl) (setRow_heap _ _ _ _ _ _ (((zL w3 _).block _ (zh HR3.out)).trans HR3.out)) underlying290 rfl Xe (by rfl) ?_;rw[<-HQ.out];exact HBd.out 70 _ hX (by decide) (qB (bt HB3.out zu) zo)):p:=h
theorem Rx(h:p:=by cases ha:zC i.tree i.ix<;>cases hb:zC j.tree j.ix<;>rw[ha,hb]at this<;>first|rfl|cases this|exact zx this):p:=h
theorem IP(h:p:=by
  rw[heap_setCell_other _ _ _ _ hg'];exact hg.block b hb' (hn b hn')):p:=h
theorem Bx(h:p:=by exact⟨hg2.os.trans hk.os,hg2.tape.trans hk.tape,hg2.output.trans hk.output,i3 hk.size hg2.size,fun b hb3 hn=>(hg2.block b (i4 hb3 hk.size) fun e=>by injection e with e;omega).trans (hk.block b hb3 hn)⟩):p:=h
theorem Sg(h:p:=by
  go_wp2_with (first|(go_at_call 105;refine(HP9 _).mono ?_;rintro e w' ⟨rfl,rfl⟩))
  with_reducible refine(HA _ HR0.out).mono ?_
  rintro e w5 ⟨rfl,hR5,hB5⟩;go_wp2;go_ret;exact Mk HPS.out hR5 (HB0.out.trans hB5)):p:=h
theorem GH(h:p:=by
  obtain⟨p,e1,e2⟩:=ZQ e.symm;exact hb _ hmem p e1 e2):p:=h
theorem Lu(h:p:=by
  go_enter func171,ntmps171;go_wp2_with (go_at_call 172;refine(HT.out _).mono ?_;rintro e w2 ⟨rfl,rfl⟩)
  refine bodyPost_ret (v:=.tuple #[]) (results_none rfl _ _ _) rfl ?_;exact(zT.same HH.out zj).p rfl):p:=h
theorem DB(h:p:=by
  go_wp2;go_quiet (fail)
  go_wp2_with (go_at_call 13;refine(Oi _ _ _ (by omega) (by omega) (by omega)).mono ?_;rintro e w' ⟨rfl,rfl⟩)
  go_ret;exact⟨_,(kV _ _ h1).1,(kV _ _ h1).2,rfl,_,rfl⟩):p:=h
theorem Et(h:p:=by
  have:=h.cells (g:=g) rfl j (.string y) (by rw[zd4,hy];rfl);have hadd:(⟨g,0,none⟩:Addr).add j=⟨g,j,none⟩:=by unfold Addr.add;split<;>simp_all
  rw[hadd]at this;rw[zk4];exact this):p:=h
theorem Ao(h:p:=by
  rw[hj];have e:=Nat.succ_mul (l.length+1) (M+1);simp only[Nat.succ_eq_add_one]at e;simp only[r7,u0,List.length_nil]at h2⊢;rw[e];generalize (l.length+1)*(M+1)=Z at*;omega):p:=h
theorem Er(h:p:=by
  go_wp2;go_roundg (gk - 1)
  case measure=>omega
  case rel=>
   have e:=HSc.out;rw[hkp,if_neg (by decide),zk7]at e;refine⟨k+1,A,c,by go_num,by omega,by omega,by rw[e],?_,HB⟩;rw[e];exact HO):p:=h
theorem DM(h:p:=by
  generalize l.length=N at*;generalize Zr l (L v)=i at*;go_enter func173,ntmps173;go_wp2_with (go_at_call 221;refine HB.out.mono ?_;rintro e w2 ⟨rfl,hb2⟩)
  go_ret;exact HSame.out _ hb2):p:=h
theorem GW(h:p:=by
  have:=hg.size;simp only[World.setCell];simpa using this):p:=h
theorem QN(h:p:=by simpa using this):p:=h
theorem Bp(h:p:=by
  rw[if_neg h3,if_neg h1];obtain⟨k,rfl⟩:∃k,j=i+(k+1):=⟨j - i - 1,by omega⟩;rw[show i+(k+1) - i=k+1 from by omega,zl6,List.getElem?_eq_none (by rw[hd];omega)]):p:=h
theorem TK(h:p:=by
  rcases Nat.lt_or_ge j k with h1|h1
  · exact hno.out j h h1
  · obtain rfl:j=k:=by omega
    exact hne):p:=h
theorem EP(h:p:=by
  have hbx:=(HS.out.go HTd.out).bx;have:=zd (j:=0) ((heap_setCell_other W ⟨q,0,none⟩ _ v hq).trans ((hW.block _ (zh hbx)).trans hbx)) rfl;rw[HN.out]at this;exact this):p:=h
theorem C8(h:p:=by
  clear hx;go_wp2_with (go_at_call 147;refine HCc.out.mono ?_;rintro e w2 ⟨rfl,hb2⟩;have HB2:=za (bt hB.out hb2);clear hb2)
  go_ret2;exact⟨by rw[hok];rfl,HB2.out⟩):p:=h
theorem AJ(h:p:=by
  rintro e w' ⟨rfl,hb⟩;go_wp2;go_ret;exact⟨rfl,((((Below.refl w.heap.size w).alloc zo _).alloc (by simp) _).alloc (by simp;omega) _).trans (hb.mono (by simp;omega))⟩):p:=h
theorem Ky(h:p:=by exact zb7 jH (by decide)):p:=h
theorem Nj(h:p:=by unfold zS;rw[e];simp[e2,Yk,qM,El.isStar,Vm,El.has]):p:=h
theorem Fk(h:p:=by rcases(by omega:k=0∨k=1∨k=2∨k=3∨k=4∨k=5∨k=6∨k=7∨k=8∨k=9∨k=10∨k=11)with h|h|h|h|h|h|h|h|h|h|h|h<;>subst h<;>kernel_rfl):p:=h
theorem SD(h:p:=by
  go_enter func47,ntmps47;go_wp2_with (go_at_call 66;refine(HR.out _ zu).mono ?_;rintro e w2 ⟨rfl,hb2⟩)
  go_ret2;exact⟨_,_,rfl,HZ.out,bt zu hb2⟩):p:=h
theorem AM(h:p:=by
  go_roundg (gk - 1)
  case measure=>omega
  case rel=>exact⟨k+1,yk,by go_num,by omega,by omega,za (HQs.out _ HB4.out),za (by rw[HIt.out,HD.out];rfl)⟩):p:=h
theorem EH(h:p:=by
  have HNx:=za HN;clear HN hg;generalize s[k]=b at*;go_wp2;go_roundg (gk - 1)
  case measure=>omega
  case rel=>exact⟨k+1,by go_num,by omega,by omega,HNx⟩):p:=h
theorem Ru(h:p:=by
  rw[ZU]at h1;obtain⟨NA,nc,rfl⟩:=Qf h2;exact⟨NA,nc,w',h1,h2,h3⟩):p:=h
theorem By(h:p:=by
  go_wp2_with (go_at_call 116;refine HO.out.mono ?_;rintro e w2 ⟨rfl,hb2⟩;have HB2:=za hb2;clear hb2)
  go_ret;exact⟨rfl,bt zu HB2.out⟩):p:=h
theorem C9(h:p:=by
  have HM:=za (zkX (p:=L p) (zef hlt (by rw[hpr2];simp;omega)));clear hpr2;go_wp2;go_ret;exact⟨by rw[HM.out];rfl,HB2.out⟩):p:=h
theorem Ll(h:p:=by
  refine⟨h.1,?_⟩;rcases h.2 with h1|⟨g,cap,cur,h1,h2,h3⟩
  · exact Or.inl h1
  · exact Or.inr ⟨g,cap,cur,h1,i3 hb h2,h3⟩):p:=h
theorem vD(h:p:=by rcases hm with h|h|h|h|h|h|h|h|h|h|h|h|h|h|h|h|h|h|h|h|h|h|h|h|h|h<;>subst h<;>decide):p:=h
theorem EY(h:p:=by
  go_enter func167,ntmps167;go_wp2_with (go_at_call 169;refine HV.out.mono ?_;rintro e w2 ⟨rfl,hb2⟩)
  go_ret;exact⟨rfl,hb2⟩):p:=h
theorem jc(h:p:=by
  rw[zl5,l0 hj]at hA;exact zx hA):p:=h
theorem S8(h:p:=by exact⟨A1,c1,W1,q1,hW0.grown q3 hW0.size (fun j e=>by cases e),q2,fun la o h=>(q3.block la (zh h) (fun e=>by cases e)).trans h⟩):p:=h
theorem D8(h:p:=by
  refine bodyPost_end (v:=.tuple #[]) (results_none rfl _ _ _) rfl ?_;exact⟨rfl,HP.out.setB _,HG.out.trans (qE _ _ _ _)⟩):p:=h
theorem E0(h:p:=by rw[<-hW1];have:=World.alloc_heap_new (w.alloc (.deferred (some []))) (.loop (rec .ready none));rwa [World.size_alloc]at this):p:=h
theorem ED(h:p:=by
  have hbx:=(HS.out.go HTd.out).bx;have:=zd (j:=0) ((hW.block _ (zh hbx)).trans hbx) rfl;rw[HN.out]at this;exact this):p:=h
theorem Sd(h:p:=by
  rw[hy1];exact zT.set_links (l':=[]) (A':=none) (c':=0) h (Ga _ _) (World.ownsRow_nil _ _ _ _) (fun p e=>by cases e)):p:=h
theorem PQ(h:p:=by exact⟨zd h1 rfl,zd h1 rfl,zd h1 rfl,zd h1 rfl⟩):p:=h
theorem yN(h:p:=by exact⟨zd h2 rfl,zd h2 rfl,zd h2 rfl,zd h2 rfl⟩):p:=h
theorem va(h:p:=by
  cases i with
  | zero=>
    obtain rfl:Value.slice none 0 0=x:=by simpa using hx
    simp[Value.ownBlock]at hg
  |succ i=>simp at hx):p:=h
theorem FE(h:p:=by
  go_region
  all_goals first
   | (go_wp2
      go_meet;exact⟨A3,c3,rfl,HE3,HBW⟩)
   | (go_wp2
      go_meet;exact⟨B3,e3,rfl,HF9,HBV⟩)):p:=h
theorem Ap(h:p:=by
  simp only[Q5,List.mem_cons,List.not_mem_nil,or_false]at hy;rcases hy with rfl|rfl|rfl|rfl<;>(dsimp only;decide)):p:=h
theorem NX(h:p:=by
  rw[<-HR.out];unfold Zh;rw[if_neg h16];rfl):p:=h
theorem Cv(h:p:=by
  unfold MT Jz;go_wp2;go_quiet (fail)
  go_wp2;go_ret;exact⟨by unfold Yk;rw[HF.out];rfl,ZO hB.out _⟩):p:=h
theorem AE(h:p:=by
  go_enter func129,ntmps129;go_wp2
  all_goals (go_ret;exact⟨ZP (by simp[*]),hb.alloc hb.size _⟩)):p:=h
theorem Ca(h:p:=by
  unfold joinedFacts;simp only[zm3]
  repeat' refine And.intro ?_ ?_
  all_goals (as_aux_lemma=>kernel_rfl)):p:=h
theorem Bc(h:p:=by
  go_wp2;go_quiet (fail)
  go_wp2;exact⟨⟨k+1,by omega,by go_num,ZO hdr.out _⟩,by simp[intOf];omega⟩):p:=h
theorem G0(h:p:=by
  rw[W8]at this;omega):p:=h
theorem Rj(h:p:=by injection h with h;injection h with h1 h2;subst h2;exact hm):p:=h
theorem E4(h:p:=by
  go_ret2;exact⟨.slice none 0 0,by rw[HR.out];rfl,by rw[HR.out];exact⟨rfl,.inl ⟨rfl,rfl⟩⟩,zj⟩):p:=h
theorem AY(h:p:=by
  refine⟨k+1,A5,c5,by go_num,by omega,by omega,by rw[hl5],za ?_,HB5⟩;rw[hl5,HE5.out];exact HO5.out):p:=h
theorem Kb(h:p:=by exact Or.inl (by omega)):p:=h
theorem Aj(h:p:=by
  clear h1;go_enter func90,ntmps90;go_wp2;go_ret;exact⟨ZP (by rw[HM.out]),by go_grown⟩):p:=h
theorem Oo(h:p:=by
  go_ret;exact⟨rfl,bt HB1.out HB2.out⟩):p:=h
theorem Eo(h:p:=by
  obtain⟨p,e1,e2⟩:=ZQ hb;have:=qu HO.out p e1;rw[<-e2];exact⟨this.1,this.2,p,e1,rfl⟩):p:=h
theorem F1(h:p:=by
  go_ret;exact⟨ZP (by rw[Y3,L2 s (by assumption) rfl (by simp[pr];omega)];rfl),rfl⟩):p:=h
theorem Ed(h:p:=by
  rcases Nat.lt_or_ge j k with h1|h1
  · exact hno.out j h h1
  · obtain rfl:j=k:=by omega
    exact hq):p:=h
theorem ZC(h:p:=by simp[Dm.as]):p:=h
theorem Ee(h:p:=by
  go_ret;exact⟨ZP (by rw[L2 s (by assumption) rfl (by simp[pr];omega)]),rfl⟩):p:=h
theorem OW(h:p:=by
  go_ret;exact⟨rfl,hb2⟩):p:=h
theorem SS(h:p:=by
  rw[ZU]at h1;obtain⟨NA,nc,rfl⟩:=Qf h2;exact⟨NA,nc,w',h1,h2,Bb h3⟩):p:=h
theorem Tl(h:p:=by simp[Lib.join,List.intercalate,List.intersperse]):p:=h
theorem EL(h:p:=by
  have a1:=NI (zm ds) n;have a2:=h.len;rw[hch,VS,u0]at a1;omega):p:=h
theorem C2(h:p:=by
  simp only[r7,W9,u0,W8];omega):p:=h
theorem DI(h:p:=by exact(show prog.wantsStandIn t=false by simpa using List.all_eq_true.1 hall t hm)):p:=h
theorem E7(h:p:=by
  rw[List.map_map];exact(List.map_congr_left (fun y _=>qz y)).trans (List.map_id _)):p:=h
theorem vH(h:p:=by rw[<-hW1];exact(Below.heap_alloc _ _ _ (by simp)).trans (World.alloc_heap_new w _)):p:=h
theorem DY(h:p:=by
  induction l with
  |nil=>rfl
  |cons s l ih=>rw[zl3,zl3,<-ih];rfl):p:=h
theorem FH(h:p:=by
  have:=congrArg List.length e;rw[W8,hxl,List.length_nil]at this;omega):p:=h
theorem SZ(h:p:=by
  rw[Array.getElem?_eq_getElem hi]at h;have h':=zx h;rw[h'];simp[Value.oneCell']):p:=h
theorem EM(h:p:=by
  rw[Ua,zk4];exact zd hg (by rw[<-hu,<-zm2];rfl)):p:=h
theorem AK(h:p:=by
  go_wp2;go_meet;exact⟨rfl,qY hG.out (Y2 _ _ _),hR.out,hB.out⟩):p:=h
theorem CY(h:p:=by
  rw[show i+(k+1) - (i+1)=k from by omega,show i+(k+1) - i=k+1 from by omega];rfl):p:=h
theorem Bl(h:p:=by
  cases hb:zC j.tree j.ix with
  |none=>rfl
  |some y=>rw[ha,hb]at hf;cases hf):p:=h
theorem EE(h:p:=by exact⟨⟨x,h x (X4 ..)⟩::zs,by rw[zl3,hz]⟩):p:=h
theorem OU(h:p:=by exact Or.inl (i3 hs h)):p:=h
theorem FO(h:p:=by
  by_cases hjk:j=k
  · rw[<-hjk];exact hun
  · rwa [getD_set_ne true hjk]at hku):p:=h
theorem PJ(h:p:=by exact⟨List.Pairwise.nil,X1 _⟩):p:=h
theorem Fj(h:p:=by exact⟨Int.le_refl _,by show(0:Int)<=lim;omega,X1 _,fun _=>rfl⟩):p:=h
theorem CH(h:p:=by exact⟨s[k],by rw[<-RK s k hk];exact X8 _,by simp[h]⟩):p:=h
theorem C3(h:p:=by rw[hrec];exact World.putObj_heap_same (Array.getElem?_eq_some_iff.1 hl3).1):p:=h
theorem CU(h:p:=by
  cases r with
  |nil=>injection h with h;subst h;exact ha
  |cons c r=>cases h):p:=h
theorem Lc(h:p:=by rw[ho _ _ _ (by simp only[hs];omega)];exact hn _ _ _ (by simp only[hs])):p:=h
theorem Cf(h:p:=by exact(World.putObj_heap_other (by omega)).trans (hk3.same _ _ hk2 rfl)):p:=h
theorem R8(h:p:=by
  go_wp2;go_ret;exact⟨rfl,bt zu zu⟩):p:=h
theorem KP(h:p:=by exact X1 _):p:=h
theorem An(h:p:=by
  obtain rfl:[]=l:=by simpa using hl
  exact World.ownsRow_nil _ _ _ _):p:=h
theorem SF(h:p:=by
  have h1:=(h.own.lt b e).1;have h2:=h.nx.st.lt;have h3:=h.lo;omega):p:=h
theorem NY(h:p:=by
  unfold qF qc
  kernel_rfl):p:=h
theorem Ct(h:p:=by
  simp only[Bool.and_eq_false_iff,decide_eq_false_iff_not];omega):p:=h
theorem No(h:p:=by rw[W9];omega):p:=h
theorem MC(h:p:=by
  go_wp2;go_ret;exact HE2.out):p:=h
theorem CS(h:p:=by rcases hu with rfl|rfl|rfl|rfl|rfl|rfl|rfl<;>rfl):p:=h
theorem Ew(h:p:=by rw[<-hcur,List.getElem?_take,if_pos hj,zm2]):p:=h
theorem SN(h:p:=by rw[List.take_succ_eq_append_getElem hk,List.foldl_append];rfl):p:=h
theorem vp(h:p:=by
  obtain rfl:k=N:=by omega
  go_wp2;go_ret;exact⟨rfl,hdr.out⟩):p:=h
theorem ET(h:p:=by rw[List.map_append,zl3,List.map_take,List.map_drop]):p:=h
theorem Ei(h:p:=by
  rw[UL cells cs (by rw[h1,h2])]at this;exact this):p:=h
theorem yw(h:p:=by exact⟨_,_,by rw[h2];exact h1⟩):p:=h
theorem Ik(h:p:=by have k2:=g3 q r2;omega):p:=h
theorem Iv(h:p:=by rw[if_neg b];exact h0):p:=h
theorem F7(h:p:=by
  split
  · exact⟨hx.imp _,rfl⟩
  · exact⟨hx.imp _,rfl⟩):p:=h
theorem Fb(h:p:=by exact⟨Lz h.1 _,i3 (Tf _ _) h.2⟩):p:=h
theorem yu(h:p:=by obtain rfl:=zx h;dsimp only;omega):p:=h
theorem Ch(h:p:=by
  rw[e2];exact⟨rfl,fun hh=>absurd hh (zd0 0)⟩):p:=h
theorem Ex(h:p:=by
  go_ret;rw[HBs.out];exact Hz.out.outL (bt HB4.out HBz.out)):p:=h
theorem L5(h:p:=by
  rw[Lib.splitK,List.mem_singleton]at hx;rw[hx];exact zo):p:=h
theorem zb(h:p:=by omega):p:=h
theorem qa(h:p:=by simp only[zl5,zl6,zl7];rfl):p:=h
theorem zg(h:p:=by kernel_rfl):p:=h
theorem zi(h:p:=by decide):p:=h
theorem zl(h:p:=by simp):p:=h
theorem zk(h:p:=by rfl):p:=h
theorem qm(h:p:=by exact fun _ _ _ h=>h):p:=h
theorem ql(h:p:=by unfold maxLen;omega):p:=h
theorem zK(h:p:=by simp;omega):p:=h
theorem qP(h:p:=by simp[Value.oneCell']):p:=h
theorem ZD(h:p:=by injection e with e;omega):p:=h
theorem qq(h:p:=by assumption):p:=h
theorem ZX(h:p:=by rw[<-hw1];exact zu):p:=h
theorem zU(h:p:=by go_num):p:=h
theorem Qo(h:p:=by rw[<-hw1];exact qt):p:=h
theorem Zf(h:p:=by exact jg):p:=h
theorem XB(h:p:=by rw[W8];omega):p:=h
theorem qI(h:p:=by cases h):p:=h
theorem Zc(h:p:=by go_grown):p:=h
theorem YB(h:p:=by simp only[hs];omega):p:=h
theorem Vp(h:p:=by injection hF with hF;injection hF):p:=h
theorem Tw(h:p:=by first|exact i5 wN _|exact heap_alloc2_new wN _ _|exact heap_alloc2_old wN _ _|exact HR.out|exact(heap_alloc_old wN _ (zh HR.out)).trans HR.out):p:=h
theorem QW(h:p:=by dsimp only;omega):p:=h
theorem VQ(h:p:=by rw[zF];exact zo):p:=h
theorem QD(h:p:=by exact zaR):p:=h
theorem Xb(h:p:=by dsimp only;decide):p:=h
theorem Vl(h:p:=by rw[<-hw1];exact zP zu):p:=h
theorem YO(h:p:=by rw[<-hw1];simp):p:=h
theorem ZK(h:p:=by cases e):p:=h
theorem SU(h:p:=by have:=cell_one_new (W.setCell ⟨w.heap.size+1+1+1,0,none⟩ (.int .i64 ((pre.length:Int)+1))) (.string x) 9;rw[show(W.setCell ⟨w.heap.size+1+1+1,0,none⟩ (.int .i64 ((pre.length:Int)+1))).heap.size=W.heap.size from by simp]at this;exact this):p:=h
theorem YD(h:p:=by simp[Dm.as]):p:=h
theorem JD(h:p:=by first|(simp;done)|(dsimp only;omega)):p:=h
theorem YP(h:p:=by exact zcP):p:=h
theorem XP(h:p:=by simp[cellsOf]):p:=h
theorem Km(h:p:=by first|(simp;done)|omega):p:=h
theorem VV(h:p:=by rw[zF];exact h):p:=h
theorem JM(h:p:=by have:=HS1.out;have:=HB3.out.size;omega):p:=h
theorem XI(h:p:=by simpa using h):p:=h
theorem Gh(h:p:=by rw[<-hu,<-zm2];rfl):p:=h
theorem Vb(h:p:=by cases e;exact zo):p:=h
theorem Vg(h:p:=by have:=zx e;omega):p:=h
theorem OY(h:p:=by simp only[zl5,zl7];rfl):p:=h
theorem KN(h:p:=by exact World.news_of_block qt):p:=h
theorem kz(h:p:=by rw[HN.out];exact hlt):p:=h
theorem J7(h:p:=by rw[Xf];simp[cellsOf]):p:=h
theorem kE(h:p:=by first|rfl|go_num):p:=h
theorem VK(h:p:=by rw[HN.out];omega):p:=h
theorem I9(h:p:=by rw[show((k - 1:Nat):Int)=(k:Int) - 1 from by omega]):p:=h
theorem VX(h:p:=by simp[YY,hk]):p:=h
theorem U7(h:p:=by unfold ZI;rfl):p:=h
theorem Uu(h:p:=by exact ziy):p:=h
theorem VG(h:p:=by show 1<=1;omega):p:=h
theorem YT(h:p:=by cases hx):p:=h
theorem JO(h:p:=by rw[W9];omega):p:=h
theorem yM(h:p:=by exact World.news_of_block (B:=w.heap.size+1) (heap_alloc2_new w _ _)):p:=h
theorem jq(h:p:=by exact zfI rfl rfl (zgf _) (zg8 _)):p:=h
theorem kt(h:p:=by show 5<6;decide):p:=h
theorem IM(h:p:=by simpa [Value.ownBlock]using e):p:=h
theorem Kl(h:p:=by rw[zF];omega):p:=h
theorem Vx(h:p:=by subst hk;rfl):p:=h
theorem IG(h:p:=by have:=h.lt;have:=h.size;omega):p:=h
theorem R7(h:p:=by have:=HFk.out;have h2:(⟨ba,off,none⟩:Addr).block=ba:=rfl;omega):p:=h
theorem DP(h:p:=by unfold Func.isWrapper;first|(rw[if_pos (by decide+kernel)];kernel_rfl)|(rw[if_neg (by decide+kernel)];exact⟨rfl,rfl⟩)):p:=h
theorem Mz(h:p:=by dsimp only;first|assumption|decide):p:=h
theorem GX(h:p:=by rw[u0];omega):p:=h
theorem IV(h:p:=by rw[r7];rfl):p:=h
theorem jo(h:p:=by rw[ByteArray.size_append];show 3+u.size<=1000000;omega):p:=h
theorem Ki(h:p:=by simpa using hx):p:=h
theorem Kg(h:p:=by unfold qD;rfl):p:=h
theorem kQ(h:p:=by unfold Zo;rfl):p:=h
theorem G3(h:p:=by rw[HSz.out];exact Hi.out):p:=h
theorem Ot(h:p:=by rw[<-hu,<-zm2]):p:=h
theorem Jp(h:p:=by exact sizeOf43):p:=h
theorem Il(h:p:=by rw[H3.out];exact Hi.out):p:=h
theorem Od(h:p:=by intro e;injection e with e;omega):p:=h
theorem KW(h:p:=by show 4<6;decide):p:=h
theorem Cq(h:p:=by rw[hlen,jI,r7,u0,W9,W8,hxl];omega):p:=h
theorem J2(h:p:=by rw[<-tl];exact hv):p:=h
theorem Ic(h:p:=by rw[IY];omega):p:=h
theorem JJ(h:p:=by exact isAgg43):p:=h
theorem NQ(h:p:=by rw[HMe.out];have:=HM.out;omega):p:=h
theorem P2(h:p:=by first|exact hw2b (zx e)|exact hw2c (zx e)):p:=h
theorem R6(h:p:=by have:=Y1.out;rw[<-HN.out]at this;exact this):p:=h
theorem Kn(h:p:=by exact zgs):p:=h
theorem T9(h:p:=by rw[HMe.out];exact(hT.keep hbW4).up hbW4.size):p:=h
theorem yb(h:p:=by have:=HT.out.st.size;have:=HT.out.st.lt;omega):p:=h
theorem GG(h:p:=by rw[<-HN.out];exact h):p:=h
theorem PG(h:p:=by rw[HMe.out];exact(hT.keep hbW).up hbW.size):p:=h
theorem T6(h:p:=by rw[Xf];simp[cellsOf,zD,Yl]):p:=h
theorem K8(h:p:=by rw[hc];exact h2):p:=h
theorem jB(h:p:=by rw[HNx.out];exact(HL.out.keep HBq.out).up):p:=h
theorem PU(h:p:=by rw[r7,HKe.out];exact hown):p:=h
theorem OH(h:p:=by simp[zQ,Value.oneCell']):p:=h
theorem MN(h:p:=by rw[decide_eq_decide];omega):p:=h
theorem OK(h:p:=by rw[<-hw1];exact bt zu zu):p:=h
theorem Hy(h:p:=by have:=run_endLoop (P:=prog) hl (by rw[hrec];simp);rw[hrec]at this;exact this):p:=h
theorem EI(h:p:=by unfold kK;rw[hnd];show(if x.kd=4 then _ else _)=_;rw[if_pos hk,<-HL8.out];rfl):p:=h
theorem SL(h:p:=by unfold kK;rw[hnd];show(if x.kd=4 then _ else _)=_;rw[if_neg hk,<-HL8.out];rfl):p:=h
theorem JC(h:p:=by exact FN):p:=h
theorem j1(h:p:=by show¬9223372036854775807<3+u.size;omega):p:=h
theorem Tz(h:p:=by rw[Kq ZY 4 J0];omega):p:=h
theorem GJ(h:p:=by exact Nat.le_refl 7):p:=h
theorem yJ(h:p:=by simp[results,results14,go_sem, *]):p:=h
theorem Pj(h:p:=by simp[results,results94,go_sem, *]):p:=h
theorem JI(h:p:=by simp only[hs]):p:=h
theorem Gi(h:p:=by simpa using h1):p:=h
theorem K6(h:p:=by unfold Yy;rfl):p:=h
theorem J4(h:p:=by exact Am):p:=h
theorem Jy(h:p:=by rw[hz];decide):p:=h
theorem Oj(h:p:=by rw[Hs.out];exact Hi.out):p:=h
theorem jl(h:p:=by rw[<-hW];exact ZO HB2.out _):p:=h
theorem O6(h:p:=by cases e;exact Or.inl hEb):p:=h
theorem Ks(h:p:=by rw[hp];rfl):p:=h
theorem vT(h:p:=by rw[MZ,MakeChecks.laidMetH_plain _ _ _ Pb];exact zb2 os _):p:=h
theorem TE(h:p:=by have:=HFr.out a ha;have:=zx e;omega):p:=h
theorem Ng(h:p:=by exact underlying28):p:=h
theorem jE(h:p:=by rw[r7,HKe.out];rfl):p:=h
theorem PY(h:p:=by unfold Addr.add;split<;>simp_all):p:=h
theorem MS(h:p:=by have:=HSf.out.lB;omega):p:=h
theorem Gd(h:p:=by simp[Rm.as]):p:=h
theorem MU(h:p:=by rw[Yo];omega):p:=h
theorem MW(h:p:=by have:=HSz.out.1;omega):p:=h
theorem MH(h:p:=by exact zaN):p:=h
theorem Gz(h:p:=by exact Pf _):p:=h
theorem GR(h:p:=by show 3<6;decide):p:=h
theorem Oz(h:p:=by simp[World.setCell]):p:=h
theorem Tj(h:p:=by rw[R0,Xy,HSz.out]):p:=h
theorem GK(h:p:=by simpa using hj):p:=h
theorem IT(h:p:=by rw[hz1];omega):p:=h
theorem j5(h:p:=by rw[Lib.bytesWorld_size];omega):p:=h
theorem ji(h:p:=by rw[<-HN.out]at hlt;exact hlt):p:=h
theorem NH(h:p:=by have:=HS1.out;omega):p:=h
theorem O0(h:p:=by have:=h1 a ha;omega):p:=h
theorem Tx(h:p:=by rw[Yo];exact TZ):p:=h
theorem LH(h:p:=by rw[OpenClaim.pre_eq_preRow];exact Bi os started H enc F):p:=h
theorem Im(h:p:=by cases e;omega):p:=h
theorem Ma(h:p:=by rw[Zg];omega):p:=h
theorem NE(h:p:=by rw[h.2];exact zj):p:=h
theorem Nl(h:p:=by rw[<-tl];exact n2):p:=h
theorem Nb(h:p:=by have:=HV.out;omega):p:=h
theorem Li(h:p:=by rw[r7,List.length_singleton];exact hown):p:=h
theorem T8(h:p:=by simp[zw,Value.oneCell']):p:=h
theorem Dp(h:p:=by first|exact QY.start.drew|exact QY.start.drew.drew):p:=h
theorem jy(h:p:=by rw[HX4.out];exact HGd2.out):p:=h
theorem NL(h:p:=by have:=h.len;omega):p:=h
theorem yj(h:p:=by first|assumption|omega):p:=h
theorem CK(h:p:=by have:=Ck ps k;have:=HpL.out;have:=HTs.out;omega):p:=h
theorem j9(h:p:=by unfold maxLen at hmx;omega):p:=h
theorem P8(h:p:=by rw[HNx.out];exact HL9.out):p:=h
theorem J5(h:p:=by simp[hx]):p:=h
theorem Sh(h:p:=by have:=L4 (L s) k p3;rw[hk]at this;exact this):p:=h
theorem yv(h:p:=by rw[hk,Nat.add_mul];omega):p:=h
theorem yD(h:p:=by intro e;have:=zx e;omega):p:=h
theorem Nn(h:p:=by cases e;exact hg):p:=h
theorem Tb(h:p:=by have:=hF.out.2 q hq;omega):p:=h
theorem Bo(h:p:=by rw[<-hw4];exact(World.frozen?_setCell ..).trans u1):p:=h
theorem C5(h:p:=by rw[<-hw4];exact(World.frozen?_setCell ..).trans u2):p:=h
theorem CN(h:p:=by rw[r7,List.length_singleton];omega):p:=h
theorem Gk(h:p:=by rw[he];rfl):p:=h
theorem GN(h:p:=by rw[h];simp):p:=h
theorem TP(h:p:=by rw[W8,hl]):p:=h
theorem FL(h:p:=by rw[<-hw4];exact World.cell?_setCell_same _ _ _ p2):p:=h
theorem Ok(h:p:=by exact zdp):p:=h
theorem Cr(h:p:=by have h7:=(H5.out.lt _ e).1;dsimp only at h7;omega):p:=h
theorem M8(h:p:=by exact Mm _):p:=h
theorem TU(h:p:=by simp[Lib.compareBytes]):p:=h
theorem j6(h:p:=by rw[zfP hp];exact h):p:=h
theorem Fc(h:p:=by exact World.news_of_block (B:=w2.heap.size) qt):p:=h
theorem vQ(h:p:=by exact World.news_of_block (B:=w4.heap.size) qt):p:=h
theorem GY(h:p:=by rw[e];rfl):p:=h
theorem Ij(h:p:=by rw[h];rfl):p:=h
theorem FM(h:p:=by first|exact trivial|simp[WideAt.IsKeyLit]):p:=h
theorem OZ(h:p:=by simpa using hz):p:=h
theorem EB(h:p:=by rw[HKe.out];exact(hHH.keep hbW).up hbW.size):p:=h
theorem Ez(h:p:=by simp[results,results240,go_sem];try rfl):p:=h
theorem S4(h:p:=by have h7:=(h5.lt _ e).1;dsimp only at h7;omega):p:=h
theorem EN(h:p:=by rw[<-hw1];exact qr.start (hI.tape tc TX)):p:=h
theorem Bt(h:p:=by have:=((HZ.out.2.2 y h).2.2 x hx).value;omega):p:=h
theorem P3(h:p:=by dsimp only;assumption):p:=h
theorem PC(h:p:=by rw[HM.out];exact hlt):p:=h
theorem vW(h:p:=by rw[Av (fun h=>Hk.out h.2)];exact hR.1):p:=h
theorem vU(h:p:=by rw[heap_setCell_same _ _ _ _ _ _ h.box];rfl):p:=h
theorem P1(h:p:=by unfold Zs;rw[hcl]):p:=h
theorem vR(h:p:=by rw[<-hW1];exact hI.alloc _ (hI.alloc _ h0)):p:=h
theorem CX(h:p:=by rw[W7,W9];omega):p:=h
theorem Pl(h:p:=by rw[<-hW1];exact qt):p:=h
theorem Tv(h:p:=by exact Nat.succ_pos 6):p:=h
theorem Pd(h:p:=by rw[<-hw3];exact zu):p:=h
theorem Pz(h:p:=by rw[<-hw3];exact qt):p:=h
theorem EX(h:p:=by rw[<-hr2];exact⟨A3,c3,rfl,h3,bt HB2.out hb3⟩):p:=h
theorem M6(h:p:=by simp[h1,h2]):p:=h
theorem Pa(h:p:=by simp[Op.bytesLess]):p:=h
theorem Sa(h:p:=by have:=List.find?_some h;simpa using this):p:=h
theorem Dg(h:p:=by rw[hch];exact X6 _ hy):p:=h
theorem M5(h:p:=by rw[tl,qz]):p:=h
theorem Aq(h:p:=by rw[<-zm2,hx];exact hu):p:=h
theorem Bq(h:p:=by show(-9223372036854775808:Int)<=1;omega):p:=h
theorem yY(h:p:=by have:=(h.own.lt j e).1;have:=h.lo;omega):p:=h
theorem L0(h:p:=by rw[HKe.out,HMe.out];have:=HM.out;omega):p:=h
theorem S5(h:p:=by show(1:Int)<=9223372036854775807;omega):p:=h
theorem Gj(h:p:=by rw[h]):p:=h
theorem Dt(h:p:=by simpa [L]using (congrArg Prod.fst ht)):p:=h
theorem II(h:p:=by cases hy):p:=h
theorem Sj(h:p:=by have:=(h.lt b hv).1;have:=zx hb;omega):p:=h
theorem L6(h:p:=by show _<w1.heap.size;rw[HS1.out];omega):p:=h
theorem jM(h:p:=by rw[HKe.out];omega):p:=h
theorem Rn(h:p:=by rw[hl2];exact hcp):p:=h
theorem Sf(h:p:=by first|exact H9.out|exact H9.out.dr):p:=h
theorem AA(h:p:=by show(bs _).size<=_;rw[Zg];omega):p:=h
theorem Lh(h:p:=by rw[List.mem_singleton.1 hz];exact x.2):p:=h
theorem DC(h:p:=by have:(⟨#[47]⟩:ByteArray).size=1:=rfl;omega):p:=h
theorem LI(h:p:=by rw[<-hW1];exact(hB.alloc _).alloc _):p:=h
theorem L3(h:p:=by rw[<-zm2];exact hu):p:=h
theorem Sn(h:p:=by rw[<-h3];exact List.mem_map.2 ⟨x,hx,rfl⟩):p:=h
theorem ML(h:p:=by rw[hs];rfl):p:=h
theorem Ts(h:p:=by rw[HRes.out];rfl):p:=h
theorem Rs(h:p:=by cases e;exact hgb):p:=h
theorem Lv(h:p:=by rw[<-hwd];exact i5 wp _):p:=h
theorem Hr(h:p:=by simpa using Array.mem_of_getElem? ht):p:=h
theorem Co(h:p:=by rw[hl2,HMe.out];have:=HM.out;omega):p:=h
theorem Fg(h:p:=by unfold maxLen;show(2:Nat)<=_;omega):p:=h
theorem Di(h:p:=by rw[hl];exact i3 hjl hmul):p:=h
theorem Mi(h:p:=by rw[ho,hs]):p:=h
theorem Ec(h:p:=by rw[KD,KD];omega):p:=h
theorem Ta(h:p:=by have:=h.pl;omega):p:=h
theorem RW(h:p:=by have:=h.tl;omega):p:=h
theorem DX(h:p:=by rw[W9,HN.out];omega):p:=h
theorem FD(h:p:=by rw[qS,hl];dsimp only;rw[h];rfl):p:=h
theorem EK(h:p:=by rw[HN.out];exact zd0 _):p:=h
theorem vk(h:p:=by have:=HpL.out;have:=HTs.out;omega):p:=h
theorem Lp(h:p:=by have:=HS2.out;have:=HS1.out;omega):p:=h
theorem E6(h:p:=by have:=h.nx.st.lt;have:=h.lo;omega):p:=h
theorem Dl(h:p:=by simp[h2];exact fun e=>hb e.symm):p:=h
theorem Sb(h:p:=by simpa [Value.ownBlock]using hyg):p:=h
theorem DU(h:p:=by simp[Value.ownBlock]at e;omega):p:=h
theorem ya(h:p:=by cases b<;>rfl):p:=h
theorem RZ(h:p:=by simpa using hrl):p:=h
theorem vd(h:p:=by rw[<-hW3];exact zj.alloc zo _):p:=h
theorem Bs(h:p:=by rw[W7];exact hroom):p:=h
theorem jJ(h:p:=by show 0<10;omega):p:=h
theorem Rk(h:p:=by simp[Nm]):p:=h
theorem Pv(h:p:=by show 2<6;decide):p:=h
theorem jU(h:p:=by exact zaz):p:=h
theorem PL(h:p:=by show 0<12;omega):p:=h
theorem CB(h:p:=by have:=(HZ.out.2.2 y h).2.1;omega):p:=h
theorem MY(h:p:=by simp[hq]):p:=h
theorem Sz(h:p:=by rw[<-HN.out]at*;exact HR.out):p:=h
theorem FW(h:p:=by rw[Pu];exact hx j u hu):p:=h
theorem Al(h:p:=by have:=(HDN.out.pl a ha).2;omega):p:=h
theorem Ad(h:p:=by
  go_wp2_with (first|(refine G1 rfl 239 rfl _ ((zero_of_info jm).1 _) ?_)|(refine jA rfl 239 _ _ rfl _ _ _ _ rfl rfl rfl zk MH jq ?_))
  exact PS):p:=h
theorem O1(h:p:=by
  have e:YZ (x:Int)=95:=by unfold YZ;rw[if_neg zb]
  exact CI):p:=h
theorem Hl(h:p:=by
  go_enter func170,ntmps170;go_wp2_with (go_at_call 220;refine HP.out.mono ?_;rintro e w1 ⟨⟨u,T,x,rfl⟩,hb1⟩)
  exact PO):p:=h
theorem Td(h:p:=by
  have e:YZ (x:Int)=x:=by unfold YZ;rw[if_pos zb]
  exact CI):p:=h
theorem LL(h:p:=by
  rw[<-hw1];have:=i5 (w.alloc (.cells #[.slice A ds.length c] 30)) (.cells (zq qd) zp);exact QN):p:=h
theorem Cz(h:p:=by
  go_enter func70,ntmps70;go_wp2_with fail
  exact jp):p:=h
theorem kh(h:p:=by rw[<-hw1];exact(zu.block _ zl).trans qt):p:=h
theorem K7(h:p:=by rw[<-hw1,heap_alloc_old _ _ zl];exact qt):p:=h
theorem Mw(h:p:=by rw[Ye,List.take_of_length_le VQ]):p:=h
theorem PH(h:p:=by rw[<-hq,Ye,List.take_of_length_le VQ]):p:=h
theorem Bg(h:p:=by rw[setRow_other _ _ _ _ zb];exact(HB3.out.block g (zh HR.out)).trans HR.out):p:=h
theorem SG(h:p:=by rw[<-hw4];exact(World.cell?_setCell_other _ _ _ _ (fun e=>ZD)).trans p1):p:=h
theorem Ff(h:p:=by rw[Ye,zl4,List.take_of_length_le VV]):p:=h
theorem Hn(h:p:=by first|exact HQ9.out|exact HQ.out _ Zc):p:=h
theorem Cb(h:p:=by rw[hy1];unfold XW;rw[if_pos zi];rfl):p:=h
theorem Du(h:p:=by have:=hf q e;exact⟨zb,zb,zb⟩):p:=h
end
section
open Go.RowKit
abbrev ze:=List UInt8
abbrev L(s:ByteArray):ze:=s.data.toList
def bs(l:ze):ByteArray:=⟨l.toArray⟩
theorem qz(l:ze):L (bs l)=l:=by simp[L,bs]
theorem Yl(s:ByteArray):bs (L s)=s:=by simp[L,bs]
theorem Zg(l:ze):(bs l).size=l.length:=by simp[bs,ByteArray.size]
theorem zF(s:ByteArray):(L s).length=s.size:=Array.length_toList
theorem Gg{a b:ByteArray}(h:L a=L b):a=b:=by rw[<-Yl a,<-Yl b,h]
theorem RK(s:ByteArray)(k:Nat)(h:k<s.size):(L s)[k]' VV=s[k]:=rfl
theorem KY{r:ByteArray}{l:ze}(h:L r=l):r=bs l:=by rw[<-h,Yl]
theorem IX(s:ByteArray)(k:Nat)(h:k<s.size):(L s).take (k+1)=(L s).take k++[s[k]]:=by
 rw[List.take_succ_eq_append_getElem VV];rfl
theorem Us(s:ByteArray)(k:Nat)(h:k<s.size):(L s).drop k=s[k]::(L s).drop (k+1):=by
 rw[zd7 VV];rfl
theorem IB(s:ByteArray)(k:Nat)(h:¬k<s.size):(L s).take k=L s:=List.take_of_length_le Kl
theorem tl(s:ByteArray):s.toList=L s:=Lib.toList_data s
theorem JL{s:ByteArray}(h:s.toList=[]):L s=[]:=by rw[<-tl];exact h
theorem XC{s:ByteArray}(h:¬s.toList=[]):(L s).isEmpty=false:=by rw[<-tl];cases hs:s.toList with|nil=>exact absurd hs h|cons a b=>rfl
theorem Ye(s:ByteArray)(a b:Nat):L (s.extract a b)=((L s).take b).drop a:=by
 simp only[L,ByteArray.data_extract,Array.toList_extract,List.extract_eq_take_drop];rw[List.drop_take]
theorem TD(a b:ByteArray):L (a++b)=L a++L b:=by simp[L,ByteArray.data_append]
theorem IY(s:ByteArray)(a b:Nat):(s.extract a b).size=min b s.size - a:=by rw[<-zF,Ye,W8,W9,zF]
theorem bt{w a b:World}(h:Below w.heap.size w a)(k:Below a.heap.size a b):Below w.heap.size w b:=h.trans (k.mono h.size)
theorem ZO{B:Nat}{a w:World}(h:Below B a w)(n:Nat):Below B a (w.drewN n):=⟨h.os,h.tape,h.output,h.size,h.block⟩
theorem zj{b:Nat}{w:World}:Below b w w:=Below.refl b w
theorem zu{w:World}{o:Obj}:Below w.heap.size w (w.alloc o):=zj.alloc (Nat.le_refl _) o
theorem qt{w:World}{o:Obj}:(w.alloc o).heap[w.heap.size]? =some o:=i5 w o
theorem zo{n:Nat}:n<=n:=Nat.le_refl n
theorem zx{α:Type}{a b:α}(h:some a=some b):a=b:=Option.some.inj h
theorem zd{W:World}{g j:Nat}{A:Array Value}{T:TypeId}{u:Value}(h:W.heap[g]? =some (.cells A T (0,0)))(hA:A[j]? =some u):W.cell? ⟨g,j,none⟩=some u:=by rw[cell_of_row _ _ j _ _ _ h];exact hA
theorem Ga(w:World)(row:Option Nat):w.grownBy w row:=⟨rfl,rfl,rfl,Nat.le_refl _,fun _ _ _=>rfl⟩
theorem Y2(w:World)(k:Nat)(row:Option Nat):w.grownBy (w.drewN k) row:=⟨rfl,rfl,rfl,Nat.le_refl _,fun _ _ _=>rfl⟩
theorem ZP{a b:Bool}(h:a=b):Ending.returned (.bool a)=.returned (.bool b):=Gj
theorem IR{k:IntKind}{a b:Int}(h:a=b):Ending.returned (.int k a)=.returned (.int k b):=Gj
theorem zdY{a b:ByteArray}(h:a=b):Ending.returned (.string a)=.returned (.string b):=Gj
end
section
open Go.RowKit
theorem D3:(prog.info? 9).map (fun i=>(i.zero,i.size,i.bytes))=some (some (.string ⟨#[]⟩),1,16):=zg
def pr(c:UInt8):Bool:=decide (32<=(c.toNat:Int))&&decide ((c.toNat:Int)<=126)
def qZ(l:ze):Bool:=l.all pr
def Y3(l:ze):Bool:=qZ l&&decide (l.length<=256)
theorem Fh(l:ze)(c:UInt8):qZ (l++[c])=(qZ l&&pr c):=by simp[qZ]
theorem L2{l:ze}{k:Nat}(s:ByteArray)(hk:k<s.size)(hl:L s=l)(h:pr s[k]=false):qZ l=false:=by
 subst hl;rw[qZ,List.all_eq_false];exact CH
theorem OS(s:ByteArray)(w:World)(hs:s.size<=9223372036854775807):
 Calls prog 195 #[.string s] w fun e w'=>e=.returned (.bool (Y3 (L s)))/\w=w':=by
 go_enter func195,ntmps195;go_wp2
 go_loop [6] (fun i=>∃k:Nat,k<=s.size/\i=.int .i64 k/\Hid (qZ ((L s).take k)=true)) (fun i=>s.size - (intOf i).toNat)
 case atStart=>exact⟨0,X1 _,rfl,rfl⟩
 case round=>
  obtain⟨k,hk,rfl,hp⟩:=hrel;go_wp2
  case roundEnd=>
   go_round
   case rel=>exact⟨k+1,zb,zU,by
    show qZ _=true;rw[IX s k zb,Fh,hp.out];simp[pr];omega⟩
   case measure=>simp[intOf];omega
  · exact F1
  · exact F1
  · go_ret;refine⟨ZP ?_,rfl⟩;have h:=hp.out;rw[IB s k qq]at h;rw[Y3,h,zF];simp;omega
def setA(f:Nat->Bool):Array Value:=Array.ofFn (n:=256) fun i=>.bool (f i)
def qC(f:Nat->Bool)(l:ze):Nat->Bool:=fun c=>f c||l.any fun b=>b.toNat==c
def Qw:Nat->Bool:=fun _=>false
theorem kL:(prog.info? 256).map (fun i=>(i.zero,i.size))=some (some (.agg (setA Qw)),256):=zg
theorem Xy(f:Nat->Bool):(setA f).size=256:=by simp[setA]
theorem KI(f:Nat->Bool)(c:Nat)(h:c<256):(setA f)[c]? =some (.bool (f c)):=by
 simp[setA,h]
theorem MF{B:Nat}{a w:World}(h:Below B a w){g:Nat}(hg:B<=g)(cs:Array Value):Below B a (w.setRow g cs):=
 h.trans ⟨rfl,rfl,rfl,zl,fun k hk=>setRow_other w g k cs zb⟩
theorem zgL(f:Nat->Bool)(c:Nat)(h:c<256):(setA f).setIfInBounds c (.bool true)=setA (fun d=>f d||d==c):=by
 apply Array.ext_getElem?;intro i;rw[Array.getElem?_setIfInBounds];by_cases e:c=i
 · subst e;rw[if_pos rfl,if_pos (by rw[Xy];exact h),KI _ _ h];simp
 · have e':(i==c)=false:=by rw[beq_eq_false_iff_ne];exact fun h=>e h.symm
   rw[if_neg e];by_cases hi:i<256
   · rw[KI _ _ hi,KI _ _ hi,e',Bool.or_false]
   · rw[Array.getElem?_eq_none (by rw[Xy];omega),Array.getElem?_eq_none (by rw[Xy];omega)]
theorem IH(f:Nat->Bool):(setA f).all (·.oneCell')=true:=by
 rw[Array.all_eq_true];intro i hi;have h:=KI f i (by rw[Xy]at hi;exact hi);exact SZ
theorem zhU(f:Nat->Bool):qC f []=f:=by funext c;simp[qC]
attribute [irreducible] setA Qw
theorem zes(f:Nat->Bool)(l:ze)(b:UInt8):(fun d=>qC f l d||d==b.toNat)=qC f (l++[b]):=by
 funext d
 simp only[qC,List.any_append,List.any_cons,List.any_nil,Bool.or_false,Bool.or_assoc];rw[show(d==b.toNat)=(b.toNat==d)from by rw[Bool.eq_iff_iff];simp;exact eq_comm]
theorem kA(f:Nat->Bool)(s:ByteArray)(w:World)(hs:s.size<=9223372036854775807):
 Calls prog 188 #[.agg (setA f),.string s] w fun e w'=>e=.returned (.agg (setA (qC f (L s))))/\Below w.heap.size w w':=by
 have hz:=(zero_of_info kL).1;have hi:=(zero_of_info kL).2;go_enter func188,ntmps188;go_wp2;clear hz;have Hi:=za hi;clear hi;go_loopg [8] (s.size) (fun g i wr=>∃k:Nat,k+g=s.size/\i=.int .i64 k/\wr=(w.alloc (.cells (setA (qC f ((L s).take k))) 256)).alloc (.cells (setA Qw) 256))
 case atStart=>exact⟨0,zb,rfl,by simp[zhU]⟩
 case round=>
  obtain⟨k,hk,rfl,rfl⟩:=hrel;by_cases hlt:k<s.size
  · have hb:(s[k].toNat:Int)<256:=by have:=s[k].toNat_lt;omega
    have hg:=KI (qC f ((L s).take k)) s[k].toNat zb;have HG:=za (zgL (qC f ((L s).take k)) s[k].toNat zb);have Hk:=za hk;clear hk;go_wp2;have hk:=Hk.out;go_roundg (gk - 1)
    case measure=>omega
    case rel=>
     refine⟨k+1,zb,zU,?_⟩;rw[HG.out,zes,IX s k hlt]
  · have hall:=IB s k hlt;rw[hall];clear hall;have h1:=Xy (qC f (L s));have h2:=IH (qC f (L s));have h0:=Xy Qw;have HS:Hid (∃S,setA (qC f (L s))=S):=⟨_,rfl⟩;obtain⟨S,hS⟩:=HS.out;rw[hS]at h1 h2⊢;have HS:=za hS;clear hS;generalize setA Qw=S0 at*;have hl1:=heap_alloc2_old w (.cells S 256) (.cells S0 256);have hl2:=heap_alloc2_new w (.cells S 256) (.cells S0 256);have H1:=za hl1;have H2:=za hl2;have H3:=za h1;have H4:=za h2;have H5:=za h0;clear hl1 hl2 h1 h2 h0;go_wp2_with (first|(refine wpList_load_row rfl 256 _ rfl _ rfl _ _ _ _ H1.out underlying256 rfl Il ?_)|(refine wpList_store_row rfl 256 _ _ rfl _ _ rfl rfl _ _ H2.out Il (by rw[H3.out,H5.out]) H4.out ?_))
    refine bodyPost_ret (v:=.agg S) (results_cell_row rfl _ _ (w.heap.size+1) 256 S (0,0) _ rfl (setRow_heap _ _ _ _ _ _ H2.out) underlying256 rfl Il) rfl ⟨by rw[HS.out],?_⟩;exact MF ((zj.alloc zo _).alloc zl _) zb _
theorem zeE(f:Nat->Bool)(w:World)(c:Nat)(h:c<256):(w.alloc (.cells (setA f) 256)).cell? ⟨w.heap.size,c,none⟩=some (.bool (f c)):=by
 rw[cell_of_row _ _ c (setA f) _ (0,0) (i5 w _),KI f c h]
def Q3(f:Nat->Bool)(l:ze):Bool:=l.all fun b=>f b.toNat
theorem zbq(f:Nat->Bool)(l:ze)(c:UInt8):Q3 f (l++[c])=(Q3 f l&&f c.toNat):=by simp[Q3]
theorem zg4{f:Nat->Bool}{l:ze}{k:Nat}(s:ByteArray)(hk:k<s.size)(hl:L s=l)(h:f s[k].toNat=false):Q3 f l=false:=by
 subst hl;rw[Q3,List.all_eq_false];exact CH
theorem NC(f:Nat->Bool)(s:ByteArray)(w:World)(hs:s.size<=9223372036854775807):
 Calls prog 189 #[.agg (setA f),.string s] w fun e w'=>e=.returned (.bool (Q3 f (L s)))/\Below w.heap.size w w':=by
 go_enter func189,ntmps189;go_wp2;go_loopg [8] (s.size) (fun g i wr=>∃k:Nat,k+g=s.size/\i=.int .i64 k/\w.alloc (.cells (setA f) 256)=wr/\Hid (Q3 f ((L s).take k)=true))
 case atStart=>exact⟨0,zb,rfl,rfl,rfl⟩
 case round=>
  obtain⟨k,hk,rfl,rfl,hp⟩:=hrel;have hkk:k<=s.size:=zb;have Hk:=za hk;clear hk;by_cases hlt:k<s.size
  · have hb:(s[k].toNat:Int)<256:=by have:=s[k].toNat_lt;omega
    have hc:=zeE f w s[k].toNat zb;cases hf:f s[k].toNat
    · rw[hf]at hc;have HF:=za hf;clear hf;go_wp2;go_ret;exact⟨ZP (by rw[zg4 s hlt rfl HF.out]),zj.alloc zo _⟩
    · rw[hf]at hc;have HF:=za hf;clear hf;go_wp2;have hk:=Hk.out;go_roundg (gk - 1)
      case measure=>omega
      case rel=>exact⟨k+1,zb,zU,rfl,by show Q3 _ _=true;rw[IX s k hlt,zbq,hp.out,HF.out];rfl⟩
  · go_wp2;go_ret;have h:=hp.out;rw[IB s k hlt]at h;exact⟨ZP Gj,zj.alloc zo _⟩
end
section
open Go.RowKit
def Vo(v n:Int):Int:=if n<=1 then 0 else v % n
theorem kV(v n:Int)(h:1<=n):0<=Vo v n/\Vo v n<n:=by
 unfold Vo
 split
 · omega
 · exact⟨Int.emod_nonneg _ zb,Int.emod_lt_of_pos _ zb⟩
theorem zhR(v n:Int)(hn:0<n)(h:0<=v.tmod n):v.tmod n=v % n:=by
 rw[Int.tmod_eq_emod]at h⊢
 split at h
 · simp_all
 · have h1:=Int.emod_nonneg v (show n≠0 by omega);have h2:=Int.emod_lt_of_pos v hn;exfalso;omega
theorem zkD(v n:Int)(hn:0<n)(h:v.tmod n<0):v.tmod n+n=v % n:=by
 rw[Int.tmod_eq_emod]at h⊢
 split at h
 · have h1:=Int.emod_nonneg v (show n≠0 by omega);exfalso;omega
 · rename_i h3;rw[if_neg h3];omega
theorem Oi(v n:Int)(w:World)(_h1: -9223372036854775808<=v)(_h2:v<=9223372036854775807)(h3:n<=9223372036854775807):
 Calls prog 13 #[.int .i64 v,.int .i64 n] w fun e w'=>e=.returned (.int .i64 (Vo v n))/\w=w':=by
 go_enter func13,ntmps13;go_wp2
 · go_ret;exact⟨IR (by simp[Vo];omega),rfl⟩
 · go_ret;have hn:1<n:=qq;have ht:v.tmod n<0:=qq;have e:=zkD v n zb ht;have r:=kV v n zb;rw[Vo,if_neg zb]at r;exact⟨IR (by rw[e,Vo,if_neg zb];exact IntWalk.wrap64_in _ ⟨zb,zb⟩),rfl⟩
 · go_ret;have hn:1<n:=qq;have ht:0<=v.tmod n:=qq;exact⟨IR (by rw[zhR v n zb ht,Vo,if_neg zb]),rfl⟩
structure kT(w:World)(b:Nat)(n:Nat)(p:Nat):Prop where
 blk:∃A c t,w.heap[b]? =some (.cells #[.slice A n c,.int .i64 p] t (0,0))/\∃ba off,(0<n->A=some ⟨ba,off,none⟩)/\ba≠b/\∀i,i<n->∃z:Int,w.cell? ⟨ba,off+i,none⟩=some (.int .i64 z) /\ -9223372036854775808<=z/\z<=9223372036854775807
 small:n<=9223372036854775807
theorem kT.lt{w:World}{b n p:Nat}(h:kT w b n p):b<w.heap.size:=by
 obtain⟨A,c,t,hb,_⟩:=h.blk;rcases Nat.lt_or_ge b w.heap.size with hlt|hge
 · exact hlt
 · rw[Array.getElem?_eq_none hge]at hb;cases hb
def vr(m:Int)(P:World->Prop)(e:Ending)(w':World):Prop:=∃r:Int,0<=r/\r<m/\e=.returned (.int .i64 r)/\P w'
theorem zfi(b n p:Nat)(m:Int)(w:World)(h:kT w b n p)(h1:1<=m)(h2:m<=1000000)(h3:p<=1000000):
 Calls prog 17 #[.pointer (some ⟨b,0,none⟩),.int .i64 m] w (vr m fun w'=>∃k,(w.setCell ⟨b,1,none⟩ (.int .i64 (p+1))).drewN k=w'):=by
 obtain⟨⟨A,c,t,hb,ba,off,hA,hne,hz⟩,hs⟩:=h;have c0:w.cell? ⟨b,0,none⟩=some (.slice A n c):=zd hb rfl;have c1:w.cell? ⟨b,1,none⟩=some (.int .i64 p):=zd hb rfl;have f1:w.frozen? ⟨b,1,none⟩=false:=frozen_of_row _ _ _ _ _ hb;clear hb;by_cases hlt:p<n
 · obtain rfl:=hA zb;obtain⟨z,hc,z1,z2⟩:=hz p hlt;clear hz hA;go_enter func17,ntmps17;go_wp2;go_quiet (fail)
   exact DB
 · clear hz hA;go_enter func17,ntmps17;exact DB
def GT(Q:ByteArray->Prop)(P:World->Prop)(e:Ending)(w':World):Prop:=∃s:ByteArray,Q s/\e=.returned (.string s)/\P w'
end
section
open Go.RowKit
structure zr(w:World)(B:Nat)(A:Option Addr)(k n:Nat)(xs:List Value):Prop where
 len:xs.length=n*k
 at_:0<n->∃ba off,A=some ⟨ba,off,none⟩/\ba<B/\∀j u,xs[j]? =some u->w.cell? ⟨ba,off+j,none⟩=some u
theorem zr.keep{w w':World}{B k n:Nat}{A:Option Addr}{xs:List Value}(h:zr w B A k n xs)(hb:Below B w w'):zr w' B A k n xs:=
 ⟨h.len,fun hn=>by
  obtain⟨ba,off,e,hB,hc⟩:=h.at_ hn;exact⟨ba,off,e,hB,fun j u hu=>by rw[hb.cell (p:=⟨ba,off+j,none⟩) hB];exact hc j u hu⟩⟩
theorem zr.of_own{w:World}{base k n:Nat}{e:TypeId}{A:Option Addr}{c:Nat}{xs:List Value}(h:w.ownsRow base e k (.slice A n c) n xs):zr w w.heap.size A k n xs:=by
 refine⟨h.1,fun hn=>?_⟩;obtain⟨g,cap,hv,_,hlt⟩:=h.form hn;have hA:A=some ⟨g,0,none⟩:=by injection hv
 subst hA;refine⟨g,0,rfl,hlt,fun j u hu=>?_⟩;have:=h.cells (g:=g) rfl j u hu;have hadd:(⟨g,0,none⟩:Addr).add j=⟨g,j,none⟩:=PY;rw[hadd]at this;rw[zk4];exact this
def cellsOf{α:Type}(enc:α->List Value)(l:List α):List Value:=l.flatMap enc
theorem Kq{α:Type}(enc:α->List Value)(k:Nat)(hk:∀x,(enc x).length=k)(l:List α):(cellsOf enc l).length=l.length*k:=by
 induction l with
 |nil=>simp[cellsOf]
 |cons x l ih=>simp only[cellsOf,List.flatMap_cons,r7,u0,hk]at ih⊢;rw[ih,Nat.add_mul];omega
theorem zfA{α:Type}(enc:α->List Value)(k:Nat)(hk:∀x,(enc x).length=k)(l:List α)(i f:Nat)(x:α)(hx:l[i]? =some x)(hf:f<k):(cellsOf enc l)[i*k+f]? =(enc x)[f]?:=by
 induction l generalizing i with
 |nil=>simp at hx
 | cons y l ih=>
   cases i with
   | zero=>
     simp at hx;subst hx;simp only[cellsOf,List.flatMap_cons,Nat.zero_mul,zk4];rw[zd9 (by rw[hk];exact hf)]
   | succ i=>
     simp at hx;simp only[cellsOf,List.flatMap_cons];rw[ze3 yv,hk,show(i+1)*k+f - k=i*k+f from by rw[Nat.add_mul];omega];exact ih i hx
theorem Xf{α:Type}(enc:α->List Value)(l m:List α):cellsOf enc (l++m)=cellsOf enc l++cellsOf enc m:=XP
theorem zr.cell{α:Type}{enc:α->List Value}{k:Nat}(hk:∀x,(enc x).length=k){w:World}{B:Nat}{A:Option Addr}{l:List α}(h:zr w B A k l.length (cellsOf enc l)){i:Nat}(hi:i<l.length):
 ∃ba off,A=some ⟨ba,off,none⟩/\ba<B/\∀j x,l[j]? =some x->∀f u,(enc x)[f]? =some u->w.cell? ⟨ba,off+(j*k+f),none⟩=some u:=by
 obtain⟨ba,off,e,hB,hc⟩:=h.at_ zb;refine⟨ba,off,e,hB,fun j x hx f u hu=>hc _ _ ?_⟩;have hf:f<k:=by
  have:=List.getElem?_eq_some_iff.1 hu;obtain⟨h1,_⟩:=this;rw[hk]at h1;exact h1
 rw[zfA enc k hk l j f x hx hf];exact hu
structure At where
 name:ByteArray
 val:ByteArray
def zw(x:At):List Value:=[.string x.name,.string x.val]
theorem Ow(x:At):(zw x).length=2:=rfl
def Un(l:List At)(nm:ze):Option ByteArray:=(l.find? fun x=>L x.name==nm).map (·.val)
end
section
open Go.RowKit
structure Ls(β:Type) where
 A:Option Addr
 c:Nat
 l:List β
def Ls.v{β:Type}(y:Ls β):Value:=.slice y.A y.l.length y.c
structure UV(w:World)(B:Nat)(row:Option Nat)(A:Option Addr)(k n:Nat)(xs:List Value):Prop where
 at_:zr w B A k n xs
 off:0<n->∀a,A=some a->some a.block≠row
theorem zr.grown{w w':World}{B k n:Nat}{A:Option Addr}{xs:List Value}{row:Option Nat}(h:zr w B A k n xs)(hB:B<=w.heap.size)(hg:w.grownBy w' row)(hne:0<n->∀a,A=some a->some a.block≠row):zr w' B A k n xs:=
 ⟨h.len,fun hn=>by
  obtain⟨ba,off,e,hb,hc⟩:=h.at_ hn;refine⟨ba,off,e,hb,fun j u hu=>?_⟩;rw[World.cell?_of_block (w:=w) (hg.block ba (i4 hb hB) (hne hn _ e))];exact hc j u hu⟩
theorem zr.up{w:World}{B B' k n:Nat}{A:Option Addr}{xs:List Value}(h:zr w B A k n xs)(hB:B<=B'):zr w B' A k n xs:=
 ⟨h.len,fun hn=>by
  obtain⟨ba,off,e,hb,hc⟩:=h.at_ hn;exact⟨ba,off,e,i4 hb hB,hc⟩⟩
theorem UV.grown{w w':World}{B k n:Nat}{A:Option Addr}{xs:List Value}{row:Option Nat}(h:UV w B row A k n xs)(hB:B<=w.heap.size)(hg:w.grownBy w' row):UV w' B row A k n xs:=
 ⟨h.at_.grown hB hg h.off,h.off⟩
theorem UV.keep{w w':World}{B k n:Nat}{A:Option Addr}{xs:List Value}{row:Option Nat}(h:UV w B row A k n xs)(hb:Below B w w'):UV w' B row A k n xs:=⟨h.at_.keep hb,h.off⟩
theorem zr.offOf{w:World}{B k n:Nat}{A:Option Addr}{xs:List Value}(h:zr w B A k n xs){row:Option Nat}(hr:∀g,row=some g->B<=g):UV w B row A k n xs:=
 ⟨h,fun hn a e hx=>by
  obtain⟨ba,off,e',hb,_⟩:=h.at_ hn;rw[e]at e';obtain rfl:=zx e';have:=hr _ hx.symm;dsimp only at this;omega⟩
section
variable{α β:Type}(k:Nat)(enc:β->List Value)(inn:α->Ls β)
def Yw(w:World)(B:Nat)(ls:List α):Prop:=∀y∈ls,zr w B (inn y).A k (inn y).l.length (cellsOf enc (inn y).l)
def Zl(w:World)(B:Nat)(row:Option Nat)(ls:List α):Prop:=∀y∈ls,UV w B row (inn y).A k (inn y).l.length (cellsOf enc (inn y).l)
variable{k enc inn}
theorem Yw.keep{w w':World}{B:Nat}{ls:List α}(h:Yw k enc inn w B ls)(hb:Below B w w'):Yw k enc inn w' B ls:=fun y hy=>(h y hy).keep hb
theorem Yw.up{w:World}{B B':Nat}{ls:List α}(h:Yw k enc inn w B ls)(hB:B<=B'):Yw k enc inn w B' ls:=fun y hy=>(h y hy).up hB
theorem Zl.at_{w:World}{B:Nat}{row:Option Nat}{ls:List α}(h:Zl k enc inn w B row ls):Yw k enc inn w B ls:=fun y hy=>(h y hy).at_
theorem Zl.keep{w w':World}{B:Nat}{row:Option Nat}{ls:List α}(h:Zl k enc inn w B row ls)(hb:Below B w w'):Zl k enc inn w' B row ls:=fun y hy=>(h y hy).keep hb
theorem Zl.grown{w w':World}{B:Nat}{row:Option Nat}{ls:List α}(h:Zl k enc inn w B row ls)(hB:B<=w.heap.size)(hg:w.grownBy w' row):Zl k enc inn w' B row ls:=fun y hy=>(h y hy).grown hB hg
theorem Yw.offOf{w:World}{B:Nat}{ls:List α}(h:Yw k enc inn w B ls){row:Option Nat}(hr:∀g,row=some g->B<=g):Zl k enc inn w B row ls:=fun y hy=>(h y hy).offOf hr
theorem Zl.up{w:World}{B B':Nat}{row:Option Nat}{ls:List α}(h:Zl k enc inn w B row ls)(hB:B<=B'):Zl k enc inn w B' row ls:=fun y hy=>⟨(h y hy).at_.up hB,(h y hy).off⟩
theorem Zl.nil{w:World}{B:Nat}{row:Option Nat}:Zl k enc inn w B row []:=fun _ h=>qI
theorem Zl.snoc{w:World}{B:Nat}{row:Option Nat}{ls:List α}{x:α}(h:Zl k enc inn w B row ls)(hx:UV w B row (inn x).A k (inn x).l.length (cellsOf enc (inn x).l)):Zl k enc inn w B row (ls++[x]):=fun y hy=>by
 rcases List.mem_append.1 hy with hy|hy
 · exact h y hy
 · obtain rfl:=List.mem_singleton.1 hy;exact hx
theorem Yw.sub{w:World}{B:Nat}{ls ms:List α}(h:Yw k enc inn w B ls)(hs:∀y∈ms,y∈ls):Yw k enc inn w B ms:=fun y hy=>h y (hs y hy)
theorem Zl.moved{w w':World}{B:Nat}{row row':Option Nat}{ls:List α}(h:Zl k enc inn w B row ls)(hB:B<=w.heap.size)(hg:w.grownBy w' row)(hr:row'=row∨∀g,row'=some g->B<=g):Zl k enc inn w' B row' ls:=by
 rcases hr with rfl|hr
 · exact h.grown hB hg
 · exact(Zl.at_ (h.grown hB hg)).offOf hr
end
end
section
open Go.RowKit
structure V5(W:World)(b n q base:Nat):Prop where
 blk:∃A c t,W.heap[b]? =some (.cells #[.slice A n c,.int .i64 q] t (0,0))/\∃ba off,(0<n->A=some ⟨ba,off,none⟩)/\ba≠b/\(0<n->ba<base)/\∀i,i<n->∃z:Int,W.cell? ⟨ba,off+i,none⟩=some (.int .i64 z) /\ -9223372036854775808<=z/\z<=9223372036854775807
 small:n<=9223372036854775807
 lt:b<base
theorem V5.is{W:World}{b n q base:Nat}(h:V5 W b n q base):kT W b n q:=by
 obtain⟨A,c,t,hh,ba,off,hA,hne,_,hz⟩:=h.blk;exact⟨⟨A,c,t,hh,ba,off,hA,hne,hz⟩,h.small⟩
theorem V5.of{W:World}{b n q:Nat}(h:kT W b n q):V5 W b n q W.heap.size:=by
 have hl:=h.lt;obtain⟨⟨A,c,t,hh,ba,off,hA,hne,hz⟩,hs⟩:=h;exact⟨⟨A,c,t,hh,ba,off,hA,hne,fun h0=>by obtain⟨z,hc,_⟩:=hz 0 h0;exact block_lt_of_cell hc,hz⟩,hs,hl⟩
theorem V5.keep{W W':World}{b n q q' base:Nat}(h:V5 W b n q base)(hb:∀A c t,W.heap[b]? =some (.cells #[.slice A n c,.int .i64 q] t (0,0))->W'.heap[b]? =some (.cells #[.slice A n c,.int .i64 q'] t (0,0)))(ho:∀k,k<base->k≠b->W'.heap[k]? =W.heap[k]?):V5 W' b n q' base:=by
 obtain⟨A,c,t,hh,ba,off,hA,hne,hlt,hz⟩:=h.blk;refine⟨⟨A,c,t,hb A c t hh,ba,off,hA,hne,hlt,fun i hi=>?_⟩,h.small,h.lt⟩;obtain⟨z,hc,z1,z2⟩:=hz i hi;exact⟨z,by rw[World.cell?_of_block (w:=W) (ho ba (hlt zb) hne)];exact hc,z1,z2⟩
theorem zh{w:World}{g:Nat}{o:Obj}(h:w.heap[g]? =some o):g<w.heap.size:=(Array.getElem?_eq_some_iff.1 h).1
theorem zG{w w':World}(h:Below w.heap.size w w')(row:Option Nat):w.grownBy w' row:=⟨h.os,h.tape,h.output,h.size,fun k hk _=>h.block k hk⟩
theorem qY{a b c:World}{row:Option Nat}(h:a.grownBy b row)(k:b.grownBy c row):a.grownBy c row:=h.trans k
theorem YL{a b c:World}{row row':Option Nat}(h:a.grownBy b row)(k:b.grownBy c row')(hr:∀j,row'=some j->a.heap.size<=j∨row=some j):a.grownBy c row:=h.andThen k hr
theorem Bb{a b:World}(h:a.grownBy b none):Below a.heap.size a b:=⟨h.os,h.tape,h.output,h.size,fun k hk=>h.block k hk zl⟩
theorem qE(w:World)(B i:Nat)(u:Value):w.grownBy (w.setCell ⟨B,i,none⟩ u) (some B):=⟨rfl,rfl,rfl,Oz,fun k _ hk=>heap_setCell_other _ _ _ _ (fun e=>hk (by rw[e]))⟩
theorem qR(w:World)(B:Nat)(c:Array Value):w.grownBy (w.setRow B c) (some B):=⟨rfl,rfl,rfl,by simp[World.setRow],fun k _ hk=>setRow_other w B k c (fun e=>hk (by rw[e]))⟩
structure qr(w0:World)(b n p d:Nat)(W:World):Prop where
 tape:∃q,p<=q/\q<=p+d/\V5 W b n q w0.heap.size
 gr:w0.grownBy W (some b)
theorem qr.lt{w0 W:World}{b n p d:Nat}(h:qr w0 b n p d W):b<w0.heap.size:=by obtain⟨q,_,_,hq⟩:=h.tape;exact hq.lt
theorem qr.start{w:World}{b n p:Nat}(h:kT w b n p):qr w b n p 0 w:=⟨⟨p,zo,zb,.of h⟩,Ga _ _⟩
theorem qr.more{w0 W:World}{b n p d d':Nat}(h:qr w0 b n p d W)(hd:d<=d'):qr w0 b n p d' W:=by
 obtain⟨⟨q,q1,q2,hq⟩,hg⟩:=h;exact⟨⟨q,q1,zb,hq⟩,hg⟩
theorem qr.size{w0 W:World}{b n p d:Nat}(h:qr w0 b n p d W):w0.heap.size<=W.heap.size:=h.gr.size
theorem qr.grown{w0 W W':World}{b n p d:Nat}{row:Option Nat}(h:qr w0 b n p d W)(hg:W.grownBy W' row)(hr:∀j,row=some j->w0.heap.size<=j):qr w0 b n p d W':=by
 have hs:=h.size;have hl:=h.lt;obtain⟨⟨q,q1,q2,hq⟩,h2⟩:=h;have hk:∀k,k<w0.heap.size->W'.heap[k]? =W.heap[k]?:=fun k hk=>hg.block k zb (fun e=>by have:=hr k e.symm;omega);exact⟨⟨q,q1,q2,hq.keep (fun A c t hh=>by rw[hk b hl];exact hh) (fun k hk' _=>hk k hk')⟩,YL h2 hg fun j e=>Or.inl (hr j e)⟩
theorem qr.below{w0 W W':World}{b n p d:Nat}(h:qr w0 b n p d W)(hb:Below W.heap.size W W'):qr w0 b n p d W':=h.grown (zG hb none) (fun _ e=>ZK)
theorem qr.alloc{w0 W:World}{b n p d:Nat}(h:qr w0 b n p d W)(o:Obj):qr w0 b n p d (W.alloc o):=h.grown (World.grownBy_alloc W o none) (fun _ e=>ZK)
theorem qr.took{w0 W:World}{b n p d q:Nat}(h:w0.grownBy W (some b))(hq:V5 W b n q w0.heap.size)(q1:p<=q)(q2:q<=p+d)(k:Nat):qr w0 b n p (d+1) ((W.setCell ⟨b,1,none⟩ (.int .i64 (q+1))).drewN k):=by
 have hblk:∀j,j≠b->((W.setCell ⟨b,1,none⟩ (.int .i64 (q+1))).drewN k).heap[j]? =W.heap[j]?:=fun j hj=>heap_setCell_other _ _ _ _ hj;refine⟨⟨q+1,zb,zb,hq.keep (fun A c t hh=>?_) (fun j hj hne=>hblk j hne)⟩,qY h (qY (qE W b 1 _) (Y2 _ _ _))⟩;show(W.setCell _ _).heap[b]? =_;rw[heap_setCell_same _ _ _ _ _ _ hh];rfl
structure zA(w0:World)(b n p d:Nat)(W W':World):Prop where
 st:qr w0 b n p d W'
 gr:W.grownBy W' (some b)
theorem QO{w0 W:World}{b n p d:Nat}(m:Int)(h:qr w0 b n p d W)(h1:1<=m)(h2:m<=1000000)(h3:p+d<=1000000):
 Calls prog 17 #[.pointer (some ⟨b,0,none⟩),.int .i64 m] W (vr m (zA w0 b n p (d+1) W)):=by
 obtain⟨⟨q,q1,q2,hq⟩,hg⟩:=h;refine(zfi b n q m W hq.is h1 h2 zb).mono fun e w' ⟨r,r0,r1,he,k,hw⟩=>⟨r,r0,r1,he,?_⟩;subst hw;exact⟨qr.took hg hq q1 q2 k,qY (qE W b 1 _) (Y2 _ _ _)⟩
theorem zgx(b n p:Nat)(m:Int)(w:World)(h:kT w b n p)(h1:1<=m)(h2:m<=1000000)(h3:p<=1000000):
 ∃r:Int,0<=r/\r<m/\∀W,Below w.heap.size w W->Calls prog 17 #[.pointer (some ⟨b,0,none⟩),.int .i64 m] W fun e w'=>e=.returned (.int .i64 r)/\∃k,(W.setCell ⟨b,1,none⟩ (.int .i64 (p+1))).drewN k=w':=by
 have hlt:=h.lt;obtain⟨⟨A,c,t,hb,ba,off,hA,hne,hz⟩,hs⟩:=h;have HC:Hid (∀W,Below w.heap.size w W->W.cell? ⟨b,0,none⟩=some (.slice A n c)/\W.cell? ⟨b,1,none⟩=some (.int .i64 p)/\W.frozen? ⟨b,1,none⟩=false):=za fun W hW=>by
  have hb':=(hW.block b hlt).trans hb;exact⟨zd hb' rfl,zd hb' rfl,frozen_of_row _ _ _ _ _ hb'⟩
 clear hb;by_cases hp:p<n
 · obtain rfl:=hA zb;obtain⟨z,hc,z1,z2⟩:=hz p hp;have HZ:Hid (∀W,Below w.heap.size w W->W.cell? ⟨ba,off+p,none⟩=some (.int .i64 z)):=za fun W hW=>by
    rw[hW.cell (p:=⟨ba,off+p,none⟩) (block_lt_of_cell hc)];exact hc
   clear hz hA hc;refine⟨Vo z m,(kV _ _ h1).1,(kV _ _ h1).2,fun W hW=>?_⟩;obtain⟨c0,c1,f1⟩:=HC.out W hW;have c2:=HZ.out W hW;have HW:=za hW;clear hW;go_enter func17,ntmps17;go_wp2;go_quiet (fail)
   go_wp2;go_quiet (fail)
   go_wp2_with (go_at_call 13;refine(Oi _ _ _ zb zb zb).mono ?_;rintro e w' ⟨rfl,rfl⟩)
   go_ret;exact⟨rfl,_,rfl⟩
 · clear hz hA;refine⟨Vo (((p:Int)*7).tmod 11) m,(kV _ _ h1).1,(kV _ _ h1).2,fun W hW=>?_⟩;obtain⟨c0,c1,f1⟩:=HC.out W hW;have HW:=za hW;clear hW;go_enter func17,ntmps17;go_wp2;go_quiet (fail)
   go_wp2_with (go_at_call 13;refine(Oi _ _ _ zb zb zb).mono ?_;rintro e w' ⟨rfl,rfl⟩)
   go_ret;refine⟨?_,_,rfl⟩
   first|rfl|(congr 2;simp;done)|(rw[Int.tmod_eq_emod_of_nonneg zb])
theorem J9{w0 W:World}{b n p d:Nat}(m:Int)(h:qr w0 b n p d W)(h1:1<=m)(h2:m<=1000000)(h3:p+d<=1000000):
 ∃r:Int,0<=r/\r<m/\∀W1,Below W.heap.size W W1->Calls prog 17 #[.pointer (some ⟨b,0,none⟩),.int .i64 m] W1 fun e w'=>e=.returned (.int .i64 r)/\zA w0 b n p (d+1) W1 w':=by
 have h':=h;obtain⟨⟨q,q1,q2,hq⟩,hg⟩:=h;obtain⟨r,r0,r1,hr⟩:=zgx b n q m W hq.is h1 h2 zb;refine⟨r,r0,r1,fun W1 hW=>(hr W1 hW).mono fun e w' ⟨he,k,hw⟩=>⟨he,?_⟩⟩;subst hw;have hq1:V5 W1 b n q w0.heap.size:=hq.keep (fun A c t hh=>by rw[hW.block b (zh hh)];exact hh) (fun k hk _=>hW.block k (i4 hk h'.size));exact⟨qr.took (h'.below hW).gr hq1 q1 q2 k,qY (qE W1 b 1 _) (Y2 _ _ _)⟩
theorem De{w0 W:World}{b n p d:Nat}(g off c:Nat)(ss:List ByteArray)(h:qr w0 b n p d W)(h3:p+d<=1000000)(hg:g≠b)(h0:0<ss.length)(h1:ss.length<=1000)
 (hc:∀i s,ss[i]? =some s->W.cell? ⟨g,off+i,none⟩=some (.string s)):
 Calls prog 18 #[.pointer (some ⟨b,0,none⟩),.slice (some ⟨g,off,none⟩) ss.length c] W (GT (· ∈ss) (zA w0 b n p (d+1) W)):=by
 have HN:=QO (ss.length:Nat) h zb zb h3;have H:=za h;have HC:=za hc;clear h hc;have hne:((ss.length:Int)==0)=false:=by simp;intro e;rw[e]at h0;simp at h0
 have h2:(ss.length:Int)<=1000:=zb;go_enter func18,ntmps18;go_wp2_with fail
 refine HN.mono ?_;rintro e w' ⟨r,r0,r1,rfl,hT⟩;obtain⟨j,rfl⟩:=Int.eq_ofNat_of_zero_le r0;have hj:j<ss.length:=zb;have hcell:w'.cell? ⟨g,off+j,none⟩=some (.string ss[j]):=by
  have h4:=HC.out j ss[j] (l0 hj);exact hT.gr.cell h4 (fun e=>hg (zx e))
 have HT:=za hT;clear hT;generalize hs:ss[j]=s at hcell;have HS:=za hs;clear hs;go_wp2;go_ret;exact⟨s,by rw[<-HS.out];exact X8 _,rfl,HT.out⟩
def MR(m:Nat)(A:Array Value):Bool:=A.toList.all fun
 | .string s=>decide (s.size<=m)
 |_=>false
theorem jZ{m:Nat}:∀{l:List Value},(l.all fun| .string s=>decide (s.size<=m)|_=>false)=true->∃ss:List ByteArray,l=ss.map Value.string/\∀s∈ss,s.size<=m
 | [],_=>⟨[],rfl,fun _ h=>qI⟩
 | v ::r,h=>by
   rw[List.all_cons,zm3]at h;obtain⟨ss,e,hs⟩:=jZ h.2;cases v with
   | string s=>
     refine⟨s::ss,GY,fun x hx=>?_⟩;rcases List.mem_cons.1 hx with rfl|hx
     · simpa using h.1
     · exact hs x hx
   |_=>simp at h
theorem VW{w0 W:World}{b n p d:Nat}(m:Nat)(A:Array Value)(T:TypeId)(g k c:Nat)(h:qr w0 b n p d W)(hA:MR m A=true)(hk:A.size=k)(hk0:0<k)(hk1:k<=1000)(hg:g=W.heap.size)(h3:p+d<=1000000):
 Calls prog 18 #[.pointer (some ⟨b,0,none⟩),.slice (some ⟨g,0,none⟩) k c] (W.alloc (.cells A T)) (GT (·.size<=m) (zA w0 b n p (d+1) W)):=by
 subst hg;obtain⟨ss,e,hs⟩:=jZ hA;have hl:ss.length=k:=by rw[<-hk,<-Array.length_toList,e,W7]
 subst hl;have hs0:=h.size;have hlt:=h.lt;refine(De W.heap.size 0 c ss (h.alloc (.cells A T)) h3 zb hk0 hk1 (fun i s hi=>?_)).mono fun e w' ⟨s,h1,he,ht⟩=>⟨s,hs s h1,he,ht.st,qY (World.grownBy_alloc W _ _) ht.gr⟩;rw[zk4,cell_of_row _ _ i _ _ _ (i5 W _),<-zm2,e,zd4,hi];rfl
end
section
open Go.RowKit
variable{P:Program}
theorem zhf{o:Oper}{a:Act}{w:World}{K:Act->World->Prop}{Q:Exit->Act->World->Prop}(ty:TypeId)(ho:o.op=.alloc ty)(z:Value)(hz:(zeroValue ty).run P w=.ok z w)
 (h:K (a.put o.dst (.pointer (some ⟨w.heap.size,0,none⟩))) (w.alloc (.cells z.cells ty))):o.wp P a w K Q:=by
 unfold Oper.wp execOp;simp only[ho,Instr.alloc,Sem.run_bind,hz,Result.andThen_ok,newVar];exact h
theorem G1{ops:Array Oper}{rest:List Oper}{o:Oper}{a:Act}{w:World}{Q:Exit->Act->World->Prop}(hgd:o.guard=none)(ty:TypeId)(ho:o.op=.alloc ty)(z:Value)(hz:(zeroValue ty).run P w=.ok z w)
 (h:wpList P ops Q rest (a.put o.dst (.pointer (some ⟨w.heap.size,0,none⟩))) (w.alloc (.cells z.cells ty))):wpList P ops Q (o::rest) a w:=
 wpList_plain hgd fun _ hK=>zhf ty ho z hz (hK _ _ h)
def Z5:Array Value->Nat->List Value->Array Value
 |c,_,[]=>c
 |c,o,v::r=>Z5 (c.setIfInBounds o v) (o+1) r
theorem KD:∀(vs:List Value) (c:Array Value) (o:Nat),(Z5 c o vs).size=c.size
 | [],_,_=>rfl
 |v::r,c,o=>by rw[Z5,KD r];simp
theorem zhL(w:World)(c:Array Value)(t:TypeId)(o:Nat)(v:Value):(w.alloc (.cells c t)).setCell ⟨w.heap.size,o,none⟩ v=w.alloc (.cells (c.setIfInBounds o v) t):=by
 rw[setCell_eq_setRow _ _ _ c t (0,0) v (heap_alloc_last w _),World.setRow_alloc_new]
theorem FQ(w:World)(t:TypeId):∀(vs:List Value) (c:Array Value) (o:Nat),(w.alloc (.cells c t)).setCells w.heap.size o vs=w.alloc (.cells (Z5 c o vs) t)
 | [],_,_=>rfl
 | v::r,c,o=>by
   rw[World.setCells,zhL,FQ w t r];rfl
theorem zgu(w:World)(c:Array Value)(t:TypeId)(o n:Nat)(h:o+n<=c.size):(w.alloc (.cells c t)).there w.heap.size o n:=fun j hj=>by
 refine⟨?_,frozen_of_row _ _ _ _ _ (heap_alloc_last w _)⟩;rw[cell_of_row _ _ _ _ _ _ (heap_alloc_last w (.cells c t)),Array.getElem?_eq_getElem zb];rfl
theorem CL{ops:Array Oper}{rest:List Oper}{op:Oper}{a:Act}{w:World}{Q:Exit->Act->World->Prop}(hgd:op.guard=none)(ty:TypeId)(x y:Operand)(ho:op.op=.store ty x y)
 (c:Array Value)(t:TypeId)(g o:Nat)(cells:Array Value)(hg:w.heap.size=g)(hx:a.eval x=.pointer (some ⟨g,o,none⟩))(hy:a.eval y=.agg cells)
 (hb:o+cells.size<=c.size)(hi:(P.info? ty).map (·.size)=some cells.size)(h1:cells.all (·.oneCell')=true)
 (h:wpList P ops Q rest (a.put op.dst undef) (w.alloc (.cells (Z5 c o cells.toList) t))):wpList P ops Q (op::rest) a (w.alloc (.cells c t)):=by
 subst hg;refine wpList_store_mid hgd ty x y ho w.heap.size o cells hx hy (zgu w c t o cells.size hb) hi h1 ?_;rw[FQ];exact h
theorem Jw:∀(vs:List Value) (c:Array Value) (o j:Nat),o+vs.length<=c.size->(Z5 c o vs)[j]? =if o<=j/\j<o+vs.length then vs[j - o]? else c[j]?
 | [],c,o,j,_=>by rw[Z5,if_neg (fun h=>by simp at h;omega)]
 | v ::r,c,o,j,h=>by
   rw[Z5,Jw r _ (o+1) j (by simp at h⊢;omega)];simp only[u0]at h⊢;by_cases h1:o+1<=j/\j<o+1+r.length
   · rw[if_pos h1,if_pos zb,show j - o=(j - (o+1))+1 from by omega,zl6]
   · rw[if_neg h1,Array.getElem?_setIfInBounds];by_cases h2:o=j
     · subst h2;rw[if_pos rfl,if_pos zb,if_pos zb,zj2];rfl
     · rw[if_neg h2,if_neg zb]
theorem UL(c cells:Array Value)(h:cells.size=c.size):Z5 c 0 cells.toList=cells:=by
 apply Array.ext_getElem?;intro j;rw[Jw _ _ _ _ (by simp[h])];by_cases hj:j<cells.size
 · rw[if_pos GK];simp
 · rw[if_neg zK,Array.getElem?_eq_none zb,Array.getElem?_eq_none zb]
theorem jA{ops:Array Oper}{rest:List Oper}{op:Oper}{a:Act}{w:World}{Q:Exit->Act->World->Prop}(hgd:op.guard=none)(ty:TypeId)(x y:Operand)(ho:op.op=.store ty x y)
 (c:Array Value)(t:TypeId)(g:Nat)(cells:Array Value)(hg:w.heap.size=g)(hx:a.eval x=.pointer (some ⟨g,0,none⟩))(hy:a.eval y=.agg cells)
 (hb:cells.size=c.size)(hi:(P.info? ty).map (·.size)=some cells.size)(h1:cells.all (·.oneCell')=true)
 (h:wpList P ops Q rest (a.put op.dst undef) (w.alloc (.cells cells t))):wpList P ops Q (op::rest) a (w.alloc (.cells c t)):=by
 refine CL hgd ty x y ho c t g 0 cells hg hx hy zb hi h1 ?_;rw[UL c cells hb];exact h
theorem zfI{a b c d:Value}(ha:a.oneCell'=true)(hb:b.oneCell'=true)(hc:c.oneCell'=true)(hd:d.oneCell'=true):(#[a,b,c,d]:Array Value).all (·.oneCell')=true:=by simp[ha,hb,hc,hd]
end
section
open Go.RowKit
variable{P:Program}
noncomputable def qD(T:TypeId)(v:Value):Sem Value:=Instr.loadAt T v
noncomputable def Zo(T:TypeId)(v u:Value):Sem Unit:=Instr.storeAt T v u
theorem Ua(g off j:Nat):(⟨g,off,none⟩:Addr).add j=⟨g,off+j,none⟩:=PY
theorem JR{w:World}{T:TypeId}{n g o:Nat}{l:List Value}(hA:∀w,(isAgg T).run P w=.ok true w)(hz:∀w,(Go.sizeOf T).run P w=.ok n w)(hl:l.length=n)(hc:∀j u,l[j]? =some u->w.cell? ⟨g,o+j,none⟩=some u):
 (qD T (.pointer (some ⟨g,o,none⟩))).run P w=.ok (.agg l.toArray) w:=by
 unfold qD;have h:=run_loadCells_list (P:=P) w ⟨g,o,none⟩ l (fun j v hv=>by rw[Ua];exact hc j v hv);rw[hl]at h;simp[Instr.loadAt,Instr.sureAddr,loadVar,hA,hz,h]
theorem UI{w:World}{T:TypeId}{n g o:Nat}{cs:Array Value}{t:TypeId}{fr:Nat×Nat}(hA:∀w,(isAgg T).run P w=.ok true w)(hz:∀w,(Go.sizeOf T).run P w=.ok n w)(h:w.heap[g]? =some (.cells cs t fr))(hs:o+n<=cs.size):
 (qD T (.pointer (some ⟨g,o,none⟩))).run P w=.ok (.agg (cs.extract o (o+n))) w:=by
 have h1:=JR (P:=P) (w:=w) (T:=T) (n:=n) (g:=g) (o:=o) (l:=(cs.extract o (o+n)).toList) hA hz zK (fun j u hu=>by
  rw[cell_of_row _ _ _ _ _ _ h];rw[zm2,Array.getElem?_extract]at hu
  split at hu
  · exact hu
  · cases hu)
 rw[h1]
theorem KO(g:Nat)(t:TypeId)(fr:Nat×Nat):∀(vs:List Value) (c:Array Value) (o:Nat) (w:World),vs≠[]->w.heap[g]? =some (.cells c t fr)->w.setCells g o vs=w.setRow g (Z5 c o vs)
 | [],_,_,_,h,_=>absurd rfl h
 | [v],c,o,w,_,h=>by
   rw[World.setCells,World.setCells,setCell_eq_setRow _ _ _ _ _ _ _ h];rfl
 | v::u::r,c,o,w,_,h=>by
   rw[World.setCells,setCell_eq_setRow _ _ _ _ _ _ _ h,KO g t fr (u::r) (c.setIfInBounds o v) (o+1) _ zl (setRow_heap _ _ _ _ _ _ h),setRow_setRow];rfl
theorem XU{w:World}{T:TypeId}{g o:Nat}{cs vs:Array Value}{t:TypeId}(h:w.heap[g]? =some (.cells cs t (0,0)))(hs:o+vs.size<=cs.size)(h0:0<vs.size)(hi:(P.info? T).map (·.size)=some vs.size)(h1:vs.all (·.oneCell')=true):
 (Zo T (.pointer (some ⟨g,o,none⟩)) (.agg vs)).run P w=.ok () (w.setRow g (Z5 cs o vs.toList)):=by
 unfold Zo;have ht:w.there g o vs.size:=fun j hj=>⟨by rw[cell_of_row _ _ _ _ _ _ h,Array.getElem?_eq_getElem zb];rfl,frozen_of_row _ _ _ _ _ h⟩;rw[run_storeAt_mid w g o T vs ht hi h1,KO g t (0,0) vs.toList cs o w (by intro e;rw[Array.toList_eq_nil_iff]at e;rw[e]at h0;simp at h0) h]
noncomputable def Yy(t:TypeId)(n:Nat)(parts:Array (Nat×Value)):Sem Value:=Instr.buildSlice t n parts
theorem FZ:∀(l:List Value) (k:Nat) (c:Array Value),(l.zipIdx k).foldl (fun acc x=>acc.setIfInBounds (0+x.2) x.1) c=Z5 c k l
 | [],_,_=>rfl
 | v::r,k,c=>by
   rw[List.zipIdx_cons,zl2,Z5];show List.foldl _ (c.setIfInBounds (0+k) v) _=_;rw[zk4];exact FZ r (k+1) _
theorem zc7(cs cells:Array Value)(n:Nat)(h1:cs.size=n)(h2:cells.size=n):Instr.fill (fun i=>some (i*n,n)) cells [(0,.agg cs)]=some cs:=by
 have e:(Value.agg cs).cells=cs:=rfl;simp only[Instr.fill,e,Nat.zero_mul];rw[if_neg M6]
 congr 1
 rw[<-Array.foldl_toList,Array.toList_zipIdx];have:=FZ cs.toList 0 cells;exact Ei
theorem VE{t e:TypeId}{z:Value}{k b:Nat}(hu:P.underlying t=some (.slice e))(hi:(P.info? e).map (fun i=>(i.zero,i.size,i.bytes))=some (some z,k,b))(hk:0<k)(hk2:k<=1000)(cs:Array Value)(hs:cs.size=k)(w:World):
 (Yy t 1 #[(0,.agg cs)]).run P w=.ok (.slice (some ⟨w.heap.size,0,none⟩) 1 1) (w.alloc (.cells cs e)):=by
 obtain⟨i0,hi0,hz0,hz1,hz2⟩:=info_parts hi;unfold Yy;refine run_buildSlice w _ _ 1 _ cs i0 z hu hi0 hz0 IT IT ?_;rw[hz1];exact zc7 cs _ k hs zl
noncomputable def Zv(ts:Array TypeId)(ty:TypeId)(args:Array Value):Sem Value:=Builtin.append_ ts ty args
theorem ZU(ts:Array TypeId)(ty:TypeId)(args:Array Value):Builtin.append_ ts ty args=Zv ts ty args:=rfl
attribute [irreducible] qD Zo Yy Zv
theorem Qx{P:Program}{fn:Func}{R:Ending->World->Prop}{a:Act}{W:World}{g:Nat}{p q:Tmp}{ty t:TypeId}{cs:Array Value}{u:Value}{fr:Nat×Nat}{d:TypeDesc}(h:fn.results=#[.cell p ty,.tmp q])(hp:a.tmps.getD p undef=.pointer (some ⟨g,0,none⟩))(hq:a.tmps.getD q undef=u)
 (hg:W.heap[g]? =some (.cells cs t fr))(hu:P.underlying ty=some d)(hd:(match d with| .struct _| .array _ _=>true|_=>false)=true)(hi:(P.info? ty).map (·.size)=some cs.size)(hdef:a.defers=[])
 (hR:R (.returned (.tuple #[.agg cs,u])) W):bodyPost P fn R .ret a W:=by
 exact AC
theorem Vf{P:Program}{fn:Func}{R:Ending->World->Prop}{a:Act}{W:World}{g:Nat}{p:Tmp}{ty t:TypeId}{cs:Array Value}{fr:Nat×Nat}{d:TypeDesc}(h:fn.results=#[.cell p ty])(hp:a.tmps.getD p undef=.pointer (some ⟨g,0,none⟩))
 (hg:W.heap[g]? =some (.cells cs t fr))(hu:P.underlying ty=some d)(hd:(match d with| .struct _| .array _ _=>true|_=>false)=true)(hi:(P.info? ty).map (·.size)=some cs.size)(hdef:a.defers=[])
 (hR:R (.returned (.agg cs)) W):bodyPost P fn R .ret a W:=
 bodyPost_ret (results_cell_row h _ _ g t cs fr d hp hg hu hd hi) hdef hR
structure zE(w:World)(A:Option Addr)(k n:Nat)(xs:List Value):Prop where
 row:zr w w.heap.size A k n xs
 pl:∀a,A=some a->a=⟨a.block,a.off,none⟩/\a.block<w.heap.size
theorem zE.keep{w w':World}{A:Option Addr}{k n:Nat}{xs:List Value}(h:zE w A k n xs)(hb:Below w.heap.size w w'):zE w' A k n xs:=
 ⟨(h.row.keep hb).up hb.size,fun a e=>⟨(h.pl a e).1,i4 (h.pl a e).2 hb.size⟩⟩
theorem zE.grown{w w':World}{A:Option Addr}{k n:Nat}{xs:List Value}{row:Option Nat}(h:zE w A k n xs)(hg:w.grownBy w' row)(hr:∀a,A=some a->some a.block≠row):zE w' A k n xs:=
 ⟨(h.row.grown zo hg (fun _ a e=>hr a e)).up hg.size,fun a e=>⟨(h.pl a e).1,i4 (h.pl a e).2 hg.size⟩⟩
theorem zE.ownf{w w':World}{A:Option Addr}{k n:Nat}{xs:List Value}{row:Option Nat}(h:zE w A k n xs)(hg:w.grownBy w' row)(hr:∀r,row=some r->∃o:Obj,w.heap[r]? =some o/\o.isCells=false):zE w' A k n xs:=
 ⟨⟨h.row.len,fun hn=>by
   obtain⟨ba,off,e,hb,hc⟩:=h.row.at_ hn;exact⟨ba,off,e,i4 hb hg.size,fun j u hu=>cell_kept (hc j u hu) hg hr⟩⟩,fun a e=>⟨(h.pl a e).1,i4 (h.pl a e).2 hg.size⟩⟩
theorem Xw{W W':World}{base kk n:Nat}{T:TypeId}{v:Value}{xs:List Value}{row:Option Nat}(h:W.ownsRow base T kk v n xs)(hg:W.grownBy W' row)(ha:∀g,row=some g->v.ownBlock≠some g):W'.ownsRow base T kk v n xs:=
 h.kept hg (by
  cases hv:v.ownBlock with
  |none=>exact Or.inl rfl
  |some g=>right;intro e;exact ha g e.symm hv)
theorem RV{W:World}{base kk n:Nat}{T:TypeId}{v:Value}{xs:List Value}(h:W.ownsRow base T kk v n xs){g:Nat}(hv:v.ownBlock=some g):∃o:Obj,W.heap[g]? =some o/\o.isCells=true:=by
 rcases h.2 with⟨rfl,_⟩|⟨g',cap,cur,rfl,_,hg,_⟩
 · cases hv
 · obtain rfl:=zx hv;exact⟨_,hg,rfl⟩
theorem zE.nil{w:World}{k:Nat}:zE w none k 0 []:=⟨⟨zl,fun h=>absurd h (zd0 0)⟩,fun a e=>ZK⟩
def qV(B:Nat)(A:Option Addr):Prop:=∀a,A=some a->B<=a.block
theorem zE.of_own{w:World}{base k n:Nat}{e:TypeId}{A:Option Addr}{c:Nat}{xs:List Value}(h:w.ownsRow base e k (.slice A n c) n xs):zE w A k n xs/\qV base A:=by
 refine⟨⟨zr.of_own h,fun a ea=>?_⟩,fun a ea=>?_⟩
 · subst ea;rcases h.2 with⟨h1,_⟩|⟨g,cap,cur,h1,_,h3,_⟩
   · cases h1
   · injection h1 with h1
     obtain rfl:=zx h1;exact⟨rfl,(Array.getElem?_eq_some_iff.1 h3).1⟩
 · exact(h.lt a.block (by rw[ea];rfl)).1
structure zB{β:Type}(k:Nat)(enc:β->List Value)(w:World)(y:Ls β):Prop where
 row:zE w y.A k y.l.length (cellsOf enc y.l)
 cap:y.l.length<=y.c
 big:y.c<=maxLen
 nil:y.A=none->y.c=0
theorem zB.keep{β:Type}{k:Nat}{enc:β->List Value}{w w':World}{y:Ls β}(h:zB k enc w y)(hb:Below w.heap.size w w'):zB k enc w' y:=⟨h.row.keep hb,h.cap,h.big,h.nil⟩
theorem zB.grown{β:Type}{k:Nat}{enc:β->List Value}{w w':World}{y:Ls β}{row:Option Nat}(h:zB k enc w y)(hg:w.grownBy w' row)(hr:∀a,y.A=some a->some a.block≠row):zB k enc w' y:=⟨h.row.grown hg hr,h.cap,h.big,h.nil⟩
theorem zB.of_own{β:Type}{k:Nat}{enc:β->List Value}{w:World}{base:Nat}{T:TypeId}{A:Option Addr}{c:Nat}{l:List β}(h:w.ownsRow base T k (.slice A l.length c) l.length (cellsOf enc l)):zB k enc w ⟨A,c,l⟩/\qV base A:=by
 refine⟨⟨(zE.of_own h).1,?_,?_,?_⟩,(zE.of_own h).2⟩
 · rcases h.2 with⟨_,h2⟩|⟨g,cap,cur,h1,_,_,h4,_⟩
   · show l.length<=c;omega
   · injection h1 with _ _ h1;show l.length<=c;omega
 · rcases h.2 with⟨h1,_⟩|⟨g,cap,cur,h1,_,_,h4,h5,_⟩
   · injection h1 with _ _ h1;show c<=maxLen;unfold maxLen;omega
   · injection h1 with _ _ h1;show c<=maxLen;omega
 · intro e;rcases h.2 with⟨h1,_⟩|⟨g,cap,cur,h1,_⟩
   · injection h1
   · injection h1 with h1;rw[show A=none from e]at h1;cases h1
theorem zB.empty{β:Type}{k:Nat}{enc:β->List Value}{w:World}:zB k enc w ⟨none,0,[]⟩:=⟨zE.nil,zo,by unfold maxLen;show(0:Nat)<=_;omega,fun _=>rfl⟩
theorem zr.tail{w:World}{B k n ba off:Nat}{xs:List Value}(h:zr w B (some ⟨ba,off,none⟩) k n xs){m:Nat}(hm:m<=n):zr w B (some ⟨ba,off+m*k,none⟩) k (n - m) (xs.drop (m*k)):=by
 refine⟨by rw[W8,h.len,Nat.sub_mul],fun hn=>?_⟩;obtain⟨b2,o2,e,hB,hc⟩:=h.at_ zb;injection e with e
 injection e with e1 e2
 subst e1 e2;refine⟨ba,off+m*k,rfl,hB,fun j u hu=>?_⟩;rw[zd5]at hu;rw[zk5];exact hc _ u hu
theorem Sq{β:Type}(enc:β->List Value)(k:Nat)(hk:∀x,(enc x).length=k):∀(l:List β) (m:Nat),(cellsOf enc l).drop (m*k)=cellsOf enc (l.drop m)
 | [],m=>XP
 |x::l,0=>zl
 | x::l,m+1=>by
   have e:cellsOf enc (x::l)=enc x++cellsOf enc l:=XP;rw[e,List.drop_succ_cons,<-Sq enc k hk l m,zl9,hk,List.drop_of_length_le yv,show(m+1)*k - k=m*k from by rw[Nat.add_mul];omega];rfl
end
section
open Go.RowKit
theorem zL(W:World)(o:Obj):Below W.heap.size W (W.alloc o):=zj.alloc zo _
theorem zgg(c b:UInt8)(l:ze):[c].isPrefixOf (b::l)=(b==c):=by
 simp only[List.isPrefixOf,Bool.and_true];rw[Bool.eq_iff_iff];simp;exact eq_comm
theorem zhM(c b:UInt8)(l:ze):Lib.index (b::l) [c]=if b==c then 0 else if Lib.index l [c]== -1 then -1 else Lib.index l [c]+1:=by
 rw[Lib.index,zgg]
theorem Ka(w:World)(o1 o2 o3:Obj):(((w.alloc o1).alloc o2).alloc o3).heap.size=w.heap.size+3/\(((w.alloc o1).alloc o2).alloc o3).heap[w.heap.size]? =some o1 /\
 (((w.alloc o1).alloc o2).alloc o3).heap[w.heap.size+1]? =some o2/\(((w.alloc o1).alloc o2).alloc o3).heap[w.heap.size+2]? =some o3/\Below w.heap.size w (((w.alloc o1).alloc o2).alloc o3):=by
 have hn:∀(W:World) (o:Obj) (k:Nat),k=W.heap.size->(W.alloc o).heap[k]? =some o:=fun W o k e=>by rw[e];exact heap_alloc_last W o
 have hs:∀(W:World) (o:Obj),(W.alloc o).heap.size=W.heap.size+1:=fun W o=>zl;have ho:∀(W:World) (o:Obj) (k:Nat),k<W.heap.size->(W.alloc o).heap[k]? =W.heap[k]?:=fun W o k h=>Below.heap_alloc W o k h;refine⟨JI,?_,?_,hn _ _ _ JI,((zj.alloc zo _).alloc YB _).alloc YB _⟩
 · rw[ho _ _ _ YB,ho _ _ _ YB];exact hn _ _ _ rfl
 · exact Lc
theorem zr.more{w:World}{B B' k n:Nat}{A:Option Addr}{xs:List Value}(h:zr w B A k n xs)(hB:B<=B'):zr w B' A k n xs:=
 ⟨h.len,fun hn=>by
  obtain⟨ba,off,e,h1,hc⟩:=h.at_ hn;exact⟨ba,off,e,i4 h1 hB,hc⟩⟩
theorem Qf{W:World}{b:Nat}{e:TypeId}{sz:Nat}{v:Value}{n:Nat}{xs:List Value}(h:W.ownsRow b e sz v n xs):∃A c,v=.slice A n c:=by
 rcases h.2 with⟨h1,h2⟩|⟨g',cap,cur,h1,_⟩
 · exact yw
 · exact⟨_,_,h1⟩
end
section
def YF{α:Type}(q:α->Bool)(l:List α):Int:=match l.findIdx? q with
 |some k=>k
 |none=> -1
theorem Oa{α:Type}{q:α->Bool}{l:List α}{k:Nat}(hno:∀j (h:j<l.length),j<k->q l[j]=false)(hk:k<l.length)(h:q l[k]=true):YF q l=k:=by
 unfold YF;have:l.findIdx? q=some k:=by
  rw[List.findIdx?_eq_some_iff_getElem];exact⟨hk,h,fun j hj=>by simpa using hno j zb hj⟩
 rw[this]
theorem Nv{α:Type}{q:α->Bool}{l:List α}(hno:∀j (h:j<l.length),q l[j]=false):YF q l= -1:=by
 unfold YF;have:l.findIdx? q=none:=by
  rw[List.findIdx?_eq_none_iff];intro t ht;obtain⟨j,hj,rfl⟩:=List.getElem_of_mem ht;exact hno j hj
 rw[this]
end
section
open Go.RowKit
variable{P:Program}{w:World}
theorem Pt(base:Nat)(t ty e:TypeId)(i:TypeInfo)(size:Nat)(ht:P.underlying t=some (.slice e))(hi:P.info? e=some i)
 (v:Value)(n:Nat)(xs:List Value)(hown:w.ownsRow base e size v n xs)(A:Option Addr)(c:Nat):
 (Builtin.append_ #[t,t] ty #[v,.slice A 0 c]).run P w=.ok v w:=by
 cases A with
 | none=>
   rcases hown.2 with⟨rfl,rfl⟩|⟨g,cap,cur,rfl,_,_,hnc,_⟩
   · simp[Builtin.append_,run_underlying ht,sizeOf,typeInfo,hi,Builtin.lenOf,Builtin.firstCells]
   · simp[Builtin.append_,run_underlying ht,sizeOf,typeInfo,hi,Builtin.lenOf,Builtin.firstCells,hnc,storeCells]
 | some a=>
   rcases hown.2 with⟨rfl,rfl⟩|⟨g,cap,cur,rfl,_,_,hnc,_⟩
   · simp[Builtin.append_,run_underlying ht,sizeOf,typeInfo,hi,Builtin.lenOf,Builtin.firstCells,loadCells,loadCellsFrom]
   · simp[Builtin.append_,run_underlying ht,sizeOf,typeInfo,hi,Builtin.lenOf,Builtin.firstCells,hnc,storeCells,loadCells,loadCellsFrom]
theorem Pu(g off j:Nat):(⟨g,off,none⟩:Addr).add j=⟨g,off+j,none⟩:=PY
theorem vN{o:Oper}{a:Act}{K:Act->World->Prop}{Q:Exit->Act->World->Prop}(s x:Operand)(t:TypeId)
 (ho:o.op=.call {callee:=.builtin .append,args:=#[s,x],argTypes:=#[t,t]})
 (base:Nat)(e:TypeId)(i:TypeInfo)(z:Value)(size bytes:Nat)(ht:P.underlying t=some (.slice e))(hi:P.info? e=some i)(hz:i.zero=some z)
 (hsize:i.size=size)(hby:i.bytes=bytes)(hzs:z.cells.size=size)(hsz:0<size)
 (v:Value)(n:Nat)(xs:List Value)(hs:a.eval s=v)(hown:w.ownsRow base e size v n xs)
 (A:Option Addr)(m c B:Nat)(news:List Value)(hx:a.eval x=.slice A m c)(hrow:zr w B A size m news)(h1:∀u∈news,u.oneCell'=true)
 (h63:n+m<=maxLen)(hbytes:(n+m)*bytes<=140737488355328)(hbase:base<=w.heap.size)
 (h:∀v' w',w'.ownsRow base e size v' (n+m) (xs++news)->w.grownBy w' v.ownBlock->(v'.ownBlock=v.ownBlock∨v'.ownBlock=some w.heap.size)->(0<m->v'≠.slice none 0 0)->K (a.put o.dst v') w'):o.wp P a w K Q:=by
 rcases Nat.eq_zero_or_pos m with rfl|hm
 · have hn:news=[]:=by have:=hrow.len;simpa using this
   subst hn;have hrun:=Pt (P:=P) (w:=w) base t o.type e i size ht hi v n xs hown A c;unfold Oper.wp;simp only[execOp,ho,resolve,invoke,builtin];simp[hs,hx,hrun,Result.andThen];exact h v w (by simpa using hown) ⟨rfl,rfl,rfl,zo,fun _ _ _=>rfl⟩ (Or.inl rfl) (fun h=>absurd h zb)
 · obtain⟨ba,off,rfl,hB,hc⟩:=hrow.at_ hm;refine wp_append_lies w s x t ho base e i z size bytes ht hi hz hsize hby hzs hsz v n xs hs hown ⟨ba,off,none⟩ m c news hx hrow.len (fun j u hu=>by rw[Pu];exact hc j u hu) h1 hm h63 hbytes hbase w.heap.size rfl fun g cap w' h2 h3 h4 h5=>?_;refine h _ w' h2 h3 ?_ (fun _ e=>ZK);rcases h4 with h4|h4
   · exact Or.inl h4.symm
   · exact Or.inr (by rw[h4];rfl)
theorem yz{ops:Array Oper}{rest:List Oper}{o:Oper}{a:Act}{Q:Exit->Act->World->Prop}(hgd:o.guard=none)(s x:Operand)(t:TypeId)
 (ho:o.op=.call {callee:=.builtin .append,args:=#[s,x],argTypes:=#[t,t]})
 (base:Nat)(e:TypeId)(i:TypeInfo)(z:Value)(size bytes:Nat)(ht:P.underlying t=some (.slice e))(hi:P.info? e=some i)(hz:i.zero=some z)
 (hsize:i.size=size)(hby:i.bytes=bytes)(hzs:z.cells.size=size)(hsz:0<size)
 (v:Value)(n:Nat)(xs:List Value)(hs:a.eval s=v)(hown:w.ownsRow base e size v n xs)
 (A:Option Addr)(m c B:Nat)(news:List Value)(hx:a.eval x=.slice A m c)(hrow:zr w B A size m news)(h1:∀u∈news,u.oneCell'=true)
 (h63:n+m<=maxLen)(hbytes:(n+m)*bytes<=140737488355328)(hbase:base<=w.heap.size)
 (h:∀v' w',w'.ownsRow base e size v' (n+m) (xs++news)->w.grownBy w' v.ownBlock->(v'.ownBlock=v.ownBlock∨v'.ownBlock=some w.heap.size)->(0<m->v'≠.slice none 0 0)->wpList P ops Q rest (a.put o.dst v') w'):wpList P ops Q (o::rest) a w:=
 wpList_plain hgd fun _ hK=>vN s x t ho base e i z size bytes ht hi hz hsize hby hzs hsz v n xs hs hown A m c B news hx hrow h1 h63 hbytes hbase fun v' w' h2 h3 h4 h5=>hK _ _ (h v' w' h2 h3 h4 h5)
theorem zb3{ops:Array Oper}{o:Oper}{a:Act}{K:Act->World->Prop}{Q:Exit->Act->World->Prop}{E:Prop}(hgd:o.guard=none)(s x:Operand)(t:TypeId)
 (ho:o.op=.call {callee:=.builtin .append,args:=#[s,x],argTypes:=#[t,t]})
 (base:Nat)(e:TypeId)(i:TypeInfo)(z:Value)(size bytes:Nat)(ht:P.underlying t=some (.slice e))(hi:P.info? e=some i)(hz:i.zero=some z)
 (hsize:i.size=size)(hby:i.bytes=bytes)(hzs:z.cells.size=size)(hsz:0<size)
 (v:Value)(n:Nat)(xs:List Value)(hs:a.eval s=v)(hown:w.ownsRow base e size v n xs)
 (A:Option Addr)(m c B:Nat)(news:List Value)(hx:a.eval x=.slice A m c)(hrow:zr w B A size m news)(h1:∀u∈news,u.oneCell'=true)
 (h63:n+m<=maxLen)(hbytes:(n+m)*bytes<=140737488355328)(hbase:base<=w.heap.size)
 (h:∀v' w',w'.ownsRow base e size v' (n+m) (xs++news)->w.grownBy w' v.ownBlock->(v'.ownBlock=v.ownBlock∨v'.ownBlock=some w.heap.size)->(0<m->v'≠.slice none 0 0)->K (a.put o.dst v') w'):
 if Region.wanted o (yielded ops a.tmps)=true then Oper.wp P o a w K Q else E:=by
 have hw:Region.wanted o (yielded ops a.tmps)=true:=by simp[Region.wanted,hgd]
 rw[if_pos hw];exact vN s x t ho base e i z size bytes ht hi hz hsize hby hzs hsz v n xs hs hown A m c B news hx hrow h1 h63 hbytes hbase h
end
section
open Go.RowKit
theorem Ja(s p:ByteArray)(w:World):
 Calls prog 105 #[.string s,.string p] w fun e w'=>e=.returned (.bool (Lib.hasPrefix (L s) (L p)))/\w=w':=
 (strings_HasPrefix s p w).mono fun _e _w' ⟨h1,h2⟩=>⟨h1,h2.symm⟩
end
section
open Go.RowKit
theorem AQ(c:UInt8)(s:ze):(Lib.index s [c]= -1/\c∉s)∨∃(a r:ze),s=a++c::r/\c∉a/\Lib.index s [c]=a.length:=by
 induction s with
 |nil=>left;exact⟨rfl,zl⟩
 | cons b l ih=>
   have e:Lib.index (b::l) [c]=if b==c then 0 else if Lib.index l [c]== -1 then -1 else Lib.index l [c]+1:=by
    rw[Lib.index];have:[c].isPrefixOf (b::l)=(b==c):=by
     simp only[List.isPrefixOf,Bool.and_true];rw[Bool.eq_iff_iff];simp;exact eq_comm
    rw[this]
   rw[e];by_cases hb:b=c
   · subst hb;right;exact⟨[],l,rfl,zl,zl⟩
   · have hbc:(b==c)=false:=by simpa using hb
     rw[hbc];rcases ih with⟨h1,h2⟩|⟨a,r,h1,h2,h3⟩
     · left;rw[h1];exact⟨zl,Dl⟩
     · right;refine⟨b::a,r,by rw[h1];rfl,Dl,?_⟩;have:(Lib.index l [c]== -1)=false:=by rw[h3];simp
       rw[this,h3];simp
theorem Py(c:UInt8)(new s:ze)(h:c∉s):(s.flatMap fun b=>if b=c then new else [b])=s:=by
 induction s with
 |nil=>rfl
 | cons b l ih=>
   rw[List.flatMap_cons,ih (fun h'=>h (by simp[h'])),if_neg (fun e=>h (by simp[e]))];rfl
theorem zab(c:UInt8)(new:ze):∀(k:Nat) (s:ze),Lib.count s [c]<=k->Lib.replaceK [c] new k s=s.flatMap fun b=>if b=c then new else [b]:=by
 intro k;induction k with
 | zero=>
   intro s h;rcases AQ c s with⟨_,h2⟩|⟨a,r,h1,_,h3⟩
   · rw[Py c new s h2];rfl
   · rw[Lib.count_hit zl h3]at h;omega
 | succ k ih=>
   intro s h;rcases AQ c s with⟨h1,h2⟩|⟨a,r,h1,h2,h3⟩
   · rw[Py c new s h2,Lib.replaceK,h1];rfl
   · have hd:s.drop (a.length+1)=r:=by rw[h1];simp
     rw[Lib.count_hit zl h3]at h;rw[Lib.replaceK_hit _ _ _ _ _ h3];simp only[List.length_singleton]at h⊢;rw[hd]at h⊢;rw[ih r zb,h1];rw[List.flatMap_append,List.flatMap_cons,if_pos rfl,Py c new a h2];simp
theorem jr(s:ze)(c:UInt8)(new:ze)(h:new≠[c]):Lib.replaceAll s [c] new=s.flatMap fun b=>if b=c then new else [b]:=by
 unfold Lib.replaceAll Lib.replace;have hn:([c]==new)=false:=by
  rw[beq_eq_false_iff_ne];exact fun e=>h e.symm
 rw[hn];exact zab c new _ s (by unfold Lib.replaceNum;rw[if_pos (Or.inl zb)];exact zo)
theorem zba(c:UInt8)(d:ze)(hd:d.length<=2)(s:ze):(s.flatMap fun b=>if b=c then d else [b]).length<=2*s.length:=by
 induction s with
 |nil=>simp
 | cons b s ih=>
   rw[List.flatMap_cons,r7,u0]
   split
   · omega
   · rw[List.length_singleton];omega
end
end Go.Proofs.YtecbmndgpepkcaaGreatDoor
