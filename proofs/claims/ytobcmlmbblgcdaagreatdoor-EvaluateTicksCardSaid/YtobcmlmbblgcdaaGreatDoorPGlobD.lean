/- Contracts of functions that the law reaches, and what they rest on; each under the premises that it names. Shortened by a program. -/
import Derived.Test.YtobcmlmbblgcdaaGreatDoorPGlobC
namespace Go.Proofs.YtobcmlmbblgcdaaGreatDoor
open Tryz
set_option maxHeartbeats 8000000
set_option maxRecDepth 100000
open Go.RowKit
theorem zfW(l:ze)(c:UInt8):Lib.hasPrefix l [c]=decide (l.head? =some c):=by
 cases l with
 |nil=>simp[Lib.hasPrefix]
 | cons x r=>
   simp only[Lib.hasPrefix,List.head?_cons,Option.some.injEq];by_cases h:x=c
   · subst h;simp[List.isPrefixOf]
   · have:(c==x)=false:=by simpa using fun e=>h e.symm
     simp[List.isPrefixOf,this,h]
theorem EZ(q:ByteArray)(c:UInt8)(w:World):Calls prog 102 #[.string q,.string ⟨#[c]⟩] w fun e w'=>e=.returned (.bool (decide ((L q).head? =some c)))/\w'=w:=by
 have h:=KV q ⟨#[c]⟩ w;rw[show L ⟨#[c]⟩=[c]from rfl,zfW]at h;exact h.mono fun _ _ ⟨h1,h2⟩=>⟨h1,h2.symm⟩
theorem yp{P:Program}{fn:Func}{R:Ending->World->Prop}{a:Act}{W:World}{g:Nat}{p q:Tmp}{ty t:TypeId}{cs:Array Value}{u:Value}{fr:Nat×Nat}{d:TypeDesc}(h:fn.results=#[.cell p ty,.tmp q])(hp:a.tmps.getD p undef=.pointer (some ⟨g,0,none⟩))(hq:a.tmps.getD q undef=u)
 (hg:W.heap[g]? =some (.cells cs t fr))(hu:P.underlying ty=some d)(hd:(match d with| .struct _| .array _ _=>true|_=>false)=true)(hi:(P.info? ty).map (·.size)=some cs.size)(hdef:a.defers=[])
 (hR:R (.returned (.tuple #[.agg cs,u])) W):bodyPost P fn R .ret a W:=by
 exact D7
def Nj(p:ByteArray)(g:Nat)(r:ze)(w:World)(e:Ending)(w':World):Prop:=w.grownBy w' (some g) /\
 match UV r with
 |some (x,r')=>e=.returned (.tuple #[.agg (qa 127 x.has),.bool true])/\w'.heap[g]? =some (Qv p ((p.size:Int) - r'.length))
 |none=>e=.returned (.tuple #[.agg (qa 127 (fun _=>false)),.bool false])
theorem zdp{no:Bool}{q:ze}(h:Ql q=none):YF no q=none:=by
 unfold YF;unfold Ql at h;rw[h]
 split<;>rfl
theorem ze9{no:Bool}{q r:ze}{rs:List (UInt8×UInt8)}(h:Ql q=some (rs,r))(hh:q.head?≠some 93):YF no q=some (.set no rs,r):=by
 unfold YF;unfold Ql at h;rw[if_neg hh,h];rfl
theorem zgz{c:UInt8}{r:ze}{x:UInt8×UInt8}{n:Nat}(h:XB (c::r)=some (x,n))(hc:c≠93):x.1=c/\Ql (c::r)=(Ql ((c::r).drop n)).map (fun y=>(x::y.1,y.2))/\1<=n/\(n=1∨∃b,Q4 r=some b/\n=3):=by
 rw[XB]at h;cases hr:Q4 r with
 | none=>
   rw[hr]at h;simp only[Option.some.injEq,Prod.mk.injEq]at h;obtain⟨rfl,rfl⟩:=h;refine⟨rfl,?_,zo,Or.inl rfl⟩;rw[zcD _ _ hc hr];rfl
 | some b=>
   rw[hr]at h;dsimp only at h
   split at h
   · rename_i hle;simp only[Option.some.injEq,Prod.mk.injEq]at h;obtain⟨rfl,rfl⟩:=h;refine⟨rfl,?_,zb,Or.inr ⟨b,rfl,rfl⟩⟩;rw[Lq _ _ _ hc hr,if_pos hle];rfl
   · cases h
theorem ziG{c:UInt8}{r:ze}(h:XB (c::r)=none)(hc:c≠93):Ql (c::r)=none:=by
 rw[XB]at h;cases hr:Q4 r with
 |none=>rw[hr]at h;cases h
 | some b=>
   rw[hr]at h;dsimp only at h
   split at h
   · cases h
   · rename_i hle;rw[Lq _ _ _ hc hr,if_neg hle]
theorem IY(w:World)(f:Nat->Bool):(J2 (.pointer (some ⟨w.heap.size,0,none⟩)) (.agg (qa 127 f))).run prog (w.alloc (.cells zeroCells268 268))=.ok () ((w.alloc (.cells zeroCells268 268)).setRow w.heap.size (qa 127 f)):=
 NO (heap_alloc_new w _) (by rw[P6,Yc]) (Yc _ _) (G9 _ _)
theorem O1(w:World)(f:Nat->Bool):((w.alloc (.cells zeroCells268 268)).setRow w.heap.size (qa 127 f)).heap[w.heap.size]? =some (.cells (qa 127 f) 268 (0,0)):=setRow_heap _ _ _ _ _ _ (heap_alloc_new w _)
theorem Jc(w:World)(f:Nat->Bool){b:Nat}{o:Obj}(h:w.heap[b]? =some o):((w.alloc (.cells zeroCells268 268)).setRow w.heap.size (qa 127 f)).heap[b]? =some o:=by
 have:=zh h;rw[setRow_other _ _ _ _ zb];exact(heap_alloc_old _ _ this).trans h
theorem In{WA w:World}{row:Option Nat}(f:Nat->Bool)(h:WA.grownBy w row):WA.grownBy ((w.alloc (.cells zeroCells268 268)).setRow w.heap.size (qa 127 f)) row:=
 Yl (qU h (World.grownBy_alloc _ _ _)) (qM _ _ _) (fun j e=>by cases e;exact Or.inl h.size)
theorem zcV{rs:List (UInt8×UInt8)}(h:∀x∈rs,32<=x.1.toNat)(c:Nat)(hc:c<32):qo rs c=false:=by
 unfold qo;rw[List.any_eq_false];intro x hx;have:=h x hx;simp;omega
attribute [local go_sem ↓] TJ jk yN
theorem Bx (p:ByteArray)(i g:Nat)(w:World)(hp:p.size<=256)(hpr:qT (L p)=true)(hi:i<=p.size)(hg:w.heap[g]? =some (Qv p i)):
 Calls prog 232 #[.pointer (some ⟨g,0,none⟩)] w (Nj p g ((L p).drop i) w):=by
 have hglt:=zh hg;obtain⟨no,ft,hft,hcase,hset⟩:∃no ft,(ft<=p.size)/\(no=decide (((L p).drop i).head? =some 33)/\ft=if no then i+1 else i)/\UV ((L p).drop i)=YF no ((L p).drop ft):=by
  by_cases h:((L p).drop i).head? =some 33
  · have hi':i<p.size:=by
     rcases Nat.lt_or_ge i p.size with h'|h'
     · exact h'
     · rw[List.drop_eq_nil_of_le (by rw[zC];exact h')]at h;simp at h
    refine⟨true,i+1,hi',⟨by rw[decide_eq_true h],rfl⟩,?_⟩;rw[UV,if_pos h,List.drop_drop]
  · exact⟨false,i,hi,⟨by rw[decide_eq_false h],rfl⟩,by rw[UV,if_neg h]⟩
 obtain⟨q,hq⟩:∃q,p.extract i p.size=q:=⟨_,rfl⟩;have hL:L q=(L p).drop i:=Rz;have hHP:=fun W=>EZ q 33 W;rw[hL,<-hcase.1]at hHP;have HHP:=za hHP;have HS:=za hset;have HP:=za hpr;have HFt:=za hcase.2;obtain⟨WA,hWA⟩:∃WA,w.alloc (.cells (qa 127 (fun _=>false)) 268)=WA:=⟨_,rfl⟩;have hA0:WA.heap[w.heap.size]? =some (.cells (qa 127 (fun _=>false)) 268 (0,0)):=by rw[<-hWA];exact qA
 have hAg:WA.heap[g]? =some (Qv p i):=by rw[<-hWA];exact(heap_alloc_old _ _ hglt).trans hg
 have hAs:WA.heap.size=w.heap.size+1:=by rw[<-hWA];simp
 have hAb:Below w.heap.size w WA:=by rw[<-hWA];exact zw
 obtain⟨WB,hWB⟩:∃WB,WA.alloc (.cells (qa 127 (qo [])) 268)=WB:=⟨_,rfl⟩;have hB1:WB.heap[w.heap.size+1]? =some (.cells (qa 127 (qo [])) 268 (0,0)):=by rw[<-hWB,<-hAs];exact qA
 have hBg:WB.heap[g]? =some (Qv p i):=by rw[<-hWB];exact(heap_alloc_old _ _ (zh hAg)).trans hAg
 have hgb:WA.grownBy WB (some g):=by rw[<-hWB];exact World.grownBy_alloc _ _ _
 have c0:=zd (j:=0) (u:=.string p) hBg rfl;have c1:=zd (j:=1) (u:=.int .i64 i) hBg rfl;have f1:=frozen_of_row _ _ 1 _ _ hBg;have hiI:(i:Int)<=(p.size:Int):=zb;have hfalse:qa 127 (fun _=>false)=qa 127 (qo []):=Pl (fun c _=>rfl);have HA0:=za hA0;have HAb:=za hAb;have HAs:=za hAs;have HB1:=za hB1;have HBg:=za hBg;have HGb:=za hgb;have HWA:=za hWA;have HWB:=za hWB;clear hpr hset hcase hL hHP hA0 hAs hAb hWB hWA hB1 hBg hgb hAg hg;go_enter func232,ntmps232;go_upto_region 2 with fail
 rw[P6,HWA.out];rw[hfalse,HWB.out];go_quiet (first|(go_at_call 102;exact Calls.quiet_of_same (HHP.out _)))
 go_upto_if 19 with fail
 go_cut [5]from 20 to 26 (fun s5 wx=>s5=.bool no/\Hid (WA.grownBy wx (some g))/\Hid (wx.heap[g]? =some (Qv p (ft:Nat)))/\Hid (wx.heap[w.heap.size+1]? =some (.cells (qa 127 (qo [])) 268 (0,0))))
 case first=>
  have hne:g≠w.heap.size+1:=zb;cases no
  · have hfe:=HFt.out;simp only[Bool.false_eq_true,if_false]at hfe;subst hfe;go_wp2;go_meet;exact⟨rfl,qU HGb.out (YE _ _ _),HBg.out,HB1.out⟩
  · have hfe:=HFt.out;simp only[if_true]at hfe;subst hfe;go_wp2;go_meet;exact⟨rfl,qU (qU HGb.out (YE _ _ _)) (qz _ _ _ _),by rw[show((i+1:Nat):Int)=(i:Int)+1 from by omega];exact Je HBg.out,VJ HB1.out hne⟩
 case rest=>
 obtain⟨rfl,HGc,HRc,HBc⟩:=hcut;clear HB1 HBg HGb HWB HHP HFt c0 c1 f1 hq;have c1:=zd (j:=1) (u:=.int .i64 (ft:Nat)) HRc.out rfl;have hne:g≠w.heap.size+1:=zb;have hbs:WA.heap.size<=w.heap.size+1:=by rw[HAs.out];exact zo
 go_wp2;clear c1;go_loopg [3] (p.size+2) (fun gk s3 wr=>∃(j:Nat) (rs:List (UInt8×UInt8)),s3=.bool false/\ft<=j/\j<=p.size/\j+gk=ft+(p.size+2)/\Hid (WA.grownBy wr (some g))/\Hid (wr.heap[g]? =some (Qv p (j:Nat)))/\Hid (wr.heap[w.heap.size+1]? =some (.cells (qa 127 (qo rs)) 268 (0,0)))/\Hid (Ql ((L p).drop ft)=(Ql ((L p).drop j)).map (fun x=>(rs++x.1,x.2)))/\Hid (∀x∈rs,32<=x.1.toNat)/\Hid (ft<j->((L p).drop ft).head?≠some 93))
 case atStart=>exact⟨ft,[],rfl,zo,hft,rfl,HGc.out,HRc.out,HBc.out,(by show _=_;cases Ql ((L p).drop ft)<;>rfl),(fun x hx=>Yz),fun h=>absurd h (Nat.lt_irrefl _)⟩
 case round =>
  obtain⟨j,rs,rfl,hj1,hj2,hjg,hG,hR,hB,hm,hlo,hhd⟩:=hrel;obtain⟨q,hq⟩:∃q,p.extract j p.size=q:=⟨_,rfl⟩;have hL:L q=(L p).drop j:=Rz;have hHP:=fun W=>EZ q 93 W;rw[hL]at hHP;have c0:=zd (j:=0) (u:=.string p) hR.out rfl;have c1:=zd (j:=1) (u:=.int .i64 (j:Nat)) hR.out rfl;have f1:=frozen_of_row _ _ 1 _ _ hR.out;have hjI:(j:Int)<=(p.size:Int):=zb;clear hL;by_cases hx:ft<j/\((L p).drop j).head? =some 93
  · obtain ⟨hfj,h93⟩:=hx;rw[decide_eq_true h93]at hHP;have HHP:=za hHP;have ejf:((j:Int)==(ft:Int))=false:=by rw[beq_eq_false_iff_ne];omega
    have hjp:j<p.size:=by
     rcases Nat.lt_or_ge j p.size with h|h
     · exact h
     · rw[List.drop_eq_nil_of_le VQ]at h93;simp at h93
    have hend:YF no ((L p).drop ft)=some (.set no rs,(L p).drop (j+1)):=by
     refine ze9 ?_ (hhd.out hfj);rw[hm.out,Un p j hjp];rw[Un p j hjp]at h93;rw[show p[j]=93 by simpa using h93,zhl];simp
    have HE:=za hend;clear hHP h93 hend hm hhd;go_wp2;go_quiet (first|(go_at_call 102;exact Calls.quiet_of_same (HHP.out _)))
    go_upto_if 73 with fail
    go_cut [7,8]from 74 to 90 (fun _ _ wx=>Hid (WA.grownBy wx (some g))/\Hid (wx.heap[g]? =some (Qv p ((j:Int)+1)))/\Hid (wx.heap[w.heap.size+1]? =some (.cells (qa 127 (El.has (.set no rs))) 268 (0,0))))
    case first=>
     obtain⟨W1,hW1⟩:∃W1,(wr.drewN nq).setCell ⟨g,1,none⟩ (.int .i64 ((j:Int)+1))=W1:=⟨_,rfl⟩;rw[hW1];have hG1:WA.grownBy W1 (some g):=by rw[<-hW1];exact qU (qU hG.out (YE _ _ _)) (qz _ _ _ _)
     have hR1:W1.heap[g]? =some (Qv p ((j:Int)+1)):=by rw[<-hW1];exact Je hR.out
     have hB1:W1.heap[w.heap.size+1]? =some (.cells (qa 127 (qo rs)) 268 (0,0)):=by rw[<-hW1];exact VJ hB.out hne
     have HG1:=za hG1;have HR1:=za hR1;have HB1:=za hB1;clear hW1 hG1 hR1 hB1 hG hR hB c0 c1 f1 hq;cases no
     · go_wp2;go_meet;exact⟨HG1.out,HR1.out,HB1.out⟩
     · go_wp2_with (go_at_call 231;refine(TU _).mono ?_;rintro e w2 ⟨rfl,hb2⟩;have hst:=IY w2 Qk;have HB2:=za hb2;clear hb2)
       have HG2:=za (In Qk (qU HG1.out (zF HB2.out _)));have HR2:=za (Jc w2 Qk ((HB2.out.block g (zh HR1.out)).trans HR1.out));have HBb:=za (Jc w2 Qk ((HB2.out.block _ (zh HB1.out)).trans HB1.out));have HAll:=za (O1 w2 Qk);have hGlt:w.heap.size+1<w2.heap.size:=Nat.lt_of_lt_of_le (zh HB1.out) HB2.out.size;have hGg:g<w2.heap.size:=Nat.lt_of_lt_of_le (zh HR1.out) HB2.out.size;have hfe:(fun c=>if 32<=c/\c<32 then !qo rs c else qo rs c)=qo rs:=by funext c;rw[if_neg zb]
       clear hst HG1 HR1 HB1;go_wp2;obtain⟨gko,rfl⟩:∃gko:Nat,gko=gk:=⟨_,rfl⟩;obtain⟨wo,rfl⟩:∃wo:World,wo=wr:=⟨_,rfl⟩;go_loopg [7,8] 97 (fun gk s7 s8 wr=>∃(k G:Nat),s7=.int .i64 k/\s8=.pointer (some ⟨G,0,none⟩)/\32<=k/\k<=127/\k+gk=129/\w.heap.size+1<G/\g<G/\Hid (WA.grownBy wr (some g))/\Hid (wr.heap[g]? =some (Qv p ((j:Int)+1)))/\Hid (wr.heap[w.heap.size+1]? =some (.cells (qa 127 (fun c=>if 32<=c/\c<k then !qo rs c else qo rs c)) 268 (0,0)))/\Hid (wr.heap[G]? =some (.cells (qa 127 Qk) 268 (0,0))))
       case atStart=>exact⟨32,w2.heap.size,rfl,rfl,zo,zb,rfl,hGlt,hGg,HG2.out,HR2.out,by show _=_;rw[hfe];exact HBb.out,HAll.out⟩
       case round=>
        obtain⟨k,G,rfl,rfl,hk1,hk2,hkg,hGB,hGg,hG,hR,hB,hA⟩:=hrel;by_cases hk:k<=126
        · have hkI:(k:Int)<=126:=by omega
          have cA:=zd hA.out (Vr 127 Qk k zb);rw[show Qk k=true from by simp[Qk];omega]at cA;have cB:=zd hB.out (Vr 127 _ k zb);rw[if_neg zb]at cB;have fB:=frozen_of_row _ _ k _ _ hB.out;have hset:=MM 127 (fun c=>if 32<=c/\c<k then !qo rs c else qo rs c) k (!qo rs k);have ef:(fun d=>if d=k then !qo rs k else if 32<=d/\d<k then !qo rs d else qo rs d)=(fun c=>if 32<=c/\c<k+1 then !qo rs c else qo rs c):=by
           funext d
           by_cases hd:d=k
           · subst hd;rw[if_pos rfl,if_pos zb]
           · rw[if_neg hd];by_cases h:32<=d/\d<k
             · rw[if_pos h,if_pos zb]
             · rw[if_neg h,if_neg zb]
          rw[ef]at hset;have hB2:=Gn hB.out hset;have hA2:=VJ (g:=w.heap.size+1) (u:=.bool (!qo rs k)) (i:=k) hA.out zb;have hR2:=VJ (g:=w.heap.size+1) (u:=.bool (!qo rs k)) (i:=k) hR.out (fun e=>hne e.symm);have hG2:=Yl hG.out (qz wr (w.heap.size+1) k (.bool (!qo rs k))) (fun j e=>by cases e;exact Or.inl hbs);have hl:=NK hA2 (Yc _ _);have hst:=IY (wr.setCell ⟨w.heap.size+1,k,none⟩ (.bool (!qo rs k))) Qk;have HG2:=za (In Qk hG2);have HR2:=za (Jc _ Qk hR2);have HB2:=za (Jc _ Qk hB2);have HAll:=za (O1 (wr.setCell ⟨w.heap.size+1,k,none⟩ (.bool (!qo rs k))) Qk);have hlt1:=zh hB.out;have hlt2:=zh hR.out;have hsz:(wr.setCell ⟨w.heap.size+1,k,none⟩ (.bool (!qo rs k))).heap.size=wr.heap.size:=Md;rw[hsz]at hst HG2 HR2 HB2 HAll;clear hset ef hB2 hA2 hR2 hG2 hG hR hB hA hsz;go_wp2;go_roundg (gk - 1)
          case measure=>omega
          case rel=>exact⟨k+1,wr.heap.size,zP,rfl,zb,zb,zb,hlt1,hlt2,HG2.out,HR2.out,HB2.out,HAll.out⟩
        · obtain rfl:k=127:=by omega
          have e:qa 127 (fun c=>if 32<=c/\c<127 then !qo rs c else qo rs c)=qa 127 (El.has (.set true rs)):=Pl fun c hc=>by
           show _=(decide (32<=c)&&decide (c<=126)&& !qo rs c);by_cases h:32<=c
           · rw[if_pos ⟨h,hc⟩];have h2:c<=126:=zb;simp[h,h2]
           · rw[if_neg (fun x=>h x.1),zcV hlo.out c zb];simp[h]
          rw[e]at hB;clear e;go_wp2;go_meet;exact⟨hG.out,hR.out,hB.out⟩
    case rest=>
    obtain⟨hG2,hR2,hB2⟩:=hcut;have hl:=NK hB2.out (Yc _ _);have h0:wc.heap[w.heap.size]? =some (.cells (qa 127 (fun _=>false)) 268 (0,0)):=(hG2.out.block _ (by rw[HAs.out];omega) Ra).trans HA0.out;have hs:=NO h0 (Yc _ _) (Yc 127 (El.has (.set no rs))) (G9 127 _);have H0:=za h0;clear hG hR hB c0 c1 f1 hq h0;go_wp2;refine yp rfl zj zj (setRow_heap _ _ _ _ _ _ H0.out) underlying268 rfl O8 zj ?_;unfold Nj;rw[HS.out,HE.out];refine⟨Yl (qU (zF HAb.out _) hG2.out) (qM _ _ _) (fun k e=>by cases e;exact Or.inl zo),rfl,?_⟩;rw[setRow_other _ _ _ _ zb,hR2.out]
    congr 2
    simp only[List.length_drop,zC];omega
  · go_upto_region 6 with fail
    go_cut [49]from 31 to 49 (fun s49 wx=>s49=.bool true/\Hid (WA.grownBy wx (some g))/\Hid (wx.heap[g]? =some (Qv p (j:Nat)))/\Hid (wx.heap[w.heap.size+1]? =some (.cells (qa 127 (qo rs)) 268 (0,0))))
    case first=>
     by_cases hjf:j=ft
     · subst hjf;clear hHP hx;go_quiet (fail)
       exact EP
     · have ejf:((j:Int)==(ft:Int))=false:=by rw[beq_eq_false_iff_ne];omega
       rw[decide_eq_false (fun h=>hx ⟨zb,h⟩)]at hHP;have HHP:=za hHP;clear hHP hx;go_quiet (first|(go_at_call 102;exact Calls.quiet_of_same (HHP.out _)))
       exact EP
    case rest=>
    obtain⟨rfl,hG2,hR2,hB2⟩:=hcut;clear hG hR hB;have hjl:ft<j->((L p).drop j).head?≠some 93:=fun h h2=>hx ⟨h,h2⟩;have HJl:=za hjl;have d0:=zd (j:=0) (u:=.string p) hR2.out rfl;have d1:=zd (j:=1) (u:=.int .i64 (j:Nat)) hR2.out rfl;clear hjl hx c0 c1 f1;go_upto_region 7 with fail
    go_cut [64]from 50 to 64 (fun s64 wx=>Hid (WA.grownBy wx (some g))/\(s64=.bool true/\Hid (YF no ((L p).drop ft)=none)∨s64=.bool false/\∃(n:Nat) (x:UInt8×UInt8),1<=n/\j+n<=p.size/\32<=x.1.toNat/\Hid (wx.heap[g]? =some (Qv p ((j+n:Nat):Int)))/\Hid (wx.heap[w.heap.size+1]? =some (.cells (qa 127 (qo (rs++[x]))) 268 (0,0)))/\Hid (Ql ((L p).drop j)=(Ql ((L p).drop (j+n))).map (fun y=>(x::y.1,y.2)))/\Hid (((L p).drop j).head?≠some 93)))
    case first=>
     by_cases h93:((L p).drop j).head? =some 93
     · have hjf:j=ft:=by
        rcases Nat.lt_or_ge ft j with h|h
        · exact absurd h93 (HJl.out h)
        · omega
       subst hjf;rw[decide_eq_true h93]at hHP;have HHP:=za hHP;have HQ:Hid (YF no ((L p).drop j)=none):=za (by rw[YF,if_pos h93]);clear hHP h93 hm;go_quiet (first|(go_at_call 102;exact Calls.quiet_of_same (HHP.out _)))
       go_wp2;go_meet;exact⟨qU hG2.out (YE _ _ _),Or.inl ⟨rfl,HQ.out⟩⟩
     · rw [decide_eq_false h93]at hHP;have HHP:=za hHP;have hmem:=fun W h1 h2=>zbu p j g (w.heap.size+1) rs W hp HP.out hj2 hne h1 h2;unfold Ec at hmem;cases hms:XB ((L p).drop j)with
       | none=>
         rw[hms]at hmem;have HMem:=za hmem;have HQ:Hid (YF no ((L p).drop ft)=none):=za (zdp (by
          rw[hm.out];rcases Nat.lt_or_ge j p.size with hjp|hjp
          · rw[Un p j hjp]at h93 hms⊢;rw[ziG hms (by simpa using h93)];rfl
          · rw[List.drop_eq_nil_of_le (by rw[zC];exact hjp),zhL];rfl))
         clear hmem hHP h93 hms hm
         go_region_with (first
          |(go_at_call 102;refine(HHP.out _).mono ?_;rintro e w3 ⟨rfl,rfl⟩)
          |(go_at_call 261;refine(HMem.out _ (by exact hR2.out) (by exact hB2.out)).mono ?_;rintro e w4 ⟨hk4,rfl⟩))
         all_goals
          go_wp2;go_meet;exact⟨hk4 WA (qU hG2.out ⟨rfl,rfl,rfl,zo,fun _ _ _=>rfl⟩) hbs,Or.inl ⟨rfl,HQ.out⟩⟩
       | some y=>
         obtain⟨x,n⟩:=y;rw[hms]at hmem;dsimp only at hmem;have hjp:j<p.size:=by
          rcases Nat.lt_or_ge j p.size with h|h
          · exact h
          · rw[List.drop_eq_nil_of_le VQ]at hms;cases hms
         have hms2:=hms;have h932:=h93;rw[Un p j hjp]at hms2 h932;obtain⟨e1,e2,hn1,hn2⟩:=zgz hms2 (by simpa using h932);have hpj:=NF HP.out j hjp;have hn3:j+n<=p.size:=by
          rcases hn2 with rfl|⟨b,hb,rfl⟩
          · omega
          · obtain⟨_,h2,_⟩:=Cx hb;omega
         have HM2:Hid (Ql ((L p).drop j)=(Ql ((L p).drop (j+n))).map (fun y=>(x::y.1,y.2))):=za (by
          rw[Un p j hjp,e2,<-Un p j hjp,List.drop_drop])
         have hx32:32<=x.1.toNat:=by rw[e1];omega
         have H93:=za h93;have HMem:=za hmem;clear hmem hHP h93 hms hms2 h932 e1 e2 hn2 hm hpj
         go_region_with (first
          |(go_at_call 102;refine(HHP.out _).mono ?_;rintro e w3 ⟨rfl,rfl⟩)
          |(go_at_call 261;refine(HMem.out _ (by exact hR2.out) (by exact hB2.out)).mono ?_;rintro e w4 ⟨hk4,rfl,hr4,hb4⟩;have HR4:=za hr4;have HB4:=za hb4;clear hr4 hb4))
         all_goals
          go_wp2;go_meet;exact⟨hk4 WA (qU hG2.out ⟨rfl,rfl,rfl,zo,fun _ _ _=>rfl⟩) hbs,Or.inr ⟨rfl,n,x,hn1,hn3,hx32,HR4.out,HB4.out,HM2.out,H93.out⟩⟩
    case rest=>
    obtain⟨hG3,h64⟩:=hcut;clear hHP HJl d0 d1 hR2 hB2 hG2;rcases h64 with⟨rfl,HQ⟩|⟨rfl,n,x,hn1,hn3,hx32,hR4,hB4,hm4,h93⟩
    · have hbd:=zeI wc;have h0:wc.heap[w.heap.size]? =some (.cells (qa 127 (fun _=>false)) 268 (0,0)):=(hG3.out.block _ (by rw[HAs.out];omega) Ra).trans HA0.out;have hs:=NO h0 (Yc _ _) (Yc 127 (qo [])) (G9 127 _);have H0:=za h0;clear h0;go_wp2;refine yp rfl zj zj (setRow_heap _ _ _ _ _ _ H0.out) underlying268 rfl O8 zj ?_;unfold Nj;rw[HS.out,HQ.out];exact⟨Yl (qU (zF HAb.out _) hG3.out) (qM _ _ _) (fun k e=>by cases e;exact Or.inl zo),by rw[hfalse];rfl⟩
    · have HM5:Hid (Ql ((L p).drop ft)=(Ql ((L p).drop (j+n))).map (fun y=>((rs++[x])++y.1,y.2))):=za (by
       rw[hm.out,hm4.out,Option.map_map]
       congr 1
       funext y
       simp)
      have HLo:Hid (∀y∈rs++[x],32<=y.1.toNat):=za fun y hy=>by
       rcases List.mem_append.1 hy with hy|hy
       · exact hlo.out y hy
       · obtain rfl:=List.mem_singleton.1 hy;exact hx32
      have HHd:Hid (ft<j+n->((L p).drop ft).head?≠some 93):=za fun _=>by
       rcases Nat.lt_or_ge ft j with h|h
       · exact hhd.out h
       · have:ft=j:=by omega
         rw[this];exact h93.out
      clear hm hm4 hlo hhd h93;go_wp2;go_roundg (gk - n)
      case measure=>omega
      case rel=>exact⟨j+n,_,rfl,zb,hn3,zb,hG3.out,hR4.out,hB4.out,HM5.out,HLo.out,HHd.out⟩
end Go.Proofs.YtobcmlmbblgcdaaGreatDoor
