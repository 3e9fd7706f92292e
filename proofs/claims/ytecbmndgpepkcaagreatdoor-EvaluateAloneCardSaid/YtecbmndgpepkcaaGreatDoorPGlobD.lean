/- Contracts that the law rests on, each under the premises that it names. -/
import Derived.Test.YtecbmndgpepkcaaGreatDoorG08
namespace Go.Proofs.YtecbmndgpepkcaaGreatDoor
open Tryz
set_option maxHeartbeats 8000000
set_option maxRecDepth 100000
open Go.RowKit
theorem zgt(l:ze)(c:UInt8):Lib.hasPrefix l [c]=decide (l.head? =some c):=by
 cases l with
 |nil=>simp[Lib.hasPrefix]
 | cons x r=>
   simp only[Lib.hasPrefix,List.head?_cons,Option.some.injEq];by_cases h:x=c
   · subst h;simp[List.isPrefixOf]
   · have:(c==x)=false:=by simpa using fun e=>h e.symm
     simp[List.isPrefixOf,this,h]
theorem AX(q:ByteArray)(c:UInt8)(w:World):Calls prog 105 #[.string q,.string ⟨#[c]⟩] w fun e w'=>e=.returned (.bool (decide ((L q).head? =some c)))/\w'=w:=by
 have h:=Ja q ⟨#[c]⟩ w;rw[show L ⟨#[c]⟩=[c]from rfl,zgt]at h;exact h.mono fun _ _ ⟨h1,h2⟩=>⟨h1,h2.symm⟩
theorem yU{P:Program}{fn:Func}{R:Ending->World->Prop}{a:Act}{W:World}{g:Nat}{p q:Tmp}{ty t:TypeId}{cs:Array Value}{u:Value}{fr:Nat×Nat}{d:TypeDesc}(h:fn.results=#[.cell p ty,.tmp q])(hp:a.tmps.getD p undef=.pointer (some ⟨g,0,none⟩))(hq:a.tmps.getD q undef=u)
 (hg:W.heap[g]? =some (.cells cs t fr))(hu:P.underlying ty=some d)(hd:(match d with| .struct _| .array _ _=>true|_=>false)=true)(hi:(P.info? ty).map (·.size)=some cs.size)(hdef:a.defers=[])
 (hR:R (.returned (.tuple #[.agg cs,u])) W):bodyPost P fn R .ret a W:=by
 exact AC
def On(p:ByteArray)(g:Nat)(r:ze)(w:World)(e:Ending)(w':World):Prop:=w.grownBy w' (some g) /\
 match Vj r with
 |some (x,r')=>e=.returned (.tuple #[.agg (qc 127 x.has),.bool true])/\w'.heap[g]? =some (QC p ((p.size:Int) - r'.length))
 |none=>e=.returned (.tuple #[.agg (qc 127 (fun _=>false)),.bool false])
theorem zf1{no:Bool}{q:ze}(h:Qv q=none):YQ no q=none:=by
 unfold YQ;unfold Qv at h;rw[h]
 split<;>rfl
theorem BG{no:Bool}{q r:ze}{rs:List (UInt8×UInt8)}(h:Qv q=some (rs,r))(hh:q.head?≠some 93):YQ no q=some (.set no rs,r):=by
 unfold YQ;unfold Qv at h;rw[if_neg hh,h];rfl
theorem zkC{c:UInt8}{r:ze}{x:UInt8×UInt8}{n:Nat}(h:XE (c::r)=some (x,n))(hc:c≠93):x.1=c/\Qv (c::r)=(Qv ((c::r).drop n)).map (fun y=>(x::y.1,y.2))/\1<=n/\(n=1∨∃b,Yj r=some b/\n=3):=by
 rw[XE]at h;cases hr:Yj r with
 | none=>
   rw[hr]at h;simp only[Option.some.injEq,Prod.mk.injEq]at h;obtain⟨rfl,rfl⟩:=h;refine⟨rfl,?_,zo,Or.inl rfl⟩;rw[ziQ _ _ hc hr];rfl
 | some b=>
   rw[hr]at h;dsimp only at h
   split at h
   · rename_i hle;simp only[Option.some.injEq,Prod.mk.injEq]at h;obtain⟨rfl,rfl⟩:=h;refine⟨rfl,?_,zb,Or.inr ⟨b,rfl,rfl⟩⟩;rw[E8 _ _ _ hc hr,if_pos hle];rfl
   · cases h
theorem zfU{c:UInt8}{r:ze}(h:XE (c::r)=none)(hc:c≠93):Qv (c::r)=none:=by
 rw[XE]at h;cases hr:Yj r with
 |none=>rw[hr]at h;cases h
 | some b=>
   rw[hr]at h;dsimp only at h
   split at h
   · cases h
   · rename_i hle;rw[E8 _ _ _ hc hr,if_neg hle]
theorem ND(w:World)(f:Nat->Bool):(Gw (.pointer (some ⟨w.heap.size,0,none⟩)) (.agg (qc 127 f))).run prog (w.alloc (.cells zeroCells265 265))=.ok () ((w.alloc (.cells zeroCells265 265)).setRow w.heap.size (qc 127 f)):=
 OE (i5 w _) (by rw[Pm,Yo]) (Yo _ _) (GQ _ _)
theorem Px(w:World)(f:Nat->Bool):((w.alloc (.cells zeroCells265 265)).setRow w.heap.size (qc 127 f)).heap[w.heap.size]? =some (.cells (qc 127 f) 265 (0,0)):=setRow_heap _ _ _ _ _ _ (i5 w _)
theorem K5(w:World)(f:Nat->Bool){b:Nat}{o:Obj}(h:w.heap[b]? =some o):((w.alloc (.cells zeroCells265 265)).setRow w.heap.size (qc 127 f)).heap[b]? =some o:=by
 have:=zh h;rw[setRow_other _ _ _ _ zb];exact(heap_alloc_old _ _ this).trans h
theorem I2{WA w:World}{row:Option Nat}(f:Nat->Bool)(h:WA.grownBy w row):WA.grownBy ((w.alloc (.cells zeroCells265 265)).setRow w.heap.size (qc 127 f)) row:=
 YL (qY h (World.grownBy_alloc _ _ _)) (qR _ _ _) (fun j e=>by cases e;exact Or.inl h.size)
theorem zgp{rs:List (UInt8×UInt8)}(h:∀x∈rs,32<=x.1.toNat)(c:Nat)(hc:c<32):qs rs c=false:=by
 unfold qs;rw[List.any_eq_false];intro x hx;have:=h x hx;simp;omega
attribute [local go_sem ↓] Th Rr vj
theorem zcI (p:ByteArray)(i g:Nat)(w:World)(hp:p.size<=256)(hpr:qZ (L p)=true)(hi:i<=p.size)(hg:w.heap[g]? =some (QC p i)):
 Calls prog 233 #[.pointer (some ⟨g,0,none⟩)] w (On p g ((L p).drop i) w):=by
 have hglt:=zh hg;obtain⟨no,ft,hft,hcase,hset⟩:∃no ft,(ft<=p.size)/\(no=decide (((L p).drop i).head? =some 33)/\ft=if no then i+1 else i)/\Vj ((L p).drop i)=YQ no ((L p).drop ft):=by
  by_cases h:((L p).drop i).head? =some 33
  · have hi':i<p.size:=by
     rcases Nat.lt_or_ge i p.size with h'|h'
     · exact h'
     · rw[List.drop_eq_nil_of_le (by rw[zF];exact h')]at h;simp at h
    refine⟨true,i+1,hi',⟨by rw[zl1 h],rfl⟩,?_⟩;rw[Vj,if_pos h,zl8]
  · exact⟨false,i,hi,⟨by rw[zl0 h],rfl⟩,by rw[Vj,if_neg h]⟩
 obtain⟨q,hq⟩:∃q,p.extract i p.size=q:=⟨_,rfl⟩;have hL:L q=(L p).drop i:=PH;have hHP:=fun W=>AX q 33 W;rw[hL,<-hcase.1]at hHP;have HHP:=za hHP;have HS:=za hset;have HP:=za hpr;have HFt:=za hcase.2;obtain⟨WA,hWA⟩:∃WA,w.alloc (.cells (qc 127 (fun _=>false)) 265)=WA:=⟨_,rfl⟩;have hA0:WA.heap[w.heap.size]? =some (.cells (qc 127 (fun _=>false)) 265 (0,0)):=by rw[<-hWA];exact qt
 have hAg:WA.heap[g]? =some (QC p i):=by rw[<-hWA];exact(heap_alloc_old _ _ hglt).trans hg
 have hAs:WA.heap.size=w.heap.size+1:=by rw[<-hWA];simp
 have hAb:Below w.heap.size w WA:=by rw[<-hWA];exact zu
 obtain⟨WB,hWB⟩:∃WB,WA.alloc (.cells (qc 127 (qs [])) 265)=WB:=⟨_,rfl⟩;have hB1:WB.heap[w.heap.size+1]? =some (.cells (qc 127 (qs [])) 265 (0,0)):=by rw[<-hWB,<-hAs];exact qt
 have hBg:WB.heap[g]? =some (QC p i):=by rw[<-hWB];exact(heap_alloc_old _ _ (zh hAg)).trans hAg
 have hgb:WA.grownBy WB (some g):=by rw[<-hWB];exact World.grownBy_alloc _ _ _
 have c0:=zd (j:=0) (u:=.string p) hBg rfl;have c1:=zd (j:=1) (u:=.int .i64 i) hBg rfl;have f1:=frozen_of_row _ _ 1 _ _ hBg;have hiI:(i:Int)<=(p.size:Int):=zb;have hfalse:qc 127 (fun _=>false)=qc 127 (qs []):=Ph (fun c _=>rfl);have HA0:=za hA0;have HAb:=za hAb;have HAs:=za hAs;have HB1:=za hB1;have HBg:=za hBg;have HGb:=za hgb;have HWA:=za hWA;have HWB:=za hWB;clear hpr hset hcase hL hHP hA0 hAs hAb hWB hWA hB1 hBg hgb hAg hg;go_enter func233,ntmps233;go_upto_region 2 with fail
 rw[Pm,HWA.out];rw[hfalse,HWB.out];go_quiet (first|(go_at_call 105;exact Calls.quiet_of_same (HHP.out _)))
 go_upto_if 19 with fail
 go_cut [5]from 20 to 26 (fun s5 wx=>s5=.bool no/\Hid (WA.grownBy wx (some g))/\Hid (wx.heap[g]? =some (QC p (ft:Nat)))/\Hid (wx.heap[w.heap.size+1]? =some (.cells (qc 127 (qs [])) 265 (0,0))))
 case first=>
  have hne:g≠w.heap.size+1:=zb;cases no
  · have hfe:=HFt.out;simp only[zd3,if_false]at hfe;subst hfe;go_wp2;go_meet;exact⟨rfl,qY HGb.out (Y2 _ _ _),HBg.out,HB1.out⟩
  · have hfe:=HFt.out;simp only[if_true]at hfe;subst hfe;go_wp2;go_meet;exact⟨rfl,qY (qY HGb.out (Y2 _ _ _)) (qE _ _ _ _),by rw[show((i+1:Nat):Int)=(i:Int)+1 from by omega];exact Jv HBg.out,VM HB1.out hne⟩
 case rest=>
 obtain⟨rfl,HGc,HRc,HBc⟩:=hcut;clear HB1 HBg HGb HWB HHP HFt c0 c1 f1 hq;have c1:=zd (j:=1) (u:=.int .i64 (ft:Nat)) HRc.out rfl;have hne:g≠w.heap.size+1:=zb;have hbs:WA.heap.size<=w.heap.size+1:=by rw[HAs.out];exact zo
 go_wp2;clear c1;go_loopg [3] (p.size+2) (fun gk s3 wr=>∃(j:Nat) (rs:List (UInt8×UInt8)),s3=.bool false/\ft<=j/\j<=p.size/\j+gk=ft+(p.size+2)/\Hid (WA.grownBy wr (some g))/\Hid (wr.heap[g]? =some (QC p (j:Nat)))/\Hid (wr.heap[w.heap.size+1]? =some (.cells (qc 127 (qs rs)) 265 (0,0)))/\Hid (Qv ((L p).drop ft)=(Qv ((L p).drop j)).map (fun x=>(rs++x.1,x.2)))/\Hid (∀x∈rs,32<=x.1.toNat)/\Hid (ft<j->((L p).drop ft).head?≠some 93))
 case atStart=>exact⟨ft,[],rfl,zo,hft,rfl,HGc.out,HRc.out,HBc.out,(by show _=_;cases Qv ((L p).drop ft)<;>rfl),(fun x hx=>YT),fun h=>absurd h (zd0 _)⟩
 case round =>
  obtain⟨j,rs,rfl,hj1,hj2,hjg,hG,hR,hB,hm,hlo,hhd⟩:=hrel;obtain⟨q,hq⟩:∃q,p.extract j p.size=q:=⟨_,rfl⟩;have hL:L q=(L p).drop j:=PH;have hHP:=fun W=>AX q 93 W;rw[hL]at hHP;have c0:=zd (j:=0) (u:=.string p) hR.out rfl;have c1:=zd (j:=1) (u:=.int .i64 (j:Nat)) hR.out rfl;have f1:=frozen_of_row _ _ 1 _ _ hR.out;have hjI:(j:Int)<=(p.size:Int):=zb;clear hL;by_cases hx:ft<j/\((L p).drop j).head? =some 93
  · obtain ⟨hfj,h93⟩:=hx;rw[zl1 h93]at hHP;have HHP:=za hHP;have ejf:((j:Int)==(ft:Int))=false:=by rw[beq_eq_false_iff_ne];omega
    have hjp:j<p.size:=by
     rcases Nat.lt_or_ge j p.size with h|h
     · exact h
     · rw[List.drop_eq_nil_of_le VV]at h93;simp at h93
    have hend:YQ no ((L p).drop ft)=some (.set no rs,(L p).drop (j+1)):=by
     refine BG ?_ (hhd.out hfj);rw[hm.out,Us p j hjp];rw[Us p j hjp]at h93;rw[show p[j]=93 by simpa using h93,zf5];simp
    have HE:=za hend;clear hHP h93 hend hm hhd;go_wp2;go_quiet (first|(go_at_call 105;exact Calls.quiet_of_same (HHP.out _)))
    go_upto_if 73 with fail
    go_cut [7,8]from 74 to 90 (fun _ _ wx=>Hid (WA.grownBy wx (some g))/\Hid (wx.heap[g]? =some (QC p ((j:Int)+1)))/\Hid (wx.heap[w.heap.size+1]? =some (.cells (qc 127 (El.has (.set no rs))) 265 (0,0))))
    case first=>
     obtain⟨W1,hW1⟩:∃W1,(wr.drewN nq).setCell ⟨g,1,none⟩ (.int .i64 ((j:Int)+1))=W1:=⟨_,rfl⟩;rw[hW1];have hG1:WA.grownBy W1 (some g):=by rw[<-hW1];exact qY (qY hG.out (Y2 _ _ _)) (qE _ _ _ _)
     have hR1:W1.heap[g]? =some (QC p ((j:Int)+1)):=by rw[<-hW1];exact Jv hR.out
     have hB1:W1.heap[w.heap.size+1]? =some (.cells (qc 127 (qs rs)) 265 (0,0)):=by rw[<-hW1];exact VM hB.out hne
     have HG1:=za hG1;have HR1:=za hR1;have HB1:=za hB1;clear hW1 hG1 hR1 hB1 hG hR hB c0 c1 f1 hq;cases no
     · go_wp2;go_meet;exact⟨HG1.out,HR1.out,HB1.out⟩
     · go_wp2_with (go_at_call 232;refine(yF _).mono ?_;rintro e w2 ⟨rfl,hb2⟩;have hst:=ND w2 Qu;have HB2:=za hb2;clear hb2)
       have HG2:=za (I2 Qu (qY HG1.out (zG HB2.out _)));have HR2:=za (K5 w2 Qu ((HB2.out.block g (zh HR1.out)).trans HR1.out));have HBb:=za (K5 w2 Qu ((HB2.out.block _ (zh HB1.out)).trans HB1.out));have HAll:=za (Px w2 Qu);have hGlt:w.heap.size+1<w2.heap.size:=i4 (zh HB1.out) HB2.out.size;have hGg:g<w2.heap.size:=i4 (zh HR1.out) HB2.out.size;have hfe:(fun c=>if 32<=c/\c<32 then !qs rs c else qs rs c)=qs rs:=by funext c;rw[if_neg zb]
       clear hst HG1 HR1 HB1;go_wp2;obtain⟨gko,rfl⟩:∃gko:Nat,gko=gk:=⟨_,rfl⟩;obtain⟨wo,rfl⟩:∃wo:World,wo=wr:=⟨_,rfl⟩;go_loopg [7,8] 97 (fun gk s7 s8 wr=>∃(k G:Nat),s7=.int .i64 k/\s8=.pointer (some ⟨G,0,none⟩)/\32<=k/\k<=127/\k+gk=129/\w.heap.size+1<G/\g<G/\Hid (WA.grownBy wr (some g))/\Hid (wr.heap[g]? =some (QC p ((j:Int)+1)))/\Hid (wr.heap[w.heap.size+1]? =some (.cells (qc 127 (fun c=>if 32<=c/\c<k then !qs rs c else qs rs c)) 265 (0,0)))/\Hid (wr.heap[G]? =some (.cells (qc 127 Qu) 265 (0,0))))
       case atStart=>exact⟨32,w2.heap.size,rfl,rfl,zo,zb,rfl,hGlt,hGg,HG2.out,HR2.out,by show _=_;rw[hfe];exact HBb.out,HAll.out⟩
       case round=>
        obtain⟨k,G,rfl,rfl,hk1,hk2,hkg,hGB,hGg,hG,hR,hB,hA⟩:=hrel;by_cases hk:k<=126
        · have hkI:(k:Int)<=126:=by omega
          have cA:=zd hA.out (Vv 127 Qu k zb);rw[show Qu k=true from by simp[Qu];omega]at cA;have cB:=zd hB.out (Vv 127 _ k zb);rw[if_neg zb]at cB;have fB:=frozen_of_row _ _ k _ _ hB.out;have hset:=Nk 127 (fun c=>if 32<=c/\c<k then !qs rs c else qs rs c) k (!qs rs k);have ef:(fun d=>if d=k then !qs rs k else if 32<=d/\d<k then !qs rs d else qs rs d)=(fun c=>if 32<=c/\c<k+1 then !qs rs c else qs rs c):=by
           funext d
           by_cases hd:d=k
           · subst hd;rw[if_pos rfl,if_pos zb]
           · rw[if_neg hd];by_cases h:32<=d/\d<k
             · rw[if_pos h,if_pos zb]
             · rw[if_neg h,if_neg zb]
          rw[ef]at hset;have hB2:=Ix hB.out hset;have hA2:=VM (g:=w.heap.size+1) (u:=.bool (!qs rs k)) (i:=k) hA.out zb;have hR2:=VM (g:=w.heap.size+1) (u:=.bool (!qs rs k)) (i:=k) hR.out (fun e=>hne e.symm);have hG2:=YL hG.out (qE wr (w.heap.size+1) k (.bool (!qs rs k))) (fun j e=>by cases e;exact Or.inl hbs);have hl:=MP hA2 (Yo _ _);have hst:=ND (wr.setCell ⟨w.heap.size+1,k,none⟩ (.bool (!qs rs k))) Qu;have HG2:=za (I2 Qu hG2);have HR2:=za (K5 _ Qu hR2);have HB2:=za (K5 _ Qu hB2);have HAll:=za (Px (wr.setCell ⟨w.heap.size+1,k,none⟩ (.bool (!qs rs k))) Qu);have hlt1:=zh hB.out;have hlt2:=zh hR.out;have hsz:(wr.setCell ⟨w.heap.size+1,k,none⟩ (.bool (!qs rs k))).heap.size=wr.heap.size:=Oz;rw[hsz]at hst HG2 HR2 HB2 HAll;clear hset ef hB2 hA2 hR2 hG2 hG hR hB hA hsz;go_wp2;go_roundg (gk - 1)
          case measure=>omega
          case rel=>exact⟨k+1,wr.heap.size,zU,rfl,zb,zb,zb,hlt1,hlt2,HG2.out,HR2.out,HB2.out,HAll.out⟩
        · obtain rfl:k=127:=by omega
          have e:qc 127 (fun c=>if 32<=c/\c<127 then !qs rs c else qs rs c)=qc 127 (El.has (.set true rs)):=Ph fun c hc=>by
           show _=(decide (32<=c)&&decide (c<=126)&& !qs rs c);by_cases h:32<=c
           · rw[if_pos ⟨h,hc⟩];have h2:c<=126:=zb;simp[h,h2]
           · rw[if_neg (fun x=>h x.1),zgp hlo.out c zb];simp[h]
          rw[e]at hB;clear e;go_wp2;go_meet;exact⟨hG.out,hR.out,hB.out⟩
    case rest=>
    obtain⟨hG2,hR2,hB2⟩:=hcut;have hl:=MP hB2.out (Yo _ _);have h0:wc.heap[w.heap.size]? =some (.cells (qc 127 (fun _=>false)) 265 (0,0)):=(hG2.out.block _ (by rw[HAs.out];omega) yD).trans HA0.out;have hs:=OE h0 (Yo _ _) (Yo 127 (El.has (.set no rs))) (GQ 127 _);have H0:=za h0;clear hG hR hB c0 c1 f1 hq h0;go_wp2;refine yU rfl zk zk (setRow_heap _ _ _ _ _ _ H0.out) underlying265 rfl Tx zk ?_;unfold On;rw[HS.out,HE.out];refine⟨YL (qY (zG HAb.out _) hG2.out) (qR _ _ _) (fun k e=>by cases e;exact Or.inl zo),rfl,?_⟩;rw[setRow_other _ _ _ _ zb,hR2.out]
    congr 2
    simp only[W8,zF];omega
  · go_upto_region 6 with fail
    go_cut [49]from 31 to 49 (fun s49 wx=>s49=.bool true/\Hid (WA.grownBy wx (some g))/\Hid (wx.heap[g]? =some (QC p (j:Nat)))/\Hid (wx.heap[w.heap.size+1]? =some (.cells (qc 127 (qs rs)) 265 (0,0))))
    case first=>
     by_cases hjf:j=ft
     · subst hjf;clear hHP hx;go_quiet (fail)
       exact AK
     · have ejf:((j:Int)==(ft:Int))=false:=by rw[beq_eq_false_iff_ne];omega
       rw[zl0 (fun h=>hx ⟨zb,h⟩)]at hHP;have HHP:=za hHP;clear hHP hx;go_quiet (first|(go_at_call 105;exact Calls.quiet_of_same (HHP.out _)))
       exact AK
    case rest=>
    obtain⟨rfl,hG2,hR2,hB2⟩:=hcut;clear hG hR hB;have hjl:ft<j->((L p).drop j).head?≠some 93:=fun h h2=>hx ⟨h,h2⟩;have HJl:=za hjl;have d0:=zd (j:=0) (u:=.string p) hR2.out rfl;have d1:=zd (j:=1) (u:=.int .i64 (j:Nat)) hR2.out rfl;clear hjl hx c0 c1 f1;go_upto_region 7 with fail
    go_cut [64]from 50 to 64 (fun s64 wx=>Hid (WA.grownBy wx (some g))/\(s64=.bool true/\Hid (YQ no ((L p).drop ft)=none)∨s64=.bool false/\∃(n:Nat) (x:UInt8×UInt8),1<=n/\j+n<=p.size/\32<=x.1.toNat/\Hid (wx.heap[g]? =some (QC p ((j+n:Nat):Int)))/\Hid (wx.heap[w.heap.size+1]? =some (.cells (qc 127 (qs (rs++[x]))) 265 (0,0)))/\Hid (Qv ((L p).drop j)=(Qv ((L p).drop (j+n))).map (fun y=>(x::y.1,y.2)))/\Hid (((L p).drop j).head?≠some 93)))
    case first=>
     by_cases h93:((L p).drop j).head? =some 93
     · have hjf:j=ft:=by
        rcases Nat.lt_or_ge ft j with h|h
        · exact absurd h93 (HJl.out h)
        · omega
       subst hjf;rw[zl1 h93]at hHP;have HHP:=za hHP;have HQ:Hid (YQ no ((L p).drop j)=none):=za (by rw[YQ,if_pos h93]);clear hHP h93 hm;go_quiet (first|(go_at_call 105;exact Calls.quiet_of_same (HHP.out _)))
       go_wp2;go_meet;exact⟨qY hG2.out (Y2 _ _ _),Or.inl ⟨rfl,HQ.out⟩⟩
     · rw [zl0 h93]at hHP;have HHP:=za hHP;have hmem:=fun W h1 h2=>zg2 p j g (w.heap.size+1) rs W hp HP.out hj2 hne h1 h2;unfold Dx at hmem;cases hms:XE ((L p).drop j)with
       | none=>
         rw[hms]at hmem;have HMem:=za hmem;have HQ:Hid (YQ no ((L p).drop ft)=none):=za (zf1 (by
          rw[hm.out];rcases Nat.lt_or_ge j p.size with hjp|hjp
          · rw[Us p j hjp]at h93 hms⊢;rw[zfU hms (by simpa using h93)];rfl
          · rw[List.drop_eq_nil_of_le (by rw[zF];exact hjp),BS];rfl))
         clear hmem hHP h93 hms hm
         go_region_with (first
          |(go_at_call 105;refine(HHP.out _).mono ?_;rintro e w3 ⟨rfl,rfl⟩)
          |(go_at_call 262;refine(HMem.out _ (by exact hR2.out) (by exact hB2.out)).mono ?_;rintro e w4 ⟨hk4,rfl⟩))
         all_goals
          go_wp2;go_meet;exact⟨hk4 WA (qY hG2.out ⟨rfl,rfl,rfl,zo,fun _ _ _=>rfl⟩) hbs,Or.inl ⟨rfl,HQ.out⟩⟩
       | some y=>
         obtain⟨x,n⟩:=y;rw[hms]at hmem;dsimp only at hmem;have hjp:j<p.size:=by
          rcases Nat.lt_or_ge j p.size with h|h
          · exact h
          · rw[List.drop_eq_nil_of_le VV]at hms;cases hms
         have hms2:=hms;have h932:=h93;rw[Us p j hjp]at hms2 h932;obtain⟨e1,e2,hn1,hn2⟩:=zkC hms2 (by simpa using h932);have hpj:=Ny HP.out j hjp;have hn3:j+n<=p.size:=by
          rcases hn2 with rfl|⟨b,hb,rfl⟩
          · omega
          · obtain⟨_,h2,_⟩:=D9 hb;omega
         have HM2:Hid (Qv ((L p).drop j)=(Qv ((L p).drop (j+n))).map (fun y=>(x::y.1,y.2))):=za (by
          rw[Us p j hjp,e2,<-Us p j hjp,zl8])
         have hx32:32<=x.1.toNat:=by rw[e1];omega
         have H93:=za h93;have HMem:=za hmem;clear hmem hHP h93 hms hms2 h932 e1 e2 hn2 hm hpj
         go_region_with (first
          |(go_at_call 105;refine(HHP.out _).mono ?_;rintro e w3 ⟨rfl,rfl⟩)
          |(go_at_call 262;refine(HMem.out _ (by exact hR2.out) (by exact hB2.out)).mono ?_;rintro e w4 ⟨hk4,rfl,hr4,hb4⟩;have HR4:=za hr4;have HB4:=za hb4;clear hr4 hb4))
         all_goals
          go_wp2;go_meet;exact⟨hk4 WA (qY hG2.out ⟨rfl,rfl,rfl,zo,fun _ _ _=>rfl⟩) hbs,Or.inr ⟨rfl,n,x,hn1,hn3,hx32,HR4.out,HB4.out,HM2.out,H93.out⟩⟩
    case rest=>
    obtain⟨hG3,h64⟩:=hcut;clear hHP HJl d0 d1 hR2 hB2 hG2;rcases h64 with⟨rfl,HQ⟩|⟨rfl,n,x,hn1,hn3,hx32,hR4,hB4,hm4,h93⟩
    · have hbd:=zj6 wc;have h0:wc.heap[w.heap.size]? =some (.cells (qc 127 (fun _=>false)) 265 (0,0)):=(hG3.out.block _ (by rw[HAs.out];omega) yD).trans HA0.out;have hs:=OE h0 (Yo _ _) (Yo 127 (qs [])) (GQ 127 _);have H0:=za h0;clear h0;go_wp2;refine yU rfl zk zk (setRow_heap _ _ _ _ _ _ H0.out) underlying265 rfl Tx zk ?_;unfold On;rw[HS.out,HQ.out];exact⟨YL (qY (zG HAb.out _) hG3.out) (qR _ _ _) (fun k e=>by cases e;exact Or.inl zo),by rw[hfalse];rfl⟩
    · have HM5:Hid (Qv ((L p).drop ft)=(Qv ((L p).drop (j+n))).map (fun y=>((rs++[x])++y.1,y.2))):=za (by
       rw[hm.out,hm4.out,Option.map_map]
       congr 1
       funext y
       simp)
      have HLo:Hid (∀y∈rs++[x],32<=y.1.toNat):=za fun y hy=>by
       rcases List.mem_append.1 hy with hy|hy
       · exact hlo.out y hy
       · obtain rfl:=List.mem_singleton.1 hy;exact hx32
      have HHd:Hid (ft<j+n->((L p).drop ft).head?≠some 93):=za fun _=>by
       rcases Nat.lt_or_ge ft j with h|h
       · exact hhd.out h
       · have:ft=j:=by omega
         rw[this];exact h93.out
      clear hm hm4 hlo hhd h93;go_wp2;go_roundg (gk - n)
      case measure=>omega
      case rel=>exact⟨j+n,_,rfl,zb,hn3,zb,hG3.out,hR4.out,hB4.out,HM5.out,HLo.out,HHd.out⟩
end Go.Proofs.YtecbmndgpepkcaaGreatDoor
