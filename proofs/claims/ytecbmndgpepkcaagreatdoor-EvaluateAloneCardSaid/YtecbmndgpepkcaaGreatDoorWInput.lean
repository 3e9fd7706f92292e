/- Contracts that the law rests on, each under the premises that it names. -/
import Derived.Test.YtecbmndgpepkcaaGreatDoorG43
import Derived.Test.YtecbmndgpepkcaaGreatDoorG38
namespace Go.Proofs.YtecbmndgpepkcaaGreatDoor
open Tryz
set_option maxHeartbeats 8000000
set_option maxRecDepth 100000
open Go.RowKit
abbrev Zp(A:Option Addr)(tc:Nat)(ds:List Dv)(ix:Int)(r:Rm)(hs:Ls Hp)(lim:Int):zt:=⟨⟨#[97,100,100]⟩,A,tc,ds,ix,r,hs,lim,qd,⟨#[]⟩,⟨#[]⟩⟩
structure Ur(c:zt):Prop where
 tw:kI 1000 c.tds
 tl:c.tds.length<=20
 ix1: -1<=c.ix
 ix2:c.ix<=1000
 hl:c.hs.l.length<=6
 hm:∀x∈c.hs.l,x∈Ux
 lim1:1<=c.lim
 lim2:c.lim<=60
 act:c.act.size<=100
 pl:c.r.props.l.length<=20
 pz:∀x∈c.r.props.l,x.name.size<=100/\x.val.size<=300000
theorem Ur.z{c:zt}(h:Ur c):Vk c:=by
 refine⟨⟨⟨h.lim1,by have:=h.lim2;show c.lim<=1000;omega,fun x hx=>?_⟩,fun x hx=>?_,fun n x hx=>?_⟩,fun d hd=>?_,h.tw.wf,RW,by have:=h.ix1;omega,by have:=h.ix2;omega,by have:=h.hl;omega,fun y hy=>?_,by have:=h.act;omega,Ta,fun y hy=>?_,fun d hd=>?_⟩
 · have:=AV x (h.hm x hx);exact⟨this.1,this.2.1⟩
 · have:=(h.pz x hx).2;omega
 · have:=F0 n (zm c.tds) c.ix x hx;omega
 · obtain⟨x,hx,rfl⟩:=List.mem_map.1 hd;have y:=h.tw.dv x hx;have y1:=y.ix1;have y2:=y.ix2;have y3:=y.pa1;have y4:=y.pa2;have y5:=y.og;have y6:=y.sb;have y7:=y.dr;have y8:=y.nb1;have y9:=y.nb2;refine⟨⟨⟨?_,?_⟩,⟨?_,?_⟩,?_⟩,?_,?_,?_,?_,fun a ha=>?_⟩
   · show -9223372036854775808<=x.ix;omega
   · show x.ix<=9223372036854775807;omega
   · show -9223372036854775808<=x.pa;omega
   · show x.pa<=9223372036854775807;omega
   · show x.og.size<=1000;omega
   · show x.sb.size<=1000;omega
   · show x.dr.size<=1000;omega
   · show -9223372036854775808<=x.nb;omega
   · show x.nb<=9223372036854775807;omega
   · have:=(y.ats a ha).1;omega
 · have:=(AV y (h.hm y hy)).2.2;omega
 · have:=(h.pz y hy).1;omega
 · obtain⟨x,hx,rfl⟩:=List.mem_map.1 hd;have:=(h.tw.dv x hx).al;show x.al.size<=1000000;omega
structure qO(w0:World)(b n p d:Nat)(w:World)(R B:Nat)(c:zt)(W:World):Prop where
 nx:zA w0 b n p d w W
 bx:W.heap[B]? =some (.cells (zJ c) qh (0,0))
 rs:W.heap[R]? =some (.cells (zJ Oh) qh (0,0))
 im:Zu W c
 fr:∀a∈c.as,∀q,a=some q->w.heap.size<=q.block/\q.block≠B/\q.block≠R
 lB:w.heap.size<=B
 lR:w.heap.size<=R
 ne:R≠B
 lo:w0.heap.size<=w.heap.size
section
variable{w0 w W W1:World}{b n p d d' R B:Nat}{c c':zt}
theorem qO.bne(h:qO w0 b n p d w R B c W):b<w.heap.size:=E6
theorem qO.go(h:qO w0 b n p d w R B c W)(hT:zA w0 b n p d' W W1):qO w0 b n p d' w R B c W1:=by
 have h1:=h.bne;have h2:=h.lB;have h3:=h.lR;exact⟨h.nx.trans hT,hT.blk h.bx zb,hT.blk h.rs zb,h.im.grown hT.gr (fun a ha q e=>by have:=(h.fr a ha q e).1;omega),h.fr,h2,h3,h.ne,h.lo⟩
theorem qO.below(h:qO w0 b n p d w R B c W)(hb:Below W.heap.size W W1):qO w0 b n p d w R B c W1:=
 ⟨h.nx.belowW hb,(hb.block _ (zh h.bx)).trans h.bx,(hb.block _ (zh h.rs)).trans h.rs,h.im.keep hb,h.fr,h.lB,h.lR,h.ne,h.lo⟩
theorem qO.more(h:qO w0 b n p d w R B c W)(hd:d<=d'):qO w0 b n p d' w R B c W:=⟨h.nx.more hd,h.bx,h.rs,h.im,h.fr,h.lB,h.lR,h.ne,h.lo⟩
theorem qO.set(h:qO w0 b n p d w R B c W)(i:Nat)(v:Value)(e:(zJ c).setIfInBounds i v=zJ c')(hm:Zu W c')(hf:∀a∈c'.as,∀q,a=some q->w.heap.size<=q.block/\q.block≠B/\q.block≠R):qO w0 b n p d w R B c' (W.setCell ⟨B,i,none⟩ v):=
 ⟨h.nx.setCellR h.lB h.lo,by rw[heap_setCell_same _ _ _ _ _ _ h.bx,e],(heap_setCell_other W ⟨B,i,none⟩ _ v (by exact h.ne)).trans h.rs,hm.grown (qE W B i v) (fun a ha q e=>(hf a ha q e).2.1),hf,h.lB,h.lR,h.ne,h.lo⟩
theorem qO.row(h:qO w0 b n p d w R B c W)(hm:Zu W c')(hf:∀a∈c'.as,∀q,a=some q->w.heap.size<=q.block/\q.block≠B/\q.block≠R):qO w0 b n p d w R B c' (W.setRow B (zJ c')):=
 ⟨h.nx.setRow h.lB h.lo _,setRow_heap _ _ _ _ _ _ h.bx,(setRow_other _ _ _ _ h.ne).trans h.rs,hm.grown (qR W B _) (fun a ha q e=>(hf a ha q e).2.1),hf,h.lB,h.lR,h.ne,h.lo⟩
theorem qO.cl(h:qO w0 b n p d w R B c W){j:Nat}{u:Value}(hj:(zJ c)[j]? =some u):W.cell? ⟨B,j,none⟩=some u:=zd h.bx hj
theorem qO.fz(h:qO w0 b n p d w R B c W)(j:Nat):W.frozen? ⟨B,j,none⟩=false:=frozen_of_row _ _ _ _ _ h.bx
end
abbrev QR(s:ByteArray)(pa:Int)(PA:Option Addr)(pc:Nat)(l:List At):Rm:=⟨s,pa,⟨PA,pc,l⟩,⟨none,0,[]⟩,⟨none,0,[]⟩,⟨none,0,[]⟩,⟨none,0,[]⟩,⟨#[]⟩,0,⟨#[]⟩,⟨#[]⟩,0⟩
section
variable{w0 w W W1:World}{b n p d d' R B tc:Nat}{A:Option Addr}{ds:List Dv}{ix z pa pa':Int}{hs:Ls Hp}{s s':ByteArray}{PA PA':Option Addr}{pc pc':Nat}{l l':List At}
theorem qO.frP(h:qO w0 b n p d w R B (Zp A tc ds ix (QR s pa PA pc l) hs z) W)(hf:∀q,PA'=some q->w.heap.size<=q.block/\q.block≠B/\q.block≠R):∀a∈(Zp A tc ds ix (QR s' pa' PA' pc' l') hs z).as,∀q,a=some q->w.heap.size<=q.block/\q.block≠B/\q.block≠R:=fun a ha q e=>by
 rcases List.mem_append.1 ha with ha'|ha'
 · simp only[List.mem_cons,List.not_mem_nil,or_false]at ha';rcases ha' with h1|h1|h1|h1|h1|h1|h1|h1
   · exact h.fr a (by simp[zt.as,h1]) q e
   · exact hf q (by rw[<-h1];exact e)
   · rw[h1]at e;cases e
   · rw[h1]at e;cases e
   · rw[h1]at e;cases e
   · rw[h1]at e;cases e
   · exact h.fr a (by simp[zt.as,h1]) q e
   · rw[h1]at e;cases e
 · exact h.fr a (List.mem_append_right _ ha') q e
theorem qO.parent{Lo:Nat}(h:qO w0 b n p d w R B (Zp A tc ds ix Zx hs z) W)(hL:zB 2 zw W ⟨PA,pc,l⟩)(hf:qV Lo PA)(hB:B<Lo)(hR:R<Lo)(hw:w.heap.size<=Lo):qO w0 b n p d w R B (Zp A tc ds ix (QR s pa PA pc l) hs z) (W.setRow B (zJ (Zp A tc ds ix (QR s pa PA pc l) hs z))):=
 h.row ⟨h.im.tr,⟨hL,zB.empty,zB.empty,zB.empty,zB.empty⟩,h.im.hp⟩ (qO.frP (s:=⟨#[]⟩) (pa:=0) (PA:=none) (pc:=0) (l:=[]) h (fun q e=>Du))
theorem qO.props{Lo:Nat}(h:qO w0 b n p d w R B (Zp A tc ds ix (QR s pa PA pc l) hs z) W)(hL:zB 2 zw W ⟨PA',pc',l'⟩)(hf:qV Lo PA')(hB:B<Lo)(hR:R<Lo)(hw:w.heap.size<=Lo):qO w0 b n p d w R B (Zp A tc ds ix (QR s pa PA' pc' l') hs z) (W.setCell ⟨B,5,none⟩ (.slice PA' l'.length pc')):=
 h.set 5 _ rfl ⟨h.im.tr,⟨hL,zB.empty,zB.empty,zB.empty,zB.empty⟩,h.im.hp⟩ (h.frP (fun q e=>Du))
theorem qO.stRec(h:qO w0 b n p d w R B (Zp A tc ds ix Zx hs z) W):(Zo qf (.pointer (some ⟨B,3,none⟩)) (.agg (qb (QR s pa PA pc l)))).run prog W=.ok () (W.setRow B (zJ (Zp A tc ds ix (QR s pa PA pc l) hs z))):=by
 have h1:=XU (P:=prog) (w:=W) (T:=qf) (g:=B) (o:=3) (cs:=zJ (Zp A tc ds ix Zx hs z)) (vs:=qb (QR s pa PA pc l)) h.bx (by show 3+12<=17;omega) PL YP (Mm _);rw[show Z5 (zJ (Zp A tc ds ix Zx hs z)) 3 (qb (QR s pa PA pc l)).toList=zJ (Zp A tc ds ix (QR s pa PA pc l) hs z)from by kernel_rfl]at h1;exact h1
end
def Tn(w0:World)(b n p d:Nat)(w:World)(e:Ending)(w':World):Prop:=∃c:zt,e=.returned (.agg (zJ c))/\Zu w' c/\Ur c/\(∀a∈c.as,qV w.heap.size a)/\zA w0 b n p d w w'
theorem qO.fin{w0 w W:World}{b n p d R B:Nat}{c:zt}(h:qO w0 b n p d w R B c W)(hw:Ur c):Tn w0 b n p d w (.returned (.agg (zJ c))) (W.setRow R (zJ c)):=
 ⟨c,rfl,h.im.grown (qR W R _) (fun a ha q e=>(h.fr a ha q e).2.2),hw,fun a ha q e=>(h.fr a ha q e).1,h.nx.setRow h.lR h.lo _⟩
attribute [local go_sem ↓] OR
theorem DO {w0 w:World}{b n p d:Nat}(h:qr w0 b n p d w)(hE:Env0 w)(hb:nG<=b)(m:Nat)(hm:m<=20)(h3:p+d<=60000):
 Calls prog 7 #[.pointer (some ⟨b,0,none⟩),.int .i64 m] w (Tn w0 b n p (d+3000) w):=by
 have hlb:=h.lt;have hws:=h.size;have HE:=za hE;obtain⟨w1,hw1⟩:∃w1,w.alloc (.cells (zJ Oh) qh)=w1:=⟨_,rfl⟩;have hb1:Below w.heap.size w w1:=ZX;have hr1:w1.heap[w.heap.size]? =some (.cells (zJ Oh) qh (0,0)):=Qo;have hs1:w1.heap.size=w.heap.size+1:=YO;have HTree:=za (zjR (h.below hb1) (hE.go hb1) hb m hm zb);have HW1:=za hw1;have HB1:=za hb1;have HR1:=za hr1;have H1:=za (zA.refl (h.below hb1));clear hE h hb1 hr1 hw1;go_enter func7,ntmps7;go_upto_region 1 with fail
 rw[show w.alloc (.cells #[.string ⟨#[]⟩,.slice none 0 0,.int .i64 0,.string ⟨#[]⟩,.int .i64 0,.slice none 0 0,.slice none 0 0,.slice none 0 0,.slice none 0 0,.slice none 0 0,.string ⟨#[]⟩,.int .i64 0,.string ⟨#[]⟩,.string ⟨#[]⟩,.int .i64 0,.slice none 0 0,.int .i64 0] qh)=w1 from HW1.out];go_wp2_with fail
 (with_reducible refine HTree.out.mono ?_)
 rintro e w2 ⟨A,tc,ds,rfl,hTr,hFA,hFi,hcp,hlm,hTW,hT⟩;have hs2:w1.heap.size<=w2.heap.size:=hT.gr.size;obtain⟨w3,hw3⟩:∃w3,w2.alloc (.cells (zJ (Zp A tc ds 0 Zx ⟨none,0,[]⟩ 0)) qh)=w3:=⟨_,rfl⟩;have hS3:qO w0 b n p (d+2000) w w.heap.size w2.heap.size (Zp A tc ds 0 Zx ⟨none,0,[]⟩ 0) w3:=by
  have hb3:Below w2.heap.size w2 w3:=Pd;have hnx:zA w0 b n p (d+2000) w w2:=hT.of_below HB1.out;have hfs:∀(X:Option Addr),qV w1.heap.size X->(∀q,X=some q->q.block<w2.heap.size)->∀q,X=some q->w.heap.size<=q.block/\q.block≠w2.heap.size/\q.block≠w.heap.size:=fun X h1 h2 q e=>⟨by have:=h1 q e;omega,by have:=h2 q e;omega,by have:=h1 q e;omega⟩;refine⟨hnx.belowW hb3,Pz,(hb3.block _ zb).trans (hT.blk HR1.out zb),⟨hTr.keep hb3,⟨zB.empty,zB.empty,zB.empty,zB.empty,zB.empty⟩,zB.empty⟩,fun a ha q e=>?_,zb,zo,zb,hws⟩;rcases List.mem_append.1 ha with ha|ha
  · simp only[List.mem_cons,List.not_mem_nil,or_false]at ha;rcases ha with rfl|rfl|rfl|rfl|rfl|rfl|rfl|rfl
    · exact hfs _ hFA (fun q e=>(hTr.row.pl q e).2) q e
    all_goals cases e
  · obtain⟨x,hx,rfl⟩:=List.mem_map.1 ha;exact hfs _ (hFi x hx) (fun q e=>((hTr.inn x hx).pl q e).2) q e
 have HS3:=za hS3;have HTW:=za hTW;have HTl:=za hlm;have HFA:Hid (qV w0.heap.size A):=za (qV.mono hFA zb);have HY:Hid (∀x∈ds,UO 1000 x):=za fun x hx=>(hTW.dv x hx).mono zb;clear hTr hFA hFi hTW hT hS3;unfold zV
 as_aux_lemma=>
 go_upto_region 2 with fail
 rw[show w2.alloc (.cells #[.string ⟨#[97,100,100]⟩,.slice A ds.length tc,.int .i64 0,.string ⟨#[]⟩,.int .i64 0,.slice none 0 0,.slice none 0 0,.slice none 0 0,.slice none 0 0,.slice none 0 0,.string ⟨#[]⟩,.int .i64 0,.string ⟨#[]⟩,.string ⟨#[]⟩,.int .i64 0,.slice none 0 0,.int .i64 0] qh)=w3 from hw3];clear hw3;generalize w2.heap.size=B at*;have t1:w3.cell? ⟨B,1,none⟩=some (.slice A ds.length tc):=HS3.out.cl rfl;have HSo:=za (za9 (n:=n) (p:=p) HS3.out.nx.st zb A tc ds HS3.out.im.tr HFA.out HY.out);unfold zV at HSo;go_wp2_with fail
 (with_reducible refine HSo.out.mono ?_)
 rintro e w4 ⟨ix,rfl,hx1,hx2,hT⟩;have HS4:=za (HS3.out.go hT);have HS5:=za (HS4.out.set (c':=Zp A tc ds ix Zx ⟨none,0,[]⟩ 0) 2 (.int .i64 ix) rfl ⟨HS4.out.im.tr,HS4.out.im.rc,HS4.out.im.hp⟩ HS4.out.fr);clear hT t1;have f2:=HS4.out.fz 2;have x2:w4.cell? ⟨B,2,none⟩=some (.int .i64 0):=HS4.out.cl rfl;have HHe:=za (zfY (n:=n) (p:=p) HS5.out.nx.st zb);go_wp2_with fail
 (with_reducible refine HHe.out.mono ?_)
 rintro e w6 ⟨hv,hl,z,rfl,hl6,hmem,hz1,hz2,hHR⟩;obtain⟨hA,hc,rfl⟩:=Qf hHR.own;have HS6:=za (HS5.out.go hHR.nx);obtain⟨hLs,hLf⟩:=zB.of_own (k:=4) (enc:=QE) hHR.own;have hfr7:∀lim,∀a∈(Zp A tc ds ix Zx ⟨hA,hc,hl⟩ lim).as,∀q,a=some q->w.heap.size<=q.block/\q.block≠B/\q.block≠w.heap.size:=fun lim a ha q e=>by
  rcases List.mem_append.1 ha with ha'|ha'
  · simp only[List.mem_cons,List.not_mem_nil,or_false]at ha';rcases ha' with rfl|rfl|rfl|rfl|rfl|rfl|rfl|rfl
    · exact HS6.out.fr _ (by simp[zt.as]) q e
    · cases e
    · cases e
    · cases e
    · cases e
    · cases e
    · have h1:=hLf q e;have h2:=zh HS5.out.bx;have h3:=HS5.out.lB;exact⟨zb,zb,zb⟩
    · cases e
  · exact HS6.out.fr a (List.mem_append_right _ ha') q e
 have HS7:=za (HS6.out.set (c':=Zp A tc ds ix Zx ⟨hA,hc,hl⟩ 0) 15 (.slice hA hl.length hc) rfl ⟨HS6.out.im.tr,HS6.out.im.rc,hLs⟩ (hfr7 0));have HS8:=za (HS7.out.set (c':=Zp A tc ds ix Zx ⟨hA,hc,hl⟩ z) 16 (.int .i64 z) rfl ⟨HS7.out.im.tr,HS7.out.im.rc,HS7.out.im.hp⟩ (hfr7 z));have f15:=HS6.out.fz 15;have x15:w6.cell? ⟨B,15,none⟩=some (.slice none 0 0):=HS6.out.cl rfl;have f16:=HS6.out.fz 16;have x16:w6.cell? ⟨B,16,none⟩=some (.int .i64 0):=HS6.out.cl rfl;have HMem:=za hmem;clear hmem hHR hLs hLf hfr7 f2 x2
 as_aux_lemma=>
 go_upto_region 4 with fail
 obtain⟨w8,hw8⟩:∃w8,(w6.setCell ⟨B,15,none⟩ (.slice hA hl.length hc)).setCell ⟨B,16,none⟩ (.int .i64 z)=w8:=⟨_,rfl⟩;rw[hw8]at HS8⊢;clear hw8 f15 x15 f16 x16;have HEnd:Hid (∀(D:Nat) (c:zt) (W:World),D<=d+3000->qO w0 b n p D w w.heap.size B c W->Ur c->Tn w0 b n p (d+3000) w (.returned (.agg (zJ c))) (W.setRow w.heap.size (zJ c))):=za fun D c W hD h hw=>(h.more hD).fin hw;have HIw:Hid (∀r:Rm,r.props.l.length<=20->(∀x∈r.props.l,x.name.size<=100/\x.val.size<=300000)->Ur (Zp A tc ds ix r ⟨hA,hc,hl⟩ z)):=za fun r h1 h2=>⟨⟨HTW.out.wf,HY.out⟩,i3 HTl.out hm,hx1,hx2,hl6,HMem.out,hz1,hz2,(by show ByteArray.size ⟨#[97,100,100]⟩<=100;decide),h1,h2⟩;have HIz:=za (HIw.out Zx (X1 _) (fun x hx=>YT));have HFi:=za (RH A tc ds ix w8 HS8.out.im.tr);have t1:w8.cell? ⟨B,1,none⟩=some (.slice A ds.length tc):=HS8.out.cl rfl;have t2:w8.cell? ⟨B,2,none⟩=some (.int .i64 ix):=HS8.out.cl rfl;have hlB:=HS8.out.lB;have hlB8:=zh HS8.out.bx;unfold zV at HFi;cases hfx:YE ds ix with
 | none=>
   as_aux_lemma=>
   rw[hfx]at HFi;unfold KG zY at HFi;dsimp only[Option.getD,Option.isSome]at HFi;go_upto_region 5 with(go_at_call 24;refine HFi.out.mono ?_;go_loud (rintro e w9 ⟨rfl,hb9⟩;have HB9:=za hb9;clear hb9))
   obtain⟨wa,hwa⟩:∃wa,w9.alloc (.cells #[.int .i64 0,.int .i64 0,.string ⟨#[]⟩,.string ⟨#[]⟩,.string ⟨#[]⟩,.string ⟨#[]⟩,.string ⟨#[]⟩,.int .i64 0,.int .i64 0,.slice none 0 0] zp)=wa:=⟨_,rfl⟩;have HS9:=za (HS8.out.below (by rw[<-hwa];exact zP HB9.out:Below w8.heap.size w8 wa));rw[hwa];clear hwa t1 t2 HFi;have q0:wa.cell? ⟨B,0,none⟩=some (.string ⟨#[97,100,100]⟩):=HS9.out.cl rfl;have q1:wa.cell? ⟨B,1,none⟩=some (.slice A ds.length tc):=HS9.out.cl rfl;have q2:wa.cell? ⟨B,2,none⟩=some (.int .i64 ix):=HS9.out.cl rfl;have q3:wa.cell? ⟨B,3,none⟩=some (.string ⟨#[]⟩):=HS9.out.cl rfl;have q4:wa.cell? ⟨B,4,none⟩=some (.int .i64 0):=HS9.out.cl rfl;have q5:wa.cell? ⟨B,5,none⟩=some (.slice none 0 0):=HS9.out.cl rfl;have q6:wa.cell? ⟨B,6,none⟩=some (.slice none 0 0):=HS9.out.cl rfl;have q7:wa.cell? ⟨B,7,none⟩=some (.slice none 0 0):=HS9.out.cl rfl;have q8:wa.cell? ⟨B,8,none⟩=some (.slice none 0 0):=HS9.out.cl rfl;have q9:wa.cell? ⟨B,9,none⟩=some (.slice none 0 0):=HS9.out.cl rfl;have q10:wa.cell? ⟨B,10,none⟩=some (.string ⟨#[]⟩):=HS9.out.cl rfl;have q11:wa.cell? ⟨B,11,none⟩=some (.int .i64 0):=HS9.out.cl rfl;have q12:wa.cell? ⟨B,12,none⟩=some (.string ⟨#[]⟩):=HS9.out.cl rfl;have q13:wa.cell? ⟨B,13,none⟩=some (.string ⟨#[]⟩):=HS9.out.cl rfl;have q14:wa.cell? ⟨B,14,none⟩=some (.int .i64 0):=HS9.out.cl rfl;have q15:wa.cell? ⟨B,15,none⟩=some (.slice hA hl.length hc):=HS9.out.cl rfl;have q16:wa.cell? ⟨B,16,none⟩=some (.int .i64 z):=HS9.out.cl rfl;go_wp2_with (refine wpList_store_row rfl qh _ _ rfl _ _ rfl rfl _ _ HS9.out.rs Uu rfl qP ?_)
   all_goals
    refine Yx rfl zk HS9.out.rs underlying37 rfl Uu zk ?_;exact HEnd.out _ (Zp A tc ds ix Zx ⟨hA,hc,hl⟩ z) _ zb HS9.out (HIz.out)
 | some x=>
   as_aux_lemma=>
   rw[hfx]at HFi;unfold KG zY at HFi;dsimp only[Option.getD,Option.isSome]at HFi;obtain⟨xix,pa,nam,og,sb,dr,al,kd,nb,⟨SA,sc,l⟩⟩:=x;dsimp only at HFi;generalize l.length=ln at*;go_upto_region 5 with(go_at_call 24;refine HFi.out.mono ?_;rintro e w9 ⟨rfl,hb9⟩;have HB9:=za hb9;clear hb9)
   obtain⟨wa,hwa⟩:∃wa,w9.alloc (.cells #[.int .i64 xix,.int .i64 pa,.string nam,.string og,.string sb,.string dr,.string al,.int .i64 kd,.int .i64 nb,.slice SA ln sc] zp)=wa:=⟨_,rfl⟩;have hba:Below w8.heap.size w8 wa:=by rw[<-hwa];exact zP HB9.out
   have hqa:wa.heap[w9.heap.size]? =some (.cells #[.int .i64 xix,.int .i64 pa,.string nam,.string og,.string sb,.string dr,.string al,.int .i64 kd,.int .i64 nb,.slice SA ln sc] zp (0,0)):=by rw[<-hwa];exact qt
   have HSa:=za (HS8.out.below hba);have HQa:=za hqa;have hq9:w8.heap.size<=w9.heap.size:=HB9.out.size;rw[hwa];clear hwa hba hqa t1 t2 HFi;generalize w9.heap.size=q at*;have p1:=zd (j:=1) HQa.out rfl;by_cases h0:pa=0
   · subst h0
     as_aux_lemma=>
     have q0:wa.cell? ⟨B,0,none⟩=some (.string ⟨#[97,100,100]⟩):=HSa.out.cl rfl;have q1:wa.cell? ⟨B,1,none⟩=some (.slice A ds.length tc):=HSa.out.cl rfl;have q2:wa.cell? ⟨B,2,none⟩=some (.int .i64 ix):=HSa.out.cl rfl;have q3:wa.cell? ⟨B,3,none⟩=some (.string ⟨#[]⟩):=HSa.out.cl rfl;have q4:wa.cell? ⟨B,4,none⟩=some (.int .i64 0):=HSa.out.cl rfl;have q5:wa.cell? ⟨B,5,none⟩=some (.slice none 0 0):=HSa.out.cl rfl;have q6:wa.cell? ⟨B,6,none⟩=some (.slice none 0 0):=HSa.out.cl rfl;have q7:wa.cell? ⟨B,7,none⟩=some (.slice none 0 0):=HSa.out.cl rfl;have q8:wa.cell? ⟨B,8,none⟩=some (.slice none 0 0):=HSa.out.cl rfl;have q9:wa.cell? ⟨B,9,none⟩=some (.slice none 0 0):=HSa.out.cl rfl;have q10:wa.cell? ⟨B,10,none⟩=some (.string ⟨#[]⟩):=HSa.out.cl rfl;have q11:wa.cell? ⟨B,11,none⟩=some (.int .i64 0):=HSa.out.cl rfl;have q12:wa.cell? ⟨B,12,none⟩=some (.string ⟨#[]⟩):=HSa.out.cl rfl;have q13:wa.cell? ⟨B,13,none⟩=some (.string ⟨#[]⟩):=HSa.out.cl rfl;have q14:wa.cell? ⟨B,14,none⟩=some (.int .i64 0):=HSa.out.cl rfl;have q15:wa.cell? ⟨B,15,none⟩=some (.slice hA hl.length hc):=HSa.out.cl rfl;have q16:wa.cell? ⟨B,16,none⟩=some (.int .i64 z):=HSa.out.cl rfl;go_wp2_with (refine wpList_store_row rfl qh _ _ rfl _ _ rfl rfl _ _ HSa.out.rs Uu rfl qP ?_)
     all_goals
      refine Yx rfl zk HSa.out.rs underlying37 rfl Uu zk ?_;exact HEnd.out _ (Zp A tc ds ix Zx ⟨hA,hc,hl⟩ z) _ zb HSa.out (HIz.out)
   · have hp0:(pa !=0)=true:=by simpa using h0
     go_wp2_with fail
     (with_reducible refine(QO (n:=n) (p:=p) _ HSa.out.nx.st zb zb zb).mono ?_)
     rintro e wb ⟨r5,r50,r51,rfl,hT⟩;have HSb:=za (HSa.out.go hT);have HQb:=za (hT.blk HQa.out zb);clear hT p1;by_cases hr5:0<r5
     · as_aux_lemma=>
       have p1b:wb.cell? ⟨q,1,none⟩=some (.int .i64 pa):=zd HQb.out rfl;have HEb:=za (HE.out.nxW HSb.out.nx hb);have hlBb:=zh HSb.out.bx;have HPl:Hid (∀W:World,Below wb.heap.size wb W->Calls prog 25 #[.agg #[.slice A ds.length tc],.int .i64 pa] W fun e w'=>∃s,e=.returned (.string s)/\s.size<=200000/\Below W.heap.size W w'):=za fun W hW=>Fw A tc ds pa W (HSb.out.im.tr.keep hW) (by have:=HTl.out;omega) (fun y hy=>by have:=(HY.out y hy).og;omega);have HBs:Hid (∀W:World,Below wb.heap.size wb W->Calls prog 26 #[.agg #[.slice A ds.length tc],.int .i64 pa] W (RR 7 W)):=za fun W hW=>zeT A tc ds pa W (HEb.out.go hW) (HSb.out.im.tr.keep hW) (by have:=HTl.out;omega) HY.out;have HLd:Hid (∀W:World,Below wb.heap.size wb W->W.cell? ⟨B,1,none⟩=some (.slice A ds.length tc)/\W.cell? ⟨q,1,none⟩=some (.int .i64 pa)):=za fun W hW=>⟨(HSb.out.below hW).cl rfl,zd ((hW.block _ (zh HQb.out)).trans HQb.out) rfl⟩;have HLy:∀(W:World) (c:zt),(W.setRow B (zJ c)).heap[B]? =some (.cells (zJ c) qh (0,0))->(zJ c)[1]? =some (.slice A ds.length tc)->Below wb.heap.size wb W->Hid ((W.setRow B (zJ c)).cell? ⟨B,1,none⟩=some (.slice A ds.length tc)/\(W.setRow B (zJ c)).cell? ⟨q,1,none⟩=some (.int .i64 pa)):=fun W c h1 h2 hW=>za ⟨zd h1 h2,zd ((setRow_other W _ _ _ (show q≠B by omega)).trans ((hW.block _ (zh HQb.out)).trans HQb.out)) rfl⟩;clear p1b;go_upto_region 6 with fail
       go_cut [7]from 43 to 56 (fun s7 wx=>s7=.bool true/\∃(s:ByteArray) (PA:Option Addr) (pc:Nat) (l:List At) (D:Nat),D<=d+2900+0/\Hid (l.length<=7+0/\∀x∈l,x.name.size<=100/\x.val.size<=300000)/\Hid (qO w0 b n p D w w.heap.size B (Zp A tc ds ix (QR s pa PA pc l) ⟨hA,hc,hl⟩ z) wx))
       case first=>
        as_aux_lemma=>
        go_region_held3 (fun W'=>W'.cell? ⟨B,1,none⟩=some (.slice A ds.length tc)/\W'.cell? ⟨q,1,none⟩=some (.int .i64 pa)) (first|exact HLd.out _ (by first|exact zN zj|exact HBp.out|exact HBq.out)|exact HLx.out) ((first
         | (go_at_call 25
            first
            | (refine(HPl.out _ (zN zj)).mono ?_
               rintro e wp ⟨s,rfl,hs,hbp⟩;have HBp:=za (bt (zN (Below.refl wb.heap.size wb)) hbp);clear hbp)
            | (refine(HPl.out _ HBq.out).mono ?_
               rintro e wp ⟨s,rfl,hs,hbp⟩;have HBp:=za (bt HBq.out hbp);have hSx:=HSb.out.below HBp.out;have hst:(Zo qf (.pointer (some ⟨B,3,none⟩)) (.agg #[.string s,.int .i64 pa,.slice PA l.length pc,.slice none 0 0,.slice none 0 0,.slice none 0 0,.slice none 0 0,.string ⟨#[]⟩,.int .i64 0,.string ⟨#[]⟩,.string ⟨#[]⟩,.int .i64 0])).run prog wp=.ok () (wp.setRow B (zJ (Zp A tc ds ix (QR s pa PA pc l) ⟨hA,hc,hl⟩ z))):=hSx.stRec (s:=s) (pa:=pa) (PA:=PA) (pc:=pc) (l:=l);have HLs:=zB.of_own (k:=2) (enc:=zw) (qi HOw.out.own hbp);have HFn:=za (hSx.parent (s:=s) (pa:=pa) HLs.1 HLs.2 hlBb (by show w.heap.size<wb.heap.size;omega) (by show w.heap.size<=wb.heap.size;omega));have HSz:Hid (l.length<=7/\∀x∈l,x.name.size<=100/\x.val.size<=300000):=za ⟨HOw.out.len,HOw.out.sz⟩;have HLx:=HLy wp (Zp A tc ds ix (QR s pa PA pc l) ⟨hA,hc,hl⟩ z) HFn.out.bx rfl HBp.out;clear hbp hSx HLs))
         | (go_at_call 26
            first
            | (refine(HBs.out _ (zN zj)).mono ?_
               rintro e wq ⟨PA,pc,l,rfl,how⟩;have HOw:=za how;have HBq:=za (bt (zN (Below.refl wb.heap.size wb)) how.bl);clear how)
            | (refine(HBs.out _ HBp.out).mono ?_
               rintro e wq ⟨PA,pc,l,rfl,how⟩;have HBq:=za (bt HBp.out how.bl);have hSx:=HSb.out.below HBq.out;have hst:(Zo qf (.pointer (some ⟨B,3,none⟩)) (.agg #[.string s,.int .i64 pa,.slice PA l.length pc,.slice none 0 0,.slice none 0 0,.slice none 0 0,.slice none 0 0,.string ⟨#[]⟩,.int .i64 0,.string ⟨#[]⟩,.string ⟨#[]⟩,.int .i64 0])).run prog wq=.ok () (wq.setRow B (zJ (Zp A tc ds ix (QR s pa PA pc l) ⟨hA,hc,hl⟩ z))):=hSx.stRec (s:=s) (pa:=pa) (PA:=PA) (pc:=pc) (l:=l);have HLs:=zB.of_own (k:=2) (enc:=zw) how.own;have hlp:=HBp.out.size;have HFn:=za (hSx.parent (s:=s) (pa:=pa) HLs.1 HLs.2 zb (by show w.heap.size<wp.heap.size;omega) (by show w.heap.size<=wp.heap.size;omega));have HSz:Hid (l.length<=7/\∀x∈l,x.name.size<=100/\x.val.size<=300000):=za ⟨how.len,how.sz⟩;have HLx:=HLy wq (Zp A tc ds ix (QR s pa PA pc l) ⟨hA,hc,hl⟩ z) HFn.out.bx rfl HBq.out;clear how hSx HLs))))
        all_goals
         go_wp2;go_meet;exact⟨rfl,s,PA,pc,l,_,zb,HSz,HFn⟩
       case rest=>
       obtain⟨rfl,s,PA,pc,l,D,hD,HSz,HSp⟩:=hcut;clear HPl HBs HLd HEb HSb HQb;generalize wc=wp at*;have hlB1:=zh HSp.out.bx;have hlo1:=HSp.out.lB;go_upto_region 7 with fail
       go_cut [7]from 57 to 65 (fun s7 wx=>s7=.bool true/\∃(PA:Option Addr) (pc:Nat) (l:List At) (D:Nat),D<=d+2900+1/\Hid (l.length<=7+1/\∀x∈l,x.name.size<=100/\x.val.size<=300000)/\Hid (qO w0 b n p D w w.heap.size B (Zp A tc ds ix (QR s pa PA pc l) ⟨hA,hc,hl⟩ z) wx))
       case first=>
        as_aux_lemma=>
        have x5:wp.cell? ⟨B,5,none⟩=some (.slice PA l.length pc):=HSp.out.cl rfl;obtain⟨wd,hwd⟩:∃wd,(wp.alloc (.cells #[.string ⟨#[]⟩,.string ⟨#[112]⟩,.string ⟨#[49]⟩] 9)).drew=wd:=⟨_,rfl⟩;have HSd:=za (by rw[<-hwd];exact HSp.out.below (zN zu):qO w0 b n p D w w.heap.size B (Zp A tc ds ix (QR s pa PA pc l) ⟨hA,hc,hl⟩ z) wd);have Y1:Hid (wd.heap[wp.heap.size]? =some (.cells #[.string ⟨#[]⟩,.string ⟨#[112]⟩,.string ⟨#[49]⟩] 9 (0,0))):=za Lv;have hgb:wp.heap.size≠b:=by have:=HSp.out.bne;have:=hlB1;omega
        have HWd:=za hwd;have hl20:l.length<=100:=MW;clear hwd
        go_region_with (first
         |(go_at_call 18;go_loud (rw[HWd.out]);go_loud ((with_reducible refine(IU (n:=n) (p:=p) 60 #[.string ⟨#[]⟩,.string ⟨#[112]⟩,.string ⟨#[49]⟩] 9 _ 3 _ HSd.out.nx.st Y1.out zi rfl zi zi hgb zb).mono ?_));rintro e wf ⟨s1,hs1,rfl,hT⟩;have HSf:=za (HSd.out.go hT);(have x5f:wf.cell? ⟨B,5,none⟩=some (.slice PA l.length pc):=HSf.out.cl rfl);clear hT)
         |(go_at_call 27;go_loud (refine(I6 PA pc l (⟨#[73,68,95,65]⟩:ByteArray) s1 wf zb HSf.out.im.rc.pr.row.row).mono ?_);rintro e wg ⟨v,m,rfl,hown,hml,hat,hbg⟩;obtain⟨MA,mc,rfl⟩:=Qf hown;have hSg:=HSf.out.below hbg;have hLs:=zB.of_own (k:=2) (enc:=zw) hown;(have hBf:B<wf.heap.size:=zh HSf.out.bx);have HSh:=za (hSg.props hLs.1 hLs.2 hBf MS MS);(have HSm:Hid (m.length<=7+1/\∀x∈m,x.name.size<=100/\x.val.size<=300000):=za ⟨MW,fun x hx=>by rcases hat x hx with h1|rfl;exact HSz.out.2 x h1;exact⟨(by decide:ByteArray.size (⟨#[73,68,95,65]⟩:ByteArray)<=100),by show s1.size<=300000;omega⟩⟩);have z5:=hSg.fz 5;(have y5:wg.cell? ⟨B,5,none⟩=some (.slice PA l.length pc):=hSg.cl rfl);clear hown hat hbg hSg hLs))
        all_goals
         go_wp2;go_meet;exact⟨rfl,MA,mc,m,_,zb,HSm,HSh⟩
       case rest=>
       clear HSz HSp;obtain⟨rfl,PA,pc,l,D,hD,HSz,HSp⟩:=hcut;generalize wc=wp at*;have hlB2:=zh HSp.out.bx;have hlo2:=HSp.out.lB;go_upto_region 8 with fail
       go_cut [7]from 66 to 74 (fun s7 wx=>s7=.bool true/\∃(PA:Option Addr) (pc:Nat) (l:List At) (D:Nat),D<=d+2900+2/\Hid (l.length<=7+2/\∀x∈l,x.name.size<=100/\x.val.size<=300000)/\Hid (qO w0 b n p D w w.heap.size B (Zp A tc ds ix (QR s pa PA pc l) ⟨hA,hc,hl⟩ z) wx))
       case first=>
        as_aux_lemma=>
        have x5:wp.cell? ⟨B,5,none⟩=some (.slice PA l.length pc):=HSp.out.cl rfl;obtain⟨wd,hwd⟩:∃wd,(wp.alloc (.cells #[.string ⟨#[]⟩,.string ⟨#[122]⟩] 9)).drew=wd:=⟨_,rfl⟩;have HSd:=za (by rw[<-hwd];exact HSp.out.below (zN zu):qO w0 b n p D w w.heap.size B (Zp A tc ds ix (QR s pa PA pc l) ⟨hA,hc,hl⟩ z) wd);have Y1:Hid (wd.heap[wp.heap.size]? =some (.cells #[.string ⟨#[]⟩,.string ⟨#[122]⟩] 9 (0,0))):=za Lv;have hgb:wp.heap.size≠b:=by have:=HSp.out.bne;have:=hlB2;omega
        have HWd:=za hwd;have hl20:l.length<=100:=MW;clear hwd
        go_region_with (first
         |(go_at_call 18;go_loud (rw[HWd.out]);go_loud ((with_reducible refine(IU (n:=n) (p:=p) 60 #[.string ⟨#[]⟩,.string ⟨#[122]⟩] 9 _ 2 _ HSd.out.nx.st Y1.out zi rfl zi zi hgb zb).mono ?_));rintro e wf ⟨s1,hs1,rfl,hT⟩;have HSf:=za (HSd.out.go hT);(have x5f:wf.cell? ⟨B,5,none⟩=some (.slice PA l.length pc):=HSf.out.cl rfl);clear hT)
         |(go_at_call 27;go_loud (refine(I6 PA pc l (⟨#[73,68,95,90]⟩:ByteArray) s1 wf zb HSf.out.im.rc.pr.row.row).mono ?_);rintro e wg ⟨v,m,rfl,hown,hml,hat,hbg⟩;obtain⟨MA,mc,rfl⟩:=Qf hown;have hSg:=HSf.out.below hbg;have hLs:=zB.of_own (k:=2) (enc:=zw) hown;(have hBf:B<wf.heap.size:=zh HSf.out.bx);have HSh:=za (hSg.props hLs.1 hLs.2 hBf MS MS);(have HSm:Hid (m.length<=7+2/\∀x∈m,x.name.size<=100/\x.val.size<=300000):=za ⟨MW,fun x hx=>by rcases hat x hx with h1|rfl;exact HSz.out.2 x h1;exact⟨(by decide:ByteArray.size (⟨#[73,68,95,90]⟩:ByteArray)<=100),by show s1.size<=300000;omega⟩⟩);have z5:=hSg.fz 5;(have y5:wg.cell? ⟨B,5,none⟩=some (.slice PA l.length pc):=hSg.cl rfl);clear hown hat hbg hSg hLs))
        all_goals
         go_wp2;go_meet;exact⟨rfl,MA,mc,m,_,zb,HSm,HSh⟩
       case rest=>
       clear HSz HSp;obtain⟨rfl,PA,pc,l,D,hD,HSz,HSp⟩:=hcut;generalize wc=wp at*
       as_aux_lemma=>
       have q0:wp.cell? ⟨B,0,none⟩=some (.string ⟨#[97,100,100]⟩):=HSp.out.cl rfl;have q1:wp.cell? ⟨B,1,none⟩=some (.slice A ds.length tc):=HSp.out.cl rfl;have q2:wp.cell? ⟨B,2,none⟩=some (.int .i64 ix):=HSp.out.cl rfl;have q3:wp.cell? ⟨B,3,none⟩=some (.string s):=HSp.out.cl rfl;have q4:wp.cell? ⟨B,4,none⟩=some (.int .i64 pa):=HSp.out.cl rfl;have q5:wp.cell? ⟨B,5,none⟩=some (.slice PA l.length pc):=HSp.out.cl rfl;have q6:wp.cell? ⟨B,6,none⟩=some (.slice none 0 0):=HSp.out.cl rfl;have q7:wp.cell? ⟨B,7,none⟩=some (.slice none 0 0):=HSp.out.cl rfl;have q8:wp.cell? ⟨B,8,none⟩=some (.slice none 0 0):=HSp.out.cl rfl;have q9:wp.cell? ⟨B,9,none⟩=some (.slice none 0 0):=HSp.out.cl rfl;have q10:wp.cell? ⟨B,10,none⟩=some (.string ⟨#[]⟩):=HSp.out.cl rfl;have q11:wp.cell? ⟨B,11,none⟩=some (.int .i64 0):=HSp.out.cl rfl;have q12:wp.cell? ⟨B,12,none⟩=some (.string ⟨#[]⟩):=HSp.out.cl rfl;have q13:wp.cell? ⟨B,13,none⟩=some (.string ⟨#[]⟩):=HSp.out.cl rfl;have q14:wp.cell? ⟨B,14,none⟩=some (.int .i64 0):=HSp.out.cl rfl;have q15:wp.cell? ⟨B,15,none⟩=some (.slice hA hl.length hc):=HSp.out.cl rfl;have q16:wp.cell? ⟨B,16,none⟩=some (.int .i64 z):=HSp.out.cl rfl;have hlBz:=zh HSp.out.bx;go_wp2_with (refine wpList_store_row rfl qh _ _ rfl _ _ rfl rfl _ _ HSp.out.rs Uu rfl qP ?_)
       all_goals
        refine Yx rfl zk HSp.out.rs underlying37 rfl Uu zk ?_;exact HEnd.out _ (Zp A tc ds ix (QR s pa PA pc l) ⟨hA,hc,hl⟩ z) _ zb HSp.out (HIw.out _ (by have:=HSz.out.1;show l.length<=20;omega) HSz.out.2)
     · as_aux_lemma=>
       have hd5:decide (0<r5)=false:=by simpa using hr5
       have q0:wb.cell? ⟨B,0,none⟩=some (.string ⟨#[97,100,100]⟩):=HSb.out.cl rfl;have q1:wb.cell? ⟨B,1,none⟩=some (.slice A ds.length tc):=HSb.out.cl rfl;have q2:wb.cell? ⟨B,2,none⟩=some (.int .i64 ix):=HSb.out.cl rfl;have q3:wb.cell? ⟨B,3,none⟩=some (.string ⟨#[]⟩):=HSb.out.cl rfl;have q4:wb.cell? ⟨B,4,none⟩=some (.int .i64 0):=HSb.out.cl rfl;have q5:wb.cell? ⟨B,5,none⟩=some (.slice none 0 0):=HSb.out.cl rfl;have q6:wb.cell? ⟨B,6,none⟩=some (.slice none 0 0):=HSb.out.cl rfl;have q7:wb.cell? ⟨B,7,none⟩=some (.slice none 0 0):=HSb.out.cl rfl;have q8:wb.cell? ⟨B,8,none⟩=some (.slice none 0 0):=HSb.out.cl rfl;have q9:wb.cell? ⟨B,9,none⟩=some (.slice none 0 0):=HSb.out.cl rfl;have q10:wb.cell? ⟨B,10,none⟩=some (.string ⟨#[]⟩):=HSb.out.cl rfl;have q11:wb.cell? ⟨B,11,none⟩=some (.int .i64 0):=HSb.out.cl rfl;have q12:wb.cell? ⟨B,12,none⟩=some (.string ⟨#[]⟩):=HSb.out.cl rfl;have q13:wb.cell? ⟨B,13,none⟩=some (.string ⟨#[]⟩):=HSb.out.cl rfl;have q14:wb.cell? ⟨B,14,none⟩=some (.int .i64 0):=HSb.out.cl rfl;have q15:wb.cell? ⟨B,15,none⟩=some (.slice hA hl.length hc):=HSb.out.cl rfl;have q16:wb.cell? ⟨B,16,none⟩=some (.int .i64 z):=HSb.out.cl rfl;go_wp2_with (refine wpList_store_row rfl qh _ _ rfl _ _ rfl rfl _ _ HSb.out.rs Uu rfl qP ?_)
       all_goals
        refine Yx rfl zk HSb.out.rs underlying37 rfl Uu zk ?_;exact HEnd.out _ (Zp A tc ds ix Zx ⟨hA,hc,hl⟩ z) _ zb HSb.out (HIz.out)
end Go.Proofs.YtecbmndgpepkcaaGreatDoor
