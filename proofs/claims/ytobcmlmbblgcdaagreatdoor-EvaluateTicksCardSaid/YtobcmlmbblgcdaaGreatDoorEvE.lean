/- Contracts of functions that the law reaches, and what they rest on; each under the premises that it names. Shortened by a program. -/
import Derived.Test.YtobcmlmbblgcdaaGreatDoorG27
import Derived.Test.YtobcmlmbblgcdaaGreatDoorExpand
namespace Go.Proofs.YtobcmlmbblgcdaaGreatDoor
open Tryz
set_option maxHeartbeats 8000000
set_option maxRecDepth 100000
open Go.RowKit
theorem NM{w:World}{g i:Nat}{cs:Array Value}{t:TypeId}{fr:Nat×Nat}{v:Value}(h:w.heap[g]? =some (.cells cs t fr)):w.setCell ⟨g,i,none⟩ v=w.setRow g (cs.setIfInBounds i v):=setCell_eq_setRow _ _ _ _ _ _ _ h
theorem zN.one{w:World}{g:Nat}{c:zt}{x:Em}(h:zN w g c x)(i:Nat)(v:Value)(y:Em)(hy:(qP c x).setIfInBounds i v=qP c y)(hd:Q5 w y.dr)(ha:ZS w y.ab)(ho:Xd g y.as):zN (w.setCell ⟨g,i,none⟩ v) g c y/\w.grownBy (w.setCell ⟨g,i,none⟩ v) (some g):=by
 rw[NM h.box,hy];exact h.set zk y hd ha ho
def KX(c:zt)(x:Em)(n:ByteArray):Vs:=⟨c.dev.og,c.org,x.ab.og,x.ab.dr,c.pnt,n,x.dr.res,⟨c.dev.ats.A,c.dev.ats.c,c.dev.ats.l⟩,⟨x.ab.ats.A,x.ab.ats.c,x.ab.ats.l⟩,⟨x.dr.props.A,x.dr.props.c,x.dr.props.l⟩⟩
def Vd(c:zt)(x:Em)(n:ByteArray):Array Value:=#[.string c.dev.og,.string c.org,.string x.ab.og,.string x.ab.dr,.string c.pnt,.string n,.string x.dr.res,.slice c.dev.ats.A c.dev.ats.l.length c.dev.ats.c,.slice x.ab.ats.A x.ab.ats.l.length x.ab.ats.c,.slice x.dr.props.A x.dr.props.l.length x.dr.props.c]
theorem zfV(ps:List Pc)(a b c d e f g:ByteArray)(y z u:Zu):Ue ps ⟨a,b,c,d,e,f,g,y,z,u⟩=Ue ps ⟨a,b,c,d,e,f,g,⟨none,0,y.l⟩,⟨none,0,z.l⟩,⟨none,0,u.l⟩⟩:=rfl
theorem zav(s:ze)(a b c d e f g:ByteArray)(y z u:Zu):XV s ⟨a,b,c,d,e,f,g,y,z,u⟩=XV s ⟨a,b,c,d,e,f,g,⟨none,0,y.l⟩,⟨none,0,z.l⟩,⟨none,0,u.l⟩⟩:=by
 unfold XV;rw[zfV]
theorem zdO(c:zt)(x:Em)(s:ByteArray):QD c.c x.e s=(XV (L s) (KX c x (if(L x.dr.nam).isEmpty then c.dev.og else x.dr.nam))).1:=by
 unfold KX;rw[zav];rfl
theorem Bd:(prog.info? 207).map (·.size)=some 10:=zg
theorem SZ(parts:Array (Nat×Value)):Instr.build 207 parts=Zz 207 parts:=UX
theorem zeJ(c:zt)(x:Em)(W:World):(Zz 207 #[(0,.string c.dev.og),(1,.string c.org),(2,.string x.ab.og),(3,.string x.ab.dr),(4,.string c.pnt),(5,.string x.dr.nam),(6,.string x.dr.res),(7,.slice c.dev.ats.A c.dev.ats.l.length c.dev.ats.c),(8,.slice x.ab.ats.A x.ab.ats.l.length x.ab.ats.c),(9,.slice x.dr.props.A x.dr.props.l.length x.dr.props.c)]).run prog W=.ok (.agg (Vd c x x.dr.nam)) W:=Y6
attribute [local go_sem ↓] SZ
theorem ziC(v u:Value):Instr.storeAt 207 v u=Zm 207 v u:=kS
theorem zbk(W:World)(c:zt)(x:Em)(n:ByteArray):(Zm 207 (.pointer (some ⟨W.heap.size,0,none⟩)) (.agg (Vd c x n))).run prog (W.alloc (.cells #[.string ⟨#[]⟩,.string ⟨#[]⟩,.string ⟨#[]⟩,.string ⟨#[]⟩,.string ⟨#[]⟩,.string ⟨#[]⟩,.string ⟨#[]⟩,.slice none 0 0,.slice none 0 0,.slice none 0 0] 207)).drew=.ok () ((W.alloc (.cells #[.string ⟨#[]⟩,.string ⟨#[]⟩,.string ⟨#[]⟩,.string ⟨#[]⟩,.string ⟨#[]⟩,.string ⟨#[]⟩,.string ⟨#[]⟩,.slice none 0 0,.slice none 0 0,.slice none 0 0] 207)).drew.setRow W.heap.size (Vd c x n)):=by
 have h:=XF (P:=prog) (w:=(W.alloc (.cells #[.string ⟨#[]⟩,.string ⟨#[]⟩,.string ⟨#[]⟩,.string ⟨#[]⟩,.string ⟨#[]⟩,.string ⟨#[]⟩,.string ⟨#[]⟩,.slice none 0 0,.slice none 0 0,.slice none 0 0] 207)).drew) (T:=207) (g:=W.heap.size) (o:=0) (cs:=#[.string ⟨#[]⟩,.string ⟨#[]⟩,.string ⟨#[]⟩,.string ⟨#[]⟩,.string ⟨#[]⟩,.string ⟨#[]⟩,.string ⟨#[]⟩,.slice none 0 0,.slice none 0 0,.slice none 0 0]) (vs:=Vd c x n) (t:=207) (heap_alloc_new W _) (by exact zo) Ow Oz (by simp[Vd,Value.oneCell']);rw[UH (#[.string ⟨#[]⟩,.string ⟨#[]⟩,.string ⟨#[]⟩,.string ⟨#[]⟩,.string ⟨#[]⟩,.string ⟨#[]⟩,.string ⟨#[]⟩,.slice none 0 0,.slice none 0 0,.slice none 0 0]) (Vd c x n) rfl]at h;exact h
attribute [local go_sem ↓] ziC
structure C6(c:zt)(x:Em):Prop where
 og:c.dev.og.size<=1000000
 org:c.org.size<=1000000
 abo:x.ab.og.size<=1000000
 abd:x.ab.dr.size<=1000000
 pnt:c.pnt.size<=1000000
 nam:x.dr.nam.size<=1000000
 res:x.dr.res.size<=1000000
 da:∀a∈c.dev.ats.l,a.val.size<=1000000
 aa:∀a∈x.ab.ats.l,a.val.size<=1000000
 pa:∀a∈x.dr.props.l,a.val.size<=1000000
 dl:c.dev.ats.l.length<=1000
 al:x.ab.ats.l.length<=1000
 pl:x.dr.props.l.length<=1000
theorem vD(g:Nat)(c:zt)(x:Em)(s:ByteArray)(w:World)(h:zN w g c x)(hz:C6 c x)(hE:Env w)(hs:s.size<=1000000):
 Calls prog 113 #[.pointer (some ⟨g,0,none⟩),.string s] w fun e w'=>e=.returned (.string (QD c.c x.e s))/\Below w.heap.size w w':=by
 rw[zdO];obtain⟨R,hR⟩:∃R,(XV (L s) (KX c x (if(L x.dr.nam).isEmpty then c.dev.og else x.dr.nam))).1=R:=⟨_,rfl⟩;rw[hR];have HR0:=za hR;clear hR;have hb:=h.box;have HQ:Hid (∀W',Below w.heap.size w W'->W'.cell? ⟨g,34,none⟩=some (.string c.dev.og)/\W'.cell? ⟨g,41,none⟩=some (.string c.org)/\W'.cell? ⟨g,46,none⟩=some (.string x.ab.og)/\W'.cell? ⟨g,48,none⟩=some (.string x.ab.dr)/\W'.cell? ⟨g,42,none⟩=some (.string c.pnt)/\W'.cell? ⟨g,5,none⟩=some (.string x.dr.nam)/\W'.cell? ⟨g,10,none⟩=some (.string x.dr.res)/\W'.cell? ⟨g,40,none⟩=some (.slice c.dev.ats.A c.dev.ats.l.length c.dev.ats.c)/\W'.cell? ⟨g,52,none⟩=some (.slice x.ab.ats.A x.ab.ats.l.length x.ab.ats.c)/\W'.cell? ⟨g,0,none⟩=some (.slice x.dr.props.A x.dr.props.l.length x.dr.props.c)):=za fun W' hW'=>by
  have h1:=(hW'.block _ (zh hb)).trans hb;exact⟨zd h1 rfl,zd h1 rfl,zd h1 rfl,zd h1 rfl,zd h1 rfl,zd h1 rfl,zd h1 rfl,zd h1 rfl,zd h1 rfl,zd h1 rfl⟩
 have hgl:g<w.heap.size:=zh hb;have hbd:=zeJ c x;have hst:=zbk w c x x.dr.nam;have H:=za h;have HZ:=za hz;have HE:=za hE;clear h hz hE hb;go_enter func113,ntmps113;go_upto_region 1 with fail
 go_region_held3 (fun W'=>W'.cell? ⟨g,34,none⟩=some (.string c.dev.og)/\W'.cell? ⟨g,41,none⟩=some (.string c.org)/\W'.cell? ⟨g,46,none⟩=some (.string x.ab.og)/\W'.cell? ⟨g,48,none⟩=some (.string x.ab.dr)/\W'.cell? ⟨g,42,none⟩=some (.string c.pnt)/\W'.cell? ⟨g,5,none⟩=some (.string x.dr.nam)/\W'.cell? ⟨g,10,none⟩=some (.string x.dr.res)/\W'.cell? ⟨g,40,none⟩=some (.slice c.dev.ats.A c.dev.ats.l.length c.dev.ats.c)/\W'.cell? ⟨g,52,none⟩=some (.slice x.ab.ats.A x.ab.ats.l.length x.ab.ats.c)/\W'.cell? ⟨g,0,none⟩=some (.slice x.dr.props.A x.dr.props.l.length x.dr.props.c)) ((refine HQ.out _ ?_;repeat (first|exact zk|refine Below.drew ?_|refine qw ?_ zo|refine zR ?_))) (fail)
 obtain⟨w1,hw1⟩:∃w1,(w.alloc (.cells #[.string ⟨#[]⟩,.string ⟨#[]⟩,.string ⟨#[]⟩,.string ⟨#[]⟩,.string ⟨#[]⟩,.string ⟨#[]⟩,.string ⟨#[]⟩,.slice none 0 0,.slice none 0 0,.slice none 0 0] 207)).drew.setRow w.heap.size (Vd c x x.dr.nam)=w1:=⟨_,rfl⟩;rw[hw1];have hb1:Below w.heap.size w w1:=by rw[<-hw1];exact qw ((zI w _).drew) zo
 have hr1:w1.heap[w.heap.size]? =some (.cells (Vd c x x.dr.nam) 207 (0,0)):=by rw[<-hw1];exact setRow_heap _ _ _ _ _ _ (heap_alloc_new w _)
 have HX:Hid (∀(n:ByteArray) (W:World),n.size<=1000000->Below w.heap.size w W->Calls prog 143 #[.string s,.agg (Vd c x n)] W (Ao (XV (L s) (KX c x n)) W)):=za fun n W hn hW=>by
  have hk:=H.out.keep hW;refine zcW s (KX c x n) W (HE.out.go hW) zb ⟨hk.dev.row,hk.ab.row,hk.dr.pr.row.row,by have:=HZ.out.dl;show c.dev.ats.l.length<=_;omega,by have:=HZ.out.al;show x.ab.ats.l.length<=_;omega,by have:=HZ.out.pl;show x.dr.props.l.length<=_;omega⟩ (by have:=HZ.out.res;show x.dr.res.size<=_;omega) (by have:=HZ.out.og;show c.dev.og.size<=_;omega) (fun q hq=>?_);have h1:GL 1000000 (KX c x n):=⟨HZ.out.og,HZ.out.org,HZ.out.abo,HZ.out.abd,HZ.out.pnt,hn,HZ.out.res,HZ.out.da,HZ.out.aa,HZ.out.pa⟩;have h2:=zio (M:=1048576) (q:=q) (h1.more zi) (by have:=(jK (L s)).2 q hq;omega);omega
 have HB1:=za hb1;have HR1:=za hr1;have q5b:w1.cell? ⟨w.heap.size,5,none⟩=some (.string x.dr.nam):=zd hr1 rfl;clear hw1 hb1 hr1 hst hbd;by_cases h0:x.dr.nam.toList=[]
 · have e0:(L x.dr.nam).isEmpty=true:=by rw[K9 h0];rfl
   have hg1:=(HB1.out.block _ (zh H.out.box)).trans H.out.box;have q34:w1.cell? ⟨g,34,none⟩=some (.string c.dev.og):=zd hg1 rfl;have f5:=qb HR1.out 5;clear hg1;have HX2:=za (HX.out c.dev.og (w1.setCell ⟨w.heap.size,5,none⟩ (.string c.dev.og)) HZ.out.og (ZF HB1.out zo));have hr2:(w1.setCell ⟨w.heap.size,5,none⟩ (.string c.dev.og)).heap[w.heap.size]? =some (.cells (Vd c x c.dev.og) 207 (0,0)):=by
    rw[NM HR1.out];exact setRow_heap _ _ _ _ _ _ HR1.out
   have HR2:=za hr2;have HB2:=za (ZF (i:=5) (u:=.string c.dev.og) HB1.out (Nat.le_refl w.heap.size));clear hr2;go_upto_region 4 with fail
   generalize w1.setCell ⟨w.heap.size,5,none⟩ (.string c.dev.og)=w2 at*;clear q34 f5 q5b;go_wp2_with (first
    |(go_at_call 143;refine HX2.out.mono ?_;rintro e w3 ⟨rfl,hb3⟩)
    |(refine wpList_load_row rfl 207 _ rfl _ rfl _ _ _ _ HR2.out underlying207 rfl Oz ?_))
   go_ret;refine⟨?_,bt HB2.out hb3⟩;have h9:=HR0.out;rw[if_pos e0]at h9;rw[<-h9];rfl
 · have e0:(L x.dr.nam).isEmpty=false:=Xq h0;have e1:x.dr.nam.toList.isEmpty=false:=by rw[tl];exact e0
   have HX2:=za (HX.out x.dr.nam w1 HZ.out.nam HB1.out);go_wp2_with (first
    |(go_at_call 143;refine HX2.out.mono ?_;rintro e w3 ⟨rfl,hb3⟩)
    |(refine wpList_load_row rfl 207 _ rfl _ rfl _ _ _ _ HR1.out underlying207 rfl Oz ?_))
   go_ret;refine⟨?_,bt HB1.out hb3⟩;have h9:=HR0.out;rw[e0]at h9;rw[<-h9];rfl
end Go.Proofs.YtobcmlmbblgcdaaGreatDoor
