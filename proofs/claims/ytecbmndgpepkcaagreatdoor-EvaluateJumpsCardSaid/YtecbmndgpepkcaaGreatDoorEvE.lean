/- Contracts of functions that the law reaches, and what they rest on; each under the premises that it names. Shortened by a program. -/
import Derived.Test.YtecbmndgpepkcaaGreatDoorG27
import Derived.Test.YtecbmndgpepkcaaGreatDoorExpand
namespace Go.Proofs.YtecbmndgpepkcaaGreatDoor
open Tryz
set_option maxHeartbeats 8000000
set_option maxRecDepth 100000
open Go.RowKit
theorem NZ{w:World}{g i:Nat}{cs:Array Value}{t:TypeId}{fr:Nat×Nat}{v:Value}(h:w.heap[g]? =some (.cells cs t fr)):w.setCell ⟨g,i,none⟩ v=w.setRow g (cs.setIfInBounds i v):=setCell_eq_setRow _ _ _ _ _ _ _ h
theorem zO.one{w:World}{g:Nat}{c:zt}{x:Em}(h:zO w g c x)(i:Nat)(v:Value)(y:Em)(hy:(qN c x).setIfInBounds i v=qN c y)(hd:Yc w y.dr)(ha:ZQ w y.ab)(ho:Y6 g y.as):zO (w.setCell ⟨g,i,none⟩ v) g c y/\w.grownBy (w.setCell ⟨g,i,none⟩ v) (some g):=by
 rw[NZ h.box,hy];exact h.set zk y hd ha ho
def Jj(c:zt)(x:Em)(n:ByteArray):Vs:=⟨c.dev.og,c.org,x.ab.og,x.ab.dr,c.pnt,n,x.dr.res,⟨c.dev.ats.A,c.dev.ats.c,c.dev.ats.l⟩,⟨x.ab.ats.A,x.ab.ats.c,x.ab.ats.l⟩,⟨x.dr.props.A,x.dr.props.c,x.dr.props.l⟩⟩
def Vj(c:zt)(x:Em)(n:ByteArray):Array Value:=#[.string c.dev.og,.string c.org,.string x.ab.og,.string x.ab.dr,.string c.pnt,.string n,.string x.dr.res,.slice c.dev.ats.A c.dev.ats.l.length c.dev.ats.c,.slice x.ab.ats.A x.ab.ats.l.length x.ab.ats.c,.slice x.dr.props.A x.dr.props.l.length x.dr.props.c]
theorem zi6(ps:List Pc)(a b c d e f g:ByteArray)(y z u:Zv):X0 ps ⟨a,b,c,d,e,f,g,y,z,u⟩=X0 ps ⟨a,b,c,d,e,f,g,⟨none,0,y.l⟩,⟨none,0,z.l⟩,⟨none,0,u.l⟩⟩:=rfl
theorem SH(s:ze)(a b c d e f g:ByteArray)(y z u:Zv):Ue s ⟨a,b,c,d,e,f,g,y,z,u⟩=Ue s ⟨a,b,c,d,e,f,g,⟨none,0,y.l⟩,⟨none,0,z.l⟩,⟨none,0,u.l⟩⟩:=by
 unfold Ue;rw[zi6]
theorem zaH(c:zt)(x:Em)(s:ByteArray):QC c.c x.e s=(Ue (L s) (Jj c x (if(L x.dr.nam).isEmpty then c.dev.og else x.dr.nam))).1:=by
 unfold Jj;rw[SH];rfl
theorem zbM:(prog.info? 195).map (·.size)=some 10:=zg
theorem zgE(parts:Array (Nat×Value)):Instr.build 195 parts=Zu 195 parts:=UV
theorem Bt(c:zt)(x:Em)(W:World):(Zu 195 #[(0,.string c.dev.og),(1,.string c.org),(2,.string x.ab.og),(3,.string x.ab.dr),(4,.string c.pnt),(5,.string x.dr.nam),(6,.string x.dr.res),(7,.slice c.dev.ats.A c.dev.ats.l.length c.dev.ats.c),(8,.slice x.ab.ats.A x.ab.ats.l.length x.ab.ats.c),(9,.slice x.dr.props.A x.dr.props.l.length x.dr.props.c)]).run prog W=.ok (.agg (Vj c x x.dr.nam)) W:=Xl
attribute [local go_sem ↓] zgE
theorem C5(v u:Value):Instr.storeAt 195 v u=Zo 195 v u:=kN
theorem zax(W:World)(c:zt)(x:Em)(n:ByteArray):(Zo 195 (.pointer (some ⟨W.heap.size,0,none⟩)) (.agg (Vj c x n))).run prog (W.alloc (.cells #[.string ⟨#[]⟩,.string ⟨#[]⟩,.string ⟨#[]⟩,.string ⟨#[]⟩,.string ⟨#[]⟩,.string ⟨#[]⟩,.string ⟨#[]⟩,.slice none 0 0,.slice none 0 0,.slice none 0 0] 195)).drew=.ok () ((W.alloc (.cells #[.string ⟨#[]⟩,.string ⟨#[]⟩,.string ⟨#[]⟩,.string ⟨#[]⟩,.string ⟨#[]⟩,.string ⟨#[]⟩,.string ⟨#[]⟩,.slice none 0 0,.slice none 0 0,.slice none 0 0] 195)).drew.setRow W.heap.size (Vj c x n)):=by
 have h:=XC (P:=prog) (w:=(W.alloc (.cells #[.string ⟨#[]⟩,.string ⟨#[]⟩,.string ⟨#[]⟩,.string ⟨#[]⟩,.string ⟨#[]⟩,.string ⟨#[]⟩,.string ⟨#[]⟩,.slice none 0 0,.slice none 0 0,.slice none 0 0] 195)).drew) (T:=195) (g:=W.heap.size) (o:=0) (cs:=#[.string ⟨#[]⟩,.string ⟨#[]⟩,.string ⟨#[]⟩,.string ⟨#[]⟩,.string ⟨#[]⟩,.string ⟨#[]⟩,.string ⟨#[]⟩,.slice none 0 0,.slice none 0 0,.slice none 0 0]) (vs:=Vj c x n) (t:=195) (heap_alloc_new W _) (by exact zo) OW jI (by simp[Vj,Value.oneCell']);rw[Un (#[.string ⟨#[]⟩,.string ⟨#[]⟩,.string ⟨#[]⟩,.string ⟨#[]⟩,.string ⟨#[]⟩,.string ⟨#[]⟩,.string ⟨#[]⟩,.slice none 0 0,.slice none 0 0,.slice none 0 0]) (Vj c x n) rfl]at h;exact h
attribute [local go_sem ↓] C5
structure F8(c:zt)(x:Em):Prop where
 og:c.dev.og.size<=1000000
 org:c.org.size<=1000000
 abo:x.ab.og.size<=1000000
 abd:x.ab.dr.size<=1000000
 pnt:c.pnt.size<=1000000
 nam:x.dr.nam.size<=1000000
 res:x.dr.res.size<=1000000
 da:∀a∈c.dev.ats.l,a.val.size<=1000000
 aa:∀a∈x.ab.ats.l,a.val.size<=1000000
 pa:∀a∈x.dr.props.l,a.val.size<=1000000
 dl:c.dev.ats.l.length<=1000
 al:x.ab.ats.l.length<=1000
 pl:x.dr.props.l.length<=1000
theorem DZ(g:Nat)(c:zt)(x:Em)(s:ByteArray)(w:World)(h:zO w g c x)(hz:F8 c x)(hE:Env w)(hs:s.size<=1000000):
 Calls prog 98 #[.pointer (some ⟨g,0,none⟩),.string s] w fun e w'=>e=.returned (.string (QC c.c x.e s))/\Below w.heap.size w w':=by
 rw[zaH];obtain⟨R,hR⟩:∃R,(Ue (L s) (Jj c x (if(L x.dr.nam).isEmpty then c.dev.og else x.dr.nam))).1=R:=⟨_,rfl⟩;rw[hR];have HR0:=za hR;clear hR;have hb:=h.box;have HQ:Hid (∀W',Below w.heap.size w W'->W'.cell? ⟨g,34,none⟩=some (.string c.dev.og)/\W'.cell? ⟨g,41,none⟩=some (.string c.org)/\W'.cell? ⟨g,46,none⟩=some (.string x.ab.og)/\W'.cell? ⟨g,48,none⟩=some (.string x.ab.dr)/\W'.cell? ⟨g,42,none⟩=some (.string c.pnt)/\W'.cell? ⟨g,5,none⟩=some (.string x.dr.nam)/\W'.cell? ⟨g,10,none⟩=some (.string x.dr.res)/\W'.cell? ⟨g,40,none⟩=some (.slice c.dev.ats.A c.dev.ats.l.length c.dev.ats.c)/\W'.cell? ⟨g,52,none⟩=some (.slice x.ab.ats.A x.ab.ats.l.length x.ab.ats.c)/\W'.cell? ⟨g,0,none⟩=some (.slice x.dr.props.A x.dr.props.l.length x.dr.props.c)):=za fun W' hW'=>by
  have h1:=(hW'.block _ (zh hb)).trans hb;exact⟨zd h1 rfl,zd h1 rfl,zd h1 rfl,zd h1 rfl,zd h1 rfl,zd h1 rfl,zd h1 rfl,zd h1 rfl,zd h1 rfl,zd h1 rfl⟩
 have hgl:g<w.heap.size:=zh hb;have hbd:=Bt c x;have hst:=zax w c x x.dr.nam;have H:=za h;have HZ:=za hz;have HE:=za hE;clear h hz hE hb;go_enter func98,ntmps98;go_upto_region 1 with fail
 go_region_held3 (fun W'=>W'.cell? ⟨g,34,none⟩=some (.string c.dev.og)/\W'.cell? ⟨g,41,none⟩=some (.string c.org)/\W'.cell? ⟨g,46,none⟩=some (.string x.ab.og)/\W'.cell? ⟨g,48,none⟩=some (.string x.ab.dr)/\W'.cell? ⟨g,42,none⟩=some (.string c.pnt)/\W'.cell? ⟨g,5,none⟩=some (.string x.dr.nam)/\W'.cell? ⟨g,10,none⟩=some (.string x.dr.res)/\W'.cell? ⟨g,40,none⟩=some (.slice c.dev.ats.A c.dev.ats.l.length c.dev.ats.c)/\W'.cell? ⟨g,52,none⟩=some (.slice x.ab.ats.A x.ab.ats.l.length x.ab.ats.c)/\W'.cell? ⟨g,0,none⟩=some (.slice x.dr.props.A x.dr.props.l.length x.dr.props.c)) ((refine HQ.out _ ?_;repeat (first|exact zk|refine Below.drew ?_|refine qz ?_ zo|refine zV ?_))) (fail)
 obtain⟨w1,hw1⟩:∃w1,(w.alloc (.cells #[.string ⟨#[]⟩,.string ⟨#[]⟩,.string ⟨#[]⟩,.string ⟨#[]⟩,.string ⟨#[]⟩,.string ⟨#[]⟩,.string ⟨#[]⟩,.slice none 0 0,.slice none 0 0,.slice none 0 0] 195)).drew.setRow w.heap.size (Vj c x x.dr.nam)=w1:=⟨_,rfl⟩;rw[hw1];have hb1:Below w.heap.size w w1:=by rw[<-hw1];exact qz ((zI w _).drew) zo
 have hr1:w1.heap[w.heap.size]? =some (.cells (Vj c x x.dr.nam) 195 (0,0)):=by rw[<-hw1];exact setRow_heap _ _ _ _ _ _ (heap_alloc_new w _)
 have HX:Hid (∀(n:ByteArray) (W:World),n.size<=1000000->Below w.heap.size w W->Calls prog 128 #[.string s,.agg (Vj c x n)] W (AZ (Ue (L s) (Jj c x n)) W)):=za fun n W hn hW=>by
  have hk:=H.out.keep hW;refine zeJ s (Jj c x n) W (HE.out.go hW) zb ⟨hk.dev.row,hk.ab.row,hk.dr.pr.row.row,by have:=HZ.out.dl;show c.dev.ats.l.length<=_;omega,by have:=HZ.out.al;show x.ab.ats.l.length<=_;omega,by have:=HZ.out.pl;show x.dr.props.l.length<=_;omega⟩ (by have:=HZ.out.res;show x.dr.res.size<=_;omega) (by have:=HZ.out.og;show c.dev.og.size<=_;omega) (fun q hq=>?_);have h1:Ii 1000000 (Jj c x n):=⟨HZ.out.og,HZ.out.org,HZ.out.abo,HZ.out.abd,HZ.out.pnt,hn,HZ.out.res,HZ.out.da,HZ.out.aa,HZ.out.pa⟩;have h2:=zhd (M:=1048576) (q:=q) (h1.more zi) (by have:=(L4 (L s)).2 q hq;omega);omega
 have HB1:=za hb1;have HR1:=za hr1;have q5b:w1.cell? ⟨w.heap.size,5,none⟩=some (.string x.dr.nam):=zd hr1 rfl;clear hw1 hb1 hr1 hst hbd;by_cases h0:x.dr.nam.toList=[]
 · have e0:(L x.dr.nam).isEmpty=true:=by rw[JU h0];rfl
   have hg1:=(HB1.out.block _ (zh H.out.box)).trans H.out.box;have q34:w1.cell? ⟨g,34,none⟩=some (.string c.dev.og):=zd hg1 rfl;have f5:=qb HR1.out 5;clear hg1;have HX2:=za (HX.out c.dev.og (w1.setCell ⟨w.heap.size,5,none⟩ (.string c.dev.og)) HZ.out.og (Zz HB1.out zo));have hr2:(w1.setCell ⟨w.heap.size,5,none⟩ (.string c.dev.og)).heap[w.heap.size]? =some (.cells (Vj c x c.dev.og) 195 (0,0)):=by
    rw[NZ HR1.out];exact setRow_heap _ _ _ _ _ _ HR1.out
   have HR2:=za hr2;have HB2:=za (Zz (i:=5) (u:=.string c.dev.og) HB1.out (Nat.le_refl w.heap.size));clear hr2;go_upto_region 4 with fail
   generalize w1.setCell ⟨w.heap.size,5,none⟩ (.string c.dev.og)=w2 at*;clear q34 f5 q5b;go_wp2_with (first
    |(go_at_call 128;refine HX2.out.mono ?_;rintro e w3 ⟨rfl,hb3⟩)
    |(refine wpList_load_row rfl 195 _ rfl _ rfl _ _ _ _ HR2.out underlying195 rfl jI ?_))
   go_ret;refine⟨?_,bt HB2.out hb3⟩;have h9:=HR0.out;rw[if_pos e0]at h9;rw[<-h9];rfl
 · have e0:(L x.dr.nam).isEmpty=false:=XL h0;have e1:x.dr.nam.toList.isEmpty=false:=by rw[tl];exact e0
   have HX2:=za (HX.out x.dr.nam w1 HZ.out.nam HB1.out);go_wp2_with (first
    |(go_at_call 128;refine HX2.out.mono ?_;rintro e w3 ⟨rfl,hb3⟩)
    |(refine wpList_load_row rfl 195 _ rfl _ rfl _ _ _ _ HR1.out underlying195 rfl jI ?_))
   go_ret;refine⟨?_,bt HB1.out hb3⟩;have h9:=HR0.out;rw[e0]at h9;rw[<-h9];rfl
end Go.Proofs.YtecbmndgpepkcaaGreatDoor
