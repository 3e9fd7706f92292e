/- Contracts that the law rests on, each under the premises that it names. -/
import Derived.Test.YtecbmndgpepkcaaGreatDoorExpand
import Derived.Test.YtecbmndgpepkcaaGreatDoorG27
namespace Go.Proofs.YtecbmndgpepkcaaGreatDoor
open Tryz
set_option maxHeartbeats 8000000
set_option maxRecDepth 100000
section
open Go.RowKit
theorem NN{w:World}{g i:Nat}{cs:Array Value}{t:TypeId}{fr:Nat×Nat}{v:Value}(h:w.heap[g]? =some (.cells cs t fr)):w.setCell ⟨g,i,none⟩ v=w.setRow g (cs.setIfInBounds i v):=setCell_eq_setRow _ _ _ _ _ _ _ h
theorem zR.one{w:World}{g:Nat}{c:zt}{x:Em}(h:zR w g c x)(i:Nat)(v:Value)(y:Em)(hy:(qW c x).setIfInBounds i v=qW c y)(hd:Yg w y.dr)(ha:ZM w y.ab)(ho:Xn g y.as):zR (w.setCell ⟨g,i,none⟩ v) g c y/\w.grownBy (w.setCell ⟨g,i,none⟩ v) (some g):=by
 rw[NN h.box,hy];exact h.set zj y hd ha ho
def JA(c:zt)(x:Em)(n:ByteArray):Vs:=⟨c.dev.og,c.org,x.ab.og,x.ab.dr,c.pnt,n,x.dr.res,⟨c.dev.ats.A,c.dev.ats.c,c.dev.ats.l⟩,⟨x.ab.ats.A,x.ab.ats.c,x.ab.ats.l⟩,⟨x.dr.props.A,x.dr.props.c,x.dr.props.l⟩⟩
def VN(c:zt)(x:Em)(n:ByteArray):Array Value:=#[.string c.dev.og,.string c.org,.string x.ab.og,.string x.ab.dr,.string c.pnt,.string n,.string x.dr.res,.slice c.dev.ats.A c.dev.ats.l.length c.dev.ats.c,.slice x.ab.ats.A x.ab.ats.l.length x.ab.ats.c,.slice x.dr.props.A x.dr.props.l.length x.dr.props.c]
theorem zbc(ps:List Pc)(a b c d e f g:ByteArray)(y z u:ZJ):Ud ps ⟨a,b,c,d,e,f,g,y,z,u⟩=Ud ps ⟨a,b,c,d,e,f,g,⟨none,0,y.l⟩,⟨none,0,z.l⟩,⟨none,0,u.l⟩⟩:=rfl
theorem zjN(s:ze)(a b c d e f g:ByteArray)(y z u:ZJ):Um s ⟨a,b,c,d,e,f,g,y,z,u⟩=Um s ⟨a,b,c,d,e,f,g,⟨none,0,y.l⟩,⟨none,0,z.l⟩,⟨none,0,u.l⟩⟩:=by
 unfold Um;rw[zbc]
theorem zdj(c:zt)(x:Em)(s:ByteArray):Qp c.c x.e s=(Um (L s) (JA c x (if(L x.dr.nam).isEmpty then c.dev.og else x.dr.nam))).1:=by
 unfold JA;rw[zjN];rfl
theorem zaz:(prog.info? 195).map (·.size)=some 10:=zg
theorem zfR(parts:Array (Nat×Value)):Instr.build 195 parts=ZI 195 parts:=U7
theorem zcy(c:zt)(x:Em)(W:World):(ZI 195 #[(0,.string c.dev.og),(1,.string c.org),(2,.string x.ab.og),(3,.string x.ab.dr),(4,.string c.pnt),(5,.string x.dr.nam),(6,.string x.dr.res),(7,.slice c.dev.ats.A c.dev.ats.l.length c.dev.ats.c),(8,.slice x.ab.ats.A x.ab.ats.l.length x.ab.ats.c),(9,.slice x.dr.props.A x.dr.props.l.length x.dr.props.c)]).run prog W=.ok (.agg (VN c x x.dr.nam)) W:=Xr
attribute [local go_sem ↓] zfR
theorem zfo(v u:Value):Instr.storeAt 195 v u=Zo 195 v u:=kQ
theorem zhW(W:World)(c:zt)(x:Em)(n:ByteArray):(Zo 195 (.pointer (some ⟨W.heap.size,0,none⟩)) (.agg (VN c x n))).run prog (W.alloc (.cells #[.string ⟨#[]⟩,.string ⟨#[]⟩,.string ⟨#[]⟩,.string ⟨#[]⟩,.string ⟨#[]⟩,.string ⟨#[]⟩,.string ⟨#[]⟩,.slice none 0 0,.slice none 0 0,.slice none 0 0] 195)).drew=.ok () ((W.alloc (.cells #[.string ⟨#[]⟩,.string ⟨#[]⟩,.string ⟨#[]⟩,.string ⟨#[]⟩,.string ⟨#[]⟩,.string ⟨#[]⟩,.string ⟨#[]⟩,.slice none 0 0,.slice none 0 0,.slice none 0 0] 195)).drew.setRow W.heap.size (VN c x n)):=by
 have h:=XU (P:=prog) (w:=(W.alloc (.cells #[.string ⟨#[]⟩,.string ⟨#[]⟩,.string ⟨#[]⟩,.string ⟨#[]⟩,.string ⟨#[]⟩,.string ⟨#[]⟩,.string ⟨#[]⟩,.slice none 0 0,.slice none 0 0,.slice none 0 0] 195)).drew) (T:=195) (g:=W.heap.size) (o:=0) (cs:=#[.string ⟨#[]⟩,.string ⟨#[]⟩,.string ⟨#[]⟩,.string ⟨#[]⟩,.string ⟨#[]⟩,.string ⟨#[]⟩,.string ⟨#[]⟩,.slice none 0 0,.slice none 0 0,.slice none 0 0]) (vs:=VN c x n) (t:=195) (i5 W _) (by exact zo) jJ jU (by simp[VN,Value.oneCell']);rw[UL (#[.string ⟨#[]⟩,.string ⟨#[]⟩,.string ⟨#[]⟩,.string ⟨#[]⟩,.string ⟨#[]⟩,.string ⟨#[]⟩,.string ⟨#[]⟩,.slice none 0 0,.slice none 0 0,.slice none 0 0]) (VN c x n) rfl]at h;exact h
attribute [local go_sem ↓] zfo
structure Sk(c:zt)(x:Em):Prop where
 og:c.dev.og.size<=1000000
 org:c.org.size<=1000000
 abo:x.ab.og.size<=1000000
 abd:x.ab.dr.size<=1000000
 pnt:c.pnt.size<=1000000
 nam:x.dr.nam.size<=1000000
 res:x.dr.res.size<=1000000
 da:∀a∈c.dev.ats.l,a.val.size<=1000000
 aa:∀a∈x.ab.ats.l,a.val.size<=1000000
 pa:∀a∈x.dr.props.l,a.val.size<=1000000
 dl:c.dev.ats.l.length<=1000
 al:x.ab.ats.l.length<=1000
 pl:x.dr.props.l.length<=1000
theorem SW(g:Nat)(c:zt)(x:Em)(s:ByteArray)(w:World)(h:zR w g c x)(hz:Sk c x)(hE:Env w)(hs:s.size<=1000000):
 Calls prog 98 #[.pointer (some ⟨g,0,none⟩),.string s] w fun e w'=>e=.returned (.string (Qp c.c x.e s))/\Below w.heap.size w w':=by
 rw[zdj];obtain⟨R,hR⟩:∃R,(Um (L s) (JA c x (if(L x.dr.nam).isEmpty then c.dev.og else x.dr.nam))).1=R:=⟨_,rfl⟩;rw[hR];have HR0:=za hR;clear hR;have hb:=h.box;have HQ:Hid (∀W',Below w.heap.size w W'->W'.cell? ⟨g,34,none⟩=some (.string c.dev.og)/\W'.cell? ⟨g,41,none⟩=some (.string c.org)/\W'.cell? ⟨g,46,none⟩=some (.string x.ab.og)/\W'.cell? ⟨g,48,none⟩=some (.string x.ab.dr)/\W'.cell? ⟨g,42,none⟩=some (.string c.pnt)/\W'.cell? ⟨g,5,none⟩=some (.string x.dr.nam)/\W'.cell? ⟨g,10,none⟩=some (.string x.dr.res)/\W'.cell? ⟨g,40,none⟩=some (.slice c.dev.ats.A c.dev.ats.l.length c.dev.ats.c)/\W'.cell? ⟨g,52,none⟩=some (.slice x.ab.ats.A x.ab.ats.l.length x.ab.ats.c)/\W'.cell? ⟨g,0,none⟩=some (.slice x.dr.props.A x.dr.props.l.length x.dr.props.c)):=za fun W' hW'=>by
  have h1:=(hW'.block _ (zh hb)).trans hb;exact⟨zd h1 rfl,zd h1 rfl,zd h1 rfl,zd h1 rfl,zd h1 rfl,zd h1 rfl,zd h1 rfl,zd h1 rfl,zd h1 rfl,zd h1 rfl⟩
 have hgl:g<w.heap.size:=zh hb;have hbd:=zcy c x;have hst:=zhW w c x x.dr.nam;have H:=za h;have HZ:=za hz;have HE:=za hE;clear h hz hE hb;go_enter func98,ntmps98;go_upto_region 1 with fail
 go_region_held3 (fun W'=>W'.cell? ⟨g,34,none⟩=some (.string c.dev.og)/\W'.cell? ⟨g,41,none⟩=some (.string c.org)/\W'.cell? ⟨g,46,none⟩=some (.string x.ab.og)/\W'.cell? ⟨g,48,none⟩=some (.string x.ab.dr)/\W'.cell? ⟨g,42,none⟩=some (.string c.pnt)/\W'.cell? ⟨g,5,none⟩=some (.string x.dr.nam)/\W'.cell? ⟨g,10,none⟩=some (.string x.dr.res)/\W'.cell? ⟨g,40,none⟩=some (.slice c.dev.ats.A c.dev.ats.l.length c.dev.ats.c)/\W'.cell? ⟨g,52,none⟩=some (.slice x.ab.ats.A x.ab.ats.l.length x.ab.ats.c)/\W'.cell? ⟨g,0,none⟩=some (.slice x.dr.props.A x.dr.props.l.length x.dr.props.c)) ((refine HQ.out _ ?_;repeat (first|exact zj|refine Below.drew ?_|refine qB ?_ zo|refine zP ?_))) (fail)
 obtain⟨w1,hw1⟩:∃w1,(w.alloc (.cells #[.string ⟨#[]⟩,.string ⟨#[]⟩,.string ⟨#[]⟩,.string ⟨#[]⟩,.string ⟨#[]⟩,.string ⟨#[]⟩,.string ⟨#[]⟩,.slice none 0 0,.slice none 0 0,.slice none 0 0] 195)).drew.setRow w.heap.size (VN c x x.dr.nam)=w1:=⟨_,rfl⟩;rw[hw1];have hb1:Below w.heap.size w w1:=by rw[<-hw1];exact qB ((zL w _).drew) zo
 have hr1:w1.heap[w.heap.size]? =some (.cells (VN c x x.dr.nam) 195 (0,0)):=by rw[<-hw1];exact setRow_heap _ _ _ _ _ _ (i5 w _)
 have HX:Hid (∀(n:ByteArray) (W:World),n.size<=1000000->Below w.heap.size w W->Calls prog 128 #[.string s,.agg (VN c x n)] W (Sl (Um (L s) (JA c x n)) W)):=za fun n W hn hW=>by
  have hk:=H.out.keep hW;refine ziO s (JA c x n) W (HE.out.go hW) zb ⟨hk.dev.row,hk.ab.row,hk.dr.pr.row.row,by have:=HZ.out.dl;show c.dev.ats.l.length<=_;omega,by have:=HZ.out.al;show x.ab.ats.l.length<=_;omega,by have:=HZ.out.pl;show x.dr.props.l.length<=_;omega⟩ (by have:=HZ.out.res;show x.dr.res.size<=_;omega) (by have:=HZ.out.og;show c.dev.og.size<=_;omega) (fun q hq=>?_);have h1:IL 1000000 (JA c x n):=⟨HZ.out.og,HZ.out.org,HZ.out.abo,HZ.out.abd,HZ.out.pnt,hn,HZ.out.res,HZ.out.da,HZ.out.aa,HZ.out.pa⟩;have h2:=zdu (M:=1048576) (q:=q) (h1.more zi) (by have:=(Ss (L s)).2 q hq;omega);omega
 have HB1:=za hb1;have HR1:=za hr1;have q5b:w1.cell? ⟨w.heap.size,5,none⟩=some (.string x.dr.nam):=zd hr1 rfl;clear hw1 hb1 hr1 hst hbd;by_cases h0:x.dr.nam.toList=[]
 · have e0:(L x.dr.nam).isEmpty=true:=by rw[JL h0];rfl
   have hg1:=(HB1.out.block _ (zh H.out.box)).trans H.out.box;have q34:w1.cell? ⟨g,34,none⟩=some (.string c.dev.og):=zd hg1 rfl;have f5:=qe HR1.out 5;clear hg1;have HX2:=za (HX.out c.dev.og (w1.setCell ⟨w.heap.size,5,none⟩ (.string c.dev.og)) HZ.out.og (ZF HB1.out zo));have hr2:(w1.setCell ⟨w.heap.size,5,none⟩ (.string c.dev.og)).heap[w.heap.size]? =some (.cells (VN c x c.dev.og) 195 (0,0)):=by
    rw[NN HR1.out];exact setRow_heap _ _ _ _ _ _ HR1.out
   have HR2:=za hr2;have HB2:=za (ZF (i:=5) (u:=.string c.dev.og) HB1.out (Nat.le_refl w.heap.size));clear hr2;go_upto_region 4 with fail
   generalize w1.setCell ⟨w.heap.size,5,none⟩ (.string c.dev.og)=w2 at*;clear q34 f5 q5b;go_wp2_with (first
    |(go_at_call 128;refine HX2.out.mono ?_;rintro e w3 ⟨rfl,hb3⟩)
    |(refine wpList_load_row rfl 195 _ rfl _ rfl _ _ _ _ HR2.out underlying195 rfl jU ?_))
   go_ret;refine⟨?_,bt HB2.out hb3⟩;have h9:=HR0.out;rw[if_pos e0]at h9;rw[<-h9];rfl
 · have e0:(L x.dr.nam).isEmpty=false:=XC h0;have e1:x.dr.nam.toList.isEmpty=false:=by rw[tl];exact e0
   have HX2:=za (HX.out x.dr.nam w1 HZ.out.nam HB1.out);go_wp2_with (first
    |(go_at_call 128;refine HX2.out.mono ?_;rintro e w3 ⟨rfl,hb3⟩)
    |(refine wpList_load_row rfl 195 _ rfl _ rfl _ _ _ _ HR1.out underlying195 rfl jU ?_))
   go_ret;refine⟨?_,bt HB1.out hb3⟩;have h9:=HR0.out;rw[e0]at h9;rw[<-h9];rfl
end
section
open Go.RowKit
structure Fr(w:World)(x y:Em):Prop where
 d:∀a∈y.dr.as,∀p,a=some p->w.heap.size<=p.block∨a∈x.dr.as
 a:∀a∈y.as,∀p,a=some p->w.heap.size<=p.block∨a∈x.as
theorem Fr.same{w:World}{x y:Em}(h1:y.dr.as=x.dr.as)(h:y.as=x.as):Fr w x y:=⟨fun a ha _ _=>Or.inr (by rw[<-h1];exact ha),fun a ha _ _=>Or.inr (by rw[<-h];exact ha)⟩
theorem Fr.trans{w w0:World}{x y z:Em}(h1:Fr w x y)(h2:Fr w0 y z)(hs:w.heap.size<=w0.heap.size):Fr w x z:=⟨fun a ha p e=>by
 rcases h2.d a ha p e with h|h
 · exact OU
 · exact h1.d a h p e,fun a ha p e=>by
 rcases h2.a a ha p e with h|h
 · exact OU
 · exact h1.a a h p e⟩
def KV(w:World)(g:Nat)(c:zt)(x:Em)(y:Ev)(v:Value)(e:Ending)(w':World):Prop:=∃x',e=.returned v/\x'.e=y/\zR w' g c x'/\w.grownBy w' (some g)/\Fr w x x'
theorem zat{ds:List Dv}{d:Dd}(h:d∈zm ds):∃z∈ds,z.d=d:=List.mem_map.1 h
theorem Xa.atl{c:zt}{x:Em}{k:Nat}(_h:Xa c x k)(w:World)(ht:qj w c.tA c.tds){d:Dv}(hd:d.d∈zm c.tds):d.ats.l.length<=1000:=by
 obtain⟨z,hz,he⟩:=zat hd;have h1:=ht.al z hz;have h2:z.d.ats=d.d.ats:=by rw[he]
 have h3:z.ats.l=d.ats.l:=h2;rw[<-h3];exact h1
theorem Xa.xp{w:World}{c:zt}{x:Em}{k:Nat}(h:Xa c x k)(ht:qj w c.tA c.tds):Sk c x:=by
 have h1:=h.dv _ h.dev;have h2:=h.dv _ h.ab;have h3:=h1.1.og;have h4:=h2.1.og;have h5:=h2.2.2.1;have h6:=h.gd.pl;exact⟨i3 h3 zi,h.org,i3 h4 zi,i3 h5 zi,h.pnt,h.gd.nm,h.gd.rs,h1.2.2.2.2.2,h2.2.2.2.2.2,h.gd.pv,h.atl w ht h.dev,h.atl w ht h.ab,i3 h6 zi⟩
theorem zR.calls{w:World}{g:Nat}{c:zt}{x:Em}(h:zR w g c x)(n:Int):zR (w.setCell ⟨g,11,none⟩ (.int .i64 n)) g c {x with dr:={x.dr with calls:=n}}/\w.grownBy (w.setCell ⟨g,11,none⟩ (.int .i64 n)) (some g):=
 h.one 11 _ {x with dr:={x.dr with calls:=n}} rfl ⟨h.dr.pr,h.dr.tg,h.dr.lk,h.dr.rn,h.dr.ld,h.dr.cl⟩ h.ab h.offx
theorem zR.ticks{w:World}{g:Nat}{c:zt}{x:Em}(h:zR w g c x)(n:Int):zR (w.setCell ⟨g,12,none⟩ (.int .i64 n)) g c {x with dr:={x.dr with ticks:=n}}/\w.grownBy (w.setCell ⟨g,12,none⟩ (.int .i64 n)) (some g):=
 h.one 12 _ {x with dr:={x.dr with ticks:=n}} rfl ⟨h.dr.pr,h.dr.tg,h.dr.lk,h.dr.rn,h.dr.ld,h.dr.cl⟩ h.ab h.offx
theorem D5(g:Nat)(c:zt)(x:Em)(k:Nat)(s:ByteArray)(w:World)(h:zR w g c x)(hz:Xa c x k)(hE:Env w)(hs:s.size<=1000000):
 Calls prog 95 #[.pointer (some ⟨g,0,none⟩),.string s] w (KV w g c x (QL x.e (qN c.c x.e s).2.1) (.tuple #[.string (qN c.c x.e s).1,.bool ((qN c.c x.e s).2.2==0)])):=by
 have HX:=za (fun(W:World) (hW:Below w.heap.size w W)=>SW g c x s W (h.keep hW) (hz.xp h.inp.tr) (hE.go hW) hs);have hcl:qN c.c x.e s=Zh c.hs.l c.lim x.dr.calls (Qp c.c x.e s):=rfl;have hes:=Pn c.c x.e s;have HC:=za (fun(W:World) (hW:Below w.heap.size w W)=>zgo c.hs c.lim x.dr.calls (Qp c.c x.e s) W ((h.keep hW).inp.hp) hz.hl hz.hc zb);have hok:=NF hz.ok.hp x.dr.calls (Qp c.c x.e s);have hok1:0<=(Zh c.hs.l c.lim x.dr.calls (Qp c.c x.e s)).2.1:=hok.1;have hok2:(Zh c.hs.l c.lim x.dr.calls (Qp c.c x.e s)).2.1<=1000:=Int.le_trans hok.2.1 hz.ok.hp.2.1;have hca:0<=x.dr.calls/\x.dr.calls<=k:=hz.gd.ca;have htk:0<=x.dr.ticks/\x.dr.ticks<=1000*k:=hz.gd.tk;have hkk:=hz.kk;rw[hcl];clear hcl hok hes;generalize Qp c.c x.e s=ex at*;generalize Zh c.hs.l c.lim x.dr.calls ex=R at*;obtain⟨ou,ti,en⟩:=R;dsimp only at hok1 hok2 HC⊢;have HQ:Hid (∀W',Below w.heap.size w W'->W'.cell? ⟨g,29,none⟩=some (.slice c.hs.A c.hs.l.length c.hs.c)/\W'.cell? ⟨g,30,none⟩=some (.int .i64 c.lim)/\W'.cell? ⟨g,11,none⟩=some (.int .i64 x.dr.calls)):=za fun W' hW'=>by
  have h1:=(hW'.block _ (zh h.box)).trans h.box;exact⟨zd h1 rfl,zd h1 rfl,zd h1 rfl⟩
 have H:=za h;clear h hz hE;go_enter func95,ntmps95;go_upto_region 1 with fail
 go_region_held3 (fun W'=>W'.cell? ⟨g,29,none⟩=some (.slice c.hs.A c.hs.l.length c.hs.c)/\W'.cell? ⟨g,30,none⟩=some (.int .i64 c.lim)/\W'.cell? ⟨g,11,none⟩=some (.int .i64 x.dr.calls)) ((refine HQ.out _ ?_;first|exact zj.drew|exact hB2|exact hB1)) ((first
  |(go_at_call 98;refine(HX.out _ zj.drew).mono ?_;rintro e w1 ⟨rfl,hb1⟩;(have hB1:Below w.heap.size w w1:=bt zj.drew hb1))
  |(go_at_call 120;refine(HC.out _ hB1).mono ?_;rintro e w2 ⟨rfl,hb2⟩;(have hB2:Below w.heap.size w w2:=bt hB1 hb2))))
 have HB2:=za hB2;have h2:=H.out.keep hB2;have q11:w2.cell? ⟨g,11,none⟩=some (.int .i64 x.dr.calls):=zd h2.box rfl;have f11:=qe h2.box 11;obtain⟨h3,g3⟩:=h2.calls (x.dr.calls+1);have q12:(w2.setCell ⟨g,11,none⟩ (.int .i64 (x.dr.calls+1))).cell? ⟨g,12,none⟩=some (.int .i64 x.dr.ticks):=zd h3.box rfl;have f12:=qe h3.box 12;obtain⟨h4,g4⟩:=h3.ticks (x.dr.ticks+ti);have H4:=za h4;have HG:Hid (w.grownBy ((w2.setCell ⟨g,11,none⟩ (.int .i64 (x.dr.calls+1))).setCell ⟨g,12,none⟩ (.int .i64 (x.dr.ticks+ti))) (some g)):=za ((zG hB2 _).trans (g3.trans g4));clear h2 h3 h4 g3 g4 hB1 hB2 hb1 hb2;go_wp2;go_ret2;exact⟨_,rfl,rfl,H4.out,HG.out,Fr.same rfl rfl⟩
end
end Go.Proofs.YtecbmndgpepkcaaGreatDoor
