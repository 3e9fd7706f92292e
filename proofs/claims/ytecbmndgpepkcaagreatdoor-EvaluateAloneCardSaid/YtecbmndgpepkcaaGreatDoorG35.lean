/- Contracts that the law rests on, each under the premises that it names. -/
import Derived.Deep.Upon
import Derived.Test.YtecbmndgpepkcaaGreatDoorEvS
import Derived.Test.YtecbmndgpepkcaaGreatDoorG31
namespace Go.Proofs.YtecbmndgpepkcaaGreatDoor
open Tryz
set_option maxHeartbeats 8000000
set_option maxRecDepth 100000
section
open Go.RowKit Go.Maps
structure Xs(q:At->Bool)(zs cur:List At)(i j:Nat):Prop where
 len:cur.length=zs.length
 lt:i<j
 le:j<=zs.length
 pre:cur.take i=(zs.take j).filter fun z=> !q z
 post:cur.drop j=zs.drop j
theorem jQ{q:At->Bool}{zs:List At}{j:Nat}(h:j<zs.length):(zs.take (j+1)).filter (fun z=> !q z)=(zs.take j).filter (fun z=> !q z)++if q zs[j]then []else [zs[j]]:=by
 rw[List.take_succ_eq_append_getElem h,List.filter_append]
 congr 1
 cases hq:q zs[j]<;>simp[hq]
theorem Xs.start{q:At->Bool}{zs:List At}{k:Nat}(hno:∀j (h:j<zs.length),j<k->q zs[j]=false)(hk:k<zs.length)(h:q zs[k]=true):Xs q zs zs k (k+1):=by
 refine⟨rfl,zd2 _,hk,?_,rfl⟩;rw[jQ hk,h,if_pos rfl,zk7,List.filter_eq_self.2];intro z hz;obtain⟨j,hj,rfl⟩:=List.getElem_of_mem hz;rw[W9]at hj;rw[List.getElem_take,hno j zb zb];rfl
theorem Xs.skip{q:At->Bool}{zs cur:List At}{i j:Nat}(h:Xs q zs cur i j)(hj:j<zs.length)(hq:q zs[j]=true):Xs q zs cur i (j+1):=
 ⟨h.len,by have:=h.lt;omega,hj,by rw[jQ hj,hq,if_pos rfl,zk7];exact h.pre,by rw[<-zl8,h.post,zl8]⟩
theorem Xs.put{q:At->Bool}{zs cur:List At}{i j:Nat}(h:Xs q zs cur i j)(hj:j<zs.length)(hq:q zs[j]=false):Xs q zs (cur.set i zs[j]) (i+1) (j+1):=by
 have hl:=h.len;have hlt:=h.lt;refine⟨by rw[List.length_set];exact hl,zb,hj,?_,?_⟩
 · rw[jQ hj,hq,if_neg zl,<-h.pre,List.take_succ_eq_append_getElem (by rw[List.length_set];omega),List.getElem_set_self,List.take_set_of_le zo]
 · rw[List.drop_set_of_lt zb,<-zl8,h.post,zl8]
theorem Xs.at_{q:At->Bool}{zs cur:List At}{i j:Nat}(h:Xs q zs cur i j)(hj:j<zs.length):∃hc:j<cur.length,cur[j]=zs[j]:=by
 have hl:=h.len;refine⟨zb,?_⟩;have h1:(cur.drop j)[0]? =(zs.drop j)[0]?:=by rw[h.post]
 rw[zd5,zd5,zk3,l0 zb,l0 hj]at h1;exact zx h1
theorem Xs.done{q:At->Bool}{zs cur:List At}{i:Nat}(h:Xs q zs cur i zs.length):cur.take i=zs.filter fun z=> !q z:=by
 have:=h.pre;rwa [List.take_length]at this
theorem zai(w:World)(t e ty:TypeId)(z:Value)(ht:prog.underlying t=some (.slice e))(hv:∀w,(zeroValue e).run prog w=.ok z w)(b o n c:Nat)(hn:0<n)(zz:List Value)(hzz:(Builtin.zeroCells z.cells n).toList=zz)
 (hc:∀j,j<zz.length->(w.cell? ⟨b,o+j,none⟩).isSome=true)(hf:∀j,j<zz.length->w.frozen? ⟨b,o+j,none⟩=false)(h1:∀v∈zz,v.oneCell'=true):
 (Builtin.clear_ #[t] ty #[.slice (some ⟨b,o,none⟩) n c]).run prog w=.ok (.tuple #[]) (w.setCells b o zz):=by
 have hst:=run_storeCells_cells (P:=prog) b o zz 0 w (by simpa using hc) (by simpa using hf) h1;simp only[zk3]at hst;obtain⟨m,rfl⟩:∃m,n=m+1:=⟨n - 1,zb⟩;simp[Builtin.clear_,run_underlying ht,hv,hzz,hst]
theorem za2(w:World):(zeroValue 114).run prog w=.ok (.agg #[.string ⟨#[]⟩,.string ⟨#[]⟩]) w:=zg
theorem zbN(n:Nat):∃zz,(Builtin.zeroCells (Value.agg #[.string ⟨#[]⟩,.string ⟨#[]⟩]).cells n).toList=zz/\zz.length=n*2/\∀v∈zz,v=.string ⟨#[]⟩:=by
 refine⟨_,rfl,?_,?_⟩
 · simp[Builtin.zeroCells,Value.cells]
 · intro v hv;simp[Builtin.zeroCells,Value.cells]at hv;obtain⟨i,hi,h⟩:=hv;rcases Nat.mod_two_eq_zero_or_one i with h0|h0<;>simp[h0]at h<;>exact h.symm
theorem Bh:∀(cur:List At) (i:Nat) (z:At),i<cur.length->((cellsOf zw cur).set (i*2) (.string z.name)).set (i*2+1) (.string z.val)=cellsOf zw (cur.set i z)
 | [],_,_,h=>absurd h (Nat.not_lt_zero _)
 |_::_,0,_,_=>by simp[cellsOf,zw]
 | a::r,i+1,z,h=>by
   have ih:=Bh r i z XI;have e:(i+1)*2=i*2+1+1:=zb;simp only[cellsOf,zw,List.flatMap_cons,List.cons_append,zk8,i8,e]at ih⊢;rw[ih]
theorem Iw(l:List At):(cellsOf zw l).length=l.length*2:=by
 induction l with
 |nil=>rfl
 |cons a r ih=>rw[show cellsOf zw (a::r)=zw a++cellsOf zw r from rfl,r7,ih,u0];simp[zw];omega
theorem yP(b:Nat):∀(vs:List Value) (o:Nat) (w:World),(w.setCells b o vs).heap.size=w.heap.size
 | [],_,_=>rfl
 |v::r,o,w=>by rw[World.setCells,yP b r (o+1)];simp[World.setCell]
theorem Ek(b:Nat):∀(vs:List Value) (o:Nat) (w:World),(w.setCells b o vs).tape=w.tape
 | [],_,_=>rfl
 |v::r,o,w=>by rw[World.setCells,Ek b r (o+1)];rfl
theorem zae(w:World)(b o:Nat)(vs:List Value):w.grownBy (w.setCells b o vs) (some b):=
 ⟨World.os_setCells w b o vs,Ek b vs o w,World.output_setCells w b o vs,by rw[yP];exact zo,fun k hk hne=>World.heap_setCells_other w b o vs hk (fun e=>hne (by rw[e]))⟩
def KM(m:List At)(w0:World)(e:Ending)(w':World):Prop:=∃A c,e=.returned (.slice A m.length c)/\zr w' w'.heap.size A 2 m.length (cellsOf zw m)/\Below w0.heap.size w0 w'
theorem BD(A:Option Addr)(c x:Nat)(zs:List At)(q:At->Bool)(w0 w:World)(hn:zs.length<=1000000)(hown:w.ownsRow w0.heap.size kc 2 (.slice A zs.length c) zs.length (cellsOf zw zs))(hc:zs.length<=c)(hb0:Below w0.heap.size w0 w)(hq:ES w0 x zs q):
 Calls prog 156 #[.slice A zs.length c,.func (.func 157) #[] #[.pointer (some ⟨x,0,none⟩)]] w (KM (zs.filter fun z=> !q z) w0):=by
 have HIx:=za (zfJ A c x zs q w0 w hn (zr.of_own hown) hb0 hq);have HQ:=za hq;have HO:=za hown;have HB0:=za hb0;clear hq hown hb0;by_cases hany:∃k,∃h:k<zs.length,q zs[k]=true/\∀j (h:j<zs.length),j<k->q zs[j]=false
 · obtain⟨k0,hk0,hqk,hno⟩:=hany;have e1:=Oa hno hk0 hqk;rw[e1]at HIx;have HSt:=za (Xs.start hno hk0 hqk);obtain⟨g,cap,hv,hgb,hgl⟩:=HO.out.form zb;obtain⟨rfl,rfl⟩:A=some ⟨g,0,none⟩/\c=cap:=by injection hv;exact⟨qq,qq⟩
   have HEnd:Hid (∀(cur:List At) (i:Nat) (wr:World) (zz:List Value),zz.length=(zs.length - i)*2->Xs q zs cur i zs.length->wr.ownsRow w0.heap.size kc 2 (.slice (some ⟨g,0,none⟩) cur.length c) cur.length (cellsOf zw cur)->Below w0.heap.size w0 wr->KM (zs.filter fun z=> !q z) w0 (.returned (.slice (some ⟨g,0,none⟩) i c)) (wr.setCells g (i*2) zz)):=za fun cur i wr zz h0 h1 h2 h3=>by
    have hl:=h1.len;have hlt:=h1.lt;have hm:=h1.done;have hi:(zs.filter fun z=> !q z).length=i:=by rw[<-hm,W9];omega
    refine⟨some ⟨g,0,none⟩,c,by rw[hi],?_,h3.grown (zae wr g (i*2) _) h3.size (fun j e=>Rs)⟩;refine⟨by rw[Iw],fun _=>⟨g,0,rfl,by rw[yP];exact(h2.lt g rfl).2,fun j u hu=>?_⟩⟩;have hj:j<i*2:=by
     have:=(List.getElem?_eq_some_iff.1 hu).1;rw[Iw,hi]at this;exact this
    rw[World.cell?_setCells_out g _ _ _ _ (fun _ _=>Or.inl GK),zk4,World.ownsRow.cellAt h2 j zb];rw[<-hm]at hu;have hsp:cellsOf zw cur=cellsOf zw (cur.take i)++cellsOf zw (cur.drop i):=by rw[<-Xf,List.take_append_drop]
    rw[hsp,zd9 (by rw[Iw,W9];omega)];exact hu
   generalize hP:KM (zs.filter fun z=> !q z) w0=P at*;have hne1:((k0:Int)== -1)=false:=beq_eq_false_iff_ne.2 zb;clear hP hv hno hqk e1;obtain⟨N,hN⟩:∃N,zs.length=N:=⟨_,rfl⟩;have HN:=za hN;rw[hN]at hn hc hk0 HIx⊢;clear hN;go_enter func156,ntmps156;go_wp2_with (go_at_call 190;refine HIx.out.mono ?_;rintro e w2 ⟨rfl,hb2⟩;have HB2:=za (HB0.out.trans (hb2.mono HB0.out.size));have HO2:=za (qi HO.out hb2);clear hb2)
   go_loopg [5,6,7] N (fun gk s5 s6 s7 wr=>∃(i j:Nat) (cur:List At),s5=.int .i64 i/\s6=.int .i64 j/\j<=N/\i<j/\N - j<=gk/\Hid (cur.length=N)/\Hid (Xs q zs cur i j)/\Hid (wr.ownsRow w0.heap.size kc 2 (.slice (some ⟨g,0,none⟩) cur.length c) cur.length (cellsOf zw cur))/\Hid (Below w0.heap.size w0 wr))
   case atStart=>exact⟨k0,k0+1,zs,rfl,zU,zb,zb,zb,HN.out,HSt.out,HO2.out,HB2.out⟩
   case round=>
    obtain⟨i,j,cur,rfl,rfl,hjN,hij,hgg,hcl,hD,hO,hB⟩:=hrel;obtain⟨wo,rfl⟩:∃wo:World,wo=wr:=⟨_,rfl⟩;by_cases hlt:j<N
    · have hltI:(j:Int)<(N:Int):=by omega
      have hjz:j<zs.length:=kz;obtain⟨hcj,hce⟩:=hD.out.at_ hjz;obtain⟨ba,off,ea,c0,c1⟩:=Jd (B:=wo.heap.size) (zr.of_own hO.out) zj hcj;injection ea with ea
      injection ea with ea1 ea2
      subst ea1 ea2;rw[hce,zk4]at c0 c1;have hgW:g<wo.heap.size:=(hO.out.lt g rfl).2;have HC:=za (HQ.out zs[j] (X8 _) (wo.alloc (.cells #[.string zs[j].name,.string zs[j].val] kc)) (hB.out.alloc hB.out.size _));have HSk:=za (fun h=>hD.out.skip hjz h);have HPt:=za (fun h=>hD.out.put hjz h);obtain⟨z,hz⟩:∃z,zs[j]=z:=⟨_,rfl⟩;rw[hz]at HC HSk HPt c0 c1;generalize q z=b at*;clear hcj hce hjz hz;cases b
      · have HD2:=za (HPt.out rfl);have hiI:(i:Int)<(N:Int):=zb;go_wp2_with (go_at_call 157;refine HC.out.mono ?_;rintro e w3 ⟨rfl,hb3⟩;have HO3:=za (qi hO.out (bt zu hb3));have HB3:=za (hB.out.trans ((bt zu hb3).mono hB.out.size):Below w0.heap.size w0 w3);have hq3:=(hb3.block wo.heap.size zl).trans (i5 wo _);have d0:=zd (j:=0) hq3 rfl;have d1:=zd (j:=1) hq3 rfl;(have hci:∀t,t<2->(w3.cell? ⟨g,i*2+t,none⟩).isSome=true:=(fun t ht=>by rw[World.ownsRow.cellAt HO3.out (i*2+t) (by have:=hcl.out;omega),l0 (by rw[Iw];have:=hcl.out;omega)];rfl));obtain⟨uo,hui⟩:=Option.isSome_iff_exists.1 (hci 0 zb);obtain⟨uo1,hui1⟩:=Option.isSome_iff_exists.1 (hci 1 zb);rw[zk3]at hui;(have f1:w3.frozen? ⟨g,i*2,none⟩=false:=World.ownsRow.frozenAt HO3.out (i*2));(have f2:w3.frozen? ⟨g,i*2+1,none⟩=false:=World.ownsRow.frozenAt HO3.out (i*2+1));clear hb3 hci hq3)
        go_roundg (gk - 1)
        case measure=>omega
        case rel=>
         obtain⟨r1,r2⟩:=World.ownsRow.stored HO3.out (i*2) (.string z.name);obtain⟨r3,r4⟩:=World.ownsRow.stored r1 (i*2+1) (.string z.val);refine⟨i+1,j+1,cur.set i z,zU,zU,zb,zb,zb,by rw[List.length_set];exact hcl.out,HD2.out,?_,?_⟩
         · rw[List.length_set,<-Bh cur i z (by have:=hcl.out;omega)];exact r3
         · exact(HB3.out.grown r2 HB3.out.size (fun r e=>Rs)).grown r4 (by have:=HB3.out.size;simpa [World.setCell]using this) (fun r e=>Rs)
      · have HD2:=za (HSk.out rfl);go_wp2_with (go_at_call 157;refine HC.out.mono ?_;rintro e w3 ⟨rfl,hb3⟩;have HO3:=za (qi hO.out (bt zu hb3));have HB3:=za (hB.out.trans ((bt zu hb3).mono hB.out.size):Below w0.heap.size w0 w3);clear hb3)
        go_roundg (gk - 1)
        case measure=>omega
        case rel=>exact⟨i,j+1,cur,rfl,zU,zb,zb,zb,hcl.out,HD2.out,HO3.out,HB3.out⟩
    · obtain rfl:j=N:=by omega
      have hcur:=hcl.out;obtain⟨zz,hz1,hz2,hz3⟩:=zbN (j - i);have hcl2:∀ty,(Builtin.clear_ #[31] ty #[.slice (some ⟨g,i*2,none⟩) (j - i) (c - i)]).run prog wo=.ok (.tuple #[]) (wo.setCells g (i*2) zz):=
       fun ty=>zai wo _ _ ty _ underlying31 za2 g (i*2) _ _ zb zz hz1 (fun t ht=>by rw[World.ownsRow.cellAt hO.out (i*2+t) (by rw[hz2]at ht;omega),l0 (by rw[Iw];rw[hz2]at ht;omega)];rfl) (fun t ht=>World.ownsRow.frozenAt hO.out (i*2+t)) (fun v hv=>by rw[hz3 v hv];rfl)
      have HE:=za (HEnd.out cur i wo zz (by rw[HN.out];exact hz2) (by rw[HN.out];exact hD.out) hO.out hB.out);clear hcur hcl hlt hz1 hz2 hz3;go_wp2;exact HE.out
 · have hno:∀n j (h:j<zs.length),j<n->q zs[j]=false:=by
    intro n;induction n with
    |zero=>intro j _ h;omega
    | succ n ih=>
      intro j hj hjn;rcases Nat.lt_or_ge j n with h1|h1
      · exact ih j hj h1
      · obtain rfl:j=n:=by omega
        rw[Bool.eq_false_iff];exact fun e=>hany ⟨j,hj,e,ih⟩
   have e1:=Nv (l:=zs) (q:=q) fun j hj=>hno (j+1) j hj (zd2 j);rw[e1]at HIx;have hf:(zs.filter fun z=> !q z)=zs:=List.filter_eq_self.2 fun z hz=>by
    obtain⟨j,hj,rfl⟩:=List.getElem_of_mem hz;rw[hno (j+1) j hj (zd2 j)];rfl
   rw[hf];clear hany hno e1 hf;unfold KM;go_enter func156,ntmps156;go_wp2_with (go_at_call 190;refine HIx.out.mono ?_;rintro e w2 ⟨rfl,hb2⟩;have HB2:=za (HB0.out.trans (hb2.mono HB0.out.size));have HO2:=za (qi HO.out hb2);clear hb2)
   go_ret;exact⟨A,c,rfl,zr.of_own HO2.out,HB2.out⟩
theorem zjq(g:Nat)(c:zt)(x:Em)(k:Nat)(s:ByteArray)(w:World)(h:zR w g c x)(hz:Xa c x k)(hs:s.size<=1000000):
 Calls prog 122 #[.pointer (some ⟨g,0,none⟩),.string s] w (KM (c.r.props.l.filter fun p=>zS (L s) (L p.name)) w):=by
 have hpl:=hz.pl;have HPz:=za hz.pz;have HC:=za (fun(W:World) (hW:Below w.heap.size w W)=>PV c.r.props.A c.r.props.c c.r.props.l W zb ((h.keep hW).inp.rc.pr.row));have hbx:=h.box;have q19:w.cell? ⟨g,19,none⟩=some (.slice c.r.props.A c.r.props.l.length c.r.props.c):=zd hbx rfl;have hgl:g<w.heap.size:=zh hbx;clear h hz hbx;generalize c.r.props.l=zs at*;have hfe:(zs.filter fun p=>zS (L s) (L p.name))=zs.filter fun z=> !(!zS (L s) (L z.name)):=zl;rw[hfe];clear hfe;have HF:Hid (∀(m:List At) (e:Ending) (w':World),KM m (w.alloc (.cells #[.string s] 9)) e w'->KM m w e w'):=za fun m e w' h=>by
  obtain⟨A,cc,h1,h2,h3⟩:=h;exact⟨A,cc,h1,h2,bt (zL w _) h3⟩
 have HCl:Hid (∀W,Below (w.alloc (.cells #[.string s] 9)).heap.size (w.alloc (.cells #[.string s] 9)) W->∀z∈zs,Calls prog 157 #[.agg #[.string z.name,.string z.val],.pointer (some ⟨w.heap.size,0,none⟩)] W fun e w'=>e=.returned (.bool (!zS (L s) (L z.name)))/\Below W.heap.size W w'):=za fun W hW z hz=>by
  have hq:=(hW.block w.heap.size zl).trans (i5 w _);exact zdE s z.name z.val w.heap.size W hs (HPz.out z hz) (zh hq) (zd hq rfl)
 go_enter func122,ntmps122;go_wp2_with (first
  |(go_at_call 55;refine(HC.out _ zu).mono ?_;rintro e w2 ⟨A2,n2,rfl,hown,hb2⟩;have HO:=za hown;have HB2:=za hb2;clear hown hb2)
  |(go_at_call 156;obtain⟨A3,n3,e3,hcap⟩:=zgh HO.out;injection e3 with e3 _ e4;subst e3 e4;refine(BD A2 n2 w.heap.size zs (fun z=> !zS (L s) (L z.name)) (w.alloc (.cells #[.string s] 9)) w2 zb HO.out hcap HB2.out (fun z hz W hW=>HCl.out W hW z hz)).mono ?_;rintro e w3 h3;obtain⟨A4,n4,rfl,hr4,hb4⟩:=HF.out _ _ _ h3;clear h3))
 go_ret;refine⟨A4,n4,?_,hr4,hb4⟩
 first|rfl|simp
end
section
open Go.RowKit
structure Z2(w:World):Prop extends Env w where
 u8:Lib.Utf8Tabs 2 3 w
theorem Z2.go{w w':World}(h:Z2 w)(hb:Below w.heap.size w w'):Z2 w':=⟨h.toEnv.go hb,Utf8Tabs_below h.u8 hb⟩
theorem Z2.u{w:World}(h:Z2 w):K3 w:=⟨h.toEnv.toEnv0,h.u8⟩
def kx(c:zt):Prop:=∀(name:ByteArray) (W:World),qj W c.tA c.tds->Z2 W->name.size<=1000000->Calls prog 123 #[.string name,zV c.tA c.tds c.tc,.int .i64 c.ix] W (Yv W (QM name (zm c.tds) c.ix))
theorem Nu{l:List At}{k v:ByteArray}{n:Nat}(h:l.length<=n/\∀x∈l,x.name.size<=100)(hk:k.size<=100):(zO l k v).length<=n+1/\∀x∈zO l k v,x.name.size<=100:=by
 unfold zO
 split
 · exact⟨Nat.le_succ_of_le h.1,h.2⟩
 · refine⟨i3 (Np _ _) (Nat.succ_le_succ h.1),fun x hx=>?_⟩;rcases Mg hx with h1|⟨rfl,_⟩
   · exact h.2 x h1
   · exact hk
theorem Rz{l:List At}{k h:ByteArray}{v:Option ByteArray}{n:Nat}(hl:l.length<=n/\∀x∈l,x.name.size<=100)(hk:k.size<=100):(YX l k h v).length<=n+1/\∀x∈YX l k h v,x.name.size<=100:=by
 unfold YX
 split
 · split
   · exact Nu hl hk
   · exact⟨Nat.le_succ_of_le hl.1,hl.2⟩
 · exact⟨Nat.le_succ_of_le hl.1,hl.2⟩
theorem jH:([]:List At).length<=0/\∀x∈([]:List At),x.name.size<=100:=⟨zo,fun _ h=>qI⟩
theorem zb7{l:List At}{n m:Nat}(h:l.length<=n/\∀x∈l,x.name.size<=100)(hm:n<=m):l.length<=m/\∀x∈l,x.name.size<=100:=⟨i3 h.1 hm,h.2⟩
theorem zcp(nm:ByteArray)(l:List Dd)(n:Int):(QM nm l n).length<=3/\∀x∈QM nm l n,x.name.size<=100:=by
 unfold QM
 split
 · unfold Uv
   split
   · refine⟨by show 2<=3;omega,fun x hx=>?_⟩;simp only[List.mem_cons,List.not_mem_nil,or_false]at hx;rcases hx with rfl|rfl
     · show I0.size<=100;decide
     · show I1.size<=100;decide
   · exact Ky
 split
 · split
   · unfold UQ
     split
     · split
       · exact Nu (Nu (Nu jH zi) zi) zi
       · exact Ky
     · exact Ky
   · exact Ky
 split
 · split
   · unfold Vw
     split
     · exact Rz (Rz (Rz jH zi) zi) zi
     · exact Ky
   · exact Ky
 · exact Ky
theorem zjT(o:ByteArray):(YU o).length<=o.size+1:=i3 (List.length_filterMap_le _ _) (GS o 59)
theorem Env.grown{w w':World}{g:Nat}(h:Env w)(hg:w.grownBy w' (some g))(hn:nG<=g):Env w':=h.keep (CO hg hn h.toEnv0.size) zo
theorem Z2.grown{w w':World}{g:Nat}(h:Z2 w)(hg:w.grownBy w' (some g))(hn:nG<=g):Z2 w':=by
 have hb:=CO hg hn h.toEnv.toEnv0.size;have e1:2<nG:=zi;have e2:3<nG:=zi;refine⟨h.toEnv.grown hg hn,fun c hc=>?_,fun i hi=>⟨?_,?_⟩⟩
 · exact(hb.cell e1).trans (h.u8.1 c hc)
 · exact(hb.cell e2).trans (h.u8.2 i hi).1
 · exact(hb.cell e2).trans (h.u8.2 i hi).2
attribute [local go_sem ↓] kR Kd
def FdE(w:World)(g:Nat)(c:zt)(x0 x:Em)(l:List At)(b:Bool)(W:World):Prop:=∀(e:Ending) (W5:World),Jr W (Uy x.dr.d l) e W5->∃y,e=.returned (.agg (zI y))/\(Zo qn (.pointer (some ⟨g,0,none⟩)) (.agg (zI y))).run prog W5=.ok () (W5.setRow g (qW c {x with dr:=y}))/\KV w g c x0 (Y5 x.e l) (.bool b) (.returned (.bool b)) (W5.setRow g (qW c {x with dr:=y}))
theorem GO{w w0 W:World}{g:Nat}{c:zt}{x0 x:Em}(h:zR w0 g c x)(h0:w.grownBy w0 (some g))(hf:Fr w x0 x)(hW:Below w0.heap.size w0 W)(l:List At)(b:Bool):FdE w g c x0 x l b W:=fun e W5 hP=>by
 obtain⟨y,rfl,hy,hst,h6,g6,f6⟩:=h.put hW hP;refine⟨y,rfl,hst,_,rfl,?_,h6,h0.trans g6,hf.trans f6 h0.size⟩;unfold Em.e Y5;dsimp only;rw[hy]
 try rfl
theorem zkH(g:Nat)(c:zt)(x:Em)(k:Nat)(t:Tm)(w:World)(h:zR w g c x)(hz:Xa c x k)(hk1:k+1<=100000)(hE:Z2 w)(hg:nG<=g)(hs:t.value.size<=1000000)(hR:kx c):
 Calls prog 96 #[.pointer (some ⟨g,0,none⟩),qk t] w (KV w g c x (Qh c.c x.e t).1 (.bool (Qh c.c x.e t).2)):=by
 obtain⟨ky,nmm,op,vl⟩:=t;dsimp only at hs;obtain⟨w1,hw1⟩:∃w1,w.alloc (.cells #[.int .i64 ky,.string nmm,.int .i64 op,.string vl] 52)=w1:=⟨_,rfl⟩;have hb1:Below w.heap.size w w1:=ZX;have hr1:w1.heap[w.heap.size]? =some (.cells #[.int .i64 ky,.string nmm,.int .i64 op,.string vl] 52 (0,0)):=Qo;have hs1:w1.heap.size=w.heap.size+1:=YO;have HSx:Hid (∀W:World,(∀b,b<w1.heap.size->b≠g->W.heap[b]? =w1.heap[b]?)->W.cell? ⟨w.heap.size,0,none⟩=some (.int .i64 ky)/\W.cell? ⟨w.heap.size,1,none⟩=some (.string nmm)/\W.cell? ⟨w.heap.size,2,none⟩=some (.int .i64 op)/\W.cell? ⟨w.heap.size,3,none⟩=some (.string vl)):=za fun W hW=>by
  have h2:=(hW _ (zh hr1) (by have:=zh h.box;omega)).trans hr1;exact yN
 have h1:=h.keep hb1;have hgl:g<w.heap.size:=zh h.box;have hgW:g<w1.heap.size:=zb;have hlW:w.heap.size<w1.heap.size:=zb;have hne:w.heap.size≠g:=zb;have hg1:=zG hb1 (some g);have q32:w1.cell? ⟨g,32,none⟩=some (.int .i64 c.dev.pa):=zd h1.box rfl;have q15:w1.cell? ⟨g,15,none⟩=some (.slice c.tA c.tds.length c.tc):=zd h1.box rfl;have q16:w1.cell? ⟨g,16,none⟩=some (.int .i64 c.ix):=zd h1.box rfl;have HC:=za (D5 g c x k vl w1 h1 hz (hE.toEnv.go hb1) hs);have HI:=za (zjq g c x k vl w1 h1 hz hs);have HRn:=za (hR vl w1 h1.inp.tr (hE.go hb1) hs);have hpl:=hz.pl;have hpz:=hz.pz;have hpv:∀y∈c.r.props.l,y.val.size<=1000000:=hz.ok.par;have hbv:∀y∈QM vl (zm c.tds) c.ix,y.val.size<=1000000:=hz.ok.bui vl;have hIm:∀(x:Em) (kd:Nat) (W0 W:World) (A:Option Addr) (cc:Nat) (l:List At),zR W0 g c x->Below W0.heap.size W0 W->zH x.dr.d kd->kd<=100000->zr W W.heap.size A 2 l.length (cellsOf zw l)->l.length<=100000->(∀p∈l,p.name.size<=1000000/\p.val.size<=1000000)->Calls prog 124 #[.agg (zI x.dr),.slice A l.length cc] W (Jr W (Uy x.dr.d l)):=fun x kd W0 W A cc l h0 hW hG hkd hr hl hv=>zkL x.dr A cc l kd W (h0.keep hW).dr hG hkd hr hl hv;unfold qk;have HW1:=za hw1;have HB1:=za hb1;have HH1:=za h1;have HG1:=za hg1;have HIm:=za hIm;have HZ:=za hz;have hE0:=hE;have hR0:=hR;obtain⟨c0,c1,c2,c3⟩:=HSx.out w1 (fun _ _ _=>rfl);by_cases e1:L nmm=RA
 · have b1:(nmm.toList==[112,114,111,103,114,97,109])=true:=by rw[tl,e1];decide
   have hF:Qh c.c x.e ⟨ky,nmm,op,vl⟩=(Y5 (QL x.e (qN c.c x.e vl).2.1) (YU (qN c.c x.e vl).1),(qN c.c x.e vl).2.2==0):=by unfold Qh;rw[if_pos e1]
   have hcs:(qN c.c x.e vl).1.size<=256/\0<=(qN c.c x.e vl).2.1/\(qN c.c x.e vl).2.1<=1000:=by
    have h3:=NF hz.ok.hp x.dr.calls (Qp c.c x.e vl);exact⟨h3.2.2.1,h3.1,Int.le_trans h3.2.1 hz.ok.hp.2.1⟩
   have hgt:zH (QL x.e (qN c.c x.e vl).2.1).dr (k+1):=zH.tick hz.gd hcs.2.1 hcs.2.2;have hil:=zjT (qN c.c x.e vl).1;have hiz:=fun(p:At) (hp:p∈YU (qN c.c x.e vl).1)=>DT p hp;have HItm:=za (fun(W:World) (hW:Env0 W)=>zfS (qN c.c x.e vl).1 W hW zb);rw[hF];generalize hR9:qN c.c x.e vl=R at*;obtain⟨ou,ti,en⟩:=R;dsimp only at*;have HGt:=za hgt;have HIz:=za (show(YU ou).length<=100000/\∀p∈YU ou,p.name.size<=1000000/\p.val.size<=1000000 from⟨zb,fun p hp=>by have:=hiz p hp;omega⟩);clear hF hcs hgt hil hiz hw1 hb1 hr1 hs1 h hz hE hR h1 hg1 hpl hpz hpv hbv hIm hR9 HI HRn q32 q15 q16;have HE2:=za (fun(W:World) (h9:w1.grownBy W (some g))=>(hE0.grown (HG1.out.trans h9) hg));go_enter func96,ntmps96;go_upto_region 1 with fail
   rw[HW1.out];go_wp2_with (first
    |(go_at_call 95;refine HC.out.mono ?_;rintro e w2 ⟨x2,rfl,hx2,h2,g2,f2⟩;have HF2:=za f2;have HX2:=za hx2;have HO2:=za h2;have HG2:=za g2;have hE2:=HE2.out w2 g2;have HEE:=za hE2.toEnv.toEnv0;clear hx2 h2 g2 f2 hE2 c0 c1 c2 c3)
    |(go_at_call 121;refine(HItm.out w2 HEE.out).mono ?_;rintro e w3 ⟨A3,n3,rfl,hown,hb3⟩;have HR3:=za (zr.of_own hown);have HB3:=za hb3;have hld:=Kc (HO2.out.keep hb3);clear hown hb3)
    |(go_at_call 124;refine(HIm.out x2 (k+1) w2 w3 A3 n3 (YU ou) HO2.out HB3.out (by rw[show x2.dr.d=x2.e.dr from rfl,HX2.out];exact HGt.out) hk1 HR3.out HIz.out.1 HIz.out.2).mono ?_;rintro e w5 hP;obtain⟨y,rfl,hst,hEnd⟩:=GO HO2.out (HG1.out.trans HG2.out) ((Fr.same rfl rfl).trans HF2.out HB1.out.size) HB3.out (YU ou) (en==0) _ _ hP;have HEnd:=za hEnd;clear hP hEnd hld))
   go_ret;have h9:=HEnd.out;rw[HX2.out]at h9;exact h9
 · have b1:(nmm.toList==[112,114,111,103,114,97,109])=false:=by
    rw[tl,Bool.eq_false_iff];intro e;exact e1 (by simpa [RA]using e)
   have hE0':=hE0;clear hR HC;by_cases e2:L nmm=P5
   · have b2:(nmm.toList==[112,97,114,101,110,116])=true:=by rw[tl,e2];decide
     clear HRn q15 q16 hbv;by_cases hp:c.dev.pa=0
     · have hF:Qh c.c x.e ⟨ky,nmm,op,vl⟩=(Y5 x.e [],false):=by unfold Qh;rw[if_neg e1,if_pos e2,if_pos (show c.c.dev.pa=0 from hp)]
       rw[hF];rw[hp]at q32;have HI0:=za (hIm x k w1 w1 none 0 [] h1 zj hz.gd hz.kk zE.nil.row zi (fun p hp=>by cases hp));have HFd:=za (GO h1 hg1 (x0:=x) (Fr.same rfl rfl) zj [] false);have hld:=Kc h1;clear hF hw1 hb1 hr1 hs1 h hz hE h1 hg1 hpl hpz hpv hIm HI HIm;exact SY
     · have hF:Qh c.c x.e ⟨ky,nmm,op,vl⟩=(Y5 x.e (c.r.props.l.filter fun p=>zS (L vl) (L p.name)),true):=by unfold Qh;rw[if_neg e1,if_pos e2,if_neg (show¬c.c.dev.pa=0 from hp)];rfl
       rw[hF];have HIz:=za (show(c.r.props.l.filter fun p=>zS (L vl) (L p.name)).length<=100000/\∀p∈(c.r.props.l.filter fun p=>zS (L vl) (L p.name)),p.name.size<=1000000/\p.val.size<=1000000 from⟨i3 (List.length_filter_le _ _) zb,fun p hp=>⟨hpz p (List.mem_filter.1 hp).1,hpv p (List.mem_filter.1 hp).1⟩⟩);have HGd:=za (show zH x.dr.d k/\k<=100000 from⟨hz.gd,hz.kk⟩);generalize (c.r.props.l.filter fun p=>zS (L vl) (L p.name))=fl at*;clear hF hw1 hb1 hr1 hs1 h hz hE h1 hg1 hpl hpz hpv hIm;go_enter func96,ntmps96;go_upto_region 1 with fail
       rw[HW1.out];go_wp2_with (first
        |(go_at_call 122;refine HI.out.mono ?_;rintro e w3 ⟨A3,n3,rfl,hr3,hb3⟩;have HR3:=za hr3;have HB3:=za hb3;have hld:=Kc (HH1.out.keep hb3);clear hr3 hb3 c0 c1 c2 c3 q32)
        |(go_at_call 124;refine(HIm.out x k w1 w3 A3 n3 fl HH1.out HB3.out HGd.out.1 HGd.out.2 HR3.out HIz.out.1 HIz.out.2).mono ?_;rintro e w5 hP;obtain⟨y,rfl,hst,hEnd⟩:=GO HH1.out HG1.out (x0:=x) (Fr.same rfl rfl) HB3.out fl true _ _ hP;have HEnd:=za hEnd;clear hP hEnd hld))
       go_ret;exact HEnd.out
   · have b2:(nmm.toList==[112,97,114,101,110,116])=false:=by
      rw[tl,Bool.eq_false_iff];intro e;exact e2 (by simpa [P5]using e)
     clear HI q32;by_cases e3:L nmm=TH
     · have b3:(nmm.toList==[98,117,105,108,116,105,110])=true:=by rw[tl,e3];decide
       have hF:Qh c.c x.e ⟨ky,nmm,op,vl⟩=(Y5 x.e (QM vl (zm c.tds) c.ix),!(QM vl (zm c.tds) c.ix).isEmpty):=by unfold Qh;rw[if_neg e1,if_neg e2,if_pos e3];rfl
       rw[hF];have hsm:=zcp vl (zm c.tds) c.ix;have HIz:=za (show(QM vl (zm c.tds) c.ix).length<=100000/\∀p∈QM vl (zm c.tds) c.ix,p.name.size<=1000000/\p.val.size<=1000000 from⟨zb,fun p hp=>⟨by have:=hsm.2 p hp;omega,hbv p hp⟩⟩);have HGd:=za (show zH x.dr.d k/\k<=100000 from⟨hz.gd,hz.kk⟩);have HRu:=za (fun(W:World) (hW:Below w1.heap.size w1 W)=>hR0 vl W ((h1.keep hW).inp.tr) (hE0.go (bt hb1 hW)) hs);have HQ:Hid (∀W',Below w1.heap.size w1 W'->W'.cell? ⟨w.heap.size,3,none⟩=some (.string vl)/\W'.cell? ⟨g,15,none⟩=some (.slice c.tA c.tds.length c.tc)/\W'.cell? ⟨g,16,none⟩=some (.int .i64 c.ix)):=za fun W' hW'=>by
        have h3:=(h1.keep hW').box;exact⟨(HSx.out W' (fun b hb _=>hW'.block b hb)).2.2.2,zd h3 rfl,zd h3 rfl⟩
       generalize QM vl (zm c.tds) c.ix=fl at*;unfold zV at*;clear hF hw1 hb1 hr1 hs1 h hz hE h1 hg1 hpl hpz hpv hIm hsm hbv HRn;go_enter func96,ntmps96;go_upto_region 1 with fail
       rw[HW1.out];go_upto_region 13 with fail
       go_region_held3 (fun W'=>W'.cell? ⟨w.heap.size,3,none⟩=some (.string vl)/\W'.cell? ⟨g,15,none⟩=some (.slice c.tA c.tds.length c.tc)/\W'.cell? ⟨g,16,none⟩=some (.int .i64 c.ix)) ((refine HQ.out _ ?_;first|exact zj.drew|exact hB3)) ((go_at_call 123;refine(HRu.out w1.drew zj.drew).mono ?_;rintro e w3 ⟨A3,n3,rfl,hr3,hb3⟩;(have hB3:Below w1.heap.size w1 w3:=bt zj.drew hb3)))
       have HR3:=za hr3.row.row;have HB3:=za hB3;have hld:=Kc (HH1.out.keep hB3);clear hr3 hb3 hB3 c0 c1 c2 c3 q15 q16;have hlen:decide ((0:Int)<(fl.length:Int))= !fl.isEmpty:=by cases fl<;>simp
       go_wp2_with (go_at_call 124;refine(HIm.out x k w1 w3 A3 n3 fl HH1.out HB3.out HGd.out.1 HGd.out.2 HR3.out HIz.out.1 HIz.out.2).mono ?_;rintro e w5 hP;obtain⟨y,rfl,hst,hEnd⟩:=GO HH1.out HG1.out (x0:=x) (Fr.same rfl rfl) HB3.out fl (!fl.isEmpty) _ _ hP;have HEnd:=za hEnd;clear hP hEnd hld)
       go_ret;refine(show∀b,b=(!fl.isEmpty)->KV w g c x (Y5 x.e fl) (.bool (!fl.isEmpty)) (.returned (.bool b)) _ from fun b hb=>by rw[hb];exact HEnd.out) _ ?_;cases fl<;>simp
     · have b3:(nmm.toList==[98,117,105,108,116,105,110])=false:=by
        rw[tl,Bool.eq_false_iff];intro e;exact e3 (by simpa [TH]using e)
       have hF:Qh c.c x.e ⟨ky,nmm,op,vl⟩=(Y5 x.e [],false):=by unfold Qh;rw[if_neg e1,if_neg e2,if_neg e3]
       rw[hF];have HI0:=za (hIm x k w1 w1 none 0 [] h1 zj hz.gd hz.kk zE.nil.row zi (fun p hp=>by cases hp));have HFd:=za (GO h1 hg1 (x0:=x) (Fr.same rfl rfl) zj [] false);have hld:=Kc h1;clear hF hw1 hb1 hr1 hs1 h hz hE h1 hg1 hpl hpz hpv hIm HIm HRn hbv q15 q16;exact SY
end
section
open Go.RowKit
theorem zbD(c:zt)(x:Em)(d:Dv):Z5 (qW c x) 43 (zq d).toList=qW c {x with ab:=d}:=zg
theorem zR.resS{w:World}{g:Nat}{c:zt}{x:Em}(h:zR w g c x)(s:ByteArray):zR (w.setCell ⟨g,10,none⟩ (.string s)) g c {x with dr:={x.dr with res:=s}}/\w.grownBy (w.setCell ⟨g,10,none⟩ (.string s)) (some g):=
 h.one 10 _ {x with dr:={x.dr with res:=s}} rfl ⟨h.dr.pr,h.dr.tg,h.dr.lk,h.dr.rn,h.dr.ld,h.dr.cl⟩ h.ab h.offx
theorem zR.reS{w:World}{g:Nat}{c:zt}{x:Em}(h:zR w g c x)(b:Bool):zR (w.setCell ⟨g,53,none⟩ (.bool b)) g c {x with re:=b}/\w.grownBy (w.setCell ⟨g,53,none⟩ (.bool b)) (some g):=
 h.one 53 _ {x with re:=b} rfl h.dr h.ab h.offx
theorem zR.abS{w w5:World}{g:Nat}{c:zt}{x:Em}(h:zR w g c x)(hb:Below w.heap.size w w5)(d:Dv)(hd:ZM w5 d)(hf:∀p,d.ats.A=some p->p.block≠g):zR (w5.setRow g (qW c {x with ab:=d})) g c {x with ab:=d}/\w.grownBy (w5.setRow g (qW c {x with ab:=d})) (some g):=
 h.set hb {x with ab:=d} (h.dr.keep hb) hd (fun a ha=>by
  rcases List.mem_append.1 ha with h1|h1
  · exact h.offx a (List.mem_append_left _ h1)
  · rw[List.mem_singleton.1 h1];exact hf)
theorem JS(v:Value):Instr.loadAt zp v=qD zp v:=Kg
theorem GP(v u:Value):Instr.storeAt zp v u=Zo zp v u:=kQ
theorem EZ{w:World}{g:Nat}{c:zt}{x:Em}(h:w.heap[g]? =some (.cells (qW c x) Ve (0,0))):(qD zp (.pointer (some ⟨g,31,none⟩))).run prog w=.ok (zY c.dev) w:=
 UI (P:=prog) (w:=w) (T:=zp) (n:=10) (g:=g) (o:=31) (cs:=qW c x) JJ Jp h (by show 31+10<=54;omega)
theorem LD{w:World}{g:Nat}{c:zt}{x:Em}(h:w.heap[g]? =some (.cells (qW c x) Ve (0,0)))(d:Dv):(Zo zp (.pointer (some ⟨g,43,none⟩)) (zY d)).run prog w=.ok () (w.setRow g (qW c {x with ab:=d})):=by
 have h1:=XU (P:=prog) (w:=w) (T:=zp) (g:=g) (o:=43) (cs:=qW c x) (vs:=zq d) h (by show 43+10<=54;omega) jJ Zf (O2 d);rw[zbD]at h1;exact h1
theorem Xa.dok{c:zt}{x:Em}{k:Nat}(h:Xa c x k){w:World}(ht:qj w c.tA c.tds){d:Dv}(hd:d.d∈zm c.tds):VJ d:=by
 have h1:=h.dv _ hd;exact⟨i3 h1.1.og zi,i3 h1.2.1 zi,i3 h1.2.2.1 zi,fun x hx=>i3 (h1.2.2.2.2.2 x hx) zi,i3 (h.atl w ht hd) zi⟩
theorem Xa.drz{c:zt}{x:Em}{k:Nat}(h:Xa c x k):D4 x.dr.d:=⟨i3 h.gd.pl zi,h.gd.pv,h.gd.rs,i3 h.gd.tl zi,h.gd.tv⟩
theorem Es{l:List Tm}{ds:List Dd}{n:Int}{a:Dd}(h:Q1 l ds n=some a):a∈ds:=Jj (List.mem_of_find?_eq_some h)
def QS(g:Nat)(w W:World):Prop:=∀b,b<w.heap.size->b≠g->W.heap[b]? =w.heap[b]?
theorem QS.refl(g:Nat)(w:World):QS g w w:=fun _ _ _=>rfl
theorem QS.of{g:Nat}{w W:World}(h:w.grownBy W (some g)):QS g w W:=fun _b hb hn=>ze6 h hb hn
theorem QS.below{g:Nat}{w W:World}(h:Below w.heap.size w W):QS g w W:=fun b hb _=>h.block b hb
structure Kr(g:Nat)(c:zt)(x:Em)(k:Nat)(t:Tm)(y:Rl)(w:World):Prop where
 h:zR w g c x
 hz:Xa c x k
 k1:k+1<=100000
 hE:Z2 w
 hg:nG<=g
 hs:t.value.size<=1000000
def UT(g:Nat)(c:zt)(x:Em)(t:Tm)(y:Rl)(w:World):Prop:=
 Calls prog 74 #[.pointer (some ⟨g,0,none⟩),qk t,.agg #[.string y.file,.int .i64 y.line,.slice y.tms.A y.tms.l.length y.tms.c]] w (KV w g c x (qJ c.c y.tms.l x.e t).1 (.bool (qJ c.c y.tms.l x.e t).2))
abbrev Kp(a:Nat)(ky:Int)(nmm:ByteArray)(op:Int)(vl:ByteArray)(W:World):Prop:=
 W.cell? ⟨a,0,none⟩=some (.int .i64 ky)/\W.cell? ⟨a,1,none⟩=some (.string nmm)/\W.cell? ⟨a,2,none⟩=some (.int .i64 op)/\W.cell? ⟨a,3,none⟩=some (.string vl)
def yK(g:Nat)(w:World)(ky:Int)(nmm:ByteArray)(op:Int)(vl:ByteArray)(w1:World)(b:Bool)(e:Ending)(W:World):Prop:=
 e=.returned (.bool b)/\Below w1.heap.size w1 W/\g<W.heap.size/\w.heap.size<W.heap.size/\w.heap.size+1<W.heap.size/\Kp w.heap.size ky nmm op vl W
structure UC(g:Nat)(w:World)(ky:Int)(nmm:ByteArray)(op:Int)(vl:ByteArray)(y:Rl)(w1:World):Prop where
 W:(w.alloc (.cells #[.int .i64 ky,.string nmm,.int .i64 op,.string vl] Ug)).alloc (.cells #[.string y.file,.int .i64 y.line,.slice y.tms.A y.tms.l.length y.tms.c] 56)=w1
 B:Below w.heap.size w w1
 Sx:∀W,QS g w1 W->Kp w.heap.size ky nmm op vl W
 Sy:∀W,QS g w1 W->W.cell? ⟨w.heap.size+1,2,none⟩=some (.slice y.tms.A y.tms.l.length y.tms.c)
 St:∀W,Below w1.heap.size w1 W->Calls prog 91 #[.agg #[.int .i64 ky,.string nmm,.int .i64 op,.string vl]] W (yK g w ky nmm op vl w1 (Z0 ⟨ky,nmm,op,vl⟩))
 Up:∀W,Below w1.heap.size w1 W->Calls prog 93 #[.agg #[.int .i64 ky,.string nmm,.int .i64 op,.string vl]] W (yK g w ky nmm op vl w1 (qT ⟨ky,nmm,op,vl⟩))
theorem Ql{g:Nat}{w:World}(y:Rl)(ky:Int)(nmm:ByteArray)(op:Int)(vl:ByteArray)(hgl:g<w.heap.size):∃w1,UC g w ky nmm op vl y w1/\g<w1.heap.size/\w.heap.size<w1.heap.size/\w.heap.size+1<w1.heap.size:=by
 obtain⟨w1,hw1⟩:∃w1,(w.alloc (.cells #[.int .i64 ky,.string nmm,.int .i64 op,.string vl] Ug)).alloc (.cells #[.string y.file,.int .i64 y.line,.slice y.tms.A y.tms.l.length y.tms.c] 56)=w1:=⟨_,rfl⟩;have hb1:Below w.heap.size w w1:=Vl;have hr1:w1.heap[w.heap.size]? =some (.cells #[.int .i64 ky,.string nmm,.int .i64 op,.string vl] Ug (0,0)):=kh;have hr2:w1.heap[w.heap.size+1]? =some (.cells #[.string y.file,.int .i64 y.line,.slice y.tms.A y.tms.l.length y.tms.c] 56 (0,0)):=by
  rw[<-hw1];have:=i5 (w.alloc (.cells #[.int .i64 ky,.string nmm,.int .i64 op,.string vl] Ug)) (.cells #[.string y.file,.int .i64 y.line,.slice y.tms.A y.tms.l.length y.tms.c] 56);exact QN
 have hs1:w1.heap.size=w.heap.size+2:=YO;have hx:∀W,QS g w1 W->Kp w.heap.size ky nmm op vl W:=fun W hW=>by
  have h2:=(hW _ (zh hr1) zb).trans hr1;exact yN
 have ha:∀(W W':World) (b:Bool) (e:Ending),Below w1.heap.size w1 W->(e=.returned (.bool b)/\Below W.heap.size W W')->yK g w ky nmm op vl w1 b e W':=fun W W' b e hW h=>by
  have hb:=bt hW h.2;have hz:=hb.size;exact⟨h.1,hb,zb,zb,zb,hx _ (QS.below hb)⟩
 exact⟨w1,⟨hw1,hb1,hx,fun W hW=>zd ((hW _ (zh hr2) zb).trans hr2) rfl,fun W hW=>(zb9 ⟨ky,nmm,op,vl⟩ W).mono fun e W' h=>ha W W' _ e hW h,fun W hW=>(vf ⟨ky,nmm,op,vl⟩ W).mono fun e W' h=>ha W W' _ e hW h⟩,zb,zb,zb⟩
end
section
open Go.RowKit
attribute [local go_sem ↓] kR Kd JS GP
theorem zdB{g:Nat}{c:zt}{x:Em}{k:Nat}{t:Tm}{y:Rl}{w:World}(H:Kr g c x k t y w)(hS:Z0 t=true):UT g c x t y w:=by
 obtain⟨ky,nmm,op,vl⟩:=t;have hs:vl.size<=1000000:=H.hs;obtain⟨w1,HP,hgW,hlW,hlX⟩:=Ql y ky nmm op vl (zh H.h.box);have h1:=H.h.keep HP.B;have HH1:=za h1;have HG1:=za (zG HP.B (some g));have HSt:=za HP.St;have HUp:=za HP.Up;rw[hS]at HSt;have HD:=za (fun(W:World) (hW:Below w1.heap.size w1 W)=>FI ⟨ky,nmm,op,vl⟩ c.dev W QW (H.hz.dok H.h.inp.tr H.hz.dev) ((h1.dev.keep hW).row));have HQ:Hid (∀W',Below w1.heap.size w1 W'->Kp w.heap.size ky nmm op vl W'/\(qD zp (.pointer (some ⟨g,31,none⟩))).run prog W'=.ok (zY c.dev) W'):=za fun W' hW'=>⟨HP.Sx W' (QS.below hW'),EZ ((hW'.block _ hgW).trans h1.box)⟩;unfold UT;rw[show qJ c.c y.tms.l x.e ⟨ky,nmm,op,vl⟩=(x.e,YK ⟨ky,nmm,op,vl⟩ c.dev) by unfold qJ;rw[if_pos hS];rfl];generalize YK ⟨ky,nmm,op,vl⟩ c.dev=bb at*;clear HUp h1;unfold qk at*;go_enter func74,ntmps74;go_upto_region 1 with fail
 rw[HP.W];obtain⟨c0,c1,c2,c3⟩:=HP.Sx w1 (QS.refl _ _);go_upto_region 2 with(go_at_call 91;refine(HSt.out _ zj).mono ?_;rintro e w2 ⟨rfl,hb2,hgW2,hlW2,hlX2,d0,d1,d2,d3⟩;have HB2:=za hb2;clear hb2 c0 c1 c2 c3)
 go_region_held3 (fun W'=>Kp w.heap.size ky nmm op vl W'/\(qD zp (.pointer (some ⟨g,31,none⟩))).run prog W'=.ok (zY c.dev) W') ((refine HQ.out _ ?_;first|exact bt HB2.out zj.drew|exact hB3)) ((go_at_call 92;refine(HD.out _ (bt HB2.out zj.drew)).mono ?_;rintro e w3 ⟨rfl,hb3⟩;(have hB3:Below w1.heap.size w1 w3:=bt (bt HB2.out zj.drew) hb3)))
 go_wp2;go_ret;exact⟨x,rfl,rfl,HH1.out.keep hB3,HG1.out.trans (zG hB3 _),Fr.same rfl rfl⟩
theorem zeZ{g:Nat}{c:zt}{x:Em}{k:Nat}{t:Tm}{y:Rl}{w:World}(H:Kr g c x k t y w)(hS:Z0 t=false)(hU:qT t=true)(hre:x.re=true):UT g c x t y w:=by
 obtain⟨ky,nmm,op,vl⟩:=t;have hs:vl.size<=1000000:=H.hs;obtain⟨w1,HP,hgW,hlW,hlX⟩:=Ql y ky nmm op vl (zh H.h.box);have h1:=H.h.keep HP.B;have HH1:=za h1;have HG1:=za (zG HP.B (some g));have HSt:=za HP.St;have HUp:=za HP.Up;rw[hS]at HSt;rw[hU]at HUp;unfold UT;rw[show qJ c.c y.tms.l x.e ⟨ky,nmm,op,vl⟩=(x.e,true) by
  unfold qJ;rw[hS,if_neg zl,hU,if_pos rfl,if_pos (show x.e.re=true from hre)]]
 have HQ:Hid (∀W',Below w1.heap.size w1 W'->W'.cell? ⟨g,53,none⟩=some (.bool true)):=za fun W' hW'=>by rw[<-hre];exact zd ((hW'.block _ hgW).trans h1.box) rfl
 clear hS hU hre h1;unfold qk at*;go_enter func74,ntmps74;go_upto_region 1 with fail
 rw[HP.W];obtain⟨c0,c1,c2,c3⟩:=HP.Sx w1 (QS.refl _ _);go_wp2_with (first
  |(go_at_call 91;refine(HSt.out _ zj).mono ?_;rintro e w2 ⟨rfl,hb2,hgW2,hlW2,hlX2,d0,d1,d2,d3⟩;have HB2:=za hb2;clear hb2 c0 c1 c2 c3)
  |(go_at_call 93;refine(HUp.out _ HB2.out).mono ?_;rintro e w3 ⟨rfl,hb3,hgW3,hlW3,hlX3,e0,e1,e2,e3⟩;have HB3:=za hb3;have q53:=HQ.out w3 HB3.out;clear hb3 d0 d1 d2 d3))
 go_ret;exact⟨x,rfl,rfl,HH1.out.keep HB3.out,HG1.out.trans (zG HB3.out _),Fr.same rfl rfl⟩
end
section
open Go.RowKit
attribute [local go_sem ↓] kR Kd JS GP
theorem zdJ{g:Nat}{c:zt}{x:Em}{k:Nat}{t:Tm}{y:Rl}{w:World}(H:Kr g c x k t y w)(hS:Z0 t=false)(hU:qT t=true)(hre:x.re=false)(hr:zE w y.tms.A 4 y.tms.l.length (cellsOf zQ y.tms.l))(hnil:y.tms.A=none->y.tms.c=0)(hoff:∀p,y.tms.A=some p->p.block≠g)(hl:y.tms.l.length<=1000000)(hv:∀t∈y.tms.l,t.value.size<=1000000):UT g c x t y w:=by
 obtain⟨ky,nmm,op,vl⟩:=t;have hs:vl.size<=1000000:=H.hs;obtain⟨w1,HP,hgW,hlW,hlX⟩:=Ql y ky nmm op vl (zh H.h.box);have h1:=H.h.keep HP.B;have HH1:=za h1;have HG1:=za (zG HP.B (some g));have HSt:=za HP.St;have HUp:=za HP.Up;rw[hS]at HSt;rw[hU]at HUp;have hz:=H.hz;have hi:=H.h.inp.tr;have HF:=za (show qJ c.c y.tms.l x.e ⟨ky,nmm,op,vl⟩=match Q1 y.tms.l (zm c.tds) c.ix with|none=>({x.e with re:=true},false)|some a=>({x.e with ab:=a,re:=true},true) by
  unfold qJ;rw[hS,if_neg zl,hU,if_pos rfl,if_neg (show¬x.e.re=true by show¬x.re=true;rw[hre];simp)];show(match Q1 y.tms.l (zm c.tds) c.ix with|some a=>_|none=>_)=_;cases Q1 y.tms.l (zm c.tds) c.ix<;>rfl)
 have HQ:Hid (∀W',Below w1.heap.size w1 W'->W'.cell? ⟨g,53,none⟩=some (.bool false)/\W'.frozen? ⟨g,53,none⟩=false/\zR (W'.setCell ⟨g,53,none⟩ (.bool true)) g c {x with re:=true}/\w1.grownBy (W'.setCell ⟨g,53,none⟩ (.bool true)) (some g)):=za fun W' hW'=>by
  have hb:=(hW'.block _ hgW).trans h1.box;obtain⟨k1,k2⟩:=(h1.keep hW').reS true;exact⟨by rw[<-hre];exact zd hb rfl,qe hb 53,k1,(zG hW' _).trans k2⟩
 have HR1:=za (hr.keep HP.B);have HAn:Hid (∀W,zR W g c {x with re:=true}->w1.grownBy W (some g)->Calls prog 94 #[.slice y.tms.A y.tms.l.length y.tms.c,.agg #[.slice c.tA c.tds.length c.tc],.int .i64 c.ix] W (Nc (Q1 y.tms.l (zm c.tds) c.ix) W)):=za fun W hW hgr=>
  zhH y.tms.A y.tms.c y.tms.l c.tA c.tc c.tds c.ix W (HR1.out.grown hgr (fun p e k=>hoff p e (zx k))) hnil hl hv hW.inp.tr (fun d hd=>(hz.dv d hd).1) (fun z hzm=>hz.dok hi (zd8 hzm)) hz.wf hz.ix1 hz.ix2
 have HFd:Hid (∀a W,Q1 y.tms.l (zm c.tds) c.ix=some a->zR W g c {x with re:=true}->Calls prog 9 #[.agg #[.slice c.tA c.tds.length c.tc],.int .i64 a.ix] W (YC (some a) W)):=za fun a W hA hW=>by
  have h9:=VD c.tA c.tc c.tds a.ix W hW.inp.tr;rw[Dj hz.wf (Es hA)]at h9;exact h9
 have HEv:Hid (∀W',zR W' g c {x with re:=true}->W'.cell? ⟨g,15,none⟩=some (.slice c.tA c.tds.length c.tc)/\W'.cell? ⟨g,16,none⟩=some (.int .i64 c.ix)):=za fun W' hW'=>⟨zd hW'.box rfl,zd hW'.box rfl⟩;clear hS hU hre hr hnil hoff hl hv hz hi h1;unfold UT;generalize Q1 y.tms.l (zm c.tds) c.ix=o at*;unfold qk at*;go_enter func74,ntmps74;go_upto_region 1 with fail
 rw[HP.W];obtain⟨c0,c1,c2,c3⟩:=HP.Sx w1 (QS.refl _ _);go_upto_region 7 with(first
  |(go_at_call 91;refine(HSt.out _ zj).mono ?_;rintro e w2 ⟨rfl,hb2,hgW2,hlW2,hlX2,d0,d1,d2,d3⟩;have HB2:=za hb2;clear hb2 c0 c1 c2 c3)
  |(go_at_call 93;refine(HUp.out _ HB2.out).mono ?_;rintro e w3 ⟨rfl,hb3,hgW3,hlW3,hlX3,e0,e1,e2,e3⟩;have HB3:=za hb3;obtain⟨q53,f53,H4,G4⟩:=HQ.out w3 HB3.out;have HO4:=za H4;have HG4:=za G4;clear H4 G4;clear hb3 d0 d1 d2 d3))
 obtain⟨w4,hw4⟩:∃w4,w3.setCell ⟨g,53,none⟩ (.bool true)=w4:=⟨_,rfl⟩;rw[hw4]at HO4 HG4⊢;have hz4:w1.heap.size<=w4.heap.size:=by rw[<-hw4];simp only[World.setCell];simpa using HB3.out.size
 clear hw4 q53 f53 e0 e1 e2 e3;have HQ4:Hid (∀W',Below w4.heap.size w4 W'->W'.cell? ⟨w.heap.size+1,2,none⟩=some (.slice y.tms.A y.tms.l.length y.tms.c)/\W'.cell? ⟨g,15,none⟩=some (.slice c.tA c.tds.length c.tc)/\W'.cell? ⟨g,16,none⟩=some (.int .i64 c.ix)):=za fun W' hW'=>⟨HP.Sy W' (fun b hb hn=>(hW'.block b (i4 hb hz4)).trans (QS.of HG4.out b hb hn)),HEv.out W' (HO4.out.keep hW')⟩
 go_region_held3 (fun W'=>W'.cell? ⟨w.heap.size+1,2,none⟩=some (.slice y.tms.A y.tms.l.length y.tms.c)/\W'.cell? ⟨g,15,none⟩=some (.slice c.tA c.tds.length c.tc)/\W'.cell? ⟨g,16,none⟩=some (.int .i64 c.ix)) ((refine HQ4.out _ ?_;first|exact zj.drew|exact hB5)) ((go_at_call 94;refine(HAn.out _ (HO4.out.keep zj.drew) (HG4.out.trans (zG zj.drew _))).mono ?_;rintro e w5 ⟨rfl,hb5⟩;(have hB5:Below w4.heap.size w4 w5:=bt zj.drew hb5)))
 have HO5:=za (HO4.out.keep hB5);have HG5:=za (HG4.out.trans (zG hB5 (some g)));clear hb5 hB5;have hF:=HF.out;cases o with
 | none=>
   go_wp2;go_ret;exact⟨_,rfl,rfl,HO5.out,HG1.out.trans HG5.out,Fr.same rfl rfl⟩
 | some a=>
   obtain⟨q15,q16⟩:=HEv.out w5 HO5.out;have hg5:g<w5.heap.size:=zh HO5.out.box;go_wp2_with (go_at_call 9;refine(HFd.out a w5 rfl HO5.out).mono ?_;rintro e w6 ⟨z,rfl,hz1,hz2,hz3,hb6⟩;obtain⟨H7,G7⟩:=HO5.out.abS hb6 z hz2 (fun p e=>by have:=hz3 p e;omega);have HO7:=za H7;have HG7:=za G7;have HZ1:=za hz1;have HZ3:=za hz3;have hst:=LD ((hb6.block _ hg5).trans HO5.out.box) z;clear H7 G7 hz1 hz2 hz3 hb6)
   go_ret;rw[hF];refine⟨_,rfl,?_,HO7.out,HG1.out.trans (HG5.out.trans HG7.out),⟨fun b hb _ _=>Or.inr hb,fun b hb p e=>?_⟩⟩
   rotate_left
   · rcases List.mem_append.1 hb with h1|h1
     · exact Or.inr (List.mem_append_left _ h1)
     · rw[List.mem_singleton.1 h1]at e;have k1:w5.heap.size<=p.block:=HZ3.out p e;have k2:=HG5.out.size;have k3:=HP.B.size;exact Kb
   unfold Em.e;dsimp only;rw[HZ1.out]
end
section
open Go.RowKit
attribute [local go_sem ↓] kR Kd JS GP
theorem zcA{g:Nat}{c:zt}{x:Em}{k:Nat}{t:Tm}{y:Rl}{w:World}(H:Kr g c x k t y w)(hS:Z0 t=false)(hU:qT t=false)(hK:t.key=12):UT g c x t y w:=by
 obtain⟨ky,nmm,op,vl⟩:=t;have hs:vl.size<=1000000:=H.hs;obtain⟨w1,HP,hgW,hlW,hlX⟩:=Ql y ky nmm op vl (zh H.h.box);have h1:=H.h.keep HP.B;have HH1:=za h1;have HG1:=za (zG HP.B (some g));have HSt:=za HP.St;have HUp:=za HP.Up;rw[hS]at HSt;rw[hU]at HUp;have hky:ky=12:=hK;subst hky;unfold UT;rw[show qJ c.c y.tms.l x.e ⟨12,nmm,op,vl⟩=({QL x.e (qN c.c x.e vl).2.1 with dr:={(QL x.e (qN c.c x.e vl).2.1).dr with res:=(qN c.c x.e vl).1}},((qN c.c x.e vl).2.2==0)==(op==1)) by
  unfold qJ;rw[hS,if_neg zl,hU,if_neg zl,if_pos rfl]]
 have HC:=za (fun(W:World) (hW:Below w1.heap.size w1 W)=>D5 g c x k vl W (h1.keep hW) H.hz ((H.hE.go (bt HP.B hW)).toEnv) hs);generalize QL x.e (qN c.c x.e vl).2.1=te at*;generalize (qN c.c x.e vl).1=ou at*;generalize ((qN c.c x.e vl).2.2==0)=bb at*;clear hS hU hK h1;unfold qk at*;go_enter func74,ntmps74;go_upto_region 1 with fail
 rw[HP.W];obtain⟨c0,c1,c2,c3⟩:=HP.Sx w1 (QS.refl _ _);go_wp2_with (first
  |(go_at_call 91;refine(HSt.out _ zj).mono ?_;rintro e w2 ⟨rfl,hb2,hgW2,hlW2,hlX2,d0,d1,d2,d3⟩;have HB2:=za hb2;clear hb2 c0 c1 c2 c3)
  |(go_at_call 93;refine(HUp.out _ HB2.out).mono ?_;rintro e w3 ⟨rfl,hb3,hgW3,hlW3,hlX3,e0,e1,e2,e3⟩;have HB3:=za hb3;clear hb3 d0 d1 d2 d3)
  |(go_at_call 95;refine(HC.out w3 HB3.out).mono ?_;rintro e w4 ⟨x4,rfl,hx4,h4,g4,f4⟩;have HF4:=za f4;obtain⟨h5,g5⟩:=h4.resS ou;have HX4:=za hx4;have HO5:=za h5;have q10:=zd (j:=10) h4.box rfl;have f10:=qe h4.box 10;have HG5:=za ((zG HB3.out (some g)).trans (g4.trans g5));obtain⟨d0,d1,d2,d3⟩:=HP.Sx _ (QS.of HG5.out);(have hlW5:w.heap.size<(w4.setCell ⟨g,10,none⟩ (.string ou)).heap.size:=i4 hlW HG5.out.size);clear h4 g4 h5 g5 hx4 f4 e0 e1 e2 e3))
 go_ret;refine⟨_,rfl,?_,HO5.out,HG1.out.trans HG5.out,Fr.trans (y:=x) (Fr.same rfl rfl) ⟨HF4.out.d,HF4.out.a⟩ (i3 HP.B.size HB3.out.size)⟩;unfold Em.e;dsimp only;have e9:=HX4.out;unfold Em.e at e9;rw[<-e9];rfl
theorem zg1{g:Nat}{c:zt}{x:Em}{k:Nat}{t:Tm}{y:Rl}{w:World}(H:Kr g c x k t y w)(hS:Z0 t=false)(hU:qT t=false)(hK:t.key=14)(hR:kx c):UT g c x t y w:=by
 obtain⟨ky,nmm,op,vl⟩:=t;have hs:vl.size<=1000000:=H.hs;obtain⟨w1,HP,hgW,hlW,hlX⟩:=Ql y ky nmm op vl (zh H.h.box);have h1:=H.h.keep HP.B;have HH1:=za h1;have HG1:=za (zG HP.B (some g));have HSt:=za HP.St;have HUp:=za HP.Up;rw[hS]at HSt;rw[hU]at HUp;have hky:ky=14:=hK;subst hky;unfold UT;rw[show qJ c.c y.tms.l x.e ⟨14,nmm,op,vl⟩=((Qh c.c x.e ⟨14,nmm,op,vl⟩).1,(Qh c.c x.e ⟨14,nmm,op,vl⟩).2==(op==1)) by
  unfold qJ;rw[hS,if_neg zl,hU,if_neg zl,if_neg (by show¬(14:Int)=12;decide),if_pos rfl]]
 have HC:=za (fun(W:World) (hW:Below w1.heap.size w1 W)=>zkH g c x k ⟨14,nmm,op,vl⟩ W (h1.keep hW) H.hz H.k1 (H.hE.go (bt HP.B hW)) H.hg hs hR);generalize (Qh c.c x.e ⟨14,nmm,op,vl⟩).1=te at*;generalize (Qh c.c x.e ⟨14,nmm,op,vl⟩).2=bb at*;clear hS hU hK h1;unfold qk at*;go_enter func74,ntmps74;go_upto_region 1 with fail
 rw[HP.W];obtain⟨c0,c1,c2,c3⟩:=HP.Sx w1 (QS.refl _ _);go_upto_region 16 with(first
  |(go_at_call 91;refine(HSt.out _ zj).mono ?_;rintro e w2 ⟨rfl,hb2,hgW2,hlW2,hlX2,d0,d1,d2,d3⟩;have HB2:=za hb2;clear hb2 c0 c1 c2 c3)
  |(go_at_call 93;refine(HUp.out _ HB2.out).mono ?_;rintro e w3 ⟨rfl,hb3,hgW3,hlW3,hlX3,e0,e1,e2,e3⟩;have HB3:=za hb3;clear hb3 d0 d1 d2 d3))
 go_region_held3 (fun W'=>Kp w.heap.size 14 nmm op vl W') ((refine HP.Sx _ (QS.of ?_);first|exact zG (bt HB3.out zj.drew) _|exact hG4)) ((go_at_call 96;refine(HC.out w3.drew (bt HB3.out zj.drew)).mono ?_;rintro e w4 ⟨x4,rfl,hx4,h4,g4,f4⟩;(have hG4:w1.grownBy w4 (some g):=(zG (bt HB3.out zj.drew) (some g)).trans g4)))
 go_wp2;go_ret;exact⟨x4,rfl,hx4,h4,HG1.out.trans hG4,Fr.trans (Fr.same rfl rfl) f4 (i3 HP.B.size (i3 HB3.out.size zo))⟩
end
section
open Go.RowKit
attribute [local go_sem ↓] kR Kd JS GP
theorem zfK{g:Nat}{c:zt}{x:Em}{k:Nat}{t:Tm}{y:Rl}{w:World}(H:Kr g c x k t y w)(hS:Z0 t=false)(hU:qT t=false)(hK1:t.key≠12)(hK2:t.key≠14):UT g c x t y w:=by
 obtain⟨ky,nmm,op,vl⟩:=t;have hs:vl.size<=1000000:=H.hs;obtain⟨w1,HP,hgW,hlW,hlX⟩:=Ql y ky nmm op vl (zh H.h.box);have h1:=H.h.keep HP.B;have HH1:=za h1;have HG1:=za (zG HP.B (some g));have HSt:=za HP.St;have HUp:=za HP.Up;rw[hS]at HSt;rw[hU]at HUp;have n12:ky≠12:=hK1;have n14:ky≠14:=hK2;unfold UT;rw[show qJ c.c y.tms.l x.e ⟨ky,nmm,op,vl⟩=(x.e,JG ⟨ky,nmm,op,vl⟩ c.act x.dr.d) by
  unfold qJ;rw[hS,if_neg zl,hU,if_neg zl,if_neg n12,if_neg n14];rfl]
 have HD:=za (fun(W:World) (hW:Below w1.heap.size w1 W)=>zaV ⟨ky,nmm,op,vl⟩ c.act x.dr W (h1.keep hW).dr H.hz.drz hs H.hz.act);generalize JG ⟨ky,nmm,op,vl⟩ c.act x.dr.d=bb at*;have HQ:Hid (∀W',Below w1.heap.size w1 W'->Kp w.heap.size ky nmm op vl W'/\W'.cell? ⟨g,14,none⟩=some (.string c.act)/\(qD qn (.pointer (some ⟨g,0,none⟩))).run prog W'=.ok (.agg (zI x.dr)) W'):=za fun W' hW'=>⟨HP.Sx W' (QS.below hW'),zd ((hW'.block _ hgW).trans h1.box) rfl,Kc (h1.keep hW')⟩;clear hS hU hK1 hK2 h1;unfold qk at*;go_enter func74,ntmps74;go_upto_region 1 with fail
 rw[HP.W];obtain⟨c0,c1,c2,c3⟩:=HP.Sx w1 (QS.refl _ _);go_upto_region 17 with(first
  |(go_at_call 91;refine(HSt.out _ zj).mono ?_;rintro e w2 ⟨rfl,hb2,hgW2,hlW2,hlX2,d0,d1,d2,d3⟩;have HB2:=za hb2;clear hb2 c0 c1 c2 c3)
  |(go_at_call 93;refine(HUp.out _ HB2.out).mono ?_;rintro e w3 ⟨rfl,hb3,hgW3,hlW3,hlX3,e0,e1,e2,e3⟩;have HB3:=za hb3;clear hb3 d0 d1 d2 d3))
 go_region_held3 (fun W'=>Kp w.heap.size ky nmm op vl W'/\W'.cell? ⟨g,14,none⟩=some (.string c.act)/\(qD qn (.pointer (some ⟨g,0,none⟩))).run prog W'=.ok (.agg (zI x.dr)) W') ((refine HQ.out _ ?_;first|exact bt HB3.out zj.drew|exact hB4)) ((go_at_call 97;refine(HD.out _ (bt HB3.out zj.drew)).mono ?_;rintro e w4 ⟨rfl,hb4⟩;(have hB4:Below w1.heap.size w1 w4:=bt (bt HB3.out zj.drew) hb4)))
 go_wp2;go_ret;exact⟨x,rfl,rfl,HH1.out.keep hB4,HG1.out.trans (zG hB4 _),Fr.same rfl rfl⟩
end
section
open Go.RowKit
theorem zh7(g:Nat)(c:zt)(x:Em)(k:Nat)(t:Tm)(y:Rl)(w:World)(h:zR w g c x)(hz:Xa c x k)(hk1:k+1<=100000)(hE:Z2 w)(hg:nG<=g)(hs:t.value.size<=1000000)(hr:zE w y.tms.A 4 y.tms.l.length (cellsOf zQ y.tms.l))(hnil:y.tms.A=none->y.tms.c=0)(hoff:∀p,y.tms.A=some p->p.block≠g)(hl:y.tms.l.length<=1000000)(hv:∀t∈y.tms.l,t.value.size<=1000000)(hR:t.key=14->kx c):
 Calls prog 74 #[.pointer (some ⟨g,0,none⟩),qk t,.agg #[.string y.file,.int .i64 y.line,.slice y.tms.A y.tms.l.length y.tms.c]] w (KV w g c x (qJ c.c y.tms.l x.e t).1 (.bool (qJ c.c y.tms.l x.e t).2)):=by
 have H:Kr g c x k t y w:=⟨h,hz,hk1,hE,hg,hs⟩;cases hS:Z0 t with
 |true=>exact zdB H hS
 | false=>
   cases hU:qT t with
   | true=>
     cases hre:x.re with
     |true=>exact zeZ H hS hU hre
     |false=>exact zdJ H hS hU hre hr hnil hoff hl hv
   | false=>
     by_cases h12:t.key=12
     · exact zcA H hS hU h12
     · by_cases h14:t.key=14
       · exact zg1 H hS hU h14 (hR h14)
       · exact zfK H hS hU h12 h14
end
section
open Go.RowKit
theorem zfa:(prog.info? Yi).map (fun i=>(i.zero,i.size,i.bytes))=some (some (.agg #[.int .i64 0,.string ⟨#[]⟩,.int .i64 0,.string ⟨#[]⟩]),4,48):=zg
theorem zg7{B:Nat}{A:Option Addr}{c:Nat}{l:List Tm}(t:Tm)(w:World)(h:w.ownsRow B Yi 4 (.slice A l.length c) l.length (cellsOf zQ l))(hl:l.length<=1000000)(hB:B<=w.heap.size):
 ∃A' c' w',(Zv #[141,141] 141 #[.slice A l.length c,.slice (some ⟨w.heap.size,0,none⟩) 1 1]).run prog (w.alloc (.cells #[.int .i64 t.key,.string t.name,.int .i64 t.op,.string t.value] Yi))=.ok (.slice A' (l.length+1) c') w'/\w'.ownsRow B Yi 4 (.slice A' (l.length+1) c') (l.length+1) (cellsOf zQ (l++[t]))/\w.grownBy w' (Value.slice A l.length c).ownBlock/\∀p,A'=some p->w.heap.size<=p.block∨∃q,A=some q/\q.block=p.block:=by
 obtain⟨i0,hi0,hz0,hz1,hz2⟩:=info_parts zfa;obtain⟨v',w',h1,h2,h3,_,h5⟩:=run_append_own_at (P:=prog) (w.alloc (.cells #[.int .i64 t.key,.string t.name,.int .i64 t.op,.string t.value] Yi)) B 141 141 Yi i0 _ 4 48 underlying141 hi0 hz0 hz1 hz2 rfl zi (.slice A l.length c) l.length _ (qi h zu) ⟨w.heap.size,0,none⟩ 1 1 (zQ t) rfl (fun j u hu=>by
  rw[Ua,zk4];exact zd (i5 w _) Gh) OH ql zb (i3 hB (zL w _).size)
 rw[ZU]at h1;obtain⟨NA,nc,rfl⟩:=Qf h2;have hc:cellsOf zQ (l++[t])=cellsOf zQ l++zQ t:=J7;refine⟨NA,nc,w',h1,K8,(zG (zL w _) _).trans h3,fun p hp=>?_⟩;have hpb:(Value.slice NA (l.length+1) nc).ownBlock=some p.block:=Ks;rcases h5 with k|k
 · exact JZ
 · rw[hpb]at k;have:=zx k;have:=(zL w (.cells #[.int .i64 t.key,.string t.name,.int .i64 t.op,.string t.value] Yi)).size;exact Kb
theorem zkw(c:qp)(l:List Tm){k:Nat}(hk:k<l.length)(x:Ev):Zw c l (l.drop k) x=if qH l[k].op then(if(qJ c l x l[k]).2 then Zw c l (l.drop (k+1)) (qJ c l x l[k]).1 else((qJ c l x l[k]).1,false))else Zw c l (l.drop (k+1)) x:=by
 rw[zd7 hk];rfl
theorem zjf(c:qp)(l:List Tm)(x:Ev):Zw c l (l.drop l.length) x=(x,true):=by
 rw[List.drop_length];rfl
def Q7(l:List Tm)(k:Nat):List Tm:=(l.take k).filter fun t=> !qH t.op
theorem zdD(l:List Tm){k:Nat}(hk:k<l.length):Q7 l (k+1)=if qH l[k].op then Q7 l k else Q7 l k++[l[k]]:=by
 unfold Q7;rw[List.take_succ_eq_append_getElem hk,List.filter_append];cases hm:qH l[k].op<;>simp[hm]
theorem Ep(l:List Tm)(k:Nat):(Q7 l k).length<=k:=i3 (List.length_filter_le _ _) JO
theorem zi7{l:List Tm}{k:Nat}{t:Tm}(h:t∈Q7 l k):t∈l:=List.mem_of_mem_take (List.mem_filter.1 h).1
theorem zkF(c:qp)(l:List Tm)(x:Ev){k:Nat}(hk:k<l.length):(l.take (k+1)).foldl (Qa c) x=Qa c ((l.take k).foldl (Qa c) x) l[k]:=SN
theorem zhr{c:qp}{l:List Tm}{x:Ev}{t:Tm}(h:x.ab∈c.i.tree):(qJ c l x t).1.ab∈c.i.tree:=by
 unfold qJ
 split
 · exact h
 split
 · split
   · exact h
   · split
     · rename_i a ha;exact Es ha
     · exact h
 split
 · exact h
 split
 · unfold Qh
   split
   · exact h
   split
   · split<;>exact h
   split<;>exact h
 · exact h
theorem FP{c:qp}:∀(l:List Tm) (x:Ev),(l.foldl (Qa c) x).ab=x.ab
 | [],_=>rfl
 |t::l,x=>by rw[zl2,FP l];rfl
structure KK(c:zt):Prop where
 ok:KS c.i
 dv:∀d∈zm c.tds,Xh d/\d.sb.size<=1000/\d.dr.size<=1000 /\ -9223372036854775808<=d.nb/\d.nb<=9223372036854775807/\∀a∈d.ats,a.val.size<=1000000
 wf:Z8 (zm c.tds)
 ix1: -9223372036854775808<=c.ix
 ix2:c.ix<=9223372036854775807
 dev:c.dev.d∈zm c.tds
 org:c.org.size<=1000000
 pnt:c.pnt.size<=1000000
 hl:c.hs.l.length<=1000
 hc:∀y∈c.hs.l,y.cmd.size<=1000000
 act:c.act.size<=1000000
 pl:c.r.props.l.length<=1000
 pz:∀y∈c.r.props.l,y.name.size<=1000000
theorem KK.z{c:zt}(h:KK c)(x:Em)(k:Nat)(hg:zH x.e.dr k)(hk:k<=100000)(ha:x.e.ab∈zm c.tds):Xa c x k:=⟨hg,hk,h.ok,h.dv,h.wf,h.ix1,h.ix2,h.dev,ha,h.org,h.pnt,h.hl,h.hc,h.act,h.pl,h.pz⟩
theorem zR.lowc{w:World}{g:Nat}{c:zt}{x:Em}(h:zR w g c x):∀a∈c.as,∀p,a=some p->p.block<w.heap.size:=fun a ha p e=>by
 subst e;rcases List.mem_append.1 ha with h1|h1
 · simp only[List.mem_cons,List.not_mem_nil,or_false]at h1;rcases h1 with h1|h1|h1|h1|h1|h1|h1|h1
   · exact(h.inp.tr.row.pl p h1.symm).2
   · exact(h.inp.rc.pr.row.pl p h1.symm).2
   · exact(h.inp.rc.tg.row.pl p h1.symm).2
   · exact(h.inp.rc.lk.row.pl p h1.symm).2
   · exact(h.inp.rc.rn.row.pl p h1.symm).2
   · exact(h.inp.rc.ld.row.pl p h1.symm).2
   · exact(h.inp.hp.row.pl p h1.symm).2
   · exact(h.dev.pl p h1.symm).2
 · obtain⟨d,hd,h2⟩:=List.mem_map.1 h1;exact((h.inp.tr.inn d hd).pl p h2).2
theorem zR.lowx{w:World}{g:Nat}{c:zt}{x:Em}(h:zR w g c x):∀a∈x.as,∀p,a=some p->p.block<w.heap.size:=fun a ha p e=>by
 subst e;rcases List.mem_append.1 ha with h1|h1
 · simp only[Dm.as,List.mem_cons,List.not_mem_nil,or_false]at h1;rcases h1 with h1|h1|h1|h1|h1|h1
   · exact(h.dr.pr.row.pl p h1.symm).2
   · exact(h.dr.tg.row.pl p h1.symm).2
   · exact(h.dr.lk.row.pl p h1.symm).2
   · exact(h.dr.rn.row.pl p h1.symm).2
   · exact(h.dr.ld.row.pl p h1.symm).2
   · exact(h.dr.cl.row.pl p h1.symm).2
 · exact(h.ab.pl p (List.mem_singleton.1 h1).symm).2
theorem zR.away{w w':World}{g:Nat}{c:zt}{x:Em}{row:Option Nat}(h:zR w g c x)(hg:w.grownBy w' row)(hb:∀b,row=some b->b≠g/\Xn b c.as/\Xn b x.as):zR w' g c x:=by
 cases row with
 |none=>exact h.keep (Bb hg)
 | some b=>
   obtain⟨h1,h2,h3⟩:=hb b rfl;have h4:=(zt.mem h2).1;exact⟨(hg.block g (zh h.box) (fun e=>h1 (zx e).symm)).trans h.box,h.inp.grown hg h2,h.dev.grown hg (Q8 h4 zl),h.dr.grown hg (fun a ha=>h3 a (List.mem_append_left _ ha)),h.ab.grown hg (Q8 h3 (List.mem_append_right _ zl)),h.offc,h.offx⟩
structure Uk(c:zt)(w:World)(x y:Em):Prop where
 d:∀a∈y.dr.as,∀p,a=some p->w.heap.size<=p.block∨a∈x.dr.as
 a:∀a∈y.as,∀p,a=some p->w.heap.size<=p.block∨a∈x.as∨a∈c.as
theorem Fr.c{c:zt}{w:World}{x y:Em}(h:Fr w x y):Uk c w x y:=⟨h.d,fun a ha p e=>(h.a a ha p e).imp id Or.inl⟩
theorem Uk.trans{c:zt}{w w0:World}{x y z:Em}(h1:Uk c w x y)(h2:Uk c w0 y z)(hs:w.heap.size<=w0.heap.size):Uk c w x z:=⟨fun a ha p e=>by
 rcases h2.d a ha p e with h|h
 · exact OU
 · exact h1.d a h p e,fun a ha p e=>by
 rcases h2.a a ha p e with h|h|h
 · exact OU
 · exact h1.a a h p e
 · exact Or.inr (Or.inr h)⟩
def EvR(w:World)(g:Nat)(c:zt)(x:Em)(y:Ev)(v:Value)(e:Ending)(w':World):Prop:=∃x',e=.returned v/\x'.e=y/\zR w' g c x'/\w.grownBy w' (some g)/\Uk c w x x'
theorem zfy{c:qp}{x:Ev}{l:List Tm}{z:Ev}(h:Zw c l l {x with ab:=c.dev,re:=false}=(z,false)):qw c x l=(z,false):=by
 unfold qw;rw[h];rfl
theorem zdF{c:qp}{x:Ev}{l:List Tm}{z:Ev}(h:Zw c l l {x with ab:=c.dev,re:=false}=(z,true)):qw c x l=((Q7 l l.length).foldl (Qa c) z,true):=by
 unfold qw Q7;rw[h,List.take_length];rfl
end
end Go.Proofs.YtecbmndgpepkcaaGreatDoor
