/- Contracts of functions that the law reaches, and what they rest on; each under the premises that it names. Shortened by a program. -/
import Derived.Test.YtecbmndgpepkcaaGreatDoorG36
import Derived.Deep.Upon
import Derived.Test.YtecbmndgpepkcaaGreatDoorG34
namespace Go.Proofs.YtecbmndgpepkcaaGreatDoor
open Tryz
set_option maxHeartbeats 8000000
set_option maxRecDepth 100000
section
open Go.RowKit Go.Maps
structure Xc(q:At->Bool)(zs cur:List At)(i j:Nat):Prop where
 len:cur.length=zs.length
 lt:i<j
 le:j<=zs.length
 pre:cur.take i=(zs.take j).filter fun z=> !q z
 post:cur.drop j=zs.drop j
theorem OC{q:At->Bool}{zs:List At}{j:Nat}(h:j<zs.length):(zs.take (j+1)).filter (fun z=> !q z)=(zs.take j).filter (fun z=> !q z)++if q zs[j]then []else [zs[j]]:=by
 rw[List.take_succ_eq_append_getElem h,List.filter_append]
 congr 1
 cases hq:q zs[j]<;>simp[hq]
theorem Xc.start{q:At->Bool}{zs:List At}{k:Nat}(hno:∀j (h:j<zs.length),j<k->q zs[j]=false)(hk:k<zs.length)(h:q zs[k]=true):Xc q zs zs k (k+1):=by
 refine⟨rfl,Nat.lt_succ_self _,hk,?_,rfl⟩;rw[OC hk,h,if_pos rfl,List.append_nil,List.filter_eq_self.2];intro z hz;obtain⟨j,hj,rfl⟩:=List.getElem_of_mem hz;rw[List.length_take]at hj;rw[List.getElem_take,hno j zb zb];rfl
theorem Xc.skip{q:At->Bool}{zs cur:List At}{i j:Nat}(h:Xc q zs cur i j)(hj:j<zs.length)(hq:q zs[j]=true):Xc q zs cur i (j+1):=
 ⟨h.len,by have:=h.lt;omega,hj,by rw[OC hj,hq,if_pos rfl,List.append_nil];exact h.pre,by rw[<-List.drop_drop,h.post,List.drop_drop]⟩
theorem Xc.put{q:At->Bool}{zs cur:List At}{i j:Nat}(h:Xc q zs cur i j)(hj:j<zs.length)(hq:q zs[j]=false):Xc q zs (cur.set i zs[j]) (i+1) (j+1):=by
 have hl:=h.len;have hlt:=h.lt;refine⟨by rw[List.length_set];exact hl,zb,hj,?_,?_⟩
 · rw[OC hj,hq,if_neg zl,<-h.pre,List.take_succ_eq_append_getElem (by rw[List.length_set];omega),List.getElem_set_self,List.take_set_of_le zo]
 · rw[List.drop_set_of_lt zb,<-List.drop_drop,h.post,List.drop_drop]
theorem Xc.at_{q:At->Bool}{zs cur:List At}{i j:Nat}(h:Xc q zs cur i j)(hj:j<zs.length):∃hc:j<cur.length,cur[j]=zs[j]:=by
 have hl:=h.len;refine⟨zb,?_⟩;have h1:(cur.drop j)[0]? =(zs.drop j)[0]?:=by rw[h.post]
 rw[List.getElem?_drop,List.getElem?_drop,Nat.add_zero,List.getElem?_eq_getElem zb,List.getElem?_eq_getElem hj]at h1;exact zx h1
theorem Xc.done{q:At->Bool}{zs cur:List At}{i:Nat}(h:Xc q zs cur i zs.length):cur.take i=zs.filter fun z=> !q z:=by
 have:=h.pre;rwa [List.take_length]at this
theorem zem(w:World)(t e ty:TypeId)(z:Value)(ht:prog.underlying t=some (.slice e))(hv:∀w,(zeroValue e).run prog w=.ok z w)(b o n c:Nat)(hn:0<n)(zz:List Value)(hzz:(Builtin.zeroCells z.cells n).toList=zz)
 (hc:∀j,j<zz.length->(w.cell? ⟨b,o+j,none⟩).isSome=true)(hf:∀j,j<zz.length->w.frozen? ⟨b,o+j,none⟩=false)(h1:∀v∈zz,v.oneCell'=true):
 (Builtin.clear_ #[t] ty #[.slice (some ⟨b,o,none⟩) n c]).run prog w=.ok (.tuple #[]) (w.setCells b o zz):=by
 have hst:=run_storeCells_cells (P:=prog) b o zz 0 w (by simpa using hc) (by simpa using hf) h1;simp only[Nat.add_zero]at hst;obtain⟨m,rfl⟩:∃m,n=m+1:=⟨n - 1,zb⟩;simp[Builtin.clear_,run_underlying ht,hv,hzz,hst]
theorem B5(w:World):(zeroValue 114).run prog w=.ok (.agg #[.string ⟨#[]⟩,.string ⟨#[]⟩]) w:=zg
theorem zcu(n:Nat):∃zz,(Builtin.zeroCells (Value.agg #[.string ⟨#[]⟩,.string ⟨#[]⟩]).cells n).toList=zz/\zz.length=n*2/\∀v∈zz,v=.string ⟨#[]⟩:=by
 refine⟨_,rfl,?_,?_⟩
 · simp[Builtin.zeroCells,Value.cells]
 · intro v hv;simp[Builtin.zeroCells,Value.cells]at hv;obtain⟨i,hi,h⟩:=hv;rcases Nat.mod_two_eq_zero_or_one i with h0|h0<;>simp[h0]at h<;>exact h.symm
theorem Aw:∀(cur:List At) (i:Nat) (z:At),i<cur.length->((cellsOf zu cur).set (i*2) (.string z.name)).set (i*2+1) (.string z.val)=cellsOf zu (cur.set i z)
 | [],_,_,h=>absurd h (Nat.not_lt_zero _)
 |_::_,0,_,_=>by simp[cellsOf,zu]
 | a::r,i+1,z,h=>by
   have ih:=Aw r i z Xz;have e:(i+1)*2=i*2+1+1:=zb;simp only[cellsOf,zu,List.flatMap_cons,List.cons_append,List.nil_append,List.set_cons_succ,e]at ih⊢;rw[ih]
theorem JY(l:List At):(cellsOf zu l).length=l.length*2:=by
 induction l with
 |nil=>rfl
 |cons a r ih=>rw[show cellsOf zu (a::r)=zu a++cellsOf zu r from rfl,List.length_append,ih,List.length_cons];simp[zu];omega
theorem TT(b:Nat):∀(vs:List Value) (o:Nat) (w:World),(w.setCells b o vs).heap.size=w.heap.size
 | [],_,_=>rfl
 |v::r,o,w=>by rw[World.setCells,TT b r (o+1)];simp[World.setCell]
theorem yd(b:Nat):∀(vs:List Value) (o:Nat) (w:World),(w.setCells b o vs).tape=w.tape
 | [],_,_=>rfl
 |v::r,o,w=>by rw[World.setCells,yd b r (o+1)];rfl
theorem za0(w:World)(b o:Nat)(vs:List Value):w.grownBy (w.setCells b o vs) (some b):=
 ⟨World.os_setCells w b o vs,yd b vs o w,World.output_setCells w b o vs,by rw[TT];exact zo,fun k hk hne=>World.heap_setCells_other w b o vs hk (fun e=>hne (by rw[e]))⟩
def KH(m:List At)(w0:World)(e:Ending)(w':World):Prop:=∃A c,e=.returned (.slice A m.length c)/\zr w' w'.heap.size A 2 m.length (cellsOf zu m)/\Below w0.heap.size w0 w'
theorem ziK(A:Option Addr)(c x:Nat)(zs:List At)(q:At->Bool)(w0 w:World)(hn:zs.length<=1000000)(hown:w.ownsRow w0.heap.size Vc 2 (.slice A zs.length c) zs.length (cellsOf zu zs))(hc:zs.length<=c)(hb0:Below w0.heap.size w0 w)(hq:yo w0 x zs q):
 Calls prog 156 #[.slice A zs.length c,.func (.func 157) #[] #[.pointer (some ⟨x,0,none⟩)]] w (KH (zs.filter fun z=> !q z) w0):=by
 have HIx:=za (zi7 A c x zs q w0 w hn (zr.of_own hown) hb0 hq);have HQ:=za hq;have HO:=za hown;have HB0:=za hb0;clear hq hown hb0;by_cases hany:∃k,∃h:k<zs.length,q zs[k]=true/\∀j (h:j<zs.length),j<k->q zs[j]=false
 · obtain⟨k0,hk0,hqk,hno⟩:=hany;have e1:=Od hno hk0 hqk;rw[e1]at HIx;have HSt:=za (Xc.start hno hk0 hqk);obtain⟨g,cap,hv,hgb,hgl⟩:=HO.out.form zb;obtain⟨rfl,rfl⟩:A=some ⟨g,0,none⟩/\c=cap:=by injection hv;exact⟨qj,qj⟩
   have HEnd:Hid (∀(cur:List At) (i:Nat) (wr:World) (zz:List Value),zz.length=(zs.length - i)*2->Xc q zs cur i zs.length->wr.ownsRow w0.heap.size Vc 2 (.slice (some ⟨g,0,none⟩) cur.length c) cur.length (cellsOf zu cur)->Below w0.heap.size w0 wr->KH (zs.filter fun z=> !q z) w0 (.returned (.slice (some ⟨g,0,none⟩) i c)) (wr.setCells g (i*2) zz)):=za fun cur i wr zz h0 h1 h2 h3=>by
    have hl:=h1.len;have hlt:=h1.lt;have hm:=h1.done;have hi:(zs.filter fun z=> !q z).length=i:=by rw[<-hm,List.length_take];omega
    refine⟨some ⟨g,0,none⟩,c,by rw[hi],?_,h3.grown (za0 wr g (i*2) _) h3.size (fun j e=>T3)⟩;refine⟨by rw[JY],fun _=>⟨g,0,rfl,by rw[TT];exact(h2.lt g rfl).2,fun j u hu=>?_⟩⟩;have hj:j<i*2:=by
     have:=(List.getElem?_eq_some_iff.1 hu).1;rw[JY,hi]at this;exact this
    rw[World.cell?_setCells_out g _ _ _ _ (fun _ _=>Or.inl KT),Nat.zero_add,World.ownsRow.cellAt h2 j zb];rw[<-hm]at hu;have hsp:cellsOf zu cur=cellsOf zu (cur.take i)++cellsOf zu (cur.drop i):=by rw[<-XF,List.take_append_drop]
    rw[hsp,List.getElem?_append_left (by rw[JY,List.length_take];omega)];exact hu
   generalize hP:KH (zs.filter fun z=> !q z) w0=P at*;have hne1:((k0:Int)== -1)=false:=beq_eq_false_iff_ne.2 zb;clear hP hv hno hqk e1;obtain⟨N,hN⟩:∃N,zs.length=N:=⟨_,rfl⟩;have HN:=za hN;rw[hN]at hn hc hk0 HIx⊢;clear hN;go_enter func156,ntmps156;go_wp2_with (go_at_call 190;refine HIx.out.mono ?_;rintro e w2 ⟨rfl,hb2⟩;have HB2:=za (HB0.out.trans (hb2.mono HB0.out.size));have HO2:=za (qg HO.out hb2);clear hb2)
   go_loopg [5,6,7] N (fun gk s5 s6 s7 wr=>∃(i j:Nat) (cur:List At),s5=.int .i64 i/\s6=.int .i64 j/\j<=N/\i<j/\N - j<=gk/\Hid (cur.length=N)/\Hid (Xc q zs cur i j)/\Hid (wr.ownsRow w0.heap.size Vc 2 (.slice (some ⟨g,0,none⟩) cur.length c) cur.length (cellsOf zu cur))/\Hid (Below w0.heap.size w0 wr))
   case atStart=>exact⟨k0,k0+1,zs,rfl,zP,zb,zb,zb,HN.out,HSt.out,HO2.out,HB2.out⟩
   case round=>
    obtain⟨i,j,cur,rfl,rfl,hjN,hij,hgg,hcl,hD,hO,hB⟩:=hrel;obtain⟨wo,rfl⟩:∃wo:World,wo=wr:=⟨_,rfl⟩;by_cases hlt:j<N
    · have hltI:(j:Int)<(N:Int):=by omega
      have hjz:j<zs.length:=Kz;obtain⟨hcj,hce⟩:=hD.out.at_ hjz;obtain⟨ba,off,ea,c0,c1⟩:=Jl (B:=wo.heap.size) (zr.of_own hO.out) zk hcj;injection ea with ea
      injection ea with ea1 ea2
      subst ea1 ea2;rw[hce,Nat.zero_add]at c0 c1;have hgW:g<wo.heap.size:=(hO.out.lt g rfl).2;have HC:=za (HQ.out zs[j] (List.getElem_mem _) (wo.alloc (.cells #[.string zs[j].name,.string zs[j].val] Vc)) (hB.out.alloc hB.out.size _));have HSk:=za (fun h=>hD.out.skip hjz h);have HPt:=za (fun h=>hD.out.put hjz h);obtain⟨z,hz⟩:∃z,zs[j]=z:=⟨_,rfl⟩;rw[hz]at HC HSk HPt c0 c1;generalize q z=b at*;clear hcj hce hjz hz;cases b
      · have HD2:=za (HPt.out rfl);have hiI:(i:Int)<(N:Int):=zb;go_wp2_with (go_at_call 157;refine HC.out.mono ?_;rintro e w3 ⟨rfl,hb3⟩;have HO3:=za (qg hO.out (bt zw hb3));have HB3:=za (hB.out.trans ((bt zw hb3).mono hB.out.size):Below w0.heap.size w0 w3);have hq3:=(hb3.block wo.heap.size zl).trans (heap_alloc_new wo _);have d0:=zd (j:=0) hq3 rfl;have d1:=zd (j:=1) hq3 rfl;(have hci:∀t,t<2->(w3.cell? ⟨g,i*2+t,none⟩).isSome=true:=(fun t ht=>by rw[World.ownsRow.cellAt HO3.out (i*2+t) (by have:=hcl.out;omega),List.getElem?_eq_getElem (by rw[JY];have:=hcl.out;omega)];rfl));obtain⟨uo,hui⟩:=Option.isSome_iff_exists.1 (hci 0 zb);obtain⟨uo1,hui1⟩:=Option.isSome_iff_exists.1 (hci 1 zb);rw[Nat.add_zero]at hui;(have f1:w3.frozen? ⟨g,i*2,none⟩=false:=World.ownsRow.frozenAt HO3.out (i*2));(have f2:w3.frozen? ⟨g,i*2+1,none⟩=false:=World.ownsRow.frozenAt HO3.out (i*2+1));clear hb3 hci hq3)
        go_roundg (gk - 1)
        case measure=>omega
        case rel=>
         obtain⟨r1,r2⟩:=World.ownsRow.stored HO3.out (i*2) (.string z.name);obtain⟨r3,r4⟩:=World.ownsRow.stored r1 (i*2+1) (.string z.val);refine⟨i+1,j+1,cur.set i z,zP,zP,zb,zb,zb,by rw[List.length_set];exact hcl.out,HD2.out,?_,?_⟩
         · rw[List.length_set,<-Aw cur i z (by have:=hcl.out;omega)];exact r3
         · exact(HB3.out.grown r2 HB3.out.size (fun r e=>T3)).grown r4 (by have:=HB3.out.size;simpa [World.setCell]using this) (fun r e=>T3)
      · have HD2:=za (HSk.out rfl);go_wp2_with (go_at_call 157;refine HC.out.mono ?_;rintro e w3 ⟨rfl,hb3⟩;have HO3:=za (qg hO.out (bt zw hb3));have HB3:=za (hB.out.trans ((bt zw hb3).mono hB.out.size):Below w0.heap.size w0 w3);clear hb3)
        go_roundg (gk - 1)
        case measure=>omega
        case rel=>exact⟨i,j+1,cur,rfl,zP,zb,zb,zb,hcl.out,HD2.out,HO3.out,HB3.out⟩
    · obtain rfl:j=N:=by omega
      have hcur:=hcl.out;obtain⟨zz,hz1,hz2,hz3⟩:=zcu (j - i);have hcl2:∀ty,(Builtin.clear_ #[31] ty #[.slice (some ⟨g,i*2,none⟩) (j - i) (c - i)]).run prog wo=.ok (.tuple #[]) (wo.setCells g (i*2) zz):=
       fun ty=>zem wo _ _ ty _ underlying31 B5 g (i*2) _ _ zb zz hz1 (fun t ht=>by rw[World.ownsRow.cellAt hO.out (i*2+t) (by rw[hz2]at ht;omega),List.getElem?_eq_getElem (by rw[JY];rw[hz2]at ht;omega)];rfl) (fun t ht=>World.ownsRow.frozenAt hO.out (i*2+t)) (fun v hv=>by rw[hz3 v hv];rfl)
      have HE:=za (HEnd.out cur i wo zz (by rw[HN.out];exact hz2) (by rw[HN.out];exact hD.out) hO.out hB.out);clear hcur hcl hlt hz1 hz2 hz3;go_wp2;exact HE.out
 · have hno:∀n j (h:j<zs.length),j<n->q zs[j]=false:=by
    intro n;induction n with
    |zero=>intro j _ h;omega
    | succ n ih=>
      intro j hj hjn;rcases Nat.lt_or_ge j n with h1|h1
      · exact ih j hj h1
      · obtain rfl:j=n:=by omega
        rw[Bool.eq_false_iff];exact fun e=>hany ⟨j,hj,e,ih⟩
   have e1:=Nt (l:=zs) (q:=q) fun j hj=>hno (j+1) j hj (Nat.lt_succ_self j);rw[e1]at HIx;have hf:(zs.filter fun z=> !q z)=zs:=List.filter_eq_self.2 fun z hz=>by
    obtain⟨j,hj,rfl⟩:=List.getElem_of_mem hz;rw[hno (j+1) j hj (Nat.lt_succ_self j)];rfl
   rw[hf];clear hany hno e1 hf;unfold KH;go_enter func156,ntmps156;go_wp2_with (go_at_call 190;refine HIx.out.mono ?_;rintro e w2 ⟨rfl,hb2⟩;have HB2:=za (HB0.out.trans (hb2.mono HB0.out.size));have HO2:=za (qg HO.out hb2);clear hb2)
   go_ret;exact⟨A,c,rfl,zr.of_own HO2.out,HB2.out⟩
theorem zfj(g:Nat)(c:zt)(x:Em)(k:Nat)(s:ByteArray)(w:World)(h:zO w g c x)(hz:YX c x k)(hs:s.size<=1000000):
 Calls prog 122 #[.pointer (some ⟨g,0,none⟩),.string s] w (KH (c.r.props.l.filter fun p=>zS (L s) (L p.name)) w):=by
 have hpl:=hz.pl;have HPz:=za hz.pz;have HC:=za (fun(W:World) (hW:Below w.heap.size w W)=>O9 c.r.props.A c.r.props.c c.r.props.l W zb ((h.keep hW).inp.rc.pr.row));have hbx:=h.box;have q19:w.cell? ⟨g,19,none⟩=some (.slice c.r.props.A c.r.props.l.length c.r.props.c):=zd hbx rfl;have hgl:g<w.heap.size:=zh hbx;clear h hz hbx;generalize c.r.props.l=zs at*;have hfe:(zs.filter fun p=>zS (L s) (L p.name))=zs.filter fun z=> !(!zS (L s) (L z.name)):=zl;rw[hfe];clear hfe;have HF:Hid (∀(m:List At) (e:Ending) (w':World),KH m (w.alloc (.cells #[.string s] 9)) e w'->KH m w e w'):=za fun m e w' h=>by
  obtain⟨A,cc,h1,h2,h3⟩:=h;exact⟨A,cc,h1,h2,bt (zI w _) h3⟩
 have HCl:Hid (∀W,Below (w.alloc (.cells #[.string s] 9)).heap.size (w.alloc (.cells #[.string s] 9)) W->∀z∈zs,Calls prog 157 #[.agg #[.string z.name,.string z.val],.pointer (some ⟨w.heap.size,0,none⟩)] W fun e w'=>e=.returned (.bool (!zS (L s) (L z.name)))/\Below W.heap.size W w'):=za fun W hW z hz=>by
  have hq:=(hW.block w.heap.size zl).trans (heap_alloc_new w _);exact zc7 s z.name z.val w.heap.size W hs (HPz.out z hz) (zh hq) (zd hq rfl)
 go_enter func122,ntmps122;go_wp2_with (first
  |(go_at_call 55;refine(HC.out _ zw).mono ?_;rintro e w2 ⟨A2,n2,rfl,hown,hb2⟩;have HO:=za hown;have HB2:=za hb2;clear hown hb2)
  |(go_at_call 156;obtain⟨A3,n3,e3,hcap⟩:=zi1 HO.out;injection e3 with e3 _ e4;subst e3 e4;refine(ziK A2 n2 w.heap.size zs (fun z=> !zS (L s) (L z.name)) (w.alloc (.cells #[.string s] 9)) w2 zb HO.out hcap HB2.out (fun z hz W hW=>HCl.out W hW z hz)).mono ?_;rintro e w3 h3;obtain⟨A4,n4,rfl,hr4,hb4⟩:=HF.out _ _ _ h3;clear h3))
 go_ret;refine⟨A4,n4,?_,hr4,hb4⟩
 first|rfl|simp
end
section
open Go.RowKit
structure Z5(w:World):Prop extends Env w where
 u8:Lib.Utf8Tabs 2 3 w
theorem Z5.go{w w':World}(h:Z5 w)(hb:Below w.heap.size w w'):Z5 w':=⟨h.toEnv.go hb,Utf8Tabs_below h.u8 hb⟩
theorem Z5.u{w:World}(h:Z5 w):KA w:=⟨h.toEnv.toEnv0,h.u8⟩
def VP(c:zt):Prop:=∀(name:ByteArray) (W:World),qk W c.tA c.tds->Z5 W->name.size<=1000000->Calls prog 123 #[.string name,zT c.tA c.tds c.tc,.int .i64 c.ix] W (Yl W (Yg name (zm c.tds) c.ix))
theorem MC{l:List At}{k v:ByteArray}{n:Nat}(h:l.length<=n/\∀x∈l,x.name.size<=100)(hk:k.size<=100):(zL l k v).length<=n+1/\∀x∈zL l k v,x.name.size<=100:=by
 unfold zL
 split
 · exact⟨Nat.le_succ_of_le h.1,h.2⟩
 · refine⟨Nat.le_trans (I5 _ _) (Nat.succ_le_succ h.1),fun x hx=>?_⟩;rcases Nk hx with h1|⟨rfl,_⟩
   · exact h.2 x h1
   · exact hk
theorem jn{l:List At}{k h:ByteArray}{v:Option ByteArray}{n:Nat}(hl:l.length<=n/\∀x∈l,x.name.size<=100)(hk:k.size<=100):(YI l k h v).length<=n+1/\∀x∈YI l k h v,x.name.size<=100:=by
 unfold YI
 split
 · split
   · exact MC hl hk
   · exact⟨Nat.le_succ_of_le hl.1,hl.2⟩
 · exact⟨Nat.le_succ_of_le hl.1,hl.2⟩
theorem O4:([]:List At).length<=0/\∀x∈([]:List At),x.name.size<=100:=⟨zo,fun _ h=>qD⟩
theorem zib{l:List At}{n m:Nat}(h:l.length<=n/\∀x∈l,x.name.size<=100)(hm:n<=m):l.length<=m/\∀x∈l,x.name.size<=100:=⟨Nat.le_trans h.1 hm,h.2⟩
theorem B6(nm:ByteArray)(l:List Dd)(n:Int):(Yg nm l n).length<=3/\∀x∈Yg nm l n,x.name.size<=100:=by
 unfold Yg
 split
 · unfold kb
   split
   · refine⟨by show 2<=3;omega,fun x hx=>?_⟩;simp only[List.mem_cons,List.not_mem_nil,or_false]at hx;rcases hx with rfl|rfl
     · show GV.size<=100;decide
     · show Iq.size<=100;decide
   · exact KN
 split
 · split
   · unfold VU
     split
     · split
       · exact MC (MC (MC O4 zi) zi) zi
       · exact KN
     · exact KN
   · exact KN
 split
 · split
   · unfold KB
     split
     · exact jn (jn (jn O4 zi) zi) zi
     · exact KN
   · exact KN
 · exact KN
theorem zeI(o:ByteArray):(YE o).length<=o.size+1:=Nat.le_trans (List.length_filterMap_le _ _) (Iv o 59)
theorem Env.grown{w w':World}{g:Nat}(h:Env w)(hg:w.grownBy w' (some g))(hn:nG<=g):Env w':=h.keep (AW hg hn h.toEnv0.size) zo
theorem Z5.grown{w w':World}{g:Nat}(h:Z5 w)(hg:w.grownBy w' (some g))(hn:nG<=g):Z5 w':=by
 have hb:=AW hg hn h.toEnv.toEnv0.size;have e1:2<nG:=zi;have e2:3<nG:=zi;refine⟨h.toEnv.grown hg hn,fun c hc=>?_,fun i hi=>⟨?_,?_⟩⟩
 · exact(hb.cell e1).trans (h.u8.1 c hc)
 · exact(hb.cell e2).trans (h.u8.2 i hi).1
 · exact(hb.cell e2).trans (h.u8.2 i hi).2
attribute [local go_sem ↓] kr kn
def Sk(w:World)(g:Nat)(c:zt)(x0 x:Em)(l:List At)(b:Bool)(W:World):Prop:=∀(e:Ending) (W5:World),Jg W (Uy x.dr.d l) e W5->∃y,e=.returned (.agg (zE y))/\(Zo qh (.pointer (some ⟨g,0,none⟩)) (.agg (zE y))).run prog W5=.ok () (W5.setRow g (qN c {x with dr:=y}))/\Kc w g c x0 (XV x.e l) (.bool b) (.returned (.bool b)) (W5.setRow g (qN c {x with dr:=y}))
theorem Gk{w w0 W:World}{g:Nat}{c:zt}{x0 x:Em}(h:zO w0 g c x)(h0:w.grownBy w0 (some g))(hf:Fr w x0 x)(hW:Below w0.heap.size w0 W)(l:List At)(b:Bool):Sk w g c x0 x l b W:=fun e W5 hP=>by
 obtain⟨y,rfl,hy,hst,h6,g6,f6⟩:=h.put hW hP;refine⟨y,rfl,hst,_,rfl,?_,h6,h0.trans g6,hf.trans f6 h0.size⟩;unfold Em.e XV;dsimp only;rw[hy]
 try rfl
theorem S6(g:Nat)(c:zt)(x:Em)(k:Nat)(t:Tm)(w:World)(h:zO w g c x)(hz:YX c x k)(hk1:k+1<=100000)(hE:Z5 w)(hg:nG<=g)(hs:t.value.size<=1000000)(hR:VP c):
 Calls prog 96 #[.pointer (some ⟨g,0,none⟩),qe t] w (Kc w g c x (QN c.c x.e t).1 (.bool (QN c.c x.e t).2)):=by
 obtain⟨ky,nmm,op,vl⟩:=t;dsimp only at hs;obtain⟨w1,hw1⟩:∃w1,w.alloc (.cells #[.int .i64 ky,.string nmm,.int .i64 op,.string vl] 52)=w1:=⟨_,rfl⟩;have hb1:Below w.heap.size w w1:=ZV;have hr1:w1.heap[w.heap.size]? =some (.cells #[.int .i64 ky,.string nmm,.int .i64 op,.string vl] 52 (0,0)):=Qc;have hs1:w1.heap.size=w.heap.size+1:=YJ;have HSx:Hid (∀W:World,(∀b,b<w1.heap.size->b≠g->W.heap[b]? =w1.heap[b]?)->W.cell? ⟨w.heap.size,0,none⟩=some (.int .i64 ky)/\W.cell? ⟨w.heap.size,1,none⟩=some (.string nmm)/\W.cell? ⟨w.heap.size,2,none⟩=some (.int .i64 op)/\W.cell? ⟨w.heap.size,3,none⟩=some (.string vl)):=za fun W hW=>by
  have h2:=(hW _ (zh hr1) (by have:=zh h.box;omega)).trans hr1;exact Rr
 have h1:=h.keep hb1;have hgl:g<w.heap.size:=zh h.box;have hgW:g<w1.heap.size:=zb;have hlW:w.heap.size<w1.heap.size:=zb;have hne:w.heap.size≠g:=zb;have hg1:=zG hb1 (some g);have q32:w1.cell? ⟨g,32,none⟩=some (.int .i64 c.dev.pa):=zd h1.box rfl;have q15:w1.cell? ⟨g,15,none⟩=some (.slice c.tA c.tds.length c.tc):=zd h1.box rfl;have q16:w1.cell? ⟨g,16,none⟩=some (.int .i64 c.ix):=zd h1.box rfl;have HC:=za (vW g c x k vl w1 h1 hz (hE.toEnv.go hb1) hs);have HI:=za (zfj g c x k vl w1 h1 hz hs);have HRn:=za (hR vl w1 h1.inp.tr (hE.go hb1) hs);have hpl:=hz.pl;have hpz:=hz.pz;have hpv:∀y∈c.r.props.l,y.val.size<=1000000:=hz.ok.par;have hbv:∀y∈Yg vl (zm c.tds) c.ix,y.val.size<=1000000:=hz.ok.bui vl;have hIm:∀(x:Em) (kd:Nat) (W0 W:World) (A:Option Addr) (cc:Nat) (l:List At),zO W0 g c x->Below W0.heap.size W0 W->zJ x.dr.d kd->kd<=100000->zr W W.heap.size A 2 l.length (cellsOf zu l)->l.length<=100000->(∀p∈l,p.name.size<=1000000/\p.val.size<=1000000)->Calls prog 124 #[.agg (zE x.dr),.slice A l.length cc] W (Jg W (Uy x.dr.d l)):=fun x kd W0 W A cc l h0 hW hG hkd hr hl hv=>zex x.dr A cc l kd W (h0.keep hW).dr hG hkd hr hl hv;unfold qe;have HW1:=za hw1;have HB1:=za hb1;have HH1:=za h1;have HG1:=za hg1;have HIm:=za hIm;have HZ:=za hz;have hE0:=hE;have hR0:=hR;obtain⟨c0,c1,c2,c3⟩:=HSx.out w1 (fun _ _ _=>rfl);by_cases e1:L nmm=jE
 · have b1:(nmm.toList==[112,114,111,103,114,97,109])=true:=by rw[tl,e1];decide
   have hF:QN c.c x.e ⟨ky,nmm,op,vl⟩=(XV (Q3 x.e (qL c.c x.e vl).2.1) (YE (qL c.c x.e vl).1),(qL c.c x.e vl).2.2==0):=by unfold QN;rw[if_pos e1]
   have hcs:(qL c.c x.e vl).1.size<=256/\0<=(qL c.c x.e vl).2.1/\(qL c.c x.e vl).2.1<=1000:=by
    have h3:=IW hz.ok.hp x.dr.calls (QC c.c x.e vl);exact⟨h3.2.2.1,h3.1,Int.le_trans h3.2.1 hz.ok.hp.2.1⟩
   have hgt:zJ (Q3 x.e (qL c.c x.e vl).2.1).dr (k+1):=zJ.tick hz.gd hcs.2.1 hcs.2.2;have hil:=zeI (qL c.c x.e vl).1;have hiz:=fun(p:At) (hp:p∈YE (qL c.c x.e vl).1)=>DT p hp;have HItm:=za (fun(W:World) (hW:Env0 W)=>zgF (qL c.c x.e vl).1 W hW zb);rw[hF];generalize hR9:qL c.c x.e vl=R at*;obtain⟨ou,ti,en⟩:=R;dsimp only at*;have HGt:=za hgt;have HIz:=za (show(YE ou).length<=100000/\∀p∈YE ou,p.name.size<=1000000/\p.val.size<=1000000 from⟨zb,fun p hp=>by have:=hiz p hp;omega⟩);clear hF hcs hgt hil hiz hw1 hb1 hr1 hs1 h hz hE hR h1 hg1 hpl hpz hpv hbv hIm hR9 HI HRn q32 q15 q16;have HE2:=za (fun(W:World) (h9:w1.grownBy W (some g))=>(hE0.grown (HG1.out.trans h9) hg));go_enter func96,ntmps96;go_upto_region 1 with fail
   rw[HW1.out];go_wp2_with (first
    |(go_at_call 95;refine HC.out.mono ?_;rintro e w2 ⟨x2,rfl,hx2,h2,g2,f2⟩;have HF2:=za f2;have HX2:=za hx2;have HO2:=za h2;have HG2:=za g2;have hE2:=HE2.out w2 g2;have HEE:=za hE2.toEnv.toEnv0;clear hx2 h2 g2 f2 hE2 c0 c1 c2 c3)
    |(go_at_call 121;refine(HItm.out w2 HEE.out).mono ?_;rintro e w3 ⟨A3,n3,rfl,hown,hb3⟩;have HR3:=za (zr.of_own hown);have HB3:=za hb3;have hld:=kP (HO2.out.keep hb3);clear hown hb3)
    |(go_at_call 124;refine(HIm.out x2 (k+1) w2 w3 A3 n3 (YE ou) HO2.out HB3.out (by rw[show x2.dr.d=x2.e.dr from rfl,HX2.out];exact HGt.out) hk1 HR3.out HIz.out.1 HIz.out.2).mono ?_;rintro e w5 hP;obtain⟨y,rfl,hst,hEnd⟩:=Gk HO2.out (HG1.out.trans HG2.out) ((Fr.same rfl rfl).trans HF2.out HB1.out.size) HB3.out (YE ou) (en==0) _ _ hP;have HEnd:=za hEnd;clear hP hEnd hld))
   go_ret;have h9:=HEnd.out;rw[HX2.out]at h9;exact h9
 · have b1:(nmm.toList==[112,114,111,103,114,97,109])=false:=by
    rw[tl,Bool.eq_false_iff];intro e;exact e1 (by simpa [jE]using e)
   have hE0':=hE0;clear hR HC;by_cases e2:L nmm=jy
   · have b2:(nmm.toList==[112,97,114,101,110,116])=true:=by rw[tl,e2];decide
     clear HRn q15 q16 hbv;by_cases hp:c.dev.pa=0
     · have hF:QN c.c x.e ⟨ky,nmm,op,vl⟩=(XV x.e [],false):=by unfold QN;rw[if_neg e1,if_pos e2,if_pos (show c.c.dev.pa=0 from hp)]
       rw[hF];rw[hp]at q32;have HI0:=za (hIm x k w1 w1 none 0 [] h1 zk hz.gd hz.kk zD.nil.row zi (fun p hp=>by cases hp));have HFd:=za (Gk h1 hg1 (x0:=x) (Fr.same rfl rfl) zk [] false);have hld:=kP h1;clear hF hw1 hb1 hr1 hs1 h hz hE h1 hg1 hpl hpz hpv hIm HI HIm;exact DN
     · have hF:QN c.c x.e ⟨ky,nmm,op,vl⟩=(XV x.e (c.r.props.l.filter fun p=>zS (L vl) (L p.name)),true):=by unfold QN;rw[if_neg e1,if_pos e2,if_neg (show¬c.c.dev.pa=0 from hp)];rfl
       rw[hF];have HIz:=za (show(c.r.props.l.filter fun p=>zS (L vl) (L p.name)).length<=100000/\∀p∈(c.r.props.l.filter fun p=>zS (L vl) (L p.name)),p.name.size<=1000000/\p.val.size<=1000000 from⟨Nat.le_trans (List.length_filter_le _ _) zb,fun p hp=>⟨hpz p (List.mem_filter.1 hp).1,hpv p (List.mem_filter.1 hp).1⟩⟩);have HGd:=za (show zJ x.dr.d k/\k<=100000 from⟨hz.gd,hz.kk⟩);generalize (c.r.props.l.filter fun p=>zS (L vl) (L p.name))=fl at*;clear hF hw1 hb1 hr1 hs1 h hz hE h1 hg1 hpl hpz hpv hIm;go_enter func96,ntmps96;go_upto_region 1 with fail
       rw[HW1.out];go_wp2_with (first
        |(go_at_call 122;refine HI.out.mono ?_;rintro e w3 ⟨A3,n3,rfl,hr3,hb3⟩;have HR3:=za hr3;have HB3:=za hb3;have hld:=kP (HH1.out.keep hb3);clear hr3 hb3 c0 c1 c2 c3 q32)
        |(go_at_call 124;refine(HIm.out x k w1 w3 A3 n3 fl HH1.out HB3.out HGd.out.1 HGd.out.2 HR3.out HIz.out.1 HIz.out.2).mono ?_;rintro e w5 hP;obtain⟨y,rfl,hst,hEnd⟩:=Gk HH1.out HG1.out (x0:=x) (Fr.same rfl rfl) HB3.out fl true _ _ hP;have HEnd:=za hEnd;clear hP hEnd hld))
       go_ret;exact HEnd.out
   · have b2:(nmm.toList==[112,97,114,101,110,116])=false:=by
      rw[tl,Bool.eq_false_iff];intro e;exact e2 (by simpa [jy]using e)
     clear HI q32;by_cases e3:L nmm=Rf
     · have b3:(nmm.toList==[98,117,105,108,116,105,110])=true:=by rw[tl,e3];decide
       have hF:QN c.c x.e ⟨ky,nmm,op,vl⟩=(XV x.e (Yg vl (zm c.tds) c.ix),!(Yg vl (zm c.tds) c.ix).isEmpty):=by unfold QN;rw[if_neg e1,if_neg e2,if_pos e3];rfl
       rw[hF];have hsm:=B6 vl (zm c.tds) c.ix;have HIz:=za (show(Yg vl (zm c.tds) c.ix).length<=100000/\∀p∈Yg vl (zm c.tds) c.ix,p.name.size<=1000000/\p.val.size<=1000000 from⟨zb,fun p hp=>⟨by have:=hsm.2 p hp;omega,hbv p hp⟩⟩);have HGd:=za (show zJ x.dr.d k/\k<=100000 from⟨hz.gd,hz.kk⟩);have HRu:=za (fun(W:World) (hW:Below w1.heap.size w1 W)=>hR0 vl W ((h1.keep hW).inp.tr) (hE0.go (bt hb1 hW)) hs);have HQ:Hid (∀W',Below w1.heap.size w1 W'->W'.cell? ⟨w.heap.size,3,none⟩=some (.string vl)/\W'.cell? ⟨g,15,none⟩=some (.slice c.tA c.tds.length c.tc)/\W'.cell? ⟨g,16,none⟩=some (.int .i64 c.ix)):=za fun W' hW'=>by
        have h3:=(h1.keep hW').box;exact⟨(HSx.out W' (fun b hb _=>hW'.block b hb)).2.2.2,zd h3 rfl,zd h3 rfl⟩
       generalize Yg vl (zm c.tds) c.ix=fl at*;unfold zT at*;clear hF hw1 hb1 hr1 hs1 h hz hE h1 hg1 hpl hpz hpv hIm hsm hbv HRn;go_enter func96,ntmps96;go_upto_region 1 with fail
       rw[HW1.out];go_upto_region 13 with fail
       go_region_held3 (fun W'=>W'.cell? ⟨w.heap.size,3,none⟩=some (.string vl)/\W'.cell? ⟨g,15,none⟩=some (.slice c.tA c.tds.length c.tc)/\W'.cell? ⟨g,16,none⟩=some (.int .i64 c.ix)) ((refine HQ.out _ ?_;first|exact zk.drew|exact hB3)) ((go_at_call 123;refine(HRu.out w1.drew zk.drew).mono ?_;rintro e w3 ⟨A3,n3,rfl,hr3,hb3⟩;(have hB3:Below w1.heap.size w1 w3:=bt zk.drew hb3)))
       have HR3:=za hr3.row.row;have HB3:=za hB3;have hld:=kP (HH1.out.keep hB3);clear hr3 hb3 hB3 c0 c1 c2 c3 q15 q16;have hlen:decide ((0:Int)<(fl.length:Int))= !fl.isEmpty:=by cases fl<;>simp
       go_wp2_with (go_at_call 124;refine(HIm.out x k w1 w3 A3 n3 fl HH1.out HB3.out HGd.out.1 HGd.out.2 HR3.out HIz.out.1 HIz.out.2).mono ?_;rintro e w5 hP;obtain⟨y,rfl,hst,hEnd⟩:=Gk HH1.out HG1.out (x0:=x) (Fr.same rfl rfl) HB3.out fl (!fl.isEmpty) _ _ hP;have HEnd:=za hEnd;clear hP hEnd hld)
       go_ret;refine(show∀b,b=(!fl.isEmpty)->Kc w g c x (XV x.e fl) (.bool (!fl.isEmpty)) (.returned (.bool b)) _ from fun b hb=>by rw[hb];exact HEnd.out) _ ?_;cases fl<;>simp
     · have b3:(nmm.toList==[98,117,105,108,116,105,110])=false:=by
        rw[tl,Bool.eq_false_iff];intro e;exact e3 (by simpa [Rf]using e)
       have hF:QN c.c x.e ⟨ky,nmm,op,vl⟩=(XV x.e [],false):=by unfold QN;rw[if_neg e1,if_neg e2,if_neg e3]
       rw[hF];have HI0:=za (hIm x k w1 w1 none 0 [] h1 zk hz.gd hz.kk zD.nil.row zi (fun p hp=>by cases hp));have HFd:=za (Gk h1 hg1 (x0:=x) (Fr.same rfl rfl) zk [] false);have hld:=kP h1;clear hF hw1 hb1 hr1 hs1 h hz hE h1 hg1 hpl hpz hpv hIm HIm HRn hbv q15 q16;exact DN
end
section
open Go.RowKit
theorem S2(c:zt)(x:Em)(d:Dv):ZS (qN c x) 43 (zq d).toList=qN c {x with ab:=d}:=zg
theorem zO.resS{w:World}{g:Nat}{c:zt}{x:Em}(h:zO w g c x)(s:ByteArray):zO (w.setCell ⟨g,10,none⟩ (.string s)) g c {x with dr:={x.dr with res:=s}}/\w.grownBy (w.setCell ⟨g,10,none⟩ (.string s)) (some g):=
 h.one 10 _ {x with dr:={x.dr with res:=s}} rfl ⟨h.dr.pr,h.dr.tg,h.dr.lk,h.dr.rn,h.dr.ld,h.dr.cl⟩ h.ab h.offx
theorem zO.reS{w:World}{g:Nat}{c:zt}{x:Em}(h:zO w g c x)(b:Bool):zO (w.setCell ⟨g,53,none⟩ (.bool b)) g c {x with re:=b}/\w.grownBy (w.setCell ⟨g,53,none⟩ (.bool b)) (some g):=
 h.one 53 _ {x with re:=b} rfl h.dr h.ab h.offx
theorem zO.abS{w w5:World}{g:Nat}{c:zt}{x:Em}(h:zO w g c x)(hb:Below w.heap.size w w5)(d:Dv)(hd:ZQ w5 d)(hf:∀p,d.ats.A=some p->p.block≠g):zO (w5.setRow g (qN c {x with ab:=d})) g c {x with ab:=d}/\w.grownBy (w5.setRow g (qN c {x with ab:=d})) (some g):=
 h.set hb {x with ab:=d} (h.dr.keep hb) hd (fun a ha=>by
  rcases List.mem_append.1 ha with h1|h1
  · exact h.offx a (List.mem_append_left _ h1)
  · rw[List.mem_singleton.1 h1];exact hf)
theorem JE(v:Value):Instr.loadAt zp v=qB zp v:=kO
theorem Ip(v u:Value):Instr.storeAt zp v u=Zo zp v u:=kN
theorem Hl{w:World}{g:Nat}{c:zt}{x:Em}(h:w.heap[g]? =some (.cells (qN c x) UY (0,0))):(qB zp (.pointer (some ⟨g,31,none⟩))).run prog w=.ok (zY c.dev) w:=
 UU (P:=prog) (w:=w) (T:=zp) (n:=10) (g:=g) (o:=31) (cs:=qN c x) IU NO h (by show 31+10<=54;omega)
theorem CM{w:World}{g:Nat}{c:zt}{x:Em}(h:w.heap[g]? =some (.cells (qN c x) UY (0,0)))(d:Dv):(Zo zp (.pointer (some ⟨g,43,none⟩)) (zY d)).run prog w=.ok () (w.setRow g (qN c {x with ab:=d})):=by
 have h1:=XC (P:=prog) (w:=w) (T:=zp) (g:=g) (o:=43) (cs:=qN c x) (vs:=zq d) h (by show 43+10<=54;omega) OW Zh (Mp d);rw[S2]at h1;exact h1
theorem YX.dok{c:zt}{x:Em}{k:Nat}(h:YX c x k){w:World}(ht:qk w c.tA c.tds){d:Dv}(hd:d.d∈zm c.tds):VF d:=by
 have h1:=h.dv _ hd;exact⟨Nat.le_trans h1.1.og zi,Nat.le_trans h1.2.1 zi,Nat.le_trans h1.2.2.1 zi,fun x hx=>Nat.le_trans (h1.2.2.2.2.2 x hx) zi,Nat.le_trans (h.atl w ht hd) zi⟩
theorem YX.drz{c:zt}{x:Em}{k:Nat}(h:YX c x k):Eu x.dr.d:=⟨Nat.le_trans h.gd.pl zi,h.gd.pv,h.gd.rs,Nat.le_trans h.gd.tl zi,h.gd.tv⟩
theorem Ej{l:List Tm}{ds:List Dd}{n:Int}{a:Dd}(h:Y7 l ds n=some a):a∈ds:=Mv (List.mem_of_find?_eq_some h)
def QK(g:Nat)(w W:World):Prop:=∀b,b<w.heap.size->b≠g->W.heap[b]? =w.heap[b]?
theorem QK.refl(g:Nat)(w:World):QK g w w:=fun _ _ _=>rfl
theorem QK.of{g:Nat}{w W:World}(h:w.grownBy W (some g)):QK g w W:=fun _b hb hn=>zdW h hb hn
theorem QK.below{g:Nat}{w W:World}(h:Below w.heap.size w W):QK g w W:=fun b hb _=>h.block b hb
structure KK(g:Nat)(c:zt)(x:Em)(k:Nat)(t:Tm)(y:Rl)(w:World):Prop where
 h:zO w g c x
 hz:YX c x k
 k1:k+1<=100000
 hE:Z5 w
 hg:nG<=g
 hs:t.value.size<=1000000
def Ur(g:Nat)(c:zt)(x:Em)(t:Tm)(y:Rl)(w:World):Prop:=
 Calls prog 74 #[.pointer (some ⟨g,0,none⟩),qe t,.agg #[.string y.file,.int .i64 y.line,.slice y.tms.A y.tms.l.length y.tms.c]] w (Kc w g c x (qZ c.c y.tms.l x.e t).1 (.bool (qZ c.c y.tms.l x.e t).2))
abbrev kq(a:Nat)(ky:Int)(nmm:ByteArray)(op:Int)(vl:ByteArray)(W:World):Prop:=
 W.cell? ⟨a,0,none⟩=some (.int .i64 ky)/\W.cell? ⟨a,1,none⟩=some (.string nmm)/\W.cell? ⟨a,2,none⟩=some (.int .i64 op)/\W.cell? ⟨a,3,none⟩=some (.string vl)
def TX(g:Nat)(w:World)(ky:Int)(nmm:ByteArray)(op:Int)(vl:ByteArray)(w1:World)(b:Bool)(e:Ending)(W:World):Prop:=
 e=.returned (.bool b)/\Below w1.heap.size w1 W/\g<W.heap.size/\w.heap.size<W.heap.size/\w.heap.size+1<W.heap.size/\kq w.heap.size ky nmm op vl W
structure Uh(g:Nat)(w:World)(ky:Int)(nmm:ByteArray)(op:Int)(vl:ByteArray)(y:Rl)(w1:World):Prop where
 W:(w.alloc (.cells #[.int .i64 ky,.string nmm,.int .i64 op,.string vl] Ud)).alloc (.cells #[.string y.file,.int .i64 y.line,.slice y.tms.A y.tms.l.length y.tms.c] 56)=w1
 B:Below w.heap.size w w1
 Sx:∀W,QK g w1 W->kq w.heap.size ky nmm op vl W
 Sy:∀W,QK g w1 W->W.cell? ⟨w.heap.size+1,2,none⟩=some (.slice y.tms.A y.tms.l.length y.tms.c)
 St:∀W,Below w1.heap.size w1 W->Calls prog 91 #[.agg #[.int .i64 ky,.string nmm,.int .i64 op,.string vl]] W (TX g w ky nmm op vl w1 (Z4 ⟨ky,nmm,op,vl⟩))
 Up:∀W,Below w1.heap.size w1 W->Calls prog 93 #[.agg #[.int .i64 ky,.string nmm,.int .i64 op,.string vl]] W (TX g w ky nmm op vl w1 (qO ⟨ky,nmm,op,vl⟩))
theorem Qa{g:Nat}{w:World}(y:Rl)(ky:Int)(nmm:ByteArray)(op:Int)(vl:ByteArray)(hgl:g<w.heap.size):∃w1,Uh g w ky nmm op vl y w1/\g<w1.heap.size/\w.heap.size<w1.heap.size/\w.heap.size+1<w1.heap.size:=by
 obtain⟨w1,hw1⟩:∃w1,(w.alloc (.cells #[.int .i64 ky,.string nmm,.int .i64 op,.string vl] Ud)).alloc (.cells #[.string y.file,.int .i64 y.line,.slice y.tms.A y.tms.l.length y.tms.c] 56)=w1:=⟨_,rfl⟩;have hb1:Below w.heap.size w w1:=Vb;have hr1:w1.heap[w.heap.size]? =some (.cells #[.int .i64 ky,.string nmm,.int .i64 op,.string vl] Ud (0,0)):=kB;have hr2:w1.heap[w.heap.size+1]? =some (.cells #[.string y.file,.int .i64 y.line,.slice y.tms.A y.tms.l.length y.tms.c] 56 (0,0)):=by
  rw[<-hw1];have:=heap_alloc_new (w.alloc (.cells #[.int .i64 ky,.string nmm,.int .i64 op,.string vl] Ud)) (.cells #[.string y.file,.int .i64 y.line,.slice y.tms.A y.tms.l.length y.tms.c] 56);exact Q2
 have hs1:w1.heap.size=w.heap.size+2:=YJ;have hx:∀W,QK g w1 W->kq w.heap.size ky nmm op vl W:=fun W hW=>by
  have h2:=(hW _ (zh hr1) zb).trans hr1;exact Rr
 have ha:∀(W W':World) (b:Bool) (e:Ending),Below w1.heap.size w1 W->(e=.returned (.bool b)/\Below W.heap.size W W')->TX g w ky nmm op vl w1 b e W':=fun W W' b e hW h=>by
  have hb:=bt hW h.2;have hz:=hb.size;exact⟨h.1,hb,zb,zb,zb,hx _ (QK.below hb)⟩
 exact⟨w1,⟨hw1,hb1,hx,fun W hW=>zd ((hW _ (zh hr2) zb).trans hr2) rfl,fun W hW=>(zaa ⟨ky,nmm,op,vl⟩ W).mono fun e W' h=>ha W W' _ e hW h,fun W hW=>(Dq ⟨ky,nmm,op,vl⟩ W).mono fun e W' h=>ha W W' _ e hW h⟩,zb,zb,zb⟩
end
section
open Go.RowKit
attribute [local go_sem ↓] kr kn JE Ip
theorem zeV{g:Nat}{c:zt}{x:Em}{k:Nat}{t:Tm}{y:Rl}{w:World}(H:KK g c x k t y w)(hS:Z4 t=true):Ur g c x t y w:=by
 obtain⟨ky,nmm,op,vl⟩:=t;have hs:vl.size<=1000000:=H.hs;obtain⟨w1,HP,hgW,hlW,hlX⟩:=Qa y ky nmm op vl (zh H.h.box);have h1:=H.h.keep HP.B;have HH1:=za h1;have HG1:=za (zG HP.B (some g));have HSt:=za HP.St;have HUp:=za HP.Up;rw[hS]at HSt;have HD:=za (fun(W:World) (hW:Below w1.heap.size w1 W)=>ya ⟨ky,nmm,op,vl⟩ c.dev W QX (H.hz.dok H.h.inp.tr H.hz.dev) ((h1.dev.keep hW).row));have HQ:Hid (∀W',Below w1.heap.size w1 W'->kq w.heap.size ky nmm op vl W'/\(qB zp (.pointer (some ⟨g,31,none⟩))).run prog W'=.ok (zY c.dev) W'):=za fun W' hW'=>⟨HP.Sx W' (QK.below hW'),Hl ((hW'.block _ hgW).trans h1.box)⟩;unfold Ur;rw[show qZ c.c y.tms.l x.e ⟨ky,nmm,op,vl⟩=(x.e,Yn ⟨ky,nmm,op,vl⟩ c.dev) by unfold qZ;rw[if_pos hS];rfl];generalize Yn ⟨ky,nmm,op,vl⟩ c.dev=bb at*;clear HUp h1;unfold qe at*;go_enter func74,ntmps74;go_upto_region 1 with fail
 rw[HP.W];obtain⟨c0,c1,c2,c3⟩:=HP.Sx w1 (QK.refl _ _);go_upto_region 2 with(go_at_call 91;refine(HSt.out _ zk).mono ?_;rintro e w2 ⟨rfl,hb2,hgW2,hlW2,hlX2,d0,d1,d2,d3⟩;have HB2:=za hb2;clear hb2 c0 c1 c2 c3)
 go_region_held3 (fun W'=>kq w.heap.size ky nmm op vl W'/\(qB zp (.pointer (some ⟨g,31,none⟩))).run prog W'=.ok (zY c.dev) W') ((refine HQ.out _ ?_;first|exact bt HB2.out zk.drew|exact hB3)) ((go_at_call 92;refine(HD.out _ (bt HB2.out zk.drew)).mono ?_;rintro e w3 ⟨rfl,hb3⟩;(have hB3:Below w1.heap.size w1 w3:=bt (bt HB2.out zk.drew) hb3)))
 go_wp2;go_ret;exact⟨x,rfl,rfl,HH1.out.keep hB3,HG1.out.trans (zG hB3 _),Fr.same rfl rfl⟩
theorem Sh{g:Nat}{c:zt}{x:Em}{k:Nat}{t:Tm}{y:Rl}{w:World}(H:KK g c x k t y w)(hS:Z4 t=false)(hU:qO t=true)(hre:x.re=true):Ur g c x t y w:=by
 obtain⟨ky,nmm,op,vl⟩:=t;have hs:vl.size<=1000000:=H.hs;obtain⟨w1,HP,hgW,hlW,hlX⟩:=Qa y ky nmm op vl (zh H.h.box);have h1:=H.h.keep HP.B;have HH1:=za h1;have HG1:=za (zG HP.B (some g));have HSt:=za HP.St;have HUp:=za HP.Up;rw[hS]at HSt;rw[hU]at HUp;unfold Ur;rw[show qZ c.c y.tms.l x.e ⟨ky,nmm,op,vl⟩=(x.e,true) by
  unfold qZ;rw[hS,if_neg zl,hU,if_pos rfl,if_pos (show x.e.re=true from hre)]]
 have HQ:Hid (∀W',Below w1.heap.size w1 W'->W'.cell? ⟨g,53,none⟩=some (.bool true)):=za fun W' hW'=>by rw[<-hre];exact zd ((hW'.block _ hgW).trans h1.box) rfl
 clear hS hU hre h1;unfold qe at*;go_enter func74,ntmps74;go_upto_region 1 with fail
 rw[HP.W];obtain⟨c0,c1,c2,c3⟩:=HP.Sx w1 (QK.refl _ _);go_wp2_with (first
  |(go_at_call 91;refine(HSt.out _ zk).mono ?_;rintro e w2 ⟨rfl,hb2,hgW2,hlW2,hlX2,d0,d1,d2,d3⟩;have HB2:=za hb2;clear hb2 c0 c1 c2 c3)
  |(go_at_call 93;refine(HUp.out _ HB2.out).mono ?_;rintro e w3 ⟨rfl,hb3,hgW3,hlW3,hlX3,e0,e1,e2,e3⟩;have HB3:=za hb3;have q53:=HQ.out w3 HB3.out;clear hb3 d0 d1 d2 d3))
 go_ret;exact⟨x,rfl,rfl,HH1.out.keep HB3.out,HG1.out.trans (zG HB3.out _),Fr.same rfl rfl⟩
end
section
open Go.RowKit
attribute [local go_sem ↓] kr kn JE Ip
theorem Bk{g:Nat}{c:zt}{x:Em}{k:Nat}{t:Tm}{y:Rl}{w:World}(H:KK g c x k t y w)(hS:Z4 t=false)(hU:qO t=true)(hre:x.re=false)(hr:zD w y.tms.A 4 y.tms.l.length (cellsOf zN y.tms.l))(hnil:y.tms.A=none->y.tms.c=0)(hoff:∀p,y.tms.A=some p->p.block≠g)(hl:y.tms.l.length<=1000000)(hv:∀t∈y.tms.l,t.value.size<=1000000):Ur g c x t y w:=by
 obtain⟨ky,nmm,op,vl⟩:=t;have hs:vl.size<=1000000:=H.hs;obtain⟨w1,HP,hgW,hlW,hlX⟩:=Qa y ky nmm op vl (zh H.h.box);have h1:=H.h.keep HP.B;have HH1:=za h1;have HG1:=za (zG HP.B (some g));have HSt:=za HP.St;have HUp:=za HP.Up;rw[hS]at HSt;rw[hU]at HUp;have hz:=H.hz;have hi:=H.h.inp.tr;have HF:=za (show qZ c.c y.tms.l x.e ⟨ky,nmm,op,vl⟩=match Y7 y.tms.l (zm c.tds) c.ix with|none=>({x.e with re:=true},false)|some a=>({x.e with ab:=a,re:=true},true) by
  unfold qZ;rw[hS,if_neg zl,hU,if_pos rfl,if_neg (show¬x.e.re=true by show¬x.re=true;rw[hre];simp)];show(match Y7 y.tms.l (zm c.tds) c.ix with|some a=>_|none=>_)=_;cases Y7 y.tms.l (zm c.tds) c.ix<;>rfl)
 have HQ:Hid (∀W',Below w1.heap.size w1 W'->W'.cell? ⟨g,53,none⟩=some (.bool false)/\W'.frozen? ⟨g,53,none⟩=false/\zO (W'.setCell ⟨g,53,none⟩ (.bool true)) g c {x with re:=true}/\w1.grownBy (W'.setCell ⟨g,53,none⟩ (.bool true)) (some g)):=za fun W' hW'=>by
  have hb:=(hW'.block _ hgW).trans h1.box;obtain⟨k1,k2⟩:=(h1.keep hW').reS true;exact⟨by rw[<-hre];exact zd hb rfl,qb hb 53,k1,(zG hW' _).trans k2⟩
 have HR1:=za (hr.keep HP.B);have HAn:Hid (∀W,zO W g c {x with re:=true}->w1.grownBy W (some g)->Calls prog 94 #[.slice y.tms.A y.tms.l.length y.tms.c,.agg #[.slice c.tA c.tds.length c.tc],.int .i64 c.ix] W (NR (Y7 y.tms.l (zm c.tds) c.ix) W)):=za fun W hW hgr=>
  zgi y.tms.A y.tms.c y.tms.l c.tA c.tc c.tds c.ix W (HR1.out.grown hgr (fun p e k=>hoff p e (zx k))) hnil hl hv hW.inp.tr (fun d hd=>(hz.dv d hd).1) (fun z hzm=>hz.dok hi (List.mem_map_of_mem hzm)) hz.wf hz.ix1 hz.ix2
 have HFd:Hid (∀a W,Y7 y.tms.l (zm c.tds) c.ix=some a->zO W g c {x with re:=true}->Calls prog 9 #[.agg #[.slice c.tA c.tds.length c.tc],.int .i64 a.ix] W (YP (some a) W)):=za fun a W hA hW=>by
  have h9:=V0 c.tA c.tc c.tds a.ix W hW.inp.tr;rw[DB hz.wf (Ej hA)]at h9;exact h9
 have HEv:Hid (∀W',zO W' g c {x with re:=true}->W'.cell? ⟨g,15,none⟩=some (.slice c.tA c.tds.length c.tc)/\W'.cell? ⟨g,16,none⟩=some (.int .i64 c.ix)):=za fun W' hW'=>⟨zd hW'.box rfl,zd hW'.box rfl⟩;clear hS hU hre hr hnil hoff hl hv hz hi h1;unfold Ur;generalize Y7 y.tms.l (zm c.tds) c.ix=o at*;unfold qe at*;go_enter func74,ntmps74;go_upto_region 1 with fail
 rw[HP.W];obtain⟨c0,c1,c2,c3⟩:=HP.Sx w1 (QK.refl _ _);go_upto_region 7 with(first
  |(go_at_call 91;refine(HSt.out _ zk).mono ?_;rintro e w2 ⟨rfl,hb2,hgW2,hlW2,hlX2,d0,d1,d2,d3⟩;have HB2:=za hb2;clear hb2 c0 c1 c2 c3)
  |(go_at_call 93;refine(HUp.out _ HB2.out).mono ?_;rintro e w3 ⟨rfl,hb3,hgW3,hlW3,hlX3,e0,e1,e2,e3⟩;have HB3:=za hb3;obtain⟨q53,f53,H4,G4⟩:=HQ.out w3 HB3.out;have HO4:=za H4;have HG4:=za G4;clear H4 G4;clear hb3 d0 d1 d2 d3))
 obtain⟨w4,hw4⟩:∃w4,w3.setCell ⟨g,53,none⟩ (.bool true)=w4:=⟨_,rfl⟩;rw[hw4]at HO4 HG4⊢;have hz4:w1.heap.size<=w4.heap.size:=by rw[<-hw4];simp only[World.setCell];simpa using HB3.out.size
 clear hw4 q53 f53 e0 e1 e2 e3;have HQ4:Hid (∀W',Below w4.heap.size w4 W'->W'.cell? ⟨w.heap.size+1,2,none⟩=some (.slice y.tms.A y.tms.l.length y.tms.c)/\W'.cell? ⟨g,15,none⟩=some (.slice c.tA c.tds.length c.tc)/\W'.cell? ⟨g,16,none⟩=some (.int .i64 c.ix)):=za fun W' hW'=>⟨HP.Sy W' (fun b hb hn=>(hW'.block b (Nat.lt_of_lt_of_le hb hz4)).trans (QK.of HG4.out b hb hn)),HEv.out W' (HO4.out.keep hW')⟩
 go_region_held3 (fun W'=>W'.cell? ⟨w.heap.size+1,2,none⟩=some (.slice y.tms.A y.tms.l.length y.tms.c)/\W'.cell? ⟨g,15,none⟩=some (.slice c.tA c.tds.length c.tc)/\W'.cell? ⟨g,16,none⟩=some (.int .i64 c.ix)) ((refine HQ4.out _ ?_;first|exact zk.drew|exact hB5)) ((go_at_call 94;refine(HAn.out _ (HO4.out.keep zk.drew) (HG4.out.trans (zG zk.drew _))).mono ?_;rintro e w5 ⟨rfl,hb5⟩;(have hB5:Below w4.heap.size w4 w5:=bt zk.drew hb5)))
 have HO5:=za (HO4.out.keep hB5);have HG5:=za (HG4.out.trans (zG hB5 (some g)));clear hb5 hB5;have hF:=HF.out;cases o with
 | none=>
   go_wp2;go_ret;exact⟨_,rfl,rfl,HO5.out,HG1.out.trans HG5.out,Fr.same rfl rfl⟩
 | some a=>
   obtain⟨q15,q16⟩:=HEv.out w5 HO5.out;have hg5:g<w5.heap.size:=zh HO5.out.box;go_wp2_with (go_at_call 9;refine(HFd.out a w5 rfl HO5.out).mono ?_;rintro e w6 ⟨z,rfl,hz1,hz2,hz3,hb6⟩;obtain⟨H7,G7⟩:=HO5.out.abS hb6 z hz2 (fun p e=>by have:=hz3 p e;omega);have HO7:=za H7;have HG7:=za G7;have HZ1:=za hz1;have HZ3:=za hz3;have hst:=CM ((hb6.block _ hg5).trans HO5.out.box) z;clear H7 G7 hz1 hz2 hz3 hb6)
   go_ret;rw[hF];refine⟨_,rfl,?_,HO7.out,HG1.out.trans (HG5.out.trans HG7.out),⟨fun b hb _ _=>Or.inr hb,fun b hb p e=>?_⟩⟩
   rotate_left
   · rcases List.mem_append.1 hb with h1|h1
     · exact Or.inr (List.mem_append_left _ h1)
     · rw[List.mem_singleton.1 h1]at e;have k1:w5.heap.size<=p.block:=HZ3.out p e;have k2:=HG5.out.size;have k3:=HP.B.size;exact kJ
   unfold Em.e;dsimp only;rw[HZ1.out]
end
section
open Go.RowKit
attribute [local go_sem ↓] kr kn JE Ip
theorem Sn{g:Nat}{c:zt}{x:Em}{k:Nat}{t:Tm}{y:Rl}{w:World}(H:KK g c x k t y w)(hS:Z4 t=false)(hU:qO t=false)(hK:t.key=12):Ur g c x t y w:=by
 obtain⟨ky,nmm,op,vl⟩:=t;have hs:vl.size<=1000000:=H.hs;obtain⟨w1,HP,hgW,hlW,hlX⟩:=Qa y ky nmm op vl (zh H.h.box);have h1:=H.h.keep HP.B;have HH1:=za h1;have HG1:=za (zG HP.B (some g));have HSt:=za HP.St;have HUp:=za HP.Up;rw[hS]at HSt;rw[hU]at HUp;have hky:ky=12:=hK;subst hky;unfold Ur;rw[show qZ c.c y.tms.l x.e ⟨12,nmm,op,vl⟩=({Q3 x.e (qL c.c x.e vl).2.1 with dr:={(Q3 x.e (qL c.c x.e vl).2.1).dr with res:=(qL c.c x.e vl).1}},((qL c.c x.e vl).2.2==0)==(op==1)) by
  unfold qZ;rw[hS,if_neg zl,hU,if_neg zl,if_pos rfl]]
 have HC:=za (fun(W:World) (hW:Below w1.heap.size w1 W)=>vW g c x k vl W (h1.keep hW) H.hz ((H.hE.go (bt HP.B hW)).toEnv) hs);generalize Q3 x.e (qL c.c x.e vl).2.1=te at*;generalize (qL c.c x.e vl).1=ou at*;generalize ((qL c.c x.e vl).2.2==0)=bb at*;clear hS hU hK h1;unfold qe at*;go_enter func74,ntmps74;go_upto_region 1 with fail
 rw[HP.W];obtain⟨c0,c1,c2,c3⟩:=HP.Sx w1 (QK.refl _ _);go_wp2_with (first
  |(go_at_call 91;refine(HSt.out _ zk).mono ?_;rintro e w2 ⟨rfl,hb2,hgW2,hlW2,hlX2,d0,d1,d2,d3⟩;have HB2:=za hb2;clear hb2 c0 c1 c2 c3)
  |(go_at_call 93;refine(HUp.out _ HB2.out).mono ?_;rintro e w3 ⟨rfl,hb3,hgW3,hlW3,hlX3,e0,e1,e2,e3⟩;have HB3:=za hb3;clear hb3 d0 d1 d2 d3)
  |(go_at_call 95;refine(HC.out w3 HB3.out).mono ?_;rintro e w4 ⟨x4,rfl,hx4,h4,g4,f4⟩;have HF4:=za f4;obtain⟨h5,g5⟩:=h4.resS ou;have HX4:=za hx4;have HO5:=za h5;have q10:=zd (j:=10) h4.box rfl;have f10:=qb h4.box 10;have HG5:=za ((zG HB3.out (some g)).trans (g4.trans g5));obtain⟨d0,d1,d2,d3⟩:=HP.Sx _ (QK.of HG5.out);(have hlW5:w.heap.size<(w4.setCell ⟨g,10,none⟩ (.string ou)).heap.size:=Nat.lt_of_lt_of_le hlW HG5.out.size);clear h4 g4 h5 g5 hx4 f4 e0 e1 e2 e3))
 go_ret;refine⟨_,rfl,?_,HO5.out,HG1.out.trans HG5.out,Fr.trans (y:=x) (Fr.same rfl rfl) ⟨HF4.out.d,HF4.out.a⟩ (Nat.le_trans HP.B.size HB3.out.size)⟩;unfold Em.e;dsimp only;have e9:=HX4.out;unfold Em.e at e9;rw[<-e9];rfl
theorem zcg{g:Nat}{c:zt}{x:Em}{k:Nat}{t:Tm}{y:Rl}{w:World}(H:KK g c x k t y w)(hS:Z4 t=false)(hU:qO t=false)(hK:t.key=14)(hR:VP c):Ur g c x t y w:=by
 obtain⟨ky,nmm,op,vl⟩:=t;have hs:vl.size<=1000000:=H.hs;obtain⟨w1,HP,hgW,hlW,hlX⟩:=Qa y ky nmm op vl (zh H.h.box);have h1:=H.h.keep HP.B;have HH1:=za h1;have HG1:=za (zG HP.B (some g));have HSt:=za HP.St;have HUp:=za HP.Up;rw[hS]at HSt;rw[hU]at HUp;have hky:ky=14:=hK;subst hky;unfold Ur;rw[show qZ c.c y.tms.l x.e ⟨14,nmm,op,vl⟩=((QN c.c x.e ⟨14,nmm,op,vl⟩).1,(QN c.c x.e ⟨14,nmm,op,vl⟩).2==(op==1)) by
  unfold qZ;rw[hS,if_neg zl,hU,if_neg zl,if_neg (by show¬(14:Int)=12;decide),if_pos rfl]]
 have HC:=za (fun(W:World) (hW:Below w1.heap.size w1 W)=>S6 g c x k ⟨14,nmm,op,vl⟩ W (h1.keep hW) H.hz H.k1 (H.hE.go (bt HP.B hW)) H.hg hs hR);generalize (QN c.c x.e ⟨14,nmm,op,vl⟩).1=te at*;generalize (QN c.c x.e ⟨14,nmm,op,vl⟩).2=bb at*;clear hS hU hK h1;unfold qe at*;go_enter func74,ntmps74;go_upto_region 1 with fail
 rw[HP.W];obtain⟨c0,c1,c2,c3⟩:=HP.Sx w1 (QK.refl _ _);go_upto_region 16 with(first
  |(go_at_call 91;refine(HSt.out _ zk).mono ?_;rintro e w2 ⟨rfl,hb2,hgW2,hlW2,hlX2,d0,d1,d2,d3⟩;have HB2:=za hb2;clear hb2 c0 c1 c2 c3)
  |(go_at_call 93;refine(HUp.out _ HB2.out).mono ?_;rintro e w3 ⟨rfl,hb3,hgW3,hlW3,hlX3,e0,e1,e2,e3⟩;have HB3:=za hb3;clear hb3 d0 d1 d2 d3))
 go_region_held3 (fun W'=>kq w.heap.size 14 nmm op vl W') ((refine HP.Sx _ (QK.of ?_);first|exact zG (bt HB3.out zk.drew) _|exact hG4)) ((go_at_call 96;refine(HC.out w3.drew (bt HB3.out zk.drew)).mono ?_;rintro e w4 ⟨x4,rfl,hx4,h4,g4,f4⟩;(have hG4:w1.grownBy w4 (some g):=(zG (bt HB3.out zk.drew) (some g)).trans g4)))
 go_wp2;go_ret;exact⟨x4,rfl,hx4,h4,HG1.out.trans hG4,Fr.trans (Fr.same rfl rfl) f4 (Nat.le_trans HP.B.size (Nat.le_trans HB3.out.size zo))⟩
end
section
open Go.RowKit
attribute [local go_sem ↓] kr kn JE Ip
theorem SW{g:Nat}{c:zt}{x:Em}{k:Nat}{t:Tm}{y:Rl}{w:World}(H:KK g c x k t y w)(hS:Z4 t=false)(hU:qO t=false)(hK1:t.key≠12)(hK2:t.key≠14):Ur g c x t y w:=by
 obtain⟨ky,nmm,op,vl⟩:=t;have hs:vl.size<=1000000:=H.hs;obtain⟨w1,HP,hgW,hlW,hlX⟩:=Qa y ky nmm op vl (zh H.h.box);have h1:=H.h.keep HP.B;have HH1:=za h1;have HG1:=za (zG HP.B (some g));have HSt:=za HP.St;have HUp:=za HP.Up;rw[hS]at HSt;rw[hU]at HUp;have n12:ky≠12:=hK1;have n14:ky≠14:=hK2;unfold Ur;rw[show qZ c.c y.tms.l x.e ⟨ky,nmm,op,vl⟩=(x.e,K7 ⟨ky,nmm,op,vl⟩ c.act x.dr.d) by
  unfold qZ;rw[hS,if_neg zl,hU,if_neg zl,if_neg n12,if_neg n14];rfl]
 have HD:=za (fun(W:World) (hW:Below w1.heap.size w1 W)=>zaW ⟨ky,nmm,op,vl⟩ c.act x.dr W (h1.keep hW).dr H.hz.drz hs H.hz.act);generalize K7 ⟨ky,nmm,op,vl⟩ c.act x.dr.d=bb at*;have HQ:Hid (∀W',Below w1.heap.size w1 W'->kq w.heap.size ky nmm op vl W'/\W'.cell? ⟨g,14,none⟩=some (.string c.act)/\(qB qh (.pointer (some ⟨g,0,none⟩))).run prog W'=.ok (.agg (zE x.dr)) W'):=za fun W' hW'=>⟨HP.Sx W' (QK.below hW'),zd ((hW'.block _ hgW).trans h1.box) rfl,kP (h1.keep hW')⟩;clear hS hU hK1 hK2 h1;unfold qe at*;go_enter func74,ntmps74;go_upto_region 1 with fail
 rw[HP.W];obtain⟨c0,c1,c2,c3⟩:=HP.Sx w1 (QK.refl _ _);go_upto_region 17 with(first
  |(go_at_call 91;refine(HSt.out _ zk).mono ?_;rintro e w2 ⟨rfl,hb2,hgW2,hlW2,hlX2,d0,d1,d2,d3⟩;have HB2:=za hb2;clear hb2 c0 c1 c2 c3)
  |(go_at_call 93;refine(HUp.out _ HB2.out).mono ?_;rintro e w3 ⟨rfl,hb3,hgW3,hlW3,hlX3,e0,e1,e2,e3⟩;have HB3:=za hb3;clear hb3 d0 d1 d2 d3))
 go_region_held3 (fun W'=>kq w.heap.size ky nmm op vl W'/\W'.cell? ⟨g,14,none⟩=some (.string c.act)/\(qB qh (.pointer (some ⟨g,0,none⟩))).run prog W'=.ok (.agg (zE x.dr)) W') ((refine HQ.out _ ?_;first|exact bt HB3.out zk.drew|exact hB4)) ((go_at_call 97;refine(HD.out _ (bt HB3.out zk.drew)).mono ?_;rintro e w4 ⟨rfl,hb4⟩;(have hB4:Below w1.heap.size w1 w4:=bt (bt HB3.out zk.drew) hb4)))
 go_wp2;go_ret;exact⟨x,rfl,rfl,HH1.out.keep hB4,HG1.out.trans (zG hB4 _),Fr.same rfl rfl⟩
end
section
open Go.RowKit
theorem zhI(g:Nat)(c:zt)(x:Em)(k:Nat)(t:Tm)(y:Rl)(w:World)(h:zO w g c x)(hz:YX c x k)(hk1:k+1<=100000)(hE:Z5 w)(hg:nG<=g)(hs:t.value.size<=1000000)(hr:zD w y.tms.A 4 y.tms.l.length (cellsOf zN y.tms.l))(hnil:y.tms.A=none->y.tms.c=0)(hoff:∀p,y.tms.A=some p->p.block≠g)(hl:y.tms.l.length<=1000000)(hv:∀t∈y.tms.l,t.value.size<=1000000)(hR:t.key=14->VP c):
 Calls prog 74 #[.pointer (some ⟨g,0,none⟩),qe t,.agg #[.string y.file,.int .i64 y.line,.slice y.tms.A y.tms.l.length y.tms.c]] w (Kc w g c x (qZ c.c y.tms.l x.e t).1 (.bool (qZ c.c y.tms.l x.e t).2)):=by
 have H:KK g c x k t y w:=⟨h,hz,hk1,hE,hg,hs⟩;cases hS:Z4 t with
 |true=>exact zeV H hS
 | false=>
   cases hU:qO t with
   | true=>
     cases hre:x.re with
     |true=>exact Sh H hS hU hre
     |false=>exact Bk H hS hU hre hr hnil hoff hl hv
   | false=>
     by_cases h12:t.key=12
     · exact Sn H hS hU h12
     · by_cases h14:t.key=14
       · exact zcg H hS hU h14 (hR h14)
       · exact SW H hS hU h12 h14
end
section
open Go.RowKit
theorem SM:(prog.info? Q9).map (fun i=>(i.zero,i.size,i.bytes))=some (some (.agg #[.int .i64 0,.string ⟨#[]⟩,.int .i64 0,.string ⟨#[]⟩]),4,48):=zg
theorem zde{B:Nat}{A:Option Addr}{c:Nat}{l:List Tm}(t:Tm)(w:World)(h:w.ownsRow B Q9 4 (.slice A l.length c) l.length (cellsOf zN l))(hl:l.length<=1000000)(hB:B<=w.heap.size):
 ∃A' c' w',(Z2 #[141,141] 141 #[.slice A l.length c,.slice (some ⟨w.heap.size,0,none⟩) 1 1]).run prog (w.alloc (.cells #[.int .i64 t.key,.string t.name,.int .i64 t.op,.string t.value] Q9))=.ok (.slice A' (l.length+1) c') w'/\w'.ownsRow B Q9 4 (.slice A' (l.length+1) c') (l.length+1) (cellsOf zN (l++[t]))/\w.grownBy w' (Value.slice A l.length c).ownBlock/\∀p,A'=some p->w.heap.size<=p.block∨∃q,A=some q/\q.block=p.block:=by
 obtain⟨i0,hi0,hz0,hz1,hz2⟩:=info_parts SM;obtain⟨v',w',h1,h2,h3,_,h5⟩:=run_append_own_at (P:=prog) (w.alloc (.cells #[.int .i64 t.key,.string t.name,.int .i64 t.op,.string t.value] Q9)) B 141 141 Q9 i0 _ 4 48 underlying141 hi0 hz0 hz1 hz2 rfl zi (.slice A l.length c) l.length _ (qg h zw) ⟨w.heap.size,0,none⟩ 1 1 (zN t) rfl (fun j u hu=>by
  rw[XS,Nat.zero_add];exact zd (heap_alloc_new w _) KU) Nu qi zb (Nat.le_trans hB (zI w _).size)
 rw[Z9]at h1;obtain⟨NA,nc,rfl⟩:=Z3 h2;have hc:cellsOf zN (l++[t])=cellsOf zN l++zN t:=JI;refine⟨NA,nc,w',h1,Jo,(zG (zI w _) _).trans h3,fun p hp=>?_⟩;have hpb:(Value.slice NA (l.length+1) nc).ownBlock=some p.block:=Kb;rcases h5 with k|k
 · exact Ja
 · rw[hpb]at k;have:=zx k;have:=(zI w (.cells #[.int .i64 t.key,.string t.name,.int .i64 t.op,.string t.value] Q9)).size;exact kJ
theorem zit(c:Zm)(l:List Tm){k:Nat}(hk:k<l.length)(x:Ev):Qm c l (l.drop k) x=if qA l[k].op then(if(qZ c l x l[k]).2 then Qm c l (l.drop (k+1)) (qZ c l x l[k]).1 else((qZ c l x l[k]).1,false))else Qm c l (l.drop (k+1)) x:=by
 rw[List.drop_eq_getElem_cons hk];rfl
theorem zcx(c:Zm)(l:List Tm)(x:Ev):Qm c l (l.drop l.length) x=(x,true):=by
 rw[List.drop_length];rfl
def QP(l:List Tm)(k:Nat):List Tm:=(l.take k).filter fun t=> !qA t.op
theorem zey(l:List Tm){k:Nat}(hk:k<l.length):QP l (k+1)=if qA l[k].op then QP l k else QP l k++[l[k]]:=by
 unfold QP;rw[List.take_succ_eq_append_getElem hk,List.filter_append];cases hm:qA l[k].op<;>simp[hm]
theorem EI(l:List Tm)(k:Nat):(QP l k).length<=k:=Nat.le_trans (List.length_filter_le _ _) Ox
theorem zaB{l:List Tm}{k:Nat}{t:Tm}(h:t∈QP l k):t∈l:=List.mem_of_mem_take (List.mem_filter.1 h).1
theorem zb6(c:Zm)(l:List Tm)(x:Ev){k:Nat}(hk:k<l.length):(l.take (k+1)).foldl (QJ c) x=QJ c ((l.take k).foldl (QJ c) x) l[k]:=j3
theorem zdc{c:Zm}{l:List Tm}{x:Ev}{t:Tm}(h:x.ab∈c.i.tree):(qZ c l x t).1.ab∈c.i.tree:=by
 unfold qZ
 split
 · exact h
 split
 · split
   · exact h
   · split
     · rename_i a ha;exact Ej ha
     · exact h
 split
 · exact h
 split
 · unfold QN
   split
   · exact h
   split
   · split<;>exact h
   split<;>exact h
 · exact h
theorem Hf{c:Zm}:∀(l:List Tm) (x:Ev),(l.foldl (QJ c) x).ab=x.ab
 | [],_=>rfl
 |t::l,x=>by rw[List.foldl_cons,Hf l];rfl
structure Kv(c:zt):Prop where
 ok:KX c.i
 dv:∀d∈zm c.tds,Xb d/\d.sb.size<=1000/\d.dr.size<=1000 /\ -9223372036854775808<=d.nb/\d.nb<=9223372036854775807/\∀a∈d.ats,a.val.size<=1000000
 wf:QM (zm c.tds)
 ix1: -9223372036854775808<=c.ix
 ix2:c.ix<=9223372036854775807
 dev:c.dev.d∈zm c.tds
 org:c.org.size<=1000000
 pnt:c.pnt.size<=1000000
 hl:c.hs.l.length<=1000
 hc:∀y∈c.hs.l,y.cmd.size<=1000000
 act:c.act.size<=1000000
 pl:c.r.props.l.length<=1000
 pz:∀y∈c.r.props.l,y.name.size<=1000000
theorem Kv.z{c:zt}(h:Kv c)(x:Em)(k:Nat)(hg:zJ x.e.dr k)(hk:k<=100000)(ha:x.e.ab∈zm c.tds):YX c x k:=⟨hg,hk,h.ok,h.dv,h.wf,h.ix1,h.ix2,h.dev,ha,h.org,h.pnt,h.hl,h.hc,h.act,h.pl,h.pz⟩
theorem zO.lowc{w:World}{g:Nat}{c:zt}{x:Em}(h:zO w g c x):∀a∈c.as,∀p,a=some p->p.block<w.heap.size:=fun a ha p e=>by
 subst e;rcases List.mem_append.1 ha with h1|h1
 · simp only[List.mem_cons,List.not_mem_nil,or_false]at h1;rcases h1 with h1|h1|h1|h1|h1|h1|h1|h1
   · exact(h.inp.tr.row.pl p h1.symm).2
   · exact(h.inp.rc.pr.row.pl p h1.symm).2
   · exact(h.inp.rc.tg.row.pl p h1.symm).2
   · exact(h.inp.rc.lk.row.pl p h1.symm).2
   · exact(h.inp.rc.rn.row.pl p h1.symm).2
   · exact(h.inp.rc.ld.row.pl p h1.symm).2
   · exact(h.inp.hp.row.pl p h1.symm).2
   · exact(h.dev.pl p h1.symm).2
 · obtain⟨d,hd,h2⟩:=List.mem_map.1 h1;exact((h.inp.tr.inn d hd).pl p h2).2
theorem zO.lowx{w:World}{g:Nat}{c:zt}{x:Em}(h:zO w g c x):∀a∈x.as,∀p,a=some p->p.block<w.heap.size:=fun a ha p e=>by
 subst e;rcases List.mem_append.1 ha with h1|h1
 · simp only[Dm.as,List.mem_cons,List.not_mem_nil,or_false]at h1;rcases h1 with h1|h1|h1|h1|h1|h1
   · exact(h.dr.pr.row.pl p h1.symm).2
   · exact(h.dr.tg.row.pl p h1.symm).2
   · exact(h.dr.lk.row.pl p h1.symm).2
   · exact(h.dr.rn.row.pl p h1.symm).2
   · exact(h.dr.ld.row.pl p h1.symm).2
   · exact(h.dr.cl.row.pl p h1.symm).2
 · exact(h.ab.pl p (List.mem_singleton.1 h1).symm).2
theorem zO.away{w w':World}{g:Nat}{c:zt}{x:Em}{row:Option Nat}(h:zO w g c x)(hg:w.grownBy w' row)(hb:∀b,row=some b->b≠g/\Y6 b c.as/\Y6 b x.as):zO w' g c x:=by
 cases row with
 |none=>exact h.keep (yg hg)
 | some b=>
   obtain⟨h1,h2,h3⟩:=hb b rfl;have h4:=(zt.mem h2).1;exact⟨(hg.block g (zh h.box) (fun e=>h1 (zx e).symm)).trans h.box,h.inp.grown hg h2,h.dev.grown hg (QY h4 zl),h.dr.grown hg (fun a ha=>h3 a (List.mem_append_left _ ha)),h.ab.grown hg (QY h3 (List.mem_append_right _ zl)),h.offc,h.offx⟩
structure XP(c:zt)(w:World)(x y:Em):Prop where
 d:∀a∈y.dr.as,∀p,a=some p->w.heap.size<=p.block∨a∈x.dr.as
 a:∀a∈y.as,∀p,a=some p->w.heap.size<=p.block∨a∈x.as∨a∈c.as
theorem Fr.c{c:zt}{w:World}{x y:Em}(h:Fr w x y):XP c w x y:=⟨h.d,fun a ha p e=>(h.a a ha p e).imp id Or.inl⟩
theorem XP.trans{c:zt}{w w0:World}{x y z:Em}(h1:XP c w x y)(h2:XP c w0 y z)(hs:w.heap.size<=w0.heap.size):XP c w x z:=⟨fun a ha p e=>by
 rcases h2.d a ha p e with h|h
 · exact I2
 · exact h1.d a h p e,fun a ha p e=>by
 rcases h2.a a ha p e with h|h|h
 · exact I2
 · exact h1.a a h p e
 · exact Or.inr (Or.inr h)⟩
def EvR(w:World)(g:Nat)(c:zt)(x:Em)(y:Ev)(v:Value)(e:Ending)(w':World):Prop:=∃x',e=.returned v/\x'.e=y/\zO w' g c x'/\w.grownBy w' (some g)/\XP c w x x'
theorem Bj{c:Zm}{x:Ev}{l:List Tm}{z:Ev}(h:Qm c l l {x with ab:=c.dev,re:=false}=(z,false)):ZN c x l=(z,false):=by
 unfold ZN;rw[h];rfl
theorem ziI{c:Zm}{x:Ev}{l:List Tm}{z:Ev}(h:Qm c l l {x with ab:=c.dev,re:=false}=(z,true)):ZN c x l=((QP l l.length).foldl (QJ c) z,true):=by
 unfold ZN QP;rw[h,List.take_length];rfl
end
end Go.Proofs.YtecbmndgpepkcaaGreatDoor
