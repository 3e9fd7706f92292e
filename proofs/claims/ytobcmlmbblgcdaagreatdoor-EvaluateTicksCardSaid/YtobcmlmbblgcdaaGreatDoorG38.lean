/- Contracts of functions that the law reaches, and what they rest on; each under the premises that it names. Shortened by a program. -/
import Derived.Test.YtobcmlmbblgcdaaGreatDoorG36
import Derived.Deep.Upon
import Derived.Test.YtobcmlmbblgcdaaGreatDoorG34
namespace Go.Proofs.YtobcmlmbblgcdaaGreatDoor
open Tryz
set_option maxHeartbeats 8000000
set_option maxRecDepth 100000
section
open Go.RowKit Go.Maps
structure Y8(q:At->Bool)(zs cur:List At)(i j:Nat):Prop where
 len:cur.length=zs.length
 lt:i<j
 le:j<=zs.length
 pre:cur.take i=(zs.take j).filter fun z=> !q z
 post:cur.drop j=zs.drop j
theorem jq{q:At->Bool}{zs:List At}{j:Nat}(h:j<zs.length):(zs.take (j+1)).filter (fun z=> !q z)=(zs.take j).filter (fun z=> !q z)++if q zs[j]then []else [zs[j]]:=by
 rw[List.take_succ_eq_append_getElem h,List.filter_append]
 congr 1
 cases hq:q zs[j]<;>simp[hq]
theorem Y8.start{q:At->Bool}{zs:List At}{k:Nat}(hno:∀j (h:j<zs.length),j<k->q zs[j]=false)(hk:k<zs.length)(h:q zs[k]=true):Y8 q zs zs k (k+1):=by
 refine⟨rfl,Nat.lt_succ_self _,hk,?_,rfl⟩;rw[jq hk,h,if_pos rfl,List.append_nil,List.filter_eq_self.2];intro z hz;obtain⟨j,hj,rfl⟩:=List.getElem_of_mem hz;rw[List.length_take]at hj;rw[List.getElem_take,hno j zb zb];rfl
theorem Y8.skip{q:At->Bool}{zs cur:List At}{i j:Nat}(h:Y8 q zs cur i j)(hj:j<zs.length)(hq:q zs[j]=true):Y8 q zs cur i (j+1):=
 ⟨h.len,by have:=h.lt;omega,hj,by rw[jq hj,hq,if_pos rfl,List.append_nil];exact h.pre,by rw[<-List.drop_drop,h.post,List.drop_drop]⟩
theorem Y8.put{q:At->Bool}{zs cur:List At}{i j:Nat}(h:Y8 q zs cur i j)(hj:j<zs.length)(hq:q zs[j]=false):Y8 q zs (cur.set i zs[j]) (i+1) (j+1):=by
 have hl:=h.len;have hlt:=h.lt;refine⟨by rw[List.length_set];exact hl,zb,hj,?_,?_⟩
 · rw[jq hj,hq,if_neg zl,<-h.pre,List.take_succ_eq_append_getElem (by rw[List.length_set];omega),List.getElem_set_self,List.take_set_of_le zo]
 · rw[List.drop_set_of_lt zb,<-List.drop_drop,h.post,List.drop_drop]
theorem Y8.at_{q:At->Bool}{zs cur:List At}{i j:Nat}(h:Y8 q zs cur i j)(hj:j<zs.length):∃hc:j<cur.length,cur[j]=zs[j]:=by
 have hl:=h.len;refine⟨zb,?_⟩;have h1:(cur.drop j)[0]? =(zs.drop j)[0]?:=by rw[h.post]
 rw[List.getElem?_drop,List.getElem?_drop,Nat.add_zero,List.getElem?_eq_getElem zb,List.getElem?_eq_getElem hj]at h1;exact zx h1
theorem Y8.done{q:At->Bool}{zs cur:List At}{i:Nat}(h:Y8 q zs cur i zs.length):cur.take i=zs.filter fun z=> !q z:=by
 have:=h.pre;rwa [List.take_length]at this
theorem zbe(w:World)(t e ty:TypeId)(z:Value)(ht:prog.underlying t=some (.slice e))(hv:∀w,(zeroValue e).run prog w=.ok z w)(b o n c:Nat)(hn:0<n)(zz:List Value)(hzz:(Builtin.zeroCells z.cells n).toList=zz)
 (hc:∀j,j<zz.length->(w.cell? ⟨b,o+j,none⟩).isSome=true)(hf:∀j,j<zz.length->w.frozen? ⟨b,o+j,none⟩=false)(h1:∀v∈zz,v.oneCell'=true):
 (Builtin.clear_ #[t] ty #[.slice (some ⟨b,o,none⟩) n c]).run prog w=.ok (.tuple #[]) (w.setCells b o zz):=by
 have hst:=run_storeCells_cells (P:=prog) b o zz 0 w (by simpa using hc) (by simpa using hf) h1;simp only[Nat.add_zero]at hst;obtain⟨m,rfl⟩:∃m,n=m+1:=⟨n - 1,zb⟩;simp[Builtin.clear_,run_underlying ht,hv,hzz,hst]
theorem zhF(w:World):(zeroValue 104).run prog w=.ok (.agg #[.string ⟨#[]⟩,.string ⟨#[]⟩]) w:=zg
theorem zc8(n:Nat):∃zz,(Builtin.zeroCells (Value.agg #[.string ⟨#[]⟩,.string ⟨#[]⟩]).cells n).toList=zz/\zz.length=n*2/\∀v∈zz,v=.string ⟨#[]⟩:=by
 refine⟨_,rfl,?_,?_⟩
 · simp[Builtin.zeroCells,Value.cells]
 · intro v hv;simp[Builtin.zeroCells,Value.cells]at hv;obtain⟨i,hi,h⟩:=hv;rcases Nat.mod_two_eq_zero_or_one i with h0|h0<;>simp[h0]at h<;>exact h.symm
theorem vM:∀(cur:List At) (i:Nat) (z:At),i<cur.length->((cellsOf zu cur).set (i*2) (.string z.name)).set (i*2+1) (.string z.val)=cellsOf zu (cur.set i z)
 | [],_,_,h=>absurd h (Nat.not_lt_zero _)
 |_::_,0,_,_=>by simp[cellsOf,zu]
 | a::r,i+1,z,h=>by
   have ih:=vM r i z XD;have e:(i+1)*2=i*2+1+1:=zb;simp only[cellsOf,zu,List.flatMap_cons,List.cons_append,List.nil_append,List.set_cons_succ,e]at ih⊢;rw[ih]
theorem J5(l:List At):(cellsOf zu l).length=l.length*2:=by
 induction l with
 |nil=>rfl
 |cons a r ih=>rw[show cellsOf zu (a::r)=zu a++cellsOf zu r from rfl,List.length_append,ih,List.length_cons];simp[zu];omega
theorem jg(b:Nat):∀(vs:List Value) (o:Nat) (w:World),(w.setCells b o vs).heap.size=w.heap.size
 | [],_,_=>rfl
 |v::r,o,w=>by rw[World.setCells,jg b r (o+1)];simp[World.setCell]
theorem Hv(b:Nat):∀(vs:List Value) (o:Nat) (w:World),(w.setCells b o vs).tape=w.tape
 | [],_,_=>rfl
 |v::r,o,w=>by rw[World.setCells,Hv b r (o+1)];rfl
theorem zcs(w:World)(b o:Nat)(vs:List Value):w.grownBy (w.setCells b o vs) (some b):=
 ⟨World.os_setCells w b o vs,Hv b vs o w,World.output_setCells w b o vs,by rw[jg];exact zo,fun k hk hne=>World.heap_setCells_other w b o vs hk (fun e=>hne (by rw[e]))⟩
def Kg(m:List At)(w0:World)(e:Ending)(w':World):Prop:=∃A c,e=.returned (.slice A m.length c)/\zr w' w'.heap.size A 2 m.length (cellsOf zu m)/\Below w0.heap.size w0 w'
theorem zaa(A:Option Addr)(c x:Nat)(zs:List At)(q:At->Bool)(w0 w:World)(hn:zs.length<=1000000)(hown:w.ownsRow w0.heap.size VF 2 (.slice A zs.length c) zs.length (cellsOf zu zs))(hc:zs.length<=c)(hb0:Below w0.heap.size w0 w)(hq:C0 w0 x zs q):
 Calls prog 161 #[.slice A zs.length c,.func (.func 162) #[] #[.pointer (some ⟨x,0,none⟩)]] w (Kg (zs.filter fun z=> !q z) w0):=by
 have HIx:=za (zbd A c x zs q w0 w hn (zr.of_own hown) hb0 hq);have HQ:=za hq;have HO:=za hown;have HB0:=za hb0;clear hq hown hb0;by_cases hany:∃k,∃h:k<zs.length,q zs[k]=true/\∀j (h:j<zs.length),j<k->q zs[j]=false
 · obtain⟨k0,hk0,hqk,hno⟩:=hany;have e1:=MZ hno hk0 hqk;rw[e1]at HIx;have HSt:=za (Y8.start hno hk0 hqk);obtain⟨g,cap,hv,hgb,hgl⟩:=HO.out.form zb;obtain⟨rfl,rfl⟩:A=some ⟨g,0,none⟩/\c=cap:=by injection hv;exact⟨qk,qk⟩
   have HEnd:Hid (∀(cur:List At) (i:Nat) (wr:World) (zz:List Value),zz.length=(zs.length - i)*2->Y8 q zs cur i zs.length->wr.ownsRow w0.heap.size VF 2 (.slice (some ⟨g,0,none⟩) cur.length c) cur.length (cellsOf zu cur)->Below w0.heap.size w0 wr->Kg (zs.filter fun z=> !q z) w0 (.returned (.slice (some ⟨g,0,none⟩) i c)) (wr.setCells g (i*2) zz)):=za fun cur i wr zz h0 h1 h2 h3=>by
    have hl:=h1.len;have hlt:=h1.lt;have hm:=h1.done;have hi:(zs.filter fun z=> !q z).length=i:=by rw[<-hm,List.length_take];omega
    refine⟨some ⟨g,0,none⟩,c,by rw[hi],?_,h3.grown (zcs wr g (i*2) _) h3.size (fun j e=>P1)⟩;refine⟨by rw[J5],fun _=>⟨g,0,rfl,by rw[jg];exact(h2.lt g rfl).2,fun j u hu=>?_⟩⟩;have hj:j<i*2:=by
     have:=(List.getElem?_eq_some_iff.1 hu).1;rw[J5,hi]at this;exact this
    rw[World.cell?_setCells_out g _ _ _ _ (fun _ _=>Or.inl J9),Nat.zero_add,World.ownsRow.cellAt h2 j zb];rw[<-hm]at hu;have hsp:cellsOf zu cur=cellsOf zu (cur.take i)++cellsOf zu (cur.drop i):=by rw[<-XP,List.take_append_drop]
    rw[hsp,List.getElem?_append_left (by rw[J5,List.length_take];omega)];exact hu
   generalize hP:Kg (zs.filter fun z=> !q z) w0=P at*;have hne1:((k0:Int)== -1)=false:=beq_eq_false_iff_ne.2 zb;clear hP hv hno hqk e1;obtain⟨N,hN⟩:∃N,zs.length=N:=⟨_,rfl⟩;have HN:=za hN;rw[hN]at hn hc hk0 HIx⊢;clear hN;go_enter func161,ntmps161;go_wp2_with (go_at_call 191;refine HIx.out.mono ?_;rintro e w2 ⟨rfl,hb2⟩;have HB2:=za (HB0.out.trans (hb2.mono HB0.out.size));have HO2:=za (qg HO.out hb2);clear hb2)
   go_loopg [5,6,7] N (fun gk s5 s6 s7 wr=>∃(i j:Nat) (cur:List At),s5=.int .i64 i/\s6=.int .i64 j/\j<=N/\i<j/\N - j<=gk/\Hid (cur.length=N)/\Hid (Y8 q zs cur i j)/\Hid (wr.ownsRow w0.heap.size VF 2 (.slice (some ⟨g,0,none⟩) cur.length c) cur.length (cellsOf zu cur))/\Hid (Below w0.heap.size w0 wr))
   case atStart=>exact⟨k0,k0+1,zs,rfl,zP,zb,zb,zb,HN.out,HSt.out,HO2.out,HB2.out⟩
   case round=>
    obtain⟨i,j,cur,rfl,rfl,hjN,hij,hgg,hcl,hD,hO,hB⟩:=hrel;obtain⟨wo,rfl⟩:∃wo:World,wo=wr:=⟨_,rfl⟩;by_cases hlt:j<N
    · have hltI:(j:Int)<(N:Int):=by omega
      have hjz:j<zs.length:=Kf;obtain⟨hcj,hce⟩:=hD.out.at_ hjz;obtain⟨ba,off,ea,c0,c1⟩:=JV (B:=wo.heap.size) (zr.of_own hO.out) zk hcj;injection ea with ea
      injection ea with ea1 ea2
      subst ea1 ea2;rw[hce,Nat.zero_add]at c0 c1;have hgW:g<wo.heap.size:=(hO.out.lt g rfl).2;have HC:=za (HQ.out zs[j] (List.getElem_mem _) (wo.alloc (.cells #[.string zs[j].name,.string zs[j].val] VF)) (hB.out.alloc hB.out.size _));have HSk:=za (fun h=>hD.out.skip hjz h);have HPt:=za (fun h=>hD.out.put hjz h);obtain⟨z,hz⟩:∃z,zs[j]=z:=⟨_,rfl⟩;rw[hz]at HC HSk HPt c0 c1;generalize q z=b at*;clear hcj hce hjz hz;cases b
      · have HD2:=za (HPt.out rfl);have hiI:(i:Int)<(N:Int):=zb;go_wp2_with (go_at_call 162;refine HC.out.mono ?_;rintro e w3 ⟨rfl,hb3⟩;have HO3:=za (qg hO.out (bt zw hb3));have HB3:=za (hB.out.trans ((bt zw hb3).mono hB.out.size):Below w0.heap.size w0 w3);have hq3:=(hb3.block wo.heap.size zl).trans (heap_alloc_new wo _);have d0:=zd (j:=0) hq3 rfl;have d1:=zd (j:=1) hq3 rfl;(have hci:∀t,t<2->(w3.cell? ⟨g,i*2+t,none⟩).isSome=true:=(fun t ht=>by rw[World.ownsRow.cellAt HO3.out (i*2+t) (by have:=hcl.out;omega),List.getElem?_eq_getElem (by rw[J5];have:=hcl.out;omega)];rfl));obtain⟨uo,hui⟩:=Option.isSome_iff_exists.1 (hci 0 zb);obtain⟨uo1,hui1⟩:=Option.isSome_iff_exists.1 (hci 1 zb);rw[Nat.add_zero]at hui;(have f1:w3.frozen? ⟨g,i*2,none⟩=false:=World.ownsRow.frozenAt HO3.out (i*2));(have f2:w3.frozen? ⟨g,i*2+1,none⟩=false:=World.ownsRow.frozenAt HO3.out (i*2+1));clear hb3 hci hq3)
        go_roundg (gk - 1)
        case measure=>omega
        case rel=>
         obtain⟨r1,r2⟩:=World.ownsRow.stored HO3.out (i*2) (.string z.name);obtain⟨r3,r4⟩:=World.ownsRow.stored r1 (i*2+1) (.string z.val);refine⟨i+1,j+1,cur.set i z,zP,zP,zb,zb,zb,by rw[List.length_set];exact hcl.out,HD2.out,?_,?_⟩
         · rw[List.length_set,<-vM cur i z (by have:=hcl.out;omega)];exact r3
         · exact(HB3.out.grown r2 HB3.out.size (fun r e=>P1)).grown r4 (by have:=HB3.out.size;simpa [World.setCell]using this) (fun r e=>P1)
      · have HD2:=za (HSk.out rfl);go_wp2_with (go_at_call 162;refine HC.out.mono ?_;rintro e w3 ⟨rfl,hb3⟩;have HO3:=za (qg hO.out (bt zw hb3));have HB3:=za (hB.out.trans ((bt zw hb3).mono hB.out.size):Below w0.heap.size w0 w3);clear hb3)
        go_roundg (gk - 1)
        case measure=>omega
        case rel=>exact⟨i,j+1,cur,rfl,zP,zb,zb,zb,hcl.out,HD2.out,HO3.out,HB3.out⟩
    · obtain rfl:j=N:=by omega
      have hcur:=hcl.out;obtain⟨zz,hz1,hz2,hz3⟩:=zc8 (j - i);have hcl2:∀ty,(Builtin.clear_ #[31] ty #[.slice (some ⟨g,i*2,none⟩) (j - i) (c - i)]).run prog wo=.ok (.tuple #[]) (wo.setCells g (i*2) zz):=
       fun ty=>zbe wo _ _ ty _ underlying31 zhF g (i*2) _ _ zb zz hz1 (fun t ht=>by rw[World.ownsRow.cellAt hO.out (i*2+t) (by rw[hz2]at ht;omega),List.getElem?_eq_getElem (by rw[J5];rw[hz2]at ht;omega)];rfl) (fun t ht=>World.ownsRow.frozenAt hO.out (i*2+t)) (fun v hv=>by rw[hz3 v hv];rfl)
      have HE:=za (HEnd.out cur i wo zz (by rw[HN.out];exact hz2) (by rw[HN.out];exact hD.out) hO.out hB.out);clear hcur hcl hlt hz1 hz2 hz3;go_wp2;exact HE.out
 · have hno:∀n j (h:j<zs.length),j<n->q zs[j]=false:=by
    intro n;induction n with
    |zero=>intro j _ h;omega
    | succ n ih=>
      intro j hj hjn;rcases Nat.lt_or_ge j n with h1|h1
      · exact ih j hj h1
      · obtain rfl:j=n:=by omega
        rw[Bool.eq_false_iff];exact fun e=>hany ⟨j,hj,e,ih⟩
   have e1:=M3 (l:=zs) (q:=q) fun j hj=>hno (j+1) j hj (Nat.lt_succ_self j);rw[e1]at HIx;have hf:(zs.filter fun z=> !q z)=zs:=List.filter_eq_self.2 fun z hz=>by
    obtain⟨j,hj,rfl⟩:=List.getElem_of_mem hz;rw[hno (j+1) j hj (Nat.lt_succ_self j)];rfl
   rw[hf];clear hany hno e1 hf;unfold Kg;go_enter func161,ntmps161;go_wp2_with (go_at_call 191;refine HIx.out.mono ?_;rintro e w2 ⟨rfl,hb2⟩;have HB2:=za (HB0.out.trans (hb2.mono HB0.out.size));have HO2:=za (qg HO.out hb2);clear hb2)
   go_ret;exact⟨A,c,rfl,zr.of_own HO2.out,HB2.out⟩
theorem zcI(g:Nat)(c:zt)(x:Em)(k:Nat)(s:ByteArray)(w:World)(h:zN w g c x)(hz:YX c x k)(hs:s.size<=1000000):
 Calls prog 137 #[.pointer (some ⟨g,0,none⟩),.string s] w (Kg (c.r.props.l.filter fun p=>zS (L s) (L p.name)) w):=by
 have hpl:=hz.pl;have HPz:=za hz.pz;have HC:=za (fun(W:World) (hW:Below w.heap.size w W)=>RX c.r.props.A c.r.props.c c.r.props.l W zb ((h.keep hW).inp.rc.pr.row));have hbx:=h.box;have q19:w.cell? ⟨g,19,none⟩=some (.slice c.r.props.A c.r.props.l.length c.r.props.c):=zd hbx rfl;have hgl:g<w.heap.size:=zh hbx;clear h hz hbx;generalize c.r.props.l=zs at*;have hfe:(zs.filter fun p=>zS (L s) (L p.name))=zs.filter fun z=> !(!zS (L s) (L z.name)):=zl;rw[hfe];clear hfe;have HF:Hid (∀(m:List At) (e:Ending) (w':World),Kg m (w.alloc (.cells #[.string s] 9)) e w'->Kg m w e w'):=za fun m e w' h=>by
  obtain⟨A,cc,h1,h2,h3⟩:=h;exact⟨A,cc,h1,h2,bt (zI w _) h3⟩
 have HCl:Hid (∀W,Below (w.alloc (.cells #[.string s] 9)).heap.size (w.alloc (.cells #[.string s] 9)) W->∀z∈zs,Calls prog 162 #[.agg #[.string z.name,.string z.val],.pointer (some ⟨w.heap.size,0,none⟩)] W fun e w'=>e=.returned (.bool (!zS (L s) (L z.name)))/\Below W.heap.size W w'):=za fun W hW z hz=>by
  have hq:=(hW.block w.heap.size zl).trans (heap_alloc_new w _);exact zes s z.name z.val w.heap.size W hs (HPz.out z hz) (zh hq) (zd hq rfl)
 go_enter func137,ntmps137;go_wp2_with (first
  |(go_at_call 50;refine(HC.out _ zw).mono ?_;rintro e w2 ⟨A2,n2,rfl,hown,hb2⟩;have HO:=za hown;have HB2:=za hb2;clear hown hb2)
  |(go_at_call 161;obtain⟨A3,n3,e3,hcap⟩:=zcJ HO.out;injection e3 with e3 _ e4;subst e3 e4;refine(zaa A2 n2 w.heap.size zs (fun z=> !zS (L s) (L z.name)) (w.alloc (.cells #[.string s] 9)) w2 zb HO.out hcap HB2.out (fun z hz W hW=>HCl.out W hW z hz)).mono ?_;rintro e w3 h3;obtain⟨A4,n4,rfl,hr4,hb4⟩:=HF.out _ _ _ h3;clear h3))
 go_ret;refine⟨A4,n4,?_,hr4,hb4⟩
 first|rfl|simp
end
section
open Go.RowKit
structure Z5(w:World):Prop extends Env w where
 u8:Lib.Utf8Tabs 2 3 w
theorem Z5.go{w w':World}(h:Z5 w)(hb:Below w.heap.size w w'):Z5 w':=⟨h.toEnv.go hb,Utf8Tabs_below h.u8 hb⟩
theorem Z5.u{w:World}(h:Z5 w):KA w:=⟨h.toEnv.toEnv0,h.u8⟩
def ko(c:zt):Prop:=∀(name:ByteArray) (W:World),ql W c.tA c.tds->Z5 W->name.size<=1000000->Calls prog 138 #[.string name,zU c.tA c.tds c.tc,.int .i64 c.ix] W (Yf W (Ya name (zm c.tds) c.ix))
theorem MB{l:List At}{k v:ByteArray}{n:Nat}(h:l.length<=n/\∀x∈l,x.name.size<=100)(hk:k.size<=100):(zL l k v).length<=n+1/\∀x∈zL l k v,x.name.size<=100:=by
 unfold zL
 split
 · exact⟨Nat.le_succ_of_le h.1,h.2⟩
 · refine⟨Nat.le_trans (IV _ _) (Nat.succ_le_succ h.1),fun x hx=>?_⟩;rcases Nb hx with h1|⟨rfl,_⟩
   · exact h.2 x h1
   · exact hk
theorem Pd{l:List At}{k h:ByteArray}{v:Option ByteArray}{n:Nat}(hl:l.length<=n/\∀x∈l,x.name.size<=100)(hk:k.size<=100):(YM l k h v).length<=n+1/\∀x∈YM l k h v,x.name.size<=100:=by
 unfold YM
 split
 · split
   · exact MB hl hk
   · exact⟨Nat.le_succ_of_le hl.1,hl.2⟩
 · exact⟨Nat.le_succ_of_le hl.1,hl.2⟩
theorem TE:([]:List At).length<=0/\∀x∈([]:List At),x.name.size<=100:=⟨zo,fun _ h=>qG⟩
theorem zez{l:List At}{n m:Nat}(h:l.length<=n/\∀x∈l,x.name.size<=100)(hm:n<=m):l.length<=m/\∀x∈l,x.name.size<=100:=⟨Nat.le_trans h.1 hm,h.2⟩
theorem B8(nm:ByteArray)(l:List Dd)(n:Int):(Ya nm l n).length<=3/\∀x∈Ya nm l n,x.name.size<=100:=by
 unfold Ya
 split
 · unfold kl
   split
   · refine⟨by show 2<=3;omega,fun x hx=>?_⟩;simp only[List.mem_cons,List.not_mem_nil,or_false]at hx;rcases hx with rfl|rfl
     · show Ig.size<=100;decide
     · show GK.size<=100;decide
   · exact KC
 split
 · split
   · unfold V6
     split
     · split
       · exact MB (MB (MB TE zi) zi) zi
       · exact KC
     · exact KC
   · exact KC
 split
 · split
   · unfold KM
     split
     · exact Pd (Pd (Pd TE zi) zi) zi
     · exact KC
   · exact KC
 · exact KC
theorem zjA(o:ByteArray):(YI o).length<=o.size+1:=Nat.le_trans (List.length_filterMap_le _ _) (GN o 59)
theorem Env.grown{w w':World}{g:Nat}(h:Env w)(hg:w.grownBy w' (some g))(hn:nG<=g):Env w':=h.keep (Au hg hn h.toEnv0.size) zo
theorem Z5.grown{w w':World}{g:Nat}(h:Z5 w)(hg:w.grownBy w' (some g))(hn:nG<=g):Z5 w':=by
 have hb:=Au hg hn h.toEnv.toEnv0.size;have e1:2<nG:=zi;have e2:3<nG:=zi;refine⟨h.toEnv.grown hg hn,fun c hc=>?_,fun i hi=>⟨?_,?_⟩⟩
 · exact(hb.cell e1).trans (h.u8.1 c hc)
 · exact(hb.cell e2).trans (h.u8.2 i hi).1
 · exact(hb.cell e2).trans (h.u8.2 i hi).2
attribute [local go_sem ↓] ks kK
def FdE(w:World)(g:Nat)(c:zt)(x0 x:Em)(l:List At)(b:Bool)(W:World):Prop:=∀(e:Ending) (W5:World),K0 W (XY x.dr.d l) e W5->∃y,e=.returned (.agg (zD y))/\(Zm qj (.pointer (some ⟨g,0,none⟩)) (.agg (zD y))).run prog W5=.ok () (W5.setRow g (qP c {x with dr:=y}))/\KL w g c x0 (XT x.e l) (.bool b) (.returned (.bool b)) (W5.setRow g (qP c {x with dr:=y}))
theorem J6{w w0 W:World}{g:Nat}{c:zt}{x0 x:Em}(h:zN w0 g c x)(h0:w.grownBy w0 (some g))(hf:Fr w x0 x)(hW:Below w0.heap.size w0 W)(l:List At)(b:Bool):FdE w g c x0 x l b W:=fun e W5 hP=>by
 obtain⟨y,rfl,hy,hst,h6,g6,f6⟩:=h.put hW hP;refine⟨y,rfl,hst,_,rfl,?_,h6,h0.trans g6,hf.trans f6 h0.size⟩;unfold Em.e XT;dsimp only;rw[hy]
 try rfl
theorem zaz(g:Nat)(c:zt)(x:Em)(k:Nat)(t:Tm)(w:World)(h:zN w g c x)(hz:YX c x k)(hk1:k+1<=100000)(hE:Z5 w)(hg:nG<=g)(hs:t.value.size<=1000000)(hR:ko c):
 Calls prog 111 #[.pointer (some ⟨g,0,none⟩),qi t] w (KL w g c x (QB c.c x.e t).1 (.bool (QB c.c x.e t).2)):=by
 obtain⟨ky,nmm,op,vl⟩:=t;dsimp only at hs;obtain⟨w1,hw1⟩:∃w1,w.alloc (.cells #[.int .i64 ky,.string nmm,.int .i64 op,.string vl] 46)=w1:=⟨_,rfl⟩;have hb1:Below w.heap.size w w1:=ZQ;have hr1:w1.heap[w.heap.size]? =some (.cells #[.int .i64 ky,.string nmm,.int .i64 op,.string vl] 46 (0,0)):=Qi;have hs1:w1.heap.size=w.heap.size+1:=YS;have HSx:Hid (∀W:World,(∀b,b<w1.heap.size->b≠g->W.heap[b]? =w1.heap[b]?)->W.cell? ⟨w.heap.size,0,none⟩=some (.int .i64 ky)/\W.cell? ⟨w.heap.size,1,none⟩=some (.string nmm)/\W.cell? ⟨w.heap.size,2,none⟩=some (.int .i64 op)/\W.cell? ⟨w.heap.size,3,none⟩=some (.string vl)):=za fun W hW=>by
  have h2:=(hW _ (zh hr1) (by have:=zh h.box;omega)).trans hr1;exact PY
 have h1:=h.keep hb1;have hgl:g<w.heap.size:=zh h.box;have hgW:g<w1.heap.size:=zb;have hlW:w.heap.size<w1.heap.size:=zb;have hne:w.heap.size≠g:=zb;have hg1:=zF hb1 (some g);have q32:w1.cell? ⟨g,32,none⟩=some (.int .i64 c.dev.pa):=zd h1.box rfl;have q15:w1.cell? ⟨g,15,none⟩=some (.slice c.tA c.tds.length c.tc):=zd h1.box rfl;have q16:w1.cell? ⟨g,16,none⟩=some (.int .i64 c.ix):=zd h1.box rfl;have HC:=za (Am g c x k vl w1 h1 hz (hE.toEnv.go hb1) hs);have HI:=za (zcI g c x k vl w1 h1 hz hs);have HRn:=za (hR vl w1 h1.inp.tr (hE.go hb1) hs);have hpl:=hz.pl;have hpz:=hz.pz;have hpv:∀y∈c.r.props.l,y.val.size<=1000000:=hz.ok.par;have hbv:∀y∈Ya vl (zm c.tds) c.ix,y.val.size<=1000000:=hz.ok.bui vl;have hIm:∀(x:Em) (kd:Nat) (W0 W:World) (A:Option Addr) (cc:Nat) (l:List At),zN W0 g c x->Below W0.heap.size W0 W->zJ x.dr.d kd->kd<=100000->zr W W.heap.size A 2 l.length (cellsOf zu l)->l.length<=100000->(∀p∈l,p.name.size<=1000000/\p.val.size<=1000000)->Calls prog 139 #[.agg (zD x.dr),.slice A l.length cc] W (K0 W (XY x.dr.d l)):=fun x kd W0 W A cc l h0 hW hG hkd hr hl hv=>zg9 x.dr A cc l kd W (h0.keep hW).dr hG hkd hr hl hv;unfold qi;have HW1:=za hw1;have HB1:=za hb1;have HH1:=za h1;have HG1:=za hg1;have HIm:=za hIm;have HZ:=za hz;have hE0:=hE;have hR0:=hR;obtain⟨c0,c1,c2,c3⟩:=HSx.out w1 (fun _ _ _=>rfl);by_cases e1:L nmm=Jx
 · have b1:(nmm.toList==[112,114,111,103,114,97,109])=true:=by rw[tl,e1];decide
   have hF:QB c.c x.e ⟨ky,nmm,op,vl⟩=(XT (Q7 x.e (qQ c.c x.e vl).2.1) (YI (qQ c.c x.e vl).1),(qQ c.c x.e vl).2.2==0):=by unfold QB;rw[if_pos e1]
   have hcs:(qQ c.c x.e vl).1.size<=256/\0<=(qQ c.c x.e vl).2.1/\(qQ c.c x.e vl).2.1<=1000:=by
    have h3:=MP hz.ok.hp x.dr.calls (QD c.c x.e vl);exact⟨h3.2.2.1,h3.1,Int.le_trans h3.2.1 hz.ok.hp.2.1⟩
   have hgt:zJ (Q7 x.e (qQ c.c x.e vl).2.1).dr (k+1):=zJ.tick hz.gd hcs.2.1 hcs.2.2;have hil:=zjA (qQ c.c x.e vl).1;have hiz:=fun(p:At) (hp:p∈YI (qQ c.c x.e vl).1)=>C3 p hp;have HItm:=za (fun(W:World) (hW:Env0 W)=>Bt (qQ c.c x.e vl).1 W hW zb);rw[hF];generalize hR9:qQ c.c x.e vl=R at*;obtain⟨ou,ti,en⟩:=R;dsimp only at*;have HGt:=za hgt;have HIz:=za (show(YI ou).length<=100000/\∀p∈YI ou,p.name.size<=1000000/\p.val.size<=1000000 from⟨zb,fun p hp=>by have:=hiz p hp;omega⟩);clear hF hcs hgt hil hiz hw1 hb1 hr1 hs1 h hz hE hR h1 hg1 hpl hpz hpv hbv hIm hR9 HI HRn q32 q15 q16;have HE2:=za (fun(W:World) (h9:w1.grownBy W (some g))=>(hE0.grown (HG1.out.trans h9) hg));go_enter func111,ntmps111;go_upto_region 1 with fail
   rw[HW1.out];go_wp2_with (first
    |(go_at_call 110;refine HC.out.mono ?_;rintro e w2 ⟨x2,rfl,hx2,h2,g2,f2⟩;have HF2:=za f2;have HX2:=za hx2;have HO2:=za h2;have HG2:=za g2;have hE2:=HE2.out w2 g2;have HEE:=za hE2.toEnv.toEnv0;clear hx2 h2 g2 f2 hE2 c0 c1 c2 c3)
    |(go_at_call 136;refine(HItm.out w2 HEE.out).mono ?_;rintro e w3 ⟨A3,n3,rfl,hown,hb3⟩;have HR3:=za (zr.of_own hown);have HB3:=za hb3;have hld:=kC (HO2.out.keep hb3);clear hown hb3)
    |(go_at_call 139;refine(HIm.out x2 (k+1) w2 w3 A3 n3 (YI ou) HO2.out HB3.out (by rw[show x2.dr.d=x2.e.dr from rfl,HX2.out];exact HGt.out) hk1 HR3.out HIz.out.1 HIz.out.2).mono ?_;rintro e w5 hP;obtain⟨y,rfl,hst,hEnd⟩:=J6 HO2.out (HG1.out.trans HG2.out) ((Fr.same rfl rfl).trans HF2.out HB1.out.size) HB3.out (YI ou) (en==0) _ _ hP;have HEnd:=za hEnd;clear hP hEnd hld))
   go_ret;have h9:=HEnd.out;rw[HX2.out]at h9;exact h9
 · have b1:(nmm.toList==[112,114,111,103,114,97,109])=false:=by
    rw[tl,Bool.eq_false_iff];intro e;exact e1 (by simpa [Jx]using e)
   have hE0':=hE0;clear hR HC;by_cases e2:L nmm=Pe
   · have b2:(nmm.toList==[112,97,114,101,110,116])=true:=by rw[tl,e2];decide
     clear HRn q15 q16 hbv;by_cases hp:c.dev.pa=0
     · have hF:QB c.c x.e ⟨ky,nmm,op,vl⟩=(XT x.e [],false):=by unfold QB;rw[if_neg e1,if_pos e2,if_pos (show c.c.dev.pa=0 from hp)]
       rw[hF];rw[hp]at q32;have HI0:=za (hIm x k w1 w1 none 0 [] h1 zk hz.gd hz.kk zH.nil.row zi (fun p hp=>by cases hp));have HFd:=za (J6 h1 hg1 (x0:=x) (Fr.same rfl rfl) zk [] false);have hld:=kC h1;clear hF hw1 hb1 hr1 hs1 h hz hE h1 hg1 hpl hpz hpv hIm HI HIm;exact Fz
     · have hF:QB c.c x.e ⟨ky,nmm,op,vl⟩=(XT x.e (c.r.props.l.filter fun p=>zS (L vl) (L p.name)),true):=by unfold QB;rw[if_neg e1,if_pos e2,if_neg (show¬c.c.dev.pa=0 from hp)];rfl
       rw[hF];have HIz:=za (show(c.r.props.l.filter fun p=>zS (L vl) (L p.name)).length<=100000/\∀p∈(c.r.props.l.filter fun p=>zS (L vl) (L p.name)),p.name.size<=1000000/\p.val.size<=1000000 from⟨Nat.le_trans (List.length_filter_le _ _) zb,fun p hp=>⟨hpz p (List.mem_filter.1 hp).1,hpv p (List.mem_filter.1 hp).1⟩⟩);have HGd:=za (show zJ x.dr.d k/\k<=100000 from⟨hz.gd,hz.kk⟩);generalize (c.r.props.l.filter fun p=>zS (L vl) (L p.name))=fl at*;clear hF hw1 hb1 hr1 hs1 h hz hE h1 hg1 hpl hpz hpv hIm;go_enter func111,ntmps111;go_upto_region 1 with fail
       rw[HW1.out];go_wp2_with (first
        |(go_at_call 137;refine HI.out.mono ?_;rintro e w3 ⟨A3,n3,rfl,hr3,hb3⟩;have HR3:=za hr3;have HB3:=za hb3;have hld:=kC (HH1.out.keep hb3);clear hr3 hb3 c0 c1 c2 c3 q32)
        |(go_at_call 139;refine(HIm.out x k w1 w3 A3 n3 fl HH1.out HB3.out HGd.out.1 HGd.out.2 HR3.out HIz.out.1 HIz.out.2).mono ?_;rintro e w5 hP;obtain⟨y,rfl,hst,hEnd⟩:=J6 HH1.out HG1.out (x0:=x) (Fr.same rfl rfl) HB3.out fl true _ _ hP;have HEnd:=za hEnd;clear hP hEnd hld))
       go_ret;exact HEnd.out
   · have b2:(nmm.toList==[112,97,114,101,110,116])=false:=by
      rw[tl,Bool.eq_false_iff];intro e;exact e2 (by simpa [Pe]using e)
     clear HI q32;by_cases e3:L nmm=Tb
     · have b3:(nmm.toList==[98,117,105,108,116,105,110])=true:=by rw[tl,e3];decide
       have hF:QB c.c x.e ⟨ky,nmm,op,vl⟩=(XT x.e (Ya vl (zm c.tds) c.ix),!(Ya vl (zm c.tds) c.ix).isEmpty):=by unfold QB;rw[if_neg e1,if_neg e2,if_pos e3];rfl
       rw[hF];have hsm:=B8 vl (zm c.tds) c.ix;have HIz:=za (show(Ya vl (zm c.tds) c.ix).length<=100000/\∀p∈Ya vl (zm c.tds) c.ix,p.name.size<=1000000/\p.val.size<=1000000 from⟨zb,fun p hp=>⟨by have:=hsm.2 p hp;omega,hbv p hp⟩⟩);have HGd:=za (show zJ x.dr.d k/\k<=100000 from⟨hz.gd,hz.kk⟩);have HRu:=za (fun(W:World) (hW:Below w1.heap.size w1 W)=>hR0 vl W ((h1.keep hW).inp.tr) (hE0.go (bt hb1 hW)) hs);have HQ:Hid (∀W',Below w1.heap.size w1 W'->W'.cell? ⟨w.heap.size,3,none⟩=some (.string vl)/\W'.cell? ⟨g,15,none⟩=some (.slice c.tA c.tds.length c.tc)/\W'.cell? ⟨g,16,none⟩=some (.int .i64 c.ix)):=za fun W' hW'=>by
        have h3:=(h1.keep hW').box;exact⟨(HSx.out W' (fun b hb _=>hW'.block b hb)).2.2.2,zd h3 rfl,zd h3 rfl⟩
       generalize Ya vl (zm c.tds) c.ix=fl at*;unfold zU at*;clear hF hw1 hb1 hr1 hs1 h hz hE h1 hg1 hpl hpz hpv hIm hsm hbv HRn;go_enter func111,ntmps111;go_upto_region 1 with fail
       rw[HW1.out];go_upto_region 13 with fail
       go_region_held3 (fun W'=>W'.cell? ⟨w.heap.size,3,none⟩=some (.string vl)/\W'.cell? ⟨g,15,none⟩=some (.slice c.tA c.tds.length c.tc)/\W'.cell? ⟨g,16,none⟩=some (.int .i64 c.ix)) ((refine HQ.out _ ?_;first|exact zk.drew|exact hB3)) ((go_at_call 138;refine(HRu.out w1.drew zk.drew).mono ?_;rintro e w3 ⟨A3,n3,rfl,hr3,hb3⟩;(have hB3:Below w1.heap.size w1 w3:=bt zk.drew hb3)))
       have HR3:=za hr3.row.row;have HB3:=za hB3;have hld:=kC (HH1.out.keep hB3);clear hr3 hb3 hB3 c0 c1 c2 c3 q15 q16;have hlen:decide ((0:Int)<(fl.length:Int))= !fl.isEmpty:=by cases fl<;>simp
       go_wp2_with (go_at_call 139;refine(HIm.out x k w1 w3 A3 n3 fl HH1.out HB3.out HGd.out.1 HGd.out.2 HR3.out HIz.out.1 HIz.out.2).mono ?_;rintro e w5 hP;obtain⟨y,rfl,hst,hEnd⟩:=J6 HH1.out HG1.out (x0:=x) (Fr.same rfl rfl) HB3.out fl (!fl.isEmpty) _ _ hP;have HEnd:=za hEnd;clear hP hEnd hld)
       go_ret;refine(show∀b,b=(!fl.isEmpty)->KL w g c x (XT x.e fl) (.bool (!fl.isEmpty)) (.returned (.bool b)) _ from fun b hb=>by rw[hb];exact HEnd.out) _ ?_;cases fl<;>simp
     · have b3:(nmm.toList==[98,117,105,108,116,105,110])=false:=by
        rw[tl,Bool.eq_false_iff];intro e;exact e3 (by simpa [Tb]using e)
       have hF:QB c.c x.e ⟨ky,nmm,op,vl⟩=(XT x.e [],false):=by unfold QB;rw[if_neg e1,if_neg e2,if_neg e3]
       rw[hF];have HI0:=za (hIm x k w1 w1 none 0 [] h1 zk hz.gd hz.kk zH.nil.row zi (fun p hp=>by cases hp));have HFd:=za (J6 h1 hg1 (x0:=x) (Fr.same rfl rfl) zk [] false);have hld:=kC h1;clear hF hw1 hb1 hr1 hs1 h hz hE h1 hg1 hpl hpz hpv hIm HIm HRn hbv q15 q16;exact Fz
end
section
open Go.RowKit
theorem zis(c:zt)(x:Em)(d:Dv):ZR (qP c x) 43 (zq d).toList=qP c {x with ab:=d}:=zg
theorem zN.resS{w:World}{g:Nat}{c:zt}{x:Em}(h:zN w g c x)(s:ByteArray):zN (w.setCell ⟨g,10,none⟩ (.string s)) g c {x with dr:={x.dr with res:=s}}/\w.grownBy (w.setCell ⟨g,10,none⟩ (.string s)) (some g):=
 h.one 10 _ {x with dr:={x.dr with res:=s}} rfl ⟨h.dr.pr,h.dr.tg,h.dr.lk,h.dr.rn,h.dr.ld,h.dr.cl⟩ h.ab h.offx
theorem zN.reS{w:World}{g:Nat}{c:zt}{x:Em}(h:zN w g c x)(b:Bool):zN (w.setCell ⟨g,53,none⟩ (.bool b)) g c {x with re:=b}/\w.grownBy (w.setCell ⟨g,53,none⟩ (.bool b)) (some g):=
 h.one 53 _ {x with re:=b} rfl h.dr h.ab h.offx
theorem zN.abS{w w5:World}{g:Nat}{c:zt}{x:Em}(h:zN w g c x)(hb:Below w.heap.size w w5)(d:Dv)(hd:ZS w5 d)(hf:∀p,d.ats.A=some p->p.block≠g):zN (w5.setRow g (qP c {x with ab:=d})) g c {x with ab:=d}/\w.grownBy (w5.setRow g (qP c {x with ab:=d})) (some g):=
 h.set hb {x with ab:=d} (h.dr.keep hb) hd (fun a ha=>by
  rcases List.mem_append.1 ha with h1|h1
  · exact h.offx a (List.mem_append_left _ h1)
  · rw[List.mem_singleton.1 h1];exact hf)
theorem KW(v:Value):Instr.loadAt zp v=qC zp v:=kx
theorem GH(v u:Value):Instr.storeAt zp v u=Zm zp v u:=kS
theorem Fs{w:World}{g:Nat}{c:zt}{x:Em}(h:w.heap[g]? =some (.cells (qP c x) U9 (0,0))):(qC zp (.pointer (some ⟨g,31,none⟩))).run prog w=.ok (zZ c.dev) w:=
 UT (P:=prog) (w:=w) (T:=zp) (n:=10) (g:=g) (o:=31) (cs:=qP c x) MH MU h (by show 31+10<=54;omega)
theorem E0{w:World}{g:Nat}{c:zt}{x:Em}(h:w.heap[g]? =some (.cells (qP c x) U9 (0,0)))(d:Dv):(Zm zp (.pointer (some ⟨g,43,none⟩)) (zZ d)).run prog w=.ok () (w.setRow g (qP c {x with ab:=d})):=by
 have h1:=XF (P:=prog) (w:=w) (T:=zp) (g:=g) (o:=43) (cs:=qP c x) (vs:=zq d) h (by show 43+10<=54;omega) Ow Zj (Ok d);rw[zis]at h1;exact h1
theorem YX.dok{c:zt}{x:Em}{k:Nat}(h:YX c x k){w:World}(ht:ql w c.tA c.tds){d:Dv}(hd:d.d∈zm c.tds):Vo d:=by
 have h1:=h.dv _ hd;exact⟨Nat.le_trans h1.1.og zi,Nat.le_trans h1.2.1 zi,Nat.le_trans h1.2.2.1 zi,fun x hx=>Nat.le_trans (h1.2.2.2.2.2 x hx) zi,Nat.le_trans (h.atl w ht hd) zi⟩
theorem YX.drz{c:zt}{x:Em}{k:Nat}(h:YX c x k):Fi x.dr.d:=⟨Nat.le_trans h.gd.pl zi,h.gd.pv,h.gd.rs,Nat.le_trans h.gd.tl zi,h.gd.tv⟩
theorem Da{l:List Tm}{ds:List Dd}{n:Int}{a:Dd}(h:Y1 l ds n=some a):a∈ds:=Mi (List.mem_of_find?_eq_some h)
def QI(g:Nat)(w W:World):Prop:=∀b,b<w.heap.size->b≠g->W.heap[b]? =w.heap[b]?
theorem QI.refl(g:Nat)(w:World):QI g w w:=fun _ _ _=>rfl
theorem QI.of{g:Nat}{w W:World}(h:w.grownBy W (some g)):QI g w W:=fun _b hb hn=>SJ h hb hn
theorem QI.below{g:Nat}{w W:World}(h:Below w.heap.size w W):QI g w W:=fun b hb _=>h.block b hb
structure KD(g:Nat)(c:zt)(x:Em)(k:Nat)(t:Tm)(y:Rl)(w:World):Prop where
 h:zN w g c x
 hz:YX c x k
 k1:k+1<=100000
 hE:Z5 w
 hg:nG<=g
 hs:t.value.size<=1000000
def UE(g:Nat)(c:zt)(x:Em)(t:Tm)(y:Rl)(w:World):Prop:=
 Calls prog 86 #[.pointer (some ⟨g,0,none⟩),qi t,.agg #[.string y.file,.int .i64 y.line,.slice y.tms.A y.tms.l.length y.tms.c]] w (KL w g c x (qH c.c y.tms.l x.e t).1 (.bool (qH c.c y.tms.l x.e t).2))
abbrev kG(a:Nat)(ky:Int)(nmm:ByteArray)(op:Int)(vl:ByteArray)(W:World):Prop:=
 W.cell? ⟨a,0,none⟩=some (.int .i64 ky)/\W.cell? ⟨a,1,none⟩=some (.string nmm)/\W.cell? ⟨a,2,none⟩=some (.int .i64 op)/\W.cell? ⟨a,3,none⟩=some (.string vl)
def Ty(g:Nat)(w:World)(ky:Int)(nmm:ByteArray)(op:Int)(vl:ByteArray)(w1:World)(b:Bool)(e:Ending)(W:World):Prop:=
 e=.returned (.bool b)/\Below w1.heap.size w1 W/\g<W.heap.size/\w.heap.size<W.heap.size/\w.heap.size+1<W.heap.size/\kG w.heap.size ky nmm op vl W
structure UF(g:Nat)(w:World)(ky:Int)(nmm:ByteArray)(op:Int)(vl:ByteArray)(y:Rl)(w1:World):Prop where
 W:(w.alloc (.cells #[.int .i64 ky,.string nmm,.int .i64 op,.string vl] Uj)).alloc (.cells #[.string y.file,.int .i64 y.line,.slice y.tms.A y.tms.l.length y.tms.c] 44)=w1
 B:Below w.heap.size w w1
 Sx:∀W,QI g w1 W->kG w.heap.size ky nmm op vl W
 Sy:∀W,QI g w1 W->W.cell? ⟨w.heap.size+1,2,none⟩=some (.slice y.tms.A y.tms.l.length y.tms.c)
 St:∀W,Below w1.heap.size w1 W->Calls prog 106 #[.agg #[.int .i64 ky,.string nmm,.int .i64 op,.string vl]] W (Ty g w ky nmm op vl w1 (ZZ ⟨ky,nmm,op,vl⟩))
 Up:∀W,Below w1.heap.size w1 W->Calls prog 108 #[.agg #[.int .i64 ky,.string nmm,.int .i64 op,.string vl]] W (Ty g w ky nmm op vl w1 (qS ⟨ky,nmm,op,vl⟩))
theorem Qg{g:Nat}{w:World}(y:Rl)(ky:Int)(nmm:ByteArray)(op:Int)(vl:ByteArray)(hgl:g<w.heap.size):∃w1,UF g w ky nmm op vl y w1/\g<w1.heap.size/\w.heap.size<w1.heap.size/\w.heap.size+1<w1.heap.size:=by
 obtain⟨w1,hw1⟩:∃w1,(w.alloc (.cells #[.int .i64 ky,.string nmm,.int .i64 op,.string vl] Uj)).alloc (.cells #[.string y.file,.int .i64 y.line,.slice y.tms.A y.tms.l.length y.tms.c] 44)=w1:=⟨_,rfl⟩;have hb1:Below w.heap.size w w1:=VG;have hr1:w1.heap[w.heap.size]? =some (.cells #[.int .i64 ky,.string nmm,.int .i64 op,.string vl] Uj (0,0)):=kB;have hr2:w1.heap[w.heap.size+1]? =some (.cells #[.string y.file,.int .i64 y.line,.slice y.tms.A y.tms.l.length y.tms.c] 44 (0,0)):=by
  rw[<-hw1];have:=heap_alloc_new (w.alloc (.cells #[.int .i64 ky,.string nmm,.int .i64 op,.string vl] Uj)) (.cells #[.string y.file,.int .i64 y.line,.slice y.tms.A y.tms.l.length y.tms.c] 44);exact QU
 have hs1:w1.heap.size=w.heap.size+2:=YS;have hx:∀W,QI g w1 W->kG w.heap.size ky nmm op vl W:=fun W hW=>by
  have h2:=(hW _ (zh hr1) zb).trans hr1;exact PY
 have ha:∀(W W':World) (b:Bool) (e:Ending),Below w1.heap.size w1 W->(e=.returned (.bool b)/\Below W.heap.size W W')->Ty g w ky nmm op vl w1 b e W':=fun W W' b e hW h=>by
  have hb:=bt hW h.2;have hz:=hb.size;exact⟨h.1,hb,zb,zb,zb,hx _ (QI.below hb)⟩
 exact⟨w1,⟨hw1,hb1,hx,fun W hW=>zd ((hW _ (zh hr2) zb).trans hr2) rfl,fun W hW=>(S9 ⟨ky,nmm,op,vl⟩ W).mono fun e W' h=>ha W W' _ e hW h,fun W hW=>(EM ⟨ky,nmm,op,vl⟩ W).mono fun e W' h=>ha W W' _ e hW h⟩,zb,zb,zb⟩
end
section
open Go.RowKit
attribute [local go_sem ↓] ks kK KW GH
theorem zax{g:Nat}{c:zt}{x:Em}{k:Nat}{t:Tm}{y:Rl}{w:World}(H:KD g c x k t y w)(hS:ZZ t=true):UE g c x t y w:=by
 obtain⟨ky,nmm,op,vl⟩:=t;have hs:vl.size<=1000000:=H.hs;obtain⟨w1,HP,hgW,hlW,hlX⟩:=Qg y ky nmm op vl (zh H.h.box);have h1:=H.h.keep HP.B;have HH1:=za h1;have HG1:=za (zF HP.B (some g));have HSt:=za HP.St;have HUp:=za HP.Up;rw[hS]at HSt;have HD:=za (fun(W:World) (hW:Below w1.heap.size w1 W)=>Lk ⟨ky,nmm,op,vl⟩ c.dev W Xs (H.hz.dok H.h.inp.tr H.hz.dev) ((h1.dev.keep hW).row));have HQ:Hid (∀W',Below w1.heap.size w1 W'->kG w.heap.size ky nmm op vl W'/\(qC zp (.pointer (some ⟨g,31,none⟩))).run prog W'=.ok (zZ c.dev) W'):=za fun W' hW'=>⟨HP.Sx W' (QI.below hW'),Fs ((hW'.block _ hgW).trans h1.box)⟩;unfold UE;rw[show qH c.c y.tms.l x.e ⟨ky,nmm,op,vl⟩=(x.e,Ym ⟨ky,nmm,op,vl⟩ c.dev) by unfold qH;rw[if_pos hS];rfl];generalize Ym ⟨ky,nmm,op,vl⟩ c.dev=bb at*;clear HUp h1;unfold qi at*;go_enter func86,ntmps86;go_upto_region 1 with fail
 rw[HP.W];obtain⟨c0,c1,c2,c3⟩:=HP.Sx w1 (QI.refl _ _);go_upto_region 2 with(go_at_call 106;refine(HSt.out _ zk).mono ?_;rintro e w2 ⟨rfl,hb2,hgW2,hlW2,hlX2,d0,d1,d2,d3⟩;have HB2:=za hb2;clear hb2 c0 c1 c2 c3)
 go_region_held3 (fun W'=>kG w.heap.size ky nmm op vl W'/\(qC zp (.pointer (some ⟨g,31,none⟩))).run prog W'=.ok (zZ c.dev) W') ((refine HQ.out _ ?_;first|exact bt HB2.out zk.drew|exact hB3)) ((go_at_call 107;refine(HD.out _ (bt HB2.out zk.drew)).mono ?_;rintro e w3 ⟨rfl,hb3⟩;(have hB3:Below w1.heap.size w1 w3:=bt (bt HB2.out zk.drew) hb3)))
 go_wp2;go_ret;exact⟨x,rfl,rfl,HH1.out.keep hB3,HG1.out.trans (zF hB3 _),Fr.same rfl rfl⟩
theorem zeo{g:Nat}{c:zt}{x:Em}{k:Nat}{t:Tm}{y:Rl}{w:World}(H:KD g c x k t y w)(hS:ZZ t=false)(hU:qS t=true)(hre:x.re=true):UE g c x t y w:=by
 obtain⟨ky,nmm,op,vl⟩:=t;have hs:vl.size<=1000000:=H.hs;obtain⟨w1,HP,hgW,hlW,hlX⟩:=Qg y ky nmm op vl (zh H.h.box);have h1:=H.h.keep HP.B;have HH1:=za h1;have HG1:=za (zF HP.B (some g));have HSt:=za HP.St;have HUp:=za HP.Up;rw[hS]at HSt;rw[hU]at HUp;unfold UE;rw[show qH c.c y.tms.l x.e ⟨ky,nmm,op,vl⟩=(x.e,true) by
  unfold qH;rw[hS,if_neg zl,hU,if_pos rfl,if_pos (show x.e.re=true from hre)]]
 have HQ:Hid (∀W',Below w1.heap.size w1 W'->W'.cell? ⟨g,53,none⟩=some (.bool true)):=za fun W' hW'=>by rw[<-hre];exact zd ((hW'.block _ hgW).trans h1.box) rfl
 clear hS hU hre h1;unfold qi at*;go_enter func86,ntmps86;go_upto_region 1 with fail
 rw[HP.W];obtain⟨c0,c1,c2,c3⟩:=HP.Sx w1 (QI.refl _ _);go_wp2_with (first
  |(go_at_call 106;refine(HSt.out _ zk).mono ?_;rintro e w2 ⟨rfl,hb2,hgW2,hlW2,hlX2,d0,d1,d2,d3⟩;have HB2:=za hb2;clear hb2 c0 c1 c2 c3)
  |(go_at_call 108;refine(HUp.out _ HB2.out).mono ?_;rintro e w3 ⟨rfl,hb3,hgW3,hlW3,hlX3,e0,e1,e2,e3⟩;have HB3:=za hb3;have q53:=HQ.out w3 HB3.out;clear hb3 d0 d1 d2 d3))
 go_ret;exact⟨x,rfl,rfl,HH1.out.keep HB3.out,HG1.out.trans (zF HB3.out _),Fr.same rfl rfl⟩
end
section
open Go.RowKit
attribute [local go_sem ↓] ks kK KW GH
theorem zgC{g:Nat}{c:zt}{x:Em}{k:Nat}{t:Tm}{y:Rl}{w:World}(H:KD g c x k t y w)(hS:ZZ t=false)(hU:qS t=true)(hre:x.re=false)(hr:zH w y.tms.A 4 y.tms.l.length (cellsOf zO y.tms.l))(hnil:y.tms.A=none->y.tms.c=0)(hoff:∀p,y.tms.A=some p->p.block≠g)(hl:y.tms.l.length<=1000000)(hv:∀t∈y.tms.l,t.value.size<=1000000):UE g c x t y w:=by
 obtain⟨ky,nmm,op,vl⟩:=t;have hs:vl.size<=1000000:=H.hs;obtain⟨w1,HP,hgW,hlW,hlX⟩:=Qg y ky nmm op vl (zh H.h.box);have h1:=H.h.keep HP.B;have HH1:=za h1;have HG1:=za (zF HP.B (some g));have HSt:=za HP.St;have HUp:=za HP.Up;rw[hS]at HSt;rw[hU]at HUp;have hz:=H.hz;have hi:=H.h.inp.tr;have HF:=za (show qH c.c y.tms.l x.e ⟨ky,nmm,op,vl⟩=match Y1 y.tms.l (zm c.tds) c.ix with|none=>({x.e with re:=true},false)|some a=>({x.e with ab:=a,re:=true},true) by
  unfold qH;rw[hS,if_neg zl,hU,if_pos rfl,if_neg (show¬x.e.re=true by show¬x.re=true;rw[hre];simp)];show(match Y1 y.tms.l (zm c.tds) c.ix with|some a=>_|none=>_)=_;cases Y1 y.tms.l (zm c.tds) c.ix<;>rfl)
 have HQ:Hid (∀W',Below w1.heap.size w1 W'->W'.cell? ⟨g,53,none⟩=some (.bool false)/\W'.frozen? ⟨g,53,none⟩=false/\zN (W'.setCell ⟨g,53,none⟩ (.bool true)) g c {x with re:=true}/\w1.grownBy (W'.setCell ⟨g,53,none⟩ (.bool true)) (some g)):=za fun W' hW'=>by
  have hb:=(hW'.block _ hgW).trans h1.box;obtain⟨k1,k2⟩:=(h1.keep hW').reS true;exact⟨by rw[<-hre];exact zd hb rfl,qb hb 53,k1,(zF hW' _).trans k2⟩
 have HR1:=za (hr.keep HP.B);have HAn:Hid (∀W,zN W g c {x with re:=true}->w1.grownBy W (some g)->Calls prog 109 #[.slice y.tms.A y.tms.l.length y.tms.c,.agg #[.slice c.tA c.tds.length c.tc],.int .i64 c.ix] W (Ou (Y1 y.tms.l (zm c.tds) c.ix) W)):=za fun W hW hgr=>
  zdC y.tms.A y.tms.c y.tms.l c.tA c.tc c.tds c.ix W (HR1.out.grown hgr (fun p e k=>hoff p e (zx k))) hnil hl hv hW.inp.tr (fun d hd=>(hz.dv d hd).1) (fun z hzm=>hz.dok hi (List.mem_map_of_mem hzm)) hz.wf hz.ix1 hz.ix2
 have HFd:Hid (∀a W,Y1 y.tms.l (zm c.tds) c.ix=some a->zN W g c {x with re:=true}->Calls prog 29 #[.agg #[.slice c.tA c.tds.length c.tc],.int .i64 a.ix] W (YH (some a) W)):=za fun a W hA hW=>by
  have h9:=kg c.tA c.tc c.tds a.ix W hW.inp.tr;rw[vT hz.wf (Da hA)]at h9;exact h9
 have HEv:Hid (∀W',zN W' g c {x with re:=true}->W'.cell? ⟨g,15,none⟩=some (.slice c.tA c.tds.length c.tc)/\W'.cell? ⟨g,16,none⟩=some (.int .i64 c.ix)):=za fun W' hW'=>⟨zd hW'.box rfl,zd hW'.box rfl⟩;clear hS hU hre hr hnil hoff hl hv hz hi h1;unfold UE;generalize Y1 y.tms.l (zm c.tds) c.ix=o at*;unfold qi at*;go_enter func86,ntmps86;go_upto_region 1 with fail
 rw[HP.W];obtain⟨c0,c1,c2,c3⟩:=HP.Sx w1 (QI.refl _ _);go_upto_region 7 with(first
  |(go_at_call 106;refine(HSt.out _ zk).mono ?_;rintro e w2 ⟨rfl,hb2,hgW2,hlW2,hlX2,d0,d1,d2,d3⟩;have HB2:=za hb2;clear hb2 c0 c1 c2 c3)
  |(go_at_call 108;refine(HUp.out _ HB2.out).mono ?_;rintro e w3 ⟨rfl,hb3,hgW3,hlW3,hlX3,e0,e1,e2,e3⟩;have HB3:=za hb3;obtain⟨q53,f53,H4,G4⟩:=HQ.out w3 HB3.out;have HO4:=za H4;have HG4:=za G4;clear H4 G4;clear hb3 d0 d1 d2 d3))
 obtain⟨w4,hw4⟩:∃w4,w3.setCell ⟨g,53,none⟩ (.bool true)=w4:=⟨_,rfl⟩;rw[hw4]at HO4 HG4⊢;have hz4:w1.heap.size<=w4.heap.size:=by rw[<-hw4];simp only[World.setCell];simpa using HB3.out.size
 clear hw4 q53 f53 e0 e1 e2 e3;have HQ4:Hid (∀W',Below w4.heap.size w4 W'->W'.cell? ⟨w.heap.size+1,2,none⟩=some (.slice y.tms.A y.tms.l.length y.tms.c)/\W'.cell? ⟨g,15,none⟩=some (.slice c.tA c.tds.length c.tc)/\W'.cell? ⟨g,16,none⟩=some (.int .i64 c.ix)):=za fun W' hW'=>⟨HP.Sy W' (fun b hb hn=>(hW'.block b (Nat.lt_of_lt_of_le hb hz4)).trans (QI.of HG4.out b hb hn)),HEv.out W' (HO4.out.keep hW')⟩
 go_region_held3 (fun W'=>W'.cell? ⟨w.heap.size+1,2,none⟩=some (.slice y.tms.A y.tms.l.length y.tms.c)/\W'.cell? ⟨g,15,none⟩=some (.slice c.tA c.tds.length c.tc)/\W'.cell? ⟨g,16,none⟩=some (.int .i64 c.ix)) ((refine HQ4.out _ ?_;first|exact zk.drew|exact hB5)) ((go_at_call 109;refine(HAn.out _ (HO4.out.keep zk.drew) (HG4.out.trans (zF zk.drew _))).mono ?_;rintro e w5 ⟨rfl,hb5⟩;(have hB5:Below w4.heap.size w4 w5:=bt zk.drew hb5)))
 have HO5:=za (HO4.out.keep hB5);have HG5:=za (HG4.out.trans (zF hB5 (some g)));clear hb5 hB5;have hF:=HF.out;cases o with
 | none=>
   go_wp2;go_ret;exact⟨_,rfl,rfl,HO5.out,HG1.out.trans HG5.out,Fr.same rfl rfl⟩
 | some a=>
   obtain⟨q15,q16⟩:=HEv.out w5 HO5.out;have hg5:g<w5.heap.size:=zh HO5.out.box;go_wp2_with (go_at_call 29;refine(HFd.out a w5 rfl HO5.out).mono ?_;rintro e w6 ⟨z,rfl,hz1,hz2,hz3,hb6⟩;obtain⟨H7,G7⟩:=HO5.out.abS hb6 z hz2 (fun p e=>by have:=hz3 p e;omega);have HO7:=za H7;have HG7:=za G7;have HZ1:=za hz1;have HZ3:=za hz3;have hst:=E0 ((hb6.block _ hg5).trans HO5.out.box) z;clear H7 G7 hz1 hz2 hz3 hb6)
   go_ret;rw[hF];refine⟨_,rfl,?_,HO7.out,HG1.out.trans (HG5.out.trans HG7.out),⟨fun b hb _ _=>Or.inr hb,fun b hb p e=>?_⟩⟩
   rotate_left
   · rcases List.mem_append.1 hb with h1|h1
     · exact Or.inr (List.mem_append_left _ h1)
     · rw[List.mem_singleton.1 h1]at e;have k1:w5.heap.size<=p.block:=HZ3.out p e;have k2:=HG5.out.size;have k3:=HP.B.size;exact kA
   unfold Em.e;dsimp only;rw[HZ1.out]
end
section
open Go.RowKit
attribute [local go_sem ↓] ks kK KW GH
theorem zb6{g:Nat}{c:zt}{x:Em}{k:Nat}{t:Tm}{y:Rl}{w:World}(H:KD g c x k t y w)(hS:ZZ t=false)(hU:qS t=false)(hK:t.key=12):UE g c x t y w:=by
 obtain⟨ky,nmm,op,vl⟩:=t;have hs:vl.size<=1000000:=H.hs;obtain⟨w1,HP,hgW,hlW,hlX⟩:=Qg y ky nmm op vl (zh H.h.box);have h1:=H.h.keep HP.B;have HH1:=za h1;have HG1:=za (zF HP.B (some g));have HSt:=za HP.St;have HUp:=za HP.Up;rw[hS]at HSt;rw[hU]at HUp;have hky:ky=12:=hK;subst hky;unfold UE;rw[show qH c.c y.tms.l x.e ⟨12,nmm,op,vl⟩=({Q7 x.e (qQ c.c x.e vl).2.1 with dr:={(Q7 x.e (qQ c.c x.e vl).2.1).dr with res:=(qQ c.c x.e vl).1}},((qQ c.c x.e vl).2.2==0)==(op==1)) by
  unfold qH;rw[hS,if_neg zl,hU,if_neg zl,if_pos rfl]]
 have HC:=za (fun(W:World) (hW:Below w1.heap.size w1 W)=>Am g c x k vl W (h1.keep hW) H.hz ((H.hE.go (bt HP.B hW)).toEnv) hs);generalize Q7 x.e (qQ c.c x.e vl).2.1=te at*;generalize (qQ c.c x.e vl).1=ou at*;generalize ((qQ c.c x.e vl).2.2==0)=bb at*;clear hS hU hK h1;unfold qi at*;go_enter func86,ntmps86;go_upto_region 1 with fail
 rw[HP.W];obtain⟨c0,c1,c2,c3⟩:=HP.Sx w1 (QI.refl _ _);go_wp2_with (first
  |(go_at_call 106;refine(HSt.out _ zk).mono ?_;rintro e w2 ⟨rfl,hb2,hgW2,hlW2,hlX2,d0,d1,d2,d3⟩;have HB2:=za hb2;clear hb2 c0 c1 c2 c3)
  |(go_at_call 108;refine(HUp.out _ HB2.out).mono ?_;rintro e w3 ⟨rfl,hb3,hgW3,hlW3,hlX3,e0,e1,e2,e3⟩;have HB3:=za hb3;clear hb3 d0 d1 d2 d3)
  |(go_at_call 110;refine(HC.out w3 HB3.out).mono ?_;rintro e w4 ⟨x4,rfl,hx4,h4,g4,f4⟩;have HF4:=za f4;obtain⟨h5,g5⟩:=h4.resS ou;have HX4:=za hx4;have HO5:=za h5;have q10:=zd (j:=10) h4.box rfl;have f10:=qb h4.box 10;have HG5:=za ((zF HB3.out (some g)).trans (g4.trans g5));obtain⟨d0,d1,d2,d3⟩:=HP.Sx _ (QI.of HG5.out);(have hlW5:w.heap.size<(w4.setCell ⟨g,10,none⟩ (.string ou)).heap.size:=Nat.lt_of_lt_of_le hlW HG5.out.size);clear h4 g4 h5 g5 hx4 f4 e0 e1 e2 e3))
 go_ret;refine⟨_,rfl,?_,HO5.out,HG1.out.trans HG5.out,Fr.trans (y:=x) (Fr.same rfl rfl) ⟨HF4.out.d,HF4.out.a⟩ (Nat.le_trans HP.B.size HB3.out.size)⟩;unfold Em.e;dsimp only;have e9:=HX4.out;unfold Em.e at e9;rw[<-e9];rfl
theorem ziB{g:Nat}{c:zt}{x:Em}{k:Nat}{t:Tm}{y:Rl}{w:World}(H:KD g c x k t y w)(hS:ZZ t=false)(hU:qS t=false)(hK:t.key=14)(hR:ko c):UE g c x t y w:=by
 obtain⟨ky,nmm,op,vl⟩:=t;have hs:vl.size<=1000000:=H.hs;obtain⟨w1,HP,hgW,hlW,hlX⟩:=Qg y ky nmm op vl (zh H.h.box);have h1:=H.h.keep HP.B;have HH1:=za h1;have HG1:=za (zF HP.B (some g));have HSt:=za HP.St;have HUp:=za HP.Up;rw[hS]at HSt;rw[hU]at HUp;have hky:ky=14:=hK;subst hky;unfold UE;rw[show qH c.c y.tms.l x.e ⟨14,nmm,op,vl⟩=((QB c.c x.e ⟨14,nmm,op,vl⟩).1,(QB c.c x.e ⟨14,nmm,op,vl⟩).2==(op==1)) by
  unfold qH;rw[hS,if_neg zl,hU,if_neg zl,if_neg (by show¬(14:Int)=12;decide),if_pos rfl]]
 have HC:=za (fun(W:World) (hW:Below w1.heap.size w1 W)=>zaz g c x k ⟨14,nmm,op,vl⟩ W (h1.keep hW) H.hz H.k1 (H.hE.go (bt HP.B hW)) H.hg hs hR);generalize (QB c.c x.e ⟨14,nmm,op,vl⟩).1=te at*;generalize (QB c.c x.e ⟨14,nmm,op,vl⟩).2=bb at*;clear hS hU hK h1;unfold qi at*;go_enter func86,ntmps86;go_upto_region 1 with fail
 rw[HP.W];obtain⟨c0,c1,c2,c3⟩:=HP.Sx w1 (QI.refl _ _);go_upto_region 16 with(first
  |(go_at_call 106;refine(HSt.out _ zk).mono ?_;rintro e w2 ⟨rfl,hb2,hgW2,hlW2,hlX2,d0,d1,d2,d3⟩;have HB2:=za hb2;clear hb2 c0 c1 c2 c3)
  |(go_at_call 108;refine(HUp.out _ HB2.out).mono ?_;rintro e w3 ⟨rfl,hb3,hgW3,hlW3,hlX3,e0,e1,e2,e3⟩;have HB3:=za hb3;clear hb3 d0 d1 d2 d3))
 go_region_held3 (fun W'=>kG w.heap.size 14 nmm op vl W') ((refine HP.Sx _ (QI.of ?_);first|exact zF (bt HB3.out zk.drew) _|exact hG4)) ((go_at_call 111;refine(HC.out w3.drew (bt HB3.out zk.drew)).mono ?_;rintro e w4 ⟨x4,rfl,hx4,h4,g4,f4⟩;(have hG4:w1.grownBy w4 (some g):=(zF (bt HB3.out zk.drew) (some g)).trans g4)))
 go_wp2;go_ret;exact⟨x4,rfl,hx4,h4,HG1.out.trans hG4,Fr.trans (Fr.same rfl rfl) f4 (Nat.le_trans HP.B.size (Nat.le_trans HB3.out.size zo))⟩
end
section
open Go.RowKit
attribute [local go_sem ↓] ks kK KW GH
theorem SC{g:Nat}{c:zt}{x:Em}{k:Nat}{t:Tm}{y:Rl}{w:World}(H:KD g c x k t y w)(hS:ZZ t=false)(hU:qS t=false)(hK1:t.key≠12)(hK2:t.key≠14):UE g c x t y w:=by
 obtain⟨ky,nmm,op,vl⟩:=t;have hs:vl.size<=1000000:=H.hs;obtain⟨w1,HP,hgW,hlW,hlX⟩:=Qg y ky nmm op vl (zh H.h.box);have h1:=H.h.keep HP.B;have HH1:=za h1;have HG1:=za (zF HP.B (some g));have HSt:=za HP.St;have HUp:=za HP.Up;rw[hS]at HSt;rw[hU]at HUp;have n12:ky≠12:=hK1;have n14:ky≠14:=hK2;unfold UE;rw[show qH c.c y.tms.l x.e ⟨ky,nmm,op,vl⟩=(x.e,Jw ⟨ky,nmm,op,vl⟩ c.act x.dr.d) by
  unfold qH;rw[hS,if_neg zl,hU,if_neg zl,if_neg n12,if_neg n14];rfl]
 have HD:=za (fun(W:World) (hW:Below w1.heap.size w1 W)=>zar ⟨ky,nmm,op,vl⟩ c.act x.dr W (h1.keep hW).dr H.hz.drz hs H.hz.act);generalize Jw ⟨ky,nmm,op,vl⟩ c.act x.dr.d=bb at*;have HQ:Hid (∀W',Below w1.heap.size w1 W'->kG w.heap.size ky nmm op vl W'/\W'.cell? ⟨g,14,none⟩=some (.string c.act)/\(qC qj (.pointer (some ⟨g,0,none⟩))).run prog W'=.ok (.agg (zD x.dr)) W'):=za fun W' hW'=>⟨HP.Sx W' (QI.below hW'),zd ((hW'.block _ hgW).trans h1.box) rfl,kC (h1.keep hW')⟩;clear hS hU hK1 hK2 h1;unfold qi at*;go_enter func86,ntmps86;go_upto_region 1 with fail
 rw[HP.W];obtain⟨c0,c1,c2,c3⟩:=HP.Sx w1 (QI.refl _ _);go_upto_region 17 with(first
  |(go_at_call 106;refine(HSt.out _ zk).mono ?_;rintro e w2 ⟨rfl,hb2,hgW2,hlW2,hlX2,d0,d1,d2,d3⟩;have HB2:=za hb2;clear hb2 c0 c1 c2 c3)
  |(go_at_call 108;refine(HUp.out _ HB2.out).mono ?_;rintro e w3 ⟨rfl,hb3,hgW3,hlW3,hlX3,e0,e1,e2,e3⟩;have HB3:=za hb3;clear hb3 d0 d1 d2 d3))
 go_region_held3 (fun W'=>kG w.heap.size ky nmm op vl W'/\W'.cell? ⟨g,14,none⟩=some (.string c.act)/\(qC qj (.pointer (some ⟨g,0,none⟩))).run prog W'=.ok (.agg (zD x.dr)) W') ((refine HQ.out _ ?_;first|exact bt HB3.out zk.drew|exact hB4)) ((go_at_call 112;refine(HD.out _ (bt HB3.out zk.drew)).mono ?_;rintro e w4 ⟨rfl,hb4⟩;(have hB4:Below w1.heap.size w1 w4:=bt (bt HB3.out zk.drew) hb4)))
 go_wp2;go_ret;exact⟨x,rfl,rfl,HH1.out.keep hB4,HG1.out.trans (zF hB4 _),Fr.same rfl rfl⟩
end
section
open Go.RowKit
theorem SO(g:Nat)(c:zt)(x:Em)(k:Nat)(t:Tm)(y:Rl)(w:World)(h:zN w g c x)(hz:YX c x k)(hk1:k+1<=100000)(hE:Z5 w)(hg:nG<=g)(hs:t.value.size<=1000000)(hr:zH w y.tms.A 4 y.tms.l.length (cellsOf zO y.tms.l))(hnil:y.tms.A=none->y.tms.c=0)(hoff:∀p,y.tms.A=some p->p.block≠g)(hl:y.tms.l.length<=1000000)(hv:∀t∈y.tms.l,t.value.size<=1000000)(hR:t.key=14->ko c):
 Calls prog 86 #[.pointer (some ⟨g,0,none⟩),qi t,.agg #[.string y.file,.int .i64 y.line,.slice y.tms.A y.tms.l.length y.tms.c]] w (KL w g c x (qH c.c y.tms.l x.e t).1 (.bool (qH c.c y.tms.l x.e t).2)):=by
 have H:KD g c x k t y w:=⟨h,hz,hk1,hE,hg,hs⟩;cases hS:ZZ t with
 |true=>exact zax H hS
 | false=>
   cases hU:qS t with
   | true=>
     cases hre:x.re with
     |true=>exact zeo H hS hU hre
     |false=>exact zgC H hS hU hre hr hnil hoff hl hv
   | false=>
     by_cases h12:t.key=12
     · exact zb6 H hS hU h12
     · by_cases h14:t.key=14
       · exact ziB H hS hU h14 (hR h14)
       · exact SC H hS hU h12 h14
end
section
open Go.RowKit
theorem zeg:(prog.info? QZ).map (fun i=>(i.zero,i.size,i.bytes))=some (some (.agg #[.int .i64 0,.string ⟨#[]⟩,.int .i64 0,.string ⟨#[]⟩]),4,48):=zg
theorem zik{B:Nat}{A:Option Addr}{c:Nat}{l:List Tm}(t:Tm)(w:World)(h:w.ownsRow B QZ 4 (.slice A l.length c) l.length (cellsOf zO l))(hl:l.length<=1000000)(hB:B<=w.heap.size):
 ∃A' c' w',(Z7 #[155,155] 155 #[.slice A l.length c,.slice (some ⟨w.heap.size,0,none⟩) 1 1]).run prog (w.alloc (.cells #[.int .i64 t.key,.string t.name,.int .i64 t.op,.string t.value] QZ))=.ok (.slice A' (l.length+1) c') w'/\w'.ownsRow B QZ 4 (.slice A' (l.length+1) c') (l.length+1) (cellsOf zO (l++[t]))/\w.grownBy w' (Value.slice A l.length c).ownBlock/\∀p,A'=some p->w.heap.size<=p.block∨∃q,A=some q/\q.block=p.block:=by
 obtain⟨i0,hi0,hz0,hz1,hz2⟩:=info_parts zeg;obtain⟨v',w',h1,h2,h3,_,h5⟩:=run_append_own_at (P:=prog) (w.alloc (.cells #[.int .i64 t.key,.string t.name,.int .i64 t.op,.string t.value] QZ)) B 155 155 QZ i0 _ 4 48 underlying155 hi0 hz0 hz1 hz2 rfl zi (.slice A l.length c) l.length _ (qg h zw) ⟨w.heap.size,0,none⟩ 1 1 (zO t) rfl (fun j u hu=>by
  rw[Uc,Nat.zero_add];exact zd (heap_alloc_new w _) JM) Oo qh zb (Nat.le_trans hB (zI w _).size)
 rw[Qh]at h1;obtain⟨NA,nc,rfl⟩:=Z1 h2;have hc:cellsOf zO (l++[t])=cellsOf zO l++zO t:=JD;refine⟨NA,nc,w',h1,JG,(zF (zI w _) _).trans h3,fun p hp=>?_⟩;have hpb:(Value.slice NA (l.length+1) nc).ownBlock=some p.block:=Kn;rcases h5 with k|k
 · exact Ju
 · rw[hpb]at k;have:=zx k;have:=(zI w (.cells #[.int .i64 t.key,.string t.name,.int .i64 t.op,.string t.value] QZ)).size;exact kA
theorem zbO(c:qO)(l:List Tm){k:Nat}(hk:k<l.length)(x:Ev):ZU c l (l.drop k) x=if qu l[k].op then(if(qH c l x l[k]).2 then ZU c l (l.drop (k+1)) (qH c l x l[k]).1 else((qH c l x l[k]).1,false))else ZU c l (l.drop (k+1)) x:=by
 rw[List.drop_eq_getElem_cons hk];rfl
theorem zfI(c:qO)(l:List Tm)(x:Ev):ZU c l (l.drop l.length) x=(x,true):=by
 rw[List.drop_length];rfl
def QY(l:List Tm)(k:Nat):List Tm:=(l.take k).filter fun t=> !qu t.op
theorem zjn(l:List Tm){k:Nat}(hk:k<l.length):QY l (k+1)=if qu l[k].op then QY l k else QY l k++[l[k]]:=by
 unfold QY;rw[List.take_succ_eq_append_getElem hk,List.filter_append];cases hm:qu l[k].op<;>simp[hm]
theorem Hw(l:List Tm)(k:Nat):(QY l k).length<=k:=Nat.le_trans (List.length_filter_le _ _) IJ
theorem zh0{l:List Tm}{k:Nat}{t:Tm}(h:t∈QY l k):t∈l:=List.mem_of_mem_take (List.mem_filter.1 h).1
theorem SL(c:qO)(l:List Tm)(x:Ev){k:Nat}(hk:k<l.length):(l.take (k+1)).foldl (Z9 c) x=Z9 c ((l.take k).foldl (Z9 c) x) l[k]:=He
theorem zdg{c:qO}{l:List Tm}{x:Ev}{t:Tm}(h:x.ab∈c.i.tree):(qH c l x t).1.ab∈c.i.tree:=by
 unfold qH
 split
 · exact h
 split
 · split
   · exact h
   · split
     · rename_i a ha;exact Da ha
     · exact h
 split
 · exact h
 split
 · unfold QB
   split
   · exact h
   split
   · split<;>exact h
   split<;>exact h
 · exact h
theorem DB{c:qO}:∀(l:List Tm) (x:Ev),(l.foldl (Z9 c) x).ab=x.ab
 | [],_=>rfl
 |t::l,x=>by rw[List.foldl_cons,DB l];rfl
structure Kl(c:zt):Prop where
 ok:Jj c.i
 dv:∀d∈zm c.tds,Xh d/\d.sb.size<=1000/\d.dr.size<=1000 /\ -9223372036854775808<=d.nb/\d.nb<=9223372036854775807/\∀a∈d.ats,a.val.size<=1000000
 wf:QW (zm c.tds)
 ix1: -9223372036854775808<=c.ix
 ix2:c.ix<=9223372036854775807
 dev:c.dev.d∈zm c.tds
 org:c.org.size<=1000000
 pnt:c.pnt.size<=1000000
 hl:c.hs.l.length<=1000
 hc:∀y∈c.hs.l,y.cmd.size<=1000000
 act:c.act.size<=1000000
 pl:c.r.props.l.length<=1000
 pz:∀y∈c.r.props.l,y.name.size<=1000000
theorem Kl.z{c:zt}(h:Kl c)(x:Em)(k:Nat)(hg:zJ x.e.dr k)(hk:k<=100000)(ha:x.e.ab∈zm c.tds):YX c x k:=⟨hg,hk,h.ok,h.dv,h.wf,h.ix1,h.ix2,h.dev,ha,h.org,h.pnt,h.hl,h.hc,h.act,h.pl,h.pz⟩
theorem zN.lowc{w:World}{g:Nat}{c:zt}{x:Em}(h:zN w g c x):∀a∈c.as,∀p,a=some p->p.block<w.heap.size:=fun a ha p e=>by
 subst e;rcases List.mem_append.1 ha with h1|h1
 · simp only[List.mem_cons,List.not_mem_nil,or_false]at h1;rcases h1 with h1|h1|h1|h1|h1|h1|h1|h1
   · exact(h.inp.tr.row.pl p h1.symm).2
   · exact(h.inp.rc.pr.row.pl p h1.symm).2
   · exact(h.inp.rc.tg.row.pl p h1.symm).2
   · exact(h.inp.rc.lk.row.pl p h1.symm).2
   · exact(h.inp.rc.rn.row.pl p h1.symm).2
   · exact(h.inp.rc.ld.row.pl p h1.symm).2
   · exact(h.inp.hp.row.pl p h1.symm).2
   · exact(h.dev.pl p h1.symm).2
 · obtain⟨d,hd,h2⟩:=List.mem_map.1 h1;exact((h.inp.tr.inn d hd).pl p h2).2
theorem zN.lowx{w:World}{g:Nat}{c:zt}{x:Em}(h:zN w g c x):∀a∈x.as,∀p,a=some p->p.block<w.heap.size:=fun a ha p e=>by
 subst e;rcases List.mem_append.1 ha with h1|h1
 · simp only[Dm.as,List.mem_cons,List.not_mem_nil,or_false]at h1;rcases h1 with h1|h1|h1|h1|h1|h1
   · exact(h.dr.pr.row.pl p h1.symm).2
   · exact(h.dr.tg.row.pl p h1.symm).2
   · exact(h.dr.lk.row.pl p h1.symm).2
   · exact(h.dr.rn.row.pl p h1.symm).2
   · exact(h.dr.ld.row.pl p h1.symm).2
   · exact(h.dr.cl.row.pl p h1.symm).2
 · exact(h.ab.pl p (List.mem_singleton.1 h1).symm).2
theorem zN.away{w w':World}{g:Nat}{c:zt}{x:Em}{row:Option Nat}(h:zN w g c x)(hg:w.grownBy w' row)(hb:∀b,row=some b->b≠g/\Xd b c.as/\Xd b x.as):zN w' g c x:=by
 cases row with
 |none=>exact h.keep (FE hg)
 | some b=>
   obtain⟨h1,h2,h3⟩:=hb b rfl;have h4:=(zt.mem h2).1;exact⟨(hg.block g (zh h.box) (fun e=>h1 (zx e).symm)).trans h.box,h.inp.grown hg h2,h.dev.grown hg (QM h4 zl),h.dr.grown hg (fun a ha=>h3 a (List.mem_append_left _ ha)),h.ab.grown hg (QM h3 (List.mem_append_right _ zl)),h.offc,h.offx⟩
structure Ud(c:zt)(w:World)(x y:Em):Prop where
 d:∀a∈y.dr.as,∀p,a=some p->w.heap.size<=p.block∨a∈x.dr.as
 a:∀a∈y.as,∀p,a=some p->w.heap.size<=p.block∨a∈x.as∨a∈c.as
theorem Fr.c{c:zt}{w:World}{x y:Em}(h:Fr w x y):Ud c w x y:=⟨h.d,fun a ha p e=>(h.a a ha p e).imp id Or.inl⟩
theorem Ud.trans{c:zt}{w w0:World}{x y z:Em}(h1:Ud c w x y)(h2:Ud c w0 y z)(hs:w.heap.size<=w0.heap.size):Ud c w x z:=⟨fun a ha p e=>by
 rcases h2.d a ha p e with h|h
 · exact I2
 · exact h1.d a h p e,fun a ha p e=>by
 rcases h2.a a ha p e with h|h|h
 · exact I2
 · exact h1.a a h p e
 · exact Or.inr (Or.inr h)⟩
def EvR(w:World)(g:Nat)(c:zt)(x:Em)(y:Ev)(v:Value)(e:Ending)(w':World):Prop:=∃x',e=.returned v/\x'.e=y/\zN w' g c x'/\w.grownBy w' (some g)/\Ud c w x x'
theorem zhC{c:qO}{x:Ev}{l:List Tm}{z:Ev}(h:ZU c l l {x with ab:=c.dev,re:=false}=(z,false)):Zx c x l=(z,false):=by
 unfold Zx;rw[h];rfl
theorem zbr{c:qO}{x:Ev}{l:List Tm}{z:Ev}(h:ZU c l l {x with ab:=c.dev,re:=false}=(z,true)):Zx c x l=((QY l l.length).foldl (Z9 c) z,true):=by
 unfold Zx QY;rw[h,List.take_length];rfl
end
end Go.Proofs.YtobcmlmbblgcdaaGreatDoor
