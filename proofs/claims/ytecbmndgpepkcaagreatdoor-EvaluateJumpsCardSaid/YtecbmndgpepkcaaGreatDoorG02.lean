/- Contracts of functions that the law reaches, and what they rest on; each under the premises that it names. Shortened by a program. -/
import Derived.Test.YtecbmndgpepkcaaGreatDoorG01
import Derived.Deep.Onto
namespace Go.Proofs.YtecbmndgpepkcaaGreatDoor
open Tryz
set_option maxHeartbeats 8000000
set_option maxRecDepth 100000
section
open Go.RowKit
theorem qg{w w':World}{base kk n:Nat}{e:TypeId}{v:Value}{xs:List Value}(h:w.ownsRow base e kk v n xs)(hb:Below w.heap.size w w'):w'.ownsRow base e kk v n xs:=
 h.kept (zG hb none) (by cases hv:v.ownBlock<;>simp)
def I8(w:World)(A:Option Addr)(n:Nat):Prop:=n<=9223372036854775807/\∃ba off,(0<n->A=some ⟨ba,off,none⟩)/\ba<w.heap.size/\∀i,i<n->∃z:Int,w.cell? ⟨ba,off+i,none⟩=some (.int .i64 z) /\ -9223372036854775808<=z/\z<=9223372036854775807
theorem I8.tape{w:World}{A:Option Addr}{n:Nat}(h:I8 w A n)(c:Nat)(t:TypeId):kR (w.alloc (.cells #[.slice A n c,.int .i64 0] t)) w.heap.size n 0:=by
 obtain⟨h0,ba,off,hA,hlt,hz⟩:=h;refine⟨⟨A,c,t,qv,ba,off,hA,zb,fun i hi=>?_⟩,h0⟩;obtain⟨z,hc,z1,z2⟩:=hz i hi;exact⟨z,by rw[World.cell?_of_block (Below.heap_alloc w _ ba hlt)];exact hc,z1,z2⟩
theorem zg2{w W0 W:World}{b:Nat}(h:Below w.heap.size w W0)(hg:W0.grownBy W (some b))(hb:w.heap.size<=b):Below w.heap.size w W:=
 ⟨hg.os.trans h.os,hg.tape.trans h.tape,hg.output.trans h.output,Nat.le_trans h.size hg.size,fun k hk=>(hg.block k (Nat.lt_of_lt_of_le hk h.size) Rh).trans (h.block k hk)⟩
end
section
open Go.RowKit
structure Rl where
 file:ByteArray
 line:Int
 tms:Ls Tm
structure Rp where
 file:ByteArray
 line:Int
 tms:List Tm
def Rl.p(x:Rl):Rp:=⟨x.file,x.line,x.tms.l⟩
structure Fl where
 file:ByteArray
 line:Int
 errno:Int
def Qr(x:Rl):List Value:=[.string x.file,.int .i64 x.line,.slice x.tms.A x.tms.l.length x.tms.c]
def Vk(x:Fl):List Value:=[.string x.file,.int .i64 x.line,.int .i64 x.errno]
theorem OV(x:Rl):(Qr x).length=3:=rfl
theorem Cr(x:Rl):∀u∈Qr x,u.oneCell'=true:=by simp[Qr,Value.oneCell']
theorem zda(x:Fl):∀u∈Vk x,u.oneCell'=true:=by simp[Vk,Value.oneCell']
theorem Ai:(prog.info? 56).map (fun i=>(i.zero,i.size,i.bytes))=some (some (.agg #[.string ⟨#[]⟩,.int .i64 0,.slice none 0 0]),3,48):=zg
theorem zdf:(prog.info? 102).map (fun i=>(i.zero,i.size,i.bytes))=some (some (.agg #[.string ⟨#[]⟩,.int .i64 0,.int .i64 0]),3,32):=zg
theorem Ze.with{W W':World}{B B':Nat}{row row':Option Nat}{ls:List Rl}(h:Ze 4 zN Rl.tms W B row ls)(k:Ze 4 zN Rl.tms W' B' row' ls)(hB:B'<=B):Ze 4 zN Rl.tms W' B row ls:=fun y hy=>⟨((k y hy).at_).up hB,(h y hy).off⟩
end
section
open Go.RowKit
def Qn(l:List Tm)(key:Int):Option ByteArray:=(l.find? fun t=>t.key==key).map Tm.value
def kH(o:Option ByteArray):Value:=.tuple #[.string (o.getD ⟨#[]⟩),.bool o.isSome]
theorem LZ{l:List Tm}{key:Int}{k:Nat}(hno:∀j (h:j<l.length),j<k->l[j].key≠key)(hk:k<l.length)(h:l[k].key=key):Qn l key=some l[k].value:=by
 unfold Qn;have:l.find? (fun t=>t.key==key)=some l[k]:=by
  rw[List.find?_eq_some_iff_getElem];exact⟨Xz,k,hk,rfl,fun j hj=>by simpa using hno j zb hj⟩
 rw[this];rfl
theorem yw{l:List Tm}{key:Int}(hno:∀j (h:j<l.length),l[j].key≠key):Qn l key=none:=by
 unfold Qn;have:l.find? (fun t=>t.key==key)=none:=by
  rw[List.find?_eq_none];intro t ht;obtain⟨j,hj,rfl⟩:=List.getElem_of_mem ht;simpa using hno j hj
 rw[this];rfl
theorem PQ(A:Option Addr)(c:Nat)(l:List Tm)(key:Int)(w:World)(hn:l.length<=1000000)(h:zr w w.heap.size A 4 l.length (cellsOf zN l)):
 Calls prog 16 #[.slice A l.length c,.int .i64 key] w fun e w'=>e=.returned (kH (Qn l key))/\w=w':=by
 have H:=za h;clear h;generalize hN:l.length=N at*;have HN:=za hN;clear hN;go_enter func16,ntmps16;go_wp2;go_loopg [6] (N+1) (fun gk s6 wr=>∃k:Nat,s6=.int .i64 k/\k+gk=N+1/\k<=N/\w=wr/\Hid (∀j (h:j<l.length),j<k->l[j].key≠key))
 case atStart=>exact⟨0,rfl,zb,Nat.zero_le _,rfl,fun j _ h=>absurd h (Nat.not_lt_zero _)⟩
 case round=>
  obtain⟨k,rfl,hkg,hkN,rfl,hno⟩:=hrel;by_cases hlt:k<N
  · have hk':k<l.length:=by rw[HN.out];exact hlt
    have hr:=H.out;rw[<-HN.out]at hr;obtain⟨ba,off,rfl,c0,c1,c2,c3⟩:=hr.tm zk hk';have hltI:(k:Int)<(N:Int):=zb;clear hr;cases hq:(l[k].key==key)
    · have hne:l[k].key≠key:=by simpa using hq
      have HA:Hid (∀j (h:j<l.length),j<k+1->l[j].key≠key):=za fun j h hj=>jA;generalize l[k].key=ky at*;generalize l[k].value=vl at*;clear hne;go_wp2;go_roundg (gk - 1)
      case measure=>omega
      case rel=>exact⟨k+1,zP,zb,zb,rfl,HA.out⟩
    · have hke:l[k].key=key:=by simpa using hq
      have HV:=za (LZ hno.out hk' hke);generalize l[k].key=ky at*;generalize l[k].value=vl at*;subst hke;go_wp2;go_ret2;rw[HV.out];exact Kq
  · obtain rfl:k=N:=by omega
    have HV:=za (yw (l:=l) (key:=key) fun j h=>hno.out j h Iu);go_wp2;go_ret2;rw[HV.out];exact Kq
end
section
open Go.RowKit
end
section
open Go.RowKit
def IE(o:Option ByteArray)(tg:ByteArray):Bool:=match o with
 |some v=>v.toList==tg.toList
 |none=>false
def Y8(rs:List Rp)(tg:ByteArray):Bool:=rs.any fun y=>IE (Qn y.tms 23) tg
def kX(rs:List Rp)(x:Rp):Bool:=match Qn x.tms 24 with
 |some tg=>Y8 rs tg
 |none=>true
def qX:List Rp->List Rp×List Fl
 | []=>([],[])
 |x::r=>if kX (qX r).1 x then(x::(qX r).1,(qX r).2)else((qX r).1,⟨x.file,x.line,107⟩::(qX r).2)
theorem zcI{l:List Rp}{j:Nat}(h:j<l.length):qX (l.drop j)=if kX (qX (l.drop (j+1))).1 l[j]then(l[j]::(qX (l.drop (j+1))).1,(qX (l.drop (j+1))).2)else((qX (l.drop (j+1))).1,⟨l[j].file,l[j].line,107⟩::(qX (l.drop (j+1))).2):=by
 rw[List.drop_eq_getElem_cons h,qX]
theorem zh8(l:List Rp):(qX l).1.length+(qX l).2.length=l.length:=by
 induction l with
 |nil=>rfl
 | cons x r ih=>
   rw[qX]
   split<;>simp<;>omega
theorem zaL(l:List Rp):∀x∈(qX l).1,x∈l:=by
 induction l with
 |nil=>intro x hx;cases hx
 | cons y r ih=>
   intro x hx;rw[qX]at hx
   split at hx
   · rcases List.mem_cons.1 hx with rfl|hx
     · simp
     · exact List.mem_cons_of_mem _ (ih x hx)
   · exact List.mem_cons_of_mem _ (ih x hx)
def OQ(T:Addr->Prop)(l:List Rp)(w:World)(e:Ending)(w':World):Prop:=∃Ar cr Af cf rl fl,e=.returned (.tuple #[.slice Ar rl.length cr,.slice Af fl.length cf])/\rl.map Rl.p=(qX l).1/\fl=(qX l).2/\zr w' w'.heap.size Ar 3 rl.length (cellsOf Qr rl)/\zr w' w'.heap.size Af 3 fl.length (cellsOf Vk fl)/\Yq 4 zN Rl.tms w' w'.heap.size rl/\Below w.heap.size w w'/\rl.length<=cr/\(∀a,Ar=some a->w.heap.size<=a.block)/\∀y∈rl,∀a,y.tms.A=some a->T a
theorem zcM{w:World}{base k n:Nat}{e:TypeId}{A:Option Addr}{c:Nat}{xs:List Value}(h:w.ownsRow base e k (.slice A n c) n xs):n<=c:=by
 rcases h.2 with⟨_,h2⟩|⟨g,cap,cur,e,_,_,hroom,_⟩
 · rw[h2];exact Nat.zero_le _
 · injection e with _ _ e;rw[e];exact hroom
end
section
open Go.RowKit
theorem BE(l:List Fl):∀u∈cellsOf Vk l,u.oneCell'=true:=fun u hu=>by
 unfold cellsOf at hu;obtain⟨t,_,hu⟩:=List.mem_flatMap.1 hu;exact zda t u hu
theorem ze2(l:List Rl):∀u∈cellsOf Qr l,u.oneCell'=true:=fun u hu=>by
 unfold cellsOf at hu;obtain⟨t,_,hu⟩:=List.mem_flatMap.1 hu;exact Cr t u hu
theorem Sp{w:World}{base n c:Nat}{A:Option Addr}{y:Fl}{l:List Fl}(h:w.ownsRow base 102 3 (.slice A n c) n (Vk y++cellsOf Vk l)):w.ownsRow base 102 3 (.slice A n c) n (cellsOf Vk (y::l)):=h
theorem zhp{w:World}{base n c:Nat}{A:Option Addr}{y:Rl}{l:List Rl}(h:w.ownsRow base 56 3 (.slice A n c) n (Qr y++cellsOf Qr l)):w.ownsRow base 56 3 (.slice A n c) n (cellsOf Qr (y::l)):=h
theorem vj{w W W':World}{row:Option Nat}(h:Below w.heap.size w W)(hg:W.grownBy W' row)(hr:∀g,row=some g->w.heap.size<=g):Below w.heap.size w W':=h.grown hg h.size hr
theorem zfJ (A:Option Addr)(c:Nat)(l:List Rl)(w:World)(hl:l.length<=1000)(hz:∀x∈l,x.tms.l.length<=1000)(h:zr w w.heap.size A 3 l.length (cellsOf Qr l))(hi:Yq 4 zN Rl.tms w w.heap.size l):
 Calls prog 20 #[.slice A l.length c] w (OQ (fun a=>∃x∈l,x.tms.A=some a) (l.map Rl.p) w):=by
 have H:=za h;have HI:=za hi;have HZ:=za hz;clear h hi hz;unfold OQ;have HD:Hid (∀j,(h:j<l.length)->qX ((l.map Rl.p).drop j)=if kX (qX ((l.map Rl.p).drop (j+1))).1 (Rl.p l[j])then(Rl.p l[j]::(qX ((l.map Rl.p).drop (j+1))).1,(qX ((l.map Rl.p).drop (j+1))).2)else((qX ((l.map Rl.p).drop (j+1))).1,⟨l[j].file,l[j].line,107⟩::(qX ((l.map Rl.p).drop (j+1))).2)):=za fun j h=>by
  rw[zcI Xz];simp only[List.getElem_map];rfl
 obtain⟨N,hN⟩:∃N,l.length=N:=⟨_,rfl⟩;have HN:=za hN;rw[hN]at hl⊢;have HDe:Hid (qX ((l.map Rl.p).drop N)=([],[])):=za (by rw[List.drop_of_length_le (by rw[List.length_map,hN];exact zo)];rfl);clear hN;obtain⟨i0,hi0,hz0,hz1,hz2⟩:=info_parts Ai;have Hi0:=za hi0;have Hz0:=za hz0;have Hz1:=za hz1;have Hz2:=za hz2;obtain⟨j0,hj0,hy0,hy1,hy2⟩:=info_parts zdf;have Hj0:=za hj0;have Hy0:=za hy0;have Hy1:=za hy1;have Hy2:=za hy2;clear hi0 hz0 hz1 hz2 hj0 hy0 hy1 hy2;go_enter func20,ntmps20;go_wp2;go_loopg [4,5,6] (N+1) (fun gk s4 s5 s6 wr=>∃(k:Nat) (rl:List Rl) (fl:List Fl) (Ar:Option Addr) (cr:Nat) (Af:Option Addr) (cf:Nat),s4=.slice Ar rl.length cr/\s5=.slice Af fl.length cf/\s6=.int .i64 ((k:Int) - 1)/\k<gk/\k<=N/\rl.length+k<=N/\fl.length+k<=N/\Hid (wr.ownsRow w.heap.size 56 3 (.slice Ar rl.length cr) rl.length (cellsOf Qr rl))/\Hid (wr.ownsRow w.heap.size 102 3 (.slice Af fl.length cf) fl.length (cellsOf Vk fl))/\Hid (Below w.heap.size w wr)/\Hid (∀x∈rl,x∈l)/\Hid (rl.map Rl.p=(qX ((l.map Rl.p).drop k)).1)/\Hid (fl=(qX ((l.map Rl.p).drop k)).2))
 case atStart=>exact⟨N,[],[],none,0,none,0,rfl,rfl,rfl,zb,zo,zl,zl,World.ownsRow_nil _ _ _ _,World.ownsRow_nil _ _ _ _,zk,(fun x hx=>YS),(by show _=_;rw[HDe.out];rfl),(by show _=_;rw[HDe.out])⟩
 case round =>
  obtain⟨k,rl,fl,Ar,cr,Af,cf,rfl,rfl,rfl,hkg,hkN,hrl,hfl,hOr,hOf,hB,hIn,hLr,hLf⟩:=hrel;obtain⟨wo,rfl⟩:∃wo:World,wo=wr:=⟨_,rfl⟩;obtain⟨gko,rfl⟩:∃gko:Nat,gko=gk:=⟨_,rfl⟩;have hwz:=hB.out.size;by_cases hk0:0<k
  · obtain ⟨j,rfl⟩:∃j,k=j+1:=⟨k - 1,zb⟩;have hji:((j+1:Nat):Int) - 1=(j:Int):=zb;rw[hji];have hjI:(0:Int)<=(j:Int):=zb;have hjN:(j:Int)<(N:Int):=zb;have hj:j<l.length:=ke;have HQ0:Hid (∀W',Below w.heap.size w W'->∃ba off,A=some ⟨ba,off,none⟩/\W'.cell? ⟨ba,off+j*3,none⟩=some (.string l[j].file)/\W'.cell? ⟨ba,off+j*3+1,none⟩=some (.int .i64 l[j].line)/\W'.cell? ⟨ba,off+j*3+2,none⟩=some (.slice l[j].tms.A l[j].tms.l.length l[j].tms.c)):=za fun W' hb=>H.out.three OV hb hj _ _ _ rfl;have hdj:=HD.out j hj;have hmem:l[j]∈l:=List.getElem_mem _;have hin:=HI.out l[j] hmem;have hzj:=HZ.out l[j] hmem;obtain⟨x,hx⟩:∃x,l[j]=x:=⟨_,rfl⟩;rw[hx]at HQ0 hdj hmem hin hzj;rw[<-hLr.out,<-hLf.out]at hdj;have HMem:=za hmem;clear hx hj hmem hLr hLf;obtain⟨xf,xl,xA,xc,xt⟩:=x;obtain⟨ba,off,rfl,_⟩:=HQ0.out w zk;dsimp only at HQ0 hin hzj hdj;have HQ1:Hid (∀W',Below w.heap.size w W'->W'.cell? ⟨ba,off+j*3,none⟩=some (.string xf)/\W'.cell? ⟨ba,off+j*3+1,none⟩=some (.int .i64 xl)/\W'.cell? ⟨ba,off+j*3+2,none⟩=some (.slice xA xt.length xc)):=za fun W' hb=>by
     obtain⟨ba',off',e,h⟩:=HQ0.out W' hb;obtain⟨rfl,rfl⟩:ba=ba'/\off=off':=by injection e with e;injection e with e1 e2;exact⟨e1,e2⟩
     exact h
    have HVal:=za (PQ xA xc xt 24 wo zb ((hin.keep hB.out).up hB.out.size));have HKp:Hid (kX (rl.map Rl.p) (Rl.p ⟨xf,xl,⟨xA,xc,xt⟩⟩)=(match Qn xt 24 with|some tg=>Y8 (rl.map Rl.p) tg|none=>true)):=za rfl;have HDj:=za hdj;obtain⟨c0,c1,c2⟩:=HQ1.out wo hB.out;obtain⟨o,ho⟩:∃o,Qn xt 24=o:=⟨_,rfl⟩;rw[ho]at HVal HKp;clear HQ0 hdj hin ho;unfold kH at HVal;obtain⟨tg,htg⟩:∃tg:ByteArray,o.getD ⟨#[]⟩=tg:=⟨_,rfl⟩;obtain⟨ob,hob⟩:∃ob:Bool,o.isSome=ob:=⟨_,rfl⟩;rw[htg,hob]at HVal;have HKq:Hid (kX (rl.map Rl.p) (Rl.p ⟨xf,xl,⟨xA,xc,xt⟩⟩)=(!ob||Y8 (rl.map Rl.p) tg)):=za (by rw[HKp.out,<-htg,<-hob];cases o<;>rfl);clear HKp htg hob
    go_upto_block 2 with(go_at_call 16;refine HVal.out.mono ?_;rintro e wv ⟨rfl,hv⟩;obtain rfl:wo=wv:=hv)
    go_cut [9]from 31 to 54 (fun s9 wx=>s9=.bool (!ob||Y8 (rl.map Rl.p) tg)/\wo=wx)
    case first=>
     go_wp2_with fail
     go_loopg [9,10] (rl.length+1) (fun gk s9 s10 wx=>∃m:Nat,s9=.bool (!ob||Y8 ((rl.take m).map Rl.p) tg)/\s10=.int .i64 m/\m+gk=rl.length+1/\m<=rl.length/\wo=wx)
     case atStart=>exact⟨0,by simp[Y8],rfl,zb,Nat.zero_le _,rfl⟩
     case round=>
      obtain⟨m,rfl,rfl,hmg,hmM,rfl⟩:=hrel;by_cases hlt:m<rl.length
      · have hltI:(m:Int)<(rl.length:Int):=by omega
        have hm:=hlt;obtain⟨ra,ro,rfl,d0,d1,d2⟩:=(zr.of_own hOr.out).three OV zk hm _ _ _ rfl;have hmem:=hIn.out rl[m] (List.getElem_mem _);have hin:=HI.out rl[m] hmem;have hzm:=HZ.out rl[m] hmem;have hts:Y8 ((rl.take (m+1)).map Rl.p) tg=(Y8 ((rl.take m).map Rl.p) tg||IE (Qn rl[m].tms.l 23) tg):=by
         rw[List.take_succ_eq_append_getElem hm,List.map_append,Y8,List.any_append];simp[Y8,Rl.p]
        generalize rl[m]=y at*;obtain⟨yf,yl,yA,yc,yt⟩:=y;dsimp only at d0 d1 d2 hin hzm hts;have HVy:=za (PQ yA yc yt 23 wo zb ((hin.keep hB.out).up hB.out.size));obtain⟨o2,ho2⟩:∃o2,Qn yt 23=o2:=⟨_,rfl⟩;rw[ho2]at HVy hts;obtain⟨fb,hfb⟩:∃fb,(!ob||Y8 ((rl.take m).map Rl.p) tg)=fb:=⟨_,rfl⟩;have HNw:Hid ((!ob||Y8 ((rl.take (m+1)).map Rl.p) tg)=(fb||IE o2 tg)):=za (by rw[hts,<-hfb,Bool.or_assoc]);rw[hfb];unfold kH at HVy;generalize yt.length=qy at*;clear hts hfb ho2 hin hzm hmem hm;cases fb
        · cases o2 with
          | none=>
            exact O3
          | some vv=>
            exact O3
        · exact O3
      · obtain rfl:m=rl.length:=by omega
        have HTa:Hid ((rl.take rl.length).map Rl.p=rl.map Rl.p):=za (by rw[List.take_length]);go_wp2;go_meet;exact⟨by rw[HTa.out],rfl⟩
    case rest=>
    obtain⟨rfl,rfl⟩:=hcut;cases hkp:(!ob||Y8 (rl.map Rl.p) tg)
    · have hk2:=HKq.out;rw[hkp]at hk2;have hd:=HDj.out;rw[hk2,if_neg zl]at hd;have HLr:Hid (rl.map Rl.p=(qX ((l.map Rl.p).drop j)).1):=za (by rw[hd]);have HLf:Hid ((⟨xf,xl,107⟩:Fl)::fl=(qX ((l.map Rl.p).drop j)).2):=za (by rw[hd]);have HInn:=hIn;have HQ:Hid (∀W',Below wo.heap.size wo W'->W'.cell? ⟨ba,off+j*3,none⟩=some (.string xf)/\W'.cell? ⟨ba,off+j*3+1,none⟩=some (.int .i64 xl)):=za fun W' hb=>by
       obtain⟨h0,h1,_⟩:=HQ1.out W' (bt hB.out hb);exact⟨h0,h1⟩
      clear hk2 hd hkp c0 c1 c2;go_wp2_with fail
      refine wp_region_held_drew (S:=fun W'=>W'.cell? ⟨ba,off+j*3,none⟩=some (.string xf)/\W'.cell? ⟨ba,off+j*3+1,none⟩=some (.int .i64 xl)) zg ?_ (fun hHeld=>?_)
      · exact HQ.out _ qW
      refine wpAnyH_take (i:=0) (v:=?_) Mn zg zg zg qf (Or.inl ⟨zj,?_⟩) qj ?_
      rotate_left
      · exact qs
      try simp only[Act.put,List.setIfInBounds_toArray,List.set_cons_zero,List.set_cons_succ]
      refine wpAnyH_take (i:=1) (v:=?_) zX zg zg zg qf (Or.inl ⟨zj,?_⟩) qj ?_
      rotate_left
      · exact qs
      try simp only[Act.put,List.setIfInBounds_toArray,List.set_cons_zero,List.set_cons_succ]
      refine wpAnyH_take (i:=2) (v:=?_) zX zg zg zg qf (Or.inl ⟨zj,?_⟩) qj ?_
      rotate_left
      · exact qs
      try simp only[Act.put,List.setIfInBounds_toArray,List.set_cons_zero,List.set_cons_succ]
      refine wpAnyH_take (i:=3) (v:=?_) zX zg zg zg qf (Or.inl ⟨zj,?_⟩) qj ?_
      rotate_left
      · exact qs
      try simp only[Act.put,List.setIfInBounds_toArray,List.set_cons_zero,List.set_cons_succ]
      refine wpAnyH_take (i:=4) (v:=?_) zX zg zg zg qf (Or.inl ⟨zj,?_⟩) qj ?_
      rotate_left
      · exact qs
      try simp only[Act.put,List.setIfInBounds_toArray,List.set_cons_zero,List.set_cons_succ]
      refine wpAnyH_take (i:=5) (v:=?_) zX zg zg zg qf (Or.inl ⟨zj,?_⟩) qj ?_
      rotate_left
      · exact qs
      try simp only[Act.put,List.setIfInBounds_toArray,List.set_cons_zero,List.set_cons_succ]
      refine wpAnyH_take (i:=6) (v:=?_) zX zg zg zg qf (Or.inl ⟨zj,?_⟩) qj ?_
      rotate_left
      · exact qs
      try simp only[Act.put,List.setIfInBounds_toArray,List.set_cons_zero,List.set_cons_succ]
      refine wpAnyH_take (i:=7) (v:=?_) zX zg zg zg qf (Or.inl ⟨zj,?_⟩) qj ?_
      rotate_left
      · exact qs
      try simp only[Act.put,List.setIfInBounds_toArray,List.set_cons_zero,List.set_cons_succ]
      refine wpAnyH_take (i:=8) (v:=?_) zX zg zg zg qf (Or.inl ⟨zj,?_⟩) qj ?_
      rotate_left
      · exact qs
      try simp only[Act.put,List.setIfInBounds_toArray,List.set_cons_zero,List.set_cons_succ]
      refine wpAnyH_take (i:=9) (v:=?_) zX zg zg zg qf (Or.inl ⟨zj,?_⟩) qj ?_
      rotate_left
      · exact qs
      try simp only[Act.put,List.setIfInBounds_toArray,List.set_cons_zero,List.set_cons_succ]
      refine wpAnyH_take (i:=10) (v:=?_) zX zg zg zg qf (Or.inl ⟨zj,?_⟩) qj ?_
      rotate_left
      · exact qs
      try simp only[Act.put,List.setIfInBounds_toArray,List.set_cons_zero,List.set_cons_succ]
      refine wpAnyH_take (i:=12) (v:=?_) zX zg zg zg qf (Or.inl ⟨zj,?_⟩) qj ?_
      rotate_left
      · exact qs
      try simp only[Act.put,List.setIfInBounds_toArray,List.set_cons_zero,List.set_cons_succ]
      refine wpAnyH_ready (rs:=[11]) zg zl ?_;refine AllReadyH.cons zX (fun K hK=>?_) AllReadyH.nil
      go_simp
      refine hK.out _ _ AY (fun hHeld=>?_);clear hK K
      try simp only[Act.put,List.setIfInBounds_toArray,List.set_cons_zero,List.set_cons_succ]
      refine wpAnyH_ready (rs:=[13]) zg zl ?_;refine AllReadyH.cons zX (fun K hK=>?_) AllReadyH.nil;refine zfs zj _ _ _ zj w.heap.size 102 j0 _ 3 32 underlying65 Hj0.out Hy0.out Hy1.out Hy2.out rfl zb (.slice (some ⟨wo.heap.size,0,none⟩) 1 1) 1 (Vk (⟨xf,xl,107⟩:Fl)) zj (by first|exact World.ownsRow_lit wo _ 1 zb qi zj|exact qg (World.ownsRow_lit wo _ 1 zb qi zj) zk.drew|exact World.ownsRow_lit wo.drew _ 1 (by simpa using hwz) qi zj) Af fl.length cf wo.heap.size (cellsOf Vk fl) zj ((zr.of_own hOf.out).keep qW) (BE fl) qi zb zH ?_;intro v9 w9 hown2 hgrow2 hat2 _;obtain⟨A9,c9,rfl⟩:=Z3 hown2;have HO9:=za (Sp hown2);have HG9:Hid (Below wo.heap.size wo w9):=za (vj qW hgrow2 (fun g e=>Cf));have HQ9:=za (HQ.out w9 HG9.out);clear hown2 hgrow2 hat2;refine hK.out _ _ AY (fun hHeld=>?_);clear hK K
      try simp only[Act.put,List.setIfInBounds_toArray,List.set_cons_zero,List.set_cons_succ]
      refine wpAnyH_take (i:=14) (v:=?_) zX zg zg zg qf (Or.inl ⟨zj,?_⟩) qj ?_
      rotate_left
      · exact qs
      try simp only[Act.put,List.setIfInBounds_toArray,List.set_cons_zero,List.set_cons_succ]
      refine wpAnyH_done zg ?_ _;go_wp2;go_roundg (gko - 1)
      case measure=>omega
      case rel=>exact⟨j,rl,(⟨xf,xl,107⟩:Fl)::fl,_,_,_,_,rfl,by rw[List.length_cons,Nat.add_comm fl.length 1],rfl,zb,zb,zb,JV,qg hOr.out HG9.out,by rw[List.length_cons,Nat.add_comm fl.length 1];exact HO9.out,bt hB.out HG9.out,HInn.out,HLr.out,HLf.out⟩
    · have hk2:=HKq.out;rw[hkp]at hk2;have hd:=HDj.out;rw[hk2,if_pos rfl]at hd;have HLr:Hid (((⟨xf,xl,⟨xA,xc,xt⟩⟩:Rl)::rl).map Rl.p=(qX ((l.map Rl.p).drop j)).1):=za (by rw[hd];rfl);have HLf:Hid (fl=(qX ((l.map Rl.p).drop j)).2):=za (by rw[hd]);have HInn:Hid (∀x∈(⟨xf,xl,⟨xA,xc,xt⟩⟩:Rl)::rl,x∈l):=za fun y hy=>by
       rcases List.mem_cons.1 hy with rfl|hy
       · exact HMem.out
       · exact hIn.out y hy
      clear hk2 hd hkp;go_wp2_with (at_builtin;go_loud (refine ON rfl _ _ _ zj w.heap.size 56 i0 _ 3 48 underlying26 Hi0.out Hz0.out Hz1.out Hz2.out rfl zb (.slice (some ⟨wo.heap.size,0,none⟩) 1 1) 1 (Qr (⟨xf,xl,⟨xA,xc,xt⟩⟩:Rl)) zj (by exact World.ownsRow_lit wo _ 1 zb qi zj) Ar rl.length cr wo.heap.size (cellsOf Qr rl) zj ((zr.of_own hOr.out).keep zw) (ze2 rl) qi zb zH ?_;intro v9 w9 hown2 hgrow2 hat2 _;obtain⟨A9,c9,rfl⟩:=Z3 hown2;have HO9:=za (zhp hown2);have HG9:Hid (Below wo.heap.size wo w9):=za (vj (zI wo _) hgrow2 (fun g e=>Cf));clear hown2 hgrow2 hat2))
      go_roundg (gko - 1)
      case measure=>omega
      case rel=>exact⟨j,(⟨xf,xl,⟨xA,xc,xt⟩⟩:Rl)::rl,fl,_,_,_,_,by rw[List.length_cons,Nat.add_comm rl.length 1],rfl,rfl,zb,zb,JV,zb,by rw[List.length_cons,Nat.add_comm rl.length 1];exact HO9.out,qg hOf.out HG9.out,bt hB.out HG9.out,HInn.out,HLr.out,HLf.out⟩
  · obtain rfl:k=0:=by omega
    rw[List.drop_zero]at hLr hLf;have HIr:Hid (Yq 4 zN Rl.tms wo wo.heap.size rl):=za ((Yq.sub (HI.out.keep hB.out) hIn.out).up hB.out.size);go_wp2;go_ret2;exact⟨_,_,_,_,rl,fl,rfl,hLr.out,hLf.out,zr.of_own hOr.out,zr.of_own hOf.out,HIr.out,hB.out,zcM hOr.out,fun a e=>(hOr.out.lt a.block Gb).1,fun y hy a e=>⟨y,hIn.out y hy,e⟩⟩
end
section
def kv:List Rp->Prop
 | []=>True
 |x::r=>kX r x=true/\kv r
theorem zii(l:List Rp):kv (qX l).1:=by
 induction l with
 |nil=>exact trivial
 | cons x r ih=>
   rw[qX]
   split
   · rename_i h;exact⟨h,ih⟩
   · exact ih
theorem SG{l:List Rp}(h:kv l){j:Nat}(hj:j<l.length):kX (l.drop (j+1)) l[j]=true:=by
 induction l generalizing j with
 |nil=>cases hj
 | cons x r ih=>
   cases j with
   |zero=>exact h.1
   |succ j=>exact ih h.2 KT
theorem zct{l:List Rp}(h:kv l){j:Nat}(hj:j<l.length){tg:ByteArray}(ht:Qn l[j].tms 24=some tg):Y8 (l.drop (j+1)) tg=true:=by
 have:=SG h hj;unfold kX at this;rw[ht]at this;exact this
end
end Go.Proofs.YtecbmndgpepkcaaGreatDoor
