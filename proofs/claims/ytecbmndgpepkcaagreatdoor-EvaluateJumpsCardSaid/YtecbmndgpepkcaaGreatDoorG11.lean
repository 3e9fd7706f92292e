/- Contracts of functions that the law reaches, and what they rest on; each under the premises that it names. Shortened by a program. -/
import Derived.Test.YtecbmndgpepkcaaGreatDoorG07
import Derived.ArgAppend
import Derived.Maps.AppendAt
namespace Go.Proofs.YtecbmndgpepkcaaGreatDoor
open Tryz
set_option maxHeartbeats 8000000
set_option maxRecDepth 100000
section
open Go.RowKit
theorem O0:∀a b:ze,Lib.compareBytes a b=if a<b then -1 else if a=b then 0 else 1
 | [],[]=>TS
 | [],_::_=>TS
 |_::_,[]=>TS
 | a :: x,b::y=>by
   rw[Lib.compareBytes,O0 x y];simp only[List.cons_lt_cons_iff];by_cases h1:a<b
   · simp[h1]
   · by_cases h2:b<a
     · have h3:a≠b:=fun e=>by subst e;exact h1 h2
       simp[h1,h2,h3]
     · have h3:a=b:=by
        have:=UInt8.le_antisymm (UInt8.not_lt.1 h2) (UInt8.not_lt.1 h1);exact this
       subst h3;by_cases h4:x<y<;>by_cases h5:x=y<;>simp[h4,h5,h1]
theorem zhL(x:At)(nm0:ByteArray)(W:World):Calls prog 147 #[.agg #[.string x.name,.string x.val],.string nm0] W fun e w'=>e=.returned (.int .i64 (Lib.compareBytes (nm x) (L nm0)))/\Below W.heap.size W w':=by
 have HC:=za (fun W=>strings_Compare x.name nm0 W);go_enter func147,ntmps147;go_wp2_with (go_at_call 82;refine(HC.out _).mono ?_;rintro e w2 ⟨rfl,rfl⟩)
 go_ret;exact⟨rfl,zw⟩
theorem zeW{l:List At}{k:ze}{j:Nat}(hj:j<l.length)(h:j<(Zx l k).length):nm l[j]<k:=by
 have h1:l[j]? =(Zx l k)[j]?:=by
  have:=congrArg (fun m=>m[j]?) (U5 l k);rw[<-this];exact List.getElem?_append_left h
 rw[List.getElem?_eq_getElem hj,List.getElem?_eq_getElem h]at h1;rw[zx h1];exact(Mk (List.getElem_mem h)).1
theorem zb0{l:List At}(ha:ZR l){k:ze}{j:Nat}(hj:j<l.length)(h:(Zx l k).length<=j):¬nm l[j]<k:=by
 have h1:l[j]? =(QG l k)[j - (Zx l k).length]?:=by
  have:=congrArg (fun m=>m[j]?) (U5 l k);rw[<-this];exact List.getElem?_append_right h
 rw[List.getElem?_eq_getElem hj]at h1;exact(MV ha (List.mem_of_getElem? h1.symm)).1
theorem FG(l:List At)(k:ze):(Zx l k).length<=l.length:=(List.takeWhile_sublist _).length_le
theorem CY{l:List At}(ha:ZR l){k:ze}{x:At}(h:l[(Zx l k).length]? =some x):(zR l k).isSome=decide (nm x=k):=by
 obtain⟨hj,rfl⟩:=List.getElem?_eq_some_iff.1 h;have h1:QG l k=l[(Zx l k).length]::(QG l k).drop 1:=by
  have e:l[(Zx l k).length]? =(QG l k)[0]?:=by
   have:=congrArg (fun m=>m[(Zx l k).length]?) (U5 l k);rw[<-this];rw[List.getElem?_append_right zo,Nat.sub_self]
  cases ht:QG l k with
  |nil=>rw[ht,List.getElem?_eq_getElem hj]at e;cases e
  |cons y r=>rw[ht,List.getElem?_eq_getElem hj]at e;rw[zx e];rfl
 cases hf:zR l k with
 | none=>
   have:=vx.1 hf;rw[decide_eq_false (fun e=>this (List.mem_map.2 ⟨_,List.getElem_mem hj,e⟩))];rfl
 | some y=>
   obtain⟨r,h2,_⟩:=Gf ha hf;rw[h2]at h1;injection h1 with h1
   rw[<-h1,decide_eq_true (Px hf).1];rfl
theorem zfY{l:List At}(ha:ZR l){k:ze}(h:(Zx l k).length=l.length):(zR l k).isSome=false:=by
 cases hf:zR l k with
 |none=>rfl
 | some y=>
   obtain⟨r,h2,_⟩:=Gf ha hf;have:=congrArg List.length (U5 l k);rw[List.length_append,h2,List.length_cons]at this;omega
theorem za8(A:Option Addr)(c:Nat)(l:List At)(nm0:ByteArray)(w:World)(h:zD w A 2 l.length (cellsOf zu l))(hl:l.length<=1000000)(ha:ZR l):
 Calls prog 146 #[.slice A l.length c,.string nm0,.func (.func 147) #[] #[]] w fun e w'=>e=.returned (.tuple #[.int .i64 (Zx l (L nm0)).length,.bool (zR l (L nm0)).isSome])/\Below w.heap.size w w':=by
 have hK:=FG l (L nm0);have HLt:=za (fun j (hj:j<l.length) (h:j<(Zx l (L nm0)).length)=>zeW hj h);have HGe:=za (fun j (hj:j<l.length) (h:(Zx l (L nm0)).length<=j)=>zb0 ha hj h);have HPl:=za (fun x (h:l[(Zx l (L nm0)).length]? =some x)=>CY ha h);have HEn:=za (fun(h:(Zx l (L nm0)).length=l.length)=>zfY ha h);have HR:=za h.row;have HSc:=za (fun(x:At) W=>zhL x nm0 W);clear h ha;generalize (zR l (L nm0)).isSome=ok at*;generalize (Zx l (L nm0)).length=K at*;obtain⟨N,hN⟩:∃N,l.length=N:=⟨_,rfl⟩;have HN:=za hN;rw[hN]at hK hl⊢;clear hN;go_enter func146,ntmps146;go_wp2;go_loopg [9,10,11] (N+1) (fun g s9 s10 _ wr=>∃lo hi:Nat,s9=.int .i64 lo/\s10=.int .i64 hi/\lo<=K/\K<=hi/\hi<=N/\hi - lo<g/\Hid (Below w.heap.size w wr))
 case atStart=>exact⟨0,N,rfl,rfl,Nat.zero_le _,hK,zo,zb,zk⟩
 case round=>
  obtain⟨lo,hi,rfl,rfl,h1,h2,h3,hg,hB⟩:=hrel;by_cases hlt:lo<hi
  · have hm:(lo+hi) /2<l.length:=by rw[HN.out];omega
    obtain⟨ba,off,rfl,hb,hc⟩:=zr.file EF hm;obtain⟨c0,c1⟩:=hc wr hB.out;have hmN:((lo:Int)+(hi:Int)) /2<(N:Int):=zb;have HCc:=za (HSc.out l[(lo+hi) /2] wr);have HL:=za (HLt.out _ hm);have HG:=za (HGe.out _ hm);rw[O0]at HCc;generalize l[(lo+hi) /2]=x at*;clear hc;by_cases hx:nm x<L nm0
    · rw[if_pos hx]at HCc;have hKm:(lo+hi) /2<K:=by
       refine Classical.byContradiction fun hn=>HG.out zb hx
      clear hx;go_wp2_with (go_at_call 147;refine HCc.out.mono ?_;rintro e w2 ⟨rfl,hb2⟩;have HB2:=za (bt hB.out hb2);clear hb2)
      go_roundg (hi - ((lo+hi) /2+1)+1)
      case measure=>omega
      case rel=>exact⟨(lo+hi) /2+1,hi,by rw[show((lo:Int)+(hi:Int)) /2+1=(((lo+hi) /2+1:Nat):Int) by omega],rfl,zb,h2,h3,zb,HB2.out⟩
    · have hKm:K<=(lo+hi) /2:=by
       refine Classical.byContradiction fun hn=>hx (HL.out zb)
      have hz:¬((if L x.name=L nm0 then(0:Int)else 1)<0):=by split<;>omega
      rw[if_neg hx]at HCc;clear hx;have hz2:(decide ((if L x.name=L nm0 then(0:Int)else 1)<0))=false:=decide_eq_false hz;generalize (if L x.name=L nm0 then(0:Int)else 1)=z at*;go_wp2_with (go_at_call 147;refine HCc.out.mono ?_;rintro e w2 ⟨rfl,hb2⟩;have HB2:=za (bt hB.out hb2);clear hb2)
      go_roundg ((lo+hi) /2 - lo+1)
      case measure=>omega
      case rel=>exact⟨lo,(lo+hi) /2,rfl,by rw[show((lo:Int)+(hi:Int)) /2=(((lo+hi) /2:Nat):Int) by omega],h1,hKm,zb,zb,HB2.out⟩
  · obtain rfl:lo=K:=by omega
    obtain rfl:hi=lo:=zb;by_cases hn:hi<N
    · have hm:hi<l.length:=by rw[HN.out];exact hn
      obtain⟨ba,off,rfl,hb,hc⟩:=zr.file EF hm;obtain⟨c0,c1⟩:=hc wr hB.out;have hmN:(hi:Int)<(N:Int):=zb;have HCc:=za (HSc.out l[hi] wr);have hok:=HPl.out _ (List.getElem?_eq_getElem hm);have hge:=HGe.out _ hm zo;rw[O0]at HCc;generalize l[hi]=x at*;rw[if_neg hge]at HCc;clear hc hge;by_cases hx:nm x=L nm0
      · rw[if_pos hx]at HCc;rw[decide_eq_true hx]at hok;exact Ef
      · rw[if_neg hx]at HCc;rw[decide_eq_false hx]at hok;exact Ef
    · have hok:=HEn.out ke;have hf:decide ((hi:Int)<(N:Int))=false:=zH;have HOk:=za hok;clear hok;go_wp2_with (first|(refine⟨(fun f h=>qD),?_⟩))
      go_ret2;exact⟨by rw[HOk.out];rfl,hB.out⟩
end
section
open Go.RowKit
theorem ziy{HA:Option Addr}{hd:List At}{x:At}{W:World}{g:Nat}(hH:zr W W.heap.size HA 2 hd.length (cellsOf zu hd))(hf:(∃b o,HA=some ⟨b,o,none⟩)∨(HA=none/\hd=[]))(hg:W.heap[g]? =some (.cells #[.string x.name,.string x.val] 114 (0,0)))(hl:hd.length<=10000):
 ∃NA nc w',(Z2 #[31,31] 31 #[.slice HA hd.length hd.length,.slice (some ⟨g,0,none⟩) 1 1]).run prog W=.ok (.slice NA (hd.length+1) nc) w'/\w'.ownsRow W.heap.size 114 2 (.slice NA (hd.length+1) nc) (hd.length+1) (cellsOf zu (hd++[x]))/\Below W.heap.size W w':=by
 obtain⟨i0,hi0,hz0,hz1,hz2⟩:=info_parts Vy;have hc:cellsOf zu (hd++[x])=cellsOf zu hd++zu x:=JI;have hn:∀j u,(zu x)[j]? =some u->W.cell? ((⟨g,0,none⟩:Addr).add j)=some u:=fun j u hu=>jL;rw[hc];rcases hf with⟨b,o,rfl⟩|⟨rfl,rfl⟩
 · obtain⟨v',w',h1,h2,h3⟩:=run_append_arg_grows (P:=prog) W 31 31 114 i0 _ 2 32 underlying31 hi0 hz0 hz1 hz2 rfl zi ⟨b,o,none⟩ hd.length hd.length (cellsOf zu hd) hH.len (fun j u hu=>by
    have hj:=(List.getElem?_eq_some_iff.1 hu).1;rw[hH.len]at hj;obtain⟨b2,o2,e,_,hcc⟩:=hH.at_ zb;injection e with e
    injection e with e1 e2
    subst e1 e2;rw[XS];exact hcc j u hu) ⟨g,0,none⟩ 1 1 (zu x) rfl hn zb qi zb
   exact An
 · obtain⟨v',w',h1,h2,h3,_,_⟩:=run_append_own_at (P:=prog) W W.heap.size 31 31 114 i0 _ 2 32 underlying31 hi0 hz0 hz1 hz2 rfl zi (.slice none 0 0) 0 [] (World.ownsRow_nil _ _ _ _) ⟨g,0,none⟩ 1 1 (zu x) rfl hn (Tf x) qi zb zo;exact An
theorem SN(n:Nat)(parts:Array (Nat×Value)):Instr.buildSlice 31 n parts=Xt 31 n parts:=GF
theorem B7{HA TA:Option Addr}{hc tc:Nat}{hd tl:List At}{W:World}(h1:zr W W.heap.size HA 2 hd.length (cellsOf zu hd))(h2:zr W W.heap.size TA 2 tl.length (cellsOf zu tl))(c1:hd.length<=hc)(c2:tl.length<=tc)(hl:hd.length+tl.length<=30000):
 Calls prog 148 #[.slice (some ⟨W.heap.size,0,none⟩) 2 2] (W.alloc (.cells #[.slice HA hd.length hc,.slice TA tl.length tc] 31)) fun e w'=>∃v,e=.returned v/\Vp W (hd++tl) v w':=by
 have hb:=zI W (.cells #[.slice HA hd.length hc,.slice TA tl.length tc] 31);have hD:NE (W.alloc (.cells #[.slice HA hd.length hc,.slice TA tl.length tc] 31)) (some ⟨W.heap.size,0,none⟩) [⟨HA,hc,hd⟩,⟨TA,tc,tl⟩]:=by
  refine⟨⟨rfl,fun _=>⟨W.heap.size,0,rfl,zl,fun j u hu=>?_⟩⟩,fun y hy=>?_,fun y hy=>?_⟩
  · rw[Nat.zero_add];exact zd (heap_alloc_new W _) KU
  · rcases List.mem_cons.1 hy with rfl|hy
    · exact(h1.keep hb).up hb.size
    · obtain rfl:=List.mem_singleton.1 hy;exact(h2.keep hb).up hb.size
  · rcases List.mem_cons.1 hy with rfl|hy
    · exact c1
    · obtain rfl:=List.mem_singleton.1 hy;exact c2
 refine(zcm (some ⟨W.heap.size,0,none⟩) 2 [⟨HA,hc,hd⟩,⟨TA,tc,tl⟩] _ hD (by simp[Kt];omega)).mono ?_;rintro e w' ⟨v,rfl,h3,h4⟩;have e:Z6 [⟨HA,hc,hd⟩,⟨TA,tc,tl⟩]=hd++tl:=by simp[Z6]
 rw[e]at h3;exact⟨v,rfl,Qk h3 hb.size,bt hb h4⟩
attribute [local go_sem ↓] SN Z9
theorem Lw(y:Ls At)(n0 v0:ByteArray)(w:World)(h:zB 2 zu w y)(hl:y.l.length<=10000)(ha:ZR y.l):
 Calls prog 115 #[.slice y.A y.l.length y.c,.string n0,.string v0] w fun e w'=>∃v,e=.returned v/\Vp w (Xx y.l ⟨n0,v0⟩) v w':=by
 obtain⟨A,c,l⟩:=y;have HS:=za (za8 A c l n0 w h.row (by have:l.length<=10000:=hl;omega) ha);have hK:=FG l (L n0);have hcap:l.length<=c:=h.cap;have hc2:c<=9223372036854775807:=by have:=h.big;unfold maxLen at this;exact this
 have hll:l.length<=10000:=hl;have hht:=congrArg List.length (U5 l (L n0));rw[List.length_append]at hht;have hdrop:QG l (L n0)=l.drop (Zx l (L n0)).length:=by
  have:=congrArg (List.drop (Zx l (L n0)).length) (U5 l (L n0));rw[List.drop_left]at this;exact this
 have hrest:Xo l (L n0)=if(zR l (L n0)).isSome then l.drop ((Zx l (L n0)).length+1)else l.drop (Zx l (L n0)).length:=by
  cases hf:zR l (L n0)with
  |none=>rw[zek hf,hdrop];rfl
  | some z=>
    obtain⟨r,h1,h2⟩:=Gf ha hf;rw[h2];have h3:=hdrop;rw[h1]at h3;have:=congrArg (List.drop 1) h3;rw[List.drop_succ_cons,List.drop_zero,List.drop_drop]at this;exact this
 have hfound:(zR l (L n0)).isSome=true->(Zx l (L n0)).length<l.length:=fun hf=>by
  cases hq:zR l (L n0)with
  |none=>rw[hq]at hf;cases hf
  | some z=>
    obtain⟨r,h1,h2⟩:=Gf ha hq;rw[h1,List.length_cons]at hht;omega
 have hHd:Zx l (L n0)=l.take (Zx l (L n0)).length:=by
  have:=congrArg (List.take (Zx l (L n0)).length) (U5 l (L n0));rw[List.take_left]at this;exact this
 have hset:Xx l ⟨n0,v0⟩=Zx l (L n0)++((if(L v0).isEmpty then []else [⟨n0,v0⟩])++Xo l (L n0)):=rfl;rw[hset];have hrow:=h.row.row;have hpl:=h.row.pl;have hnil:=h.nil;clear hset h hht hdrop hl ha;have YW:=za hrow;obtain⟨HD,hHD⟩:∃HD,Zx l (L n0)=HD:=⟨_,rfl⟩;obtain⟨RS,hRS⟩:∃RS,Xo l (L n0)=RS:=⟨_,rfl⟩;rw[hHD]at HS hHd hfound hrest hK⊢;rw[hRS]at hrest⊢;generalize (zR l (L n0)).isSome=ok at*;have hrl:RS.length=if ok then l.length - (HD.length+1)else l.length - HD.length:=by rw[hrest];cases ok<;>simp
 have HHead:Hid (∀b o,A=some ⟨b,o,none⟩->zr w w.heap.size (some ⟨b,o,none⟩) 2 HD.length (cellsOf zu HD)):=za fun b o e=>by
  rw[e]at hrow;have:=hrow.head hK;rw[Eo zu 2 (fun _=>rfl),<-hHd]at this;exact this
 have HTail:Hid (∀b o m,A=some ⟨b,o,none⟩->RS=l.drop m->m<=l.length->zr w w.heap.size (some ⟨b,o+m*2,none⟩) 2 RS.length (cellsOf zu RS)):=za fun b o m e e2 hm=>by
  rw[e]at hrow;have:=hrow.tail hm;rw[D1 zu 2 (fun _=>rfl),<-e2]at this;rw[e2,List.length_drop];rw[e2]at this;exact this
 have HZero:Hid (∀(X:Option Addr),RS.length=0->zr w w.heap.size X 2 RS.length (cellsOf zu RS)):=za fun X e=>by
  have e2:RS=[]:=List.length_eq_zero_iff.1 e;exact LH
 have HHz:Hid (∀(X:Option Addr),HD.length=0->zr w w.heap.size X 2 HD.length (cellsOf zu HD)):=za fun X e=>by
  have e2:HD=[]:=List.length_eq_zero_iff.1 e;exact LH
 have HFin:Hid (∀W v w',Below w.heap.size w W->Vp W (HD++((if(L v0).isEmpty then []else [⟨n0,v0⟩])++RS)) v w'->Vp w (HD++((if(L v0).isEmpty then []else [⟨n0,v0⟩])++RS)) v w'):=za fun W v w' hb h=>⟨Qk h.1 hb.size,bt hb h.2⟩;have HRS:=za hrest;have hsz0:HD.length<=10000:=zb;have hsz1:RS.length<=10000:=by rw[hrl];split<;>omega
 clear hrow hHd hHD hRS hrest;dsimp only at*;generalize hKe:HD.length=K at*;generalize hNe:l.length=N at*;generalize hMe:RS.length=M at*;have HKe:=za hKe;have HNe:=za hNe;have HMe:=za hMe;clear hKe hNe hMe;have b1:(K:Int)<=(c:Int):=zb;have b2:(K:Int)<=(N:Int):=zb;have HConc:=za (fun(HA TA:Option Addr) (hc tc:Nat) (hd tl:List At) (W:World) h1 h2 c1 c2 hl=>B7 (HA:=HA) (TA:=TA) (hc:=hc) (tc:=tc) (hd:=hd) (tl:=tl) (W:=W) h1 h2 c1 c2 hl);have HApp:=za (fun(HA:Option Addr) (W:World) (g:Nat) hH hf hg hl=>ziy (HA:=HA) (hd:=HD) (x:=⟨n0,v0⟩) (W:=W) (g:=g) hH hf hg hl);have HSlice:Hid (∀(HA:Option Addr) (W:World),Below w.heap.size w W->zr w w.heap.size HA 2 K (cellsOf zu HD)->((∃b o,HA=some ⟨b,o,none⟩)∨(HA=none/\K=0))->∃NA nc w',(Z2 #[31,31] 31 #[.slice HA K K,.slice (some ⟨W.heap.size,0,none⟩) 1 1]).run prog (W.alloc (.cells #[.string n0,.string v0] 114))=.ok (.slice NA (K+1) nc) w'/\w'.ownsRow W.heap.size 114 2 (.slice NA (K+1) nc) (K+1) (cellsOf zu (HD++[⟨n0,v0⟩]))/\Below W.heap.size W w'):=za fun HA W hb hH hf=>by
  have hb2:=bt hb (zI W (.cells #[.string n0,.string v0] 114));have:=HApp.out HA (W.alloc (.cells #[.string n0,.string v0] 114)) W.heap.size (by rw[HKe.out];exact(hH.keep hb2).up hb2.size) (by
   rcases hf with h1|⟨h1,h2⟩
   · exact Or.inl h1
   · exact Or.inr ⟨h1,List.length_eq_zero_iff.1 (by rw[HKe.out];exact h2)⟩) (heap_alloc_new W _) (by rw[HKe.out];exact hsz0)
  rw[HKe.out]at this;obtain⟨NA,nc,w',h1,h2,h3⟩:=this;exact⟨NA,nc,w',h1,Qk h2 zl,bt zw h3⟩
 obtain⟨MID,hMID⟩:∃M:List At,(if(L v0).isEmpty then []else [⟨n0,v0⟩])=M:=⟨_,rfl⟩;rw[hMID]at HFin⊢;have HMID:=za hMID;clear hMID;have hE:(v0.toList=[]/\v0.toList.isEmpty=true)∨(¬v0.toList=[]/\v0.toList.isEmpty=false):=by
  rcases Classical.em (v0.toList=[])with he|he
  · exact Or.inl ⟨he,GK⟩
  · exact Or.inr ⟨he,by rw[tl];exact XL he⟩
 cases A with
 | none=>
   have hc0:c=0:=hnil rfl;have hN0:N=0:=zb;have hK0:K=0:=zb;obtain rfl:ok=false:=by
    cases ok with
    |false=>rfl
    |true=>have:=hfound rfl;omega
   subst hc0 hN0 hK0;clear hpl hnil hfound;have hrl0:M=0:=Tu;clear hrl;go_enter func115,ntmps115;go_wp2_with (go_at_call 146;refine HS.out.mono ?_;rintro e w2 ⟨rfl,hb2⟩;have HB2:=za hb2;clear hb2)
   go_quiet (fail)
   go_upto_region 5 with fail
   obtain⟨W,hW⟩:∃W,w2.drewN nq=W:=⟨_,rfl⟩;have hbW:Below w.heap.size w W:=RW;rw[hW];clear hW;have hT:zr w w.heap.size none 2 M (cellsOf zu RS):=by subst hrl0;exact HZero.out none (by trivial)
   subst hrl0;rcases hE with⟨hE1,hv⟩|⟨hE1,hv⟩
   · skip
     have hv2:(L v0).isEmpty=true:=JQ;have HC1:=HConc.out none none 0 0 HD RS W (by rw[HKe.out];exact((HHz.out none (by trivial)).keep hbW).up hbW.size) jp R3 (by rw[HMe.out];omega) (by rw[HKe.out,HMe.out];omega);exact jj
   · skip
     have hv2:(L v0).isEmpty=false:=JQ;have hbs:=kE (P:=prog) underlying31 Vy zi zi #[.string n0,.string v0] rfl W;obtain⟨NA,nc,w4,hap,hown,hb4⟩:=HSlice.out none W hbW (HHz.out none (by trivial)) (Or.inr ⟨rfl,by trivial⟩);have hLs:=zB.of_own (l:=HD++[⟨n0,v0⟩]) (k:=2) (enc:=zu) (A:=NA) (c:=nc) Py;have hl2:(HD++[(⟨n0,v0⟩:At)]).length=0+1:=Pv;have hbW4:=bt hbW hb4;have hcp:=hLs.1.cap;dsimp only at hcp;rw[hl2]at hcp;have HC1:=HConc.out NA none nc 0 (HD++[⟨n0,v0⟩]) RS w4 hLs.1.row.row ja Rk (by rw[HMe.out];omega) (by rw[hl2,HMe.out];omega);exact T9
 | some a=>
   obtain⟨ea,hlt⟩:=hpl a rfl;clear hpl hnil;obtain⟨ba,hba⟩:∃ba,a.block=ba:=⟨_,rfl⟩;obtain⟨off,hof⟩:∃off,a.off=off:=⟨_,rfl⟩;rw[hba,hof]at ea;subst ea;have hHH:=HHead.out ba off rfl;cases ok with
   | false=>
     have hM:M=N - K:=Tu;clear hrl hfound;go_enter func115,ntmps115;go_wp2_with (go_at_call 146;refine HS.out.mono ?_;rintro e w2 ⟨rfl,hb2⟩;have HB2:=za hb2;clear hb2)
     go_quiet (fail)
     go_upto_region 5 with fail
     obtain⟨W,hW⟩:∃W,w2.drewN nq=W:=⟨_,rfl⟩;have hbW:Below w.heap.size w W:=RW;rw[hW];clear hW;obtain⟨TA,hTA⟩:∃TA:Option Addr,(if c=K then(some ⟨ba,off,none⟩:Option Addr)else some ⟨ba,off+K*2,none⟩)=TA:=⟨_,rfl⟩;have hT:zr w w.heap.size TA 2 M (cellsOf zu RS):=by
      rw[<-hTA]
      split;(· exact HZero.out (some ⟨ba,off,none⟩) zb);(· exact HTail.out ba off K rfl HRS.out hK)
     rw[<-hM];have HM:=za hM;clear hM;rw[hTA];clear hTA;rcases hE with⟨hE1,hv⟩|⟨hE1,hv⟩
     · skip
       have hv2:(L v0).isEmpty=true:=JQ;have HC1:=HConc.out (some ⟨ba,off,none⟩) TA K (c - K) HD RS W Ex jp R3 NI Du;exact jj
     · skip
       have hv2:(L v0).isEmpty=false:=JQ;have hbs:=kE (P:=prog) underlying31 Vy zi zi #[.string n0,.string v0] rfl W;obtain⟨NA,nc,w4,hap,hown,hb4⟩:=HSlice.out (some ⟨ba,off,none⟩) W hbW hHH (Or.inl ⟨_,_,rfl⟩);have hLs:=zB.of_own (l:=HD++[⟨n0,v0⟩]) (k:=2) (enc:=zu) (A:=NA) (c:=nc) Py;have hl2:(HD++[(⟨n0,v0⟩:At)]).length=K+1:=Pv;have hbW4:=bt hbW hb4;have hcp:=hLs.1.cap;dsimp only at hcp;rw[hl2]at hcp;have HC1:=HConc.out NA TA nc (c - K) (HD++[⟨n0,v0⟩]) RS w4 hLs.1.row.row ja Rk NI vw;exact T9
   | true=>
     have hKN:=hfound rfl;have hM:M=N - (K+1):=Tu;clear hrl hfound;have hcK:¬c=K:=zb;have b3:(1:Int)<=((N - K:Nat):Int):=zb;have b4:(1:Int)<=((c - K:Nat):Int):=zb;go_enter func115,ntmps115;go_wp2_with (go_at_call 146;refine HS.out.mono ?_;rintro e w2 ⟨rfl,hb2⟩;have HB2:=za hb2;clear hb2)
     go_quiet (fail)
     go_upto_region 5 with fail
     obtain⟨W,hW⟩:∃W,w2.drewN nq=W:=⟨_,rfl⟩;have hbW:Below w.heap.size w W:=RW;rw[hW];clear hW;obtain⟨TA,hTA⟩:∃TA:Option Addr,(if c - K=1 then(some ⟨ba,off+K*2,none⟩:Option Addr)else some ⟨ba,off+K*2+2,none⟩)=TA:=⟨_,rfl⟩;have hT:zr w w.heap.size TA 2 M (cellsOf zu RS):=by
      rw[<-hTA]
      split;(· exact HZero.out (some ⟨ba,off+K*2,none⟩) zb);(· have:=HTail.out ba off (K+1) rfl HRS.out zb;rw[Nat.add_mul,<-Nat.add_assoc]at this;exact this)
     rw[show N - K - 1=M from by omega];have HM:=za hM;clear hM;rw[hTA];clear hTA;rcases hE with⟨hE1,hv⟩|⟨hE1,hv⟩
     · skip
       have hv2:(L v0).isEmpty=true:=JQ;have HC1:=HConc.out (some ⟨ba,off,none⟩) TA K (c - K - 1) HD RS W Ex jp R3 NI Du;exact jj
     · skip
       have hv2:(L v0).isEmpty=false:=JQ;have hbs:=kE (P:=prog) underlying31 Vy zi zi #[.string n0,.string v0] rfl W;obtain⟨NA,nc,w4,hap,hown,hb4⟩:=HSlice.out (some ⟨ba,off,none⟩) W hbW hHH (Or.inl ⟨_,_,rfl⟩);have hLs:=zB.of_own (l:=HD++[⟨n0,v0⟩]) (k:=2) (enc:=zu) (A:=NA) (c:=nc) Py;have hl2:(HD++[(⟨n0,v0⟩:At)]).length=K+1:=Pv;have hbW4:=bt hbW hb4;have hcp:=hLs.1.cap;dsimp only at hcp;rw[hl2]at hcp;have HC1:=HConc.out NA TA nc (c - K - 1) (HD++[⟨n0,v0⟩]) RS w4 hLs.1.row.row ja Rk NI vw;exact T9
end
end Go.Proofs.YtecbmndgpepkcaaGreatDoor
