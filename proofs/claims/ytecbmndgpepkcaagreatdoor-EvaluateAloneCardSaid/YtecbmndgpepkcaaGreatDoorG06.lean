/- Contracts that the law rests on, each under the premises that it names. -/
import Derived.Lib.Case
import Derived.Test.YtecbmndgpepkcaaGreatDoorG02
import Derived.Lib.IndexLaws
import Derived.Lib.AppendZerosOnto
import Derived.Maps.Views
import Derived.Maps.Own
import Derived.Maps.OwnSet
import Derived.Maps.StringElems
import Derived.Lib.Split
import Derived.Lib.Join
import Derived.Lib.FieldsP
import Derived.Lib.AtoiAll
namespace Go.Proofs.YtecbmndgpepkcaaGreatDoor
open Tryz
set_option maxHeartbeats 8000000
set_option maxRecDepth 100000
section
open Go.RowKit
theorem zgD(w:World):(Instr.build 256 #[]).run prog w=.ok (.agg (setA Qw)) w:=run_build w 256 #[] (setA Qw) zg
def UM:ze:=[65,66,67,68,69,70,71,72,73,74,75,76,77,78,79,80,81,82,83,84,85,86,87,88,89,90]
def T1:ze:=[97,98,99,100,101,102,103,104,105,106,107,108,109,110,111,112,113,114,115,116,117,118,119,120,121,122]
def Xt:ze:=[48,49,50,51,52,53,54,55,56,57]
def Cp:ze:=[95,46,58,43,45]
def YJ:Nat->Bool:=qC (qC (qC (qC Qw UM) T1) Xt) Cp
def Z4(l:ze):Bool:= !l.isEmpty&&decide (l.length<=32)&& !(l==[46]||l==[46,46])&&Q3 (qC YJ [33]) l
def UA(l:ze):Bool:= !l.isEmpty&&decide (l.length<=32)&&Q3 (qC Qw UM) (l.take 1)&&Q3 (qC (qC (qC Qw UM) Xt) [95]) l
theorem zfc(j:Nat)(b:UInt8)(h:UM[j]? =some b):b.toNat<128:=by
 have hm:b∈UM:=X7 h
 revert b
 intro b _ hm;simp only[UM,List.mem_cons,List.not_mem_nil,or_false]at hm;exact vD
theorem zhi:qC (qC (qC (qC Qw (L ⟨#[65,66,67,68,69,70,71,72,73,74,75,76,77,78,79,80,81,82,83,84,85,86,87,88,89,90]⟩)) (L ⟨(Lib.toLowerA [65,66,67,68,69,70,71,72,73,74,75,76,77,78,79,80,81,82,83,84,85,86,87,88,89,90]).toArray⟩)) (L ⟨#[48,49,50,51,52,53,54,55,56,57]⟩)) (L ⟨#[95,46,58,43,45]⟩)=YJ:=by
 have e:Lib.toLowerA [65,66,67,68,69,70,71,72,73,74,75,76,77,78,79,80,81,82,83,84,85,86,87,88,89,90]=T1:=zi;rw[e];rfl
theorem Ln(w:World):
 Calls prog 219 #[] w fun e w'=>e=.returned (.agg (setA YJ))/\Below w.heap.size w w':=by
 have hz:=(zero_of_info kL).1;have hb:=zgD;have Hi:=za (zero_of_info kL).2;go_enter func219,ntmps219;have hn:=i5 w (.cells (setA Qw) 256);go_wp2_with fail
 refine(kA _ _ _ zi).mono ?_;rintro e w1 ⟨rfl,h1⟩;go_wp2_with fail
 refine(strings_ToLower_ascii _ _ zi zfc).mono ?_;rintro e w2 ⟨rfl,h2⟩;go_wp2_with fail
 refine(kA _ _ _ zi).mono ?_;rintro e w3 ⟨rfl,h3⟩;go_wp2_with fail
 refine(kA _ _ _ zi).mono ?_;rintro e w4 ⟨rfl,h4⟩;go_wp2_with fail
 refine(kA _ _ _ zi).mono ?_;rintro e w5 ⟨rfl,h5⟩;rw[zhi];have q1:Below (w.heap.size+1) (w.alloc (.cells (setA Qw) 256)) w5:=by
  have s1:=h1.size;have s2:=h2.size;have s3:=h3.size;have s4:=h4.size;simp only[World.size_alloc]at s1 h1;exact(((h1.trans (h2.mono s1)).trans (h3.mono zb)).trans (h4.mono zb)).trans (h5.mono zb)
 have q0:Below w.heap.size w w5:=((Below.refl w.heap.size w).alloc zo _).trans (q1.mono zb);have H2:=za ((q1.block w.heap.size zb).trans hn);have H3:=za (Xy YJ);have H4:=za (IH YJ);have H5:=za (Xy Qw);have Q0:=za q0;clear q0 q1 hn h1 h2 h3 h4 h5 hz hb;go_wp2_with (refine wpList_store_row rfl 256 _ _ rfl _ _ rfl rfl _ _ H2.out Il (by rw[H3.out,H5.out]) H4.out ?_)
 refine bodyPost_ret (v:=.agg (setA YJ)) (results_cell_row rfl _ _ w.heap.size 256 (setA YJ) (0,0) _ rfl (setRow_heap _ _ _ _ _ _ H2.out) underlying256 rfl Il) rfl ⟨rfl,?_⟩;exact MF Q0.out zo _
theorem R0:zeroCells256=setA Qw:=zg
theorem vM(s:ByteArray)(w:World):
 Calls prog 218 #[.string s] w fun e w'=>e=.returned (.bool (L s==[46]||L s==[46,46]))/\w=w':=by
 go_enter func218,ntmps218;go_wp2
 · go_ret;have h:s.toList=[46]:=qq;exact⟨ZP (by rw[<-tl,h];rfl),rfl⟩
 · go_ret;have h:¬s.toList=[46]:=qq;exact⟨ZP (by rw[<-tl]),rfl⟩
theorem Gn(s:ByteArray)(w:World)(hs:s.size<=9223372036854775807):
 Calls prog 169 #[.string s] w fun e w'=>e=.returned (.bool (Z4 (L s)))/\Below w.heap.size w w':=by
 have HD:=vM s w;cases hd:(L s==[46]||L s==[46,46])
 · rw[hd]at HD;have Hd:=za hd;clear hd;go_enter func169,ntmps169;go_wp2_with (first|(go_at_call 218;refine HD.mono ?_;rintro e w' ⟨rfl,rfl⟩)|(go_at_call 219;refine(Ln _).mono ?_;rintro e w1 ⟨rfl,h1⟩)|(go_at_call 188;refine(kA _ _ _ zi).mono ?_;rintro e w2 ⟨rfl,h2⟩)|(go_at_call 189;refine(NC _ _ _ hs).mono ?_;rintro e w3 ⟨rfl,h3⟩))
   · go_ret;have h:=JL (s:=s) qq;exact⟨ZP Ij,zj⟩
   · go_ret;have h:=XC (s:=s) qq;have hz:(s.size:Int)<=32:=qq;refine⟨ZP ?_,(h1.trans (h2.mono h1.size)).trans (h3.mono (i3 h1.size h2.size))⟩;rw[Z4,tl,h,Hd.out,zF];simp;intro _;omega
   · go_ret;have hz:32<(s.size:Int):=qq;exact⟨ZP (by rw[Z4,zF];simp;omega),zj⟩
 · rw[hd]at HD;have Hd:=za hd;clear hd;go_enter func169,ntmps169;go_wp2_with (first|(go_at_call 218;refine HD.mono ?_;rintro e w' ⟨rfl,rfl⟩))
   all_goals
    go_ret;exact⟨ZP (by rw[Z4,Hd.out];simp),zj⟩
theorem jt(s:ByteArray)(w:World)(hs:s.size<=9223372036854775807):
 Calls prog 155 #[.string s] w fun e w'=>e=.returned (.bool (UA (L s)))/\Below w.heap.size w w':=by
 have hzc:=R0;by_cases h0:s.toList=[]
 · go_enter func155,ntmps155;go_wp2;go_region
   all_goals go_wp2
   all_goals go_ret
   exact⟨ZP (by rw[JL h0];rfl),zj.drew⟩
 have he:s.toList.isEmpty=false:=by rw[tl];exact XC h0
 by_cases h1:(s.size:Int)<=32
 · have hd:decide ((s.size:Int)<=32)=true:=by simpa using h1
   have h2:(1:Int)<=(s.size:Int):=by
    rcases Nat.eq_zero_or_pos s.size with h|h
    · exfalso;apply h0;rw[tl];exact List.eq_nil_of_length_eq_zero VV
    · omega
   have e1:(L (s.extract 0 1))=(L s).take 1:=by simp[L,ByteArray.data_extract]
   have hz:(s.extract 0 1).size<=9223372036854775807:=by rw[<-zF,e1,W9];omega
   have HU:∀W,Calls prog 189 #[.agg (setA (qC Qw UM)),.string (s.extract 0 1)] W fun e w'=>e=.returned (.bool (Q3 (qC Qw UM) ((L s).take 1)))/\Below W.heap.size W w':=fun W=>by
    have:=NC (qC Qw UM) (s.extract 0 1) W hz;rw[e1]at this;exact this
   clear hz e1;cases hu:Q3 (qC Qw UM) ((L s).take 1)
   · rw[hu]at HU;have Hu:=za hu;clear hu;go_enter func155,ntmps155;go_wp2;refine wp_region_held_drew (S:=fun _=>True) zg ?_ (fun hHeld=>?_)
     · trivial
     refine wpAnyH_take (i:=0) (v:=?_) OY zg zg zg qm (Or.inl ⟨zk,?_⟩) qq ?_
     rotate_left
     · exact qA
     try simp only[Act.put,i6,i7,i8]
     refine wpAnyH_take (i:=1) (v:=?_) qa zg zg zg qm (Or.inl ⟨zk,?_⟩) qq ?_
     rotate_left
     · exact qA
     try simp only[Act.put,i6,i7,i8]
     refine wpAnyH_take (i:=2) (v:=?_) qa zg zg zg qm (Or.inl ⟨zk,?_⟩) qq ?_
     rotate_left
     · exact qA
     try simp only[Act.put,i6,i7,i8]
     refine wpAnyH_take (i:=3) (v:=?_) qa zg zg zg qm (Or.inl ⟨zk,?_⟩) qq ?_
     rotate_left
     · exact qA
     try simp only[Act.put,i6,i7,i8]
     refine wpAnyH_take (i:=4) (v:=?_) qa zg zg zg qm (Or.inl ⟨zk,?_⟩) qq ?_
     rotate_left
     · exact qA
     try simp only[Act.put,i6,i7,i8]
     refine wpAnyH_take (i:=5) (v:=?_) qa zg zg zg qm (Or.inl ⟨zk,?_⟩) qq ?_
     rotate_left
     · exact qA
     try simp only[Act.put,i6,i7,i8]
     refine wpAnyH_take (i:=6) (v:=?_) qa zg zg zg qm (Or.inl ⟨zk,?_⟩) qq ?_
     rotate_left
     · exact qA
     try simp only[Act.put,i6,i7,i8]
     refine wpAnyH_take (i:=7) (v:=?_) qa zg zg zg qm (Or.inl ⟨zk,?_⟩) qq ?_
     rotate_left
     · exact qA
     try simp only[Act.put,i6,i7,i8]
     refine wpAnyH_take (i:=8) (v:=?_) qa zg zg zg qm (Or.inl ⟨zk,?_⟩) qq ?_
     rotate_left
     · exact qA
     try simp only[Act.put,i6,i7,i8]
     refine wpAnyH_take (i:=10) (v:=?_) qa zg zg zg qm (Or.inl ⟨zk,?_⟩) qq ?_
     rotate_left
     · exact qA
     try simp only[Act.put,i6,i7,i8]
     refine wpAnyH_take (i:=11) (v:=?_) qa zg zg zg qm (Or.inl ⟨zk,?_⟩) qq ?_
     rotate_left
     · exact qA
     try simp only[Act.put,i6,i7,i8]
     refine wpAnyH_ready (rs:=[9]) zg zl ?_;refine AllReadyH.cons qa (fun K hK=>?_) AllReadyH.nil
     go_simp
     refine(kA _ _ _ zi).mono ?_;rintro e w2 ⟨rfl,h2⟩;refine hK.out _ _ trivial (fun hHeld=>?_);clear hK K
     try simp only[Act.put,i6,i7,i8]
     refine wpAnyH_ready (rs:=[12]) zg zl ?_;refine AllReadyH.cons qa (fun K hK=>?_) AllReadyH.nil
     go_simp
     refine(HU _).mono ?_;rintro e w3 ⟨rfl,h3⟩;refine hK.out _ _ trivial (fun hHeld=>?_);clear hK K
     try simp only[Act.put,i6,i7,i8]
     refine wpAnyH_take (i:=13) (v:=?_) qa zg zg zg qm (Or.inl ⟨zk,?_⟩) qq ?_
     rotate_left
     · exact qA
     try simp only[Act.put,i6,i7,i8]
     refine wpAnyH_take (i:=14) (v:=?_) qa zg zg zg qm (Or.inl ⟨zk,?_⟩) qq ?_
     rotate_left
     · exact qA
     try simp only[Act.put,i6,i7,i8]
     refine wpAnyH_take (i:=15) qa zg zg zg qm (Or.inr ⟨zk,rfl⟩) qq ?_
     try simp only[Act.put,i6,i7,i8]
     refine wpAnyH_take (i:=16) qa zg zg zg qm (Or.inr ⟨zk,rfl⟩) qq ?_
     try simp only[Act.put,i6,i7,i8]
     refine wpAnyH_take (i:=17) qa zg zg zg qm (Or.inr ⟨zk,rfl⟩) qq ?_
     try simp only[Act.put,i6,i7,i8]
     refine wpAnyH_take (i:=18) qa zg zg zg qm (Or.inr ⟨zk,rfl⟩) qq ?_
     try simp only[Act.put,i6,i7,i8]
     refine wpAnyH_take (i:=19) qa zg zg zg qm (Or.inr ⟨zk,rfl⟩) qq ?_
     try simp only[Act.put,i6,i7,i8]
     refine wpAnyH_take (i:=20) qa zg zg zg qm (Or.inr ⟨zk,rfl⟩) qq ?_
     try simp only[Act.put,i6,i7,i8]
     refine wpAnyH_take (i:=21) (v:=?_) qa zg zg zg qm (Or.inl ⟨zk,?_⟩) qq ?_
     rotate_left
     · exact qA
     try simp only[Act.put,i6,i7,i8]
     refine wpAnyH_take (i:=22) (v:=?_) qa zg zg zg qm (Or.inl ⟨zk,?_⟩) qq ?_
     rotate_left
     · exact qA
     try simp only[Act.put,i6,i7,i8]
     refine wpAnyH_done zg ?_ _;go_wp2;go_ret;exact⟨ZP (by rw[UA,Hu.out];simp),((zj.drew).trans h2).trans (h3.mono h2.size)⟩
   · rw[hu]at HU;have Hu:=za hu;clear hu;go_enter func155,ntmps155;go_wp2
     go_region_held3 (fun _=>True) (trivial) (first|(go_at_call 188;with_reducible refine(kA _ _ _ zi).mono ?_;rintro e w2 ⟨rfl,h2⟩)|(go_at_call_of 189 (s.extract 0 1);refine(HU _).mono ?_;rintro e w3 ⟨rfl,h3⟩)|(go_at_call 189;refine(NC _ _ _ hs).mono ?_;rintro e w4 ⟨rfl,h4⟩))
     all_goals go_wp2
     go_ret;refine⟨ZP ?_,by repeat (first|exact zj.drew|refine bt ?_ qq)⟩;rw[UA,zF,XC h0,Hu.out];show Q3 (qC (qC (qC Qw UM) Xt) [95]) (L s)=_;simp;omega
 · have hd:decide ((s.size:Int)<=32)=false:=by simpa using h1
   go_enter func155,ntmps155;go_wp2;go_region
   all_goals go_wp2
   all_goals go_ret
   exact⟨ZP (by rw[UA,zF];simp;omega),zj.drew⟩
end
section
open Go.RowKit
theorem Nx:∀x y:ze,Op.bytesLess x y=decide (x<y)
 | [],[]=>Pa
 | [],_::_=>Pa
 |_::_,[]=>Pa
 | a::x,b::y=>by
   rw[Op.bytesLess,Nx x y];simp only[List.cons_lt_cons_iff];by_cases h1:a<b<;>by_cases h2:a=b<;>by_cases h3:x<y<;>simp[h1,h2,h3]
theorem vS(x:ze):¬x<x:=List.lt_irrefl x
theorem yq{x y z:ze}(h:x<y)(k:y<z):x<z:=List.lt_trans h k
theorem SJ{x y:ze}(h:¬x<y)(k:x≠y):y<x:=by
 rcases List.le_total x y with h1|h1
 · exact absurd (Decidable.byContradiction fun h2=>k (List.le_antisymm h1 h2)) h
 · exact Decidable.byContradiction fun h2=>k (List.le_antisymm h2 h1)
def Xi:List ze->ze->List ze
 | [],s=>[s]
 |x::r,s=>if x<s then x::Xi r s else if x=s then x::r else s::x::r
theorem vA(l:List ze)(s y:ze):y∈Xi l s↔y∈l∨y=s:=by
 induction l with
 |nil=>simp[Xi]
 | cons x r ih=>
   rw[Xi]
   split
   · rw[List.mem_cons,ih,List.mem_cons,or_assoc]
   · split
     · rename_i _ e;subst e;simp only[List.mem_cons];constructor
       · exact fun h=>Or.inl h
       · rintro(h|h)
         · exact h
         · exact Or.inl h
     · simp only[List.mem_cons];constructor
       · rintro(h|h|h)<;>simp[h]
       · rintro((h|h)|h)<;>simp[h]
theorem vw(l:List ze)(s:ze):(Xi l s).length<=l.length+1:=by
 induction l with
 |nil=>simp[Xi]
 | cons x r ih=>
   rw[Xi]
   split
   · simp only[u0];omega
   · split<;>simp
theorem zhm{l:List ze}(h:l.Pairwise (· < ·))(s:ze):(Xi l s).Pairwise (· < ·):=by
 induction l with
 |nil=>simp[Xi]
 | cons x r ih=>
   rw[List.pairwise_cons]at h;rw[Xi]
   split
   · rename_i hx;refine List.pairwise_cons.2 ⟨fun y hy=>?_,ih h.2⟩;rcases(vA r s y).1 hy with hy|rfl
     · exact h.1 y hy
     · exact hx
   · split
     · exact List.pairwise_cons.2 h
     · rename_i h1 h2;have hs:=SJ h1 h2;refine List.pairwise_cons.2 ⟨fun y hy=>?_,List.pairwise_cons.2 h⟩;rcases List.mem_cons.1 hy with rfl|hy
       · exact hs
       · exact yq hs (h.1 y hy)
abbrev nm(x:At):ze:=L x.name
def zX(d:List At)(n:ze):Option At:=d.find? fun x=>nm x==n
theorem R5{d:List At}{n:ze}{x:At}(h:zX d n=some x):nm x=n/\x∈d:=
 ⟨Sa,List.mem_of_find?_eq_some h⟩
theorem Lt{d:List At}{n:ze}:zX d n=none↔n∉d.map nm:=by
 unfold zX;rw[List.find?_eq_none];simp only[List.mem_map,zm4,not_exists,not_and]
end
section
structure Dv where
 ix:Int
 pa:Int
 nam:ByteArray
 og:ByteArray
 sb:ByteArray
 dr:ByteArray
 al:ByteArray
 kd:Int
 nb:Int
 ats:Ls At
def zM(d:Dv):List Value:=[.int .i64 d.ix,.int .i64 d.pa,.string d.nam,.string d.og,.string d.sb,.string d.dr,.string d.al,.int .i64 d.kd,.int .i64 d.nb,.slice d.ats.A d.ats.l.length d.ats.c]
def zY(d:Dv):Value:=.agg #[.int .i64 d.ix,.int .i64 d.pa,.string d.nam,.string d.og,.string d.sb,.string d.dr,.string d.al,.int .i64 d.kd,.int .i64 d.nb,.slice d.ats.A d.ats.l.length d.ats.c]
def qQ(l:List At)(n:ze):ByteArray:=match zX l n with
 |some x=>x.val
 |none=>⟨#[]⟩
def yg(t:Tm)(d:Dv):Option ByteArray:=
 if t.key=2∨t.key=8 then some d.og else if t.key=3∨t.key=9 then some d.sb else if t.key=4∨t.key=10 then some d.dr else if t.key=5∨t.key=11 then some (qQ d.ats.l (L t.name))else none
def YN(t:Tm)(v:ByteArray):Bool:=zS (L t.value) (L v)==(t.op==1)
def YK(t:Tm)(d:Dv):Bool:=qH t.op&&match yg t d with
 |some v=>YN t v
 |none=>false
def Z0(t:Tm):Bool:=qH t.op&&(t.key==2||t.key==3||t.key==4||t.key==5)
def qT(t:Tm):Bool:=qH t.op&&(t.key==8||t.key==9||t.key==10||t.key==11)
end
section
structure Dd where
 ix:Int
 pa:Int
 nam:ByteArray
 og:ByteArray
 sb:ByteArray
 dr:ByteArray
 al:ByteArray
 kd:Int
 nb:Int
 ats:List At
def Dv.d(x:Dv):Dd:=⟨x.ix,x.pa,x.nam,x.og,x.sb,x.dr,x.al,x.kd,x.nb,x.ats.l⟩
def qv:List Dd->Int->List Dd
 | [],_=>[]
 |d::r,n=>if d.ix=n then d::qv r d.pa else qv r n
def zW(l:List Dd)(n:Int):List Dd:=qv l.reverse n
def zC(l:List Dd)(n:Int):Option Dd:=l.find? fun d=>d.ix==n
def UF:List Dd->Prop
 | []=>True
 |d::r=>1<=d.ix/\(∀x∈r,x.ix≠d.ix)/\(d.pa=0∨∃x∈r,x.ix=d.pa)/\UF r
def Z8(l:List Dd):Prop:=UF l.reverse
theorem FV:∀{r:List Dd},UF r->∀x∈r,x.pa=0∨∃y∈r,y.ix=x.pa
 | d ::r,h,x,hx=>by
   rcases List.mem_cons.1 hx with rfl|hx
   · rcases h.2.2.1 with e|⟨y,hy,e⟩
     · exact Or.inl e
     · exact Or.inr ⟨y,X6 _ hy,e⟩
   · rcases FV h.2.2.2 x hx with e|⟨y,hy,e⟩
     · exact Or.inl e
     · exact Or.inr ⟨y,X6 _ hy,e⟩
theorem M4{d:Dd}{r:List Dd}{n:Int}(h:d.ix≠n):qv (d::r) n=qv r n:=by rw[qv,if_neg h]
theorem zeV{d:Dd}{r:List Dd}(h:UF (d::r)):∀x∈d::r,d.ix≠x.pa:=by
 intro x hx e;have h1:=h.1;rcases List.mem_cons.1 hx with rfl|hx
 · rcases h.2.2.1 with e2|⟨y,hy,e2⟩
   · omega
   · exact h.2.1 y hy zb
 · rcases FV h.2.2.2 x hx with e2|⟨y,hy,e2⟩
   · omega
   · exact h.2.1 y hy zb
theorem NU:∀{r:List Dd},UF r->∀x∈r,qv r x.ix=x::qv r x.pa
 | d::r,h,x,hx=>by
   rw[M4 (zeV h x hx)];rcases List.mem_cons.1 hx with rfl|hx
   · rw[qv,if_pos rfl]
   · rw[M4 (fun e=>h.2.1 x hx e.symm),NU h.2.2.2 x hx]
theorem Ae:∀{r:List Dd} {n:Int},(∀x∈r,x.ix≠n)->qv r n=[]
 | [],_,_=>rfl
 |d::r,n,h=>by rw[M4 (h d zl),Ae fun x hx=>h x J5]
theorem G5:∀(r:List Dd) (n:Int),(qv r n).length<=r.length
 | [],_=>zo
 | d::r,n=>by
   rw[qv]
   split
   · have:=G5 r d.pa;simp;omega
   · have:=G5 r n;simp;omega
theorem Jh:∀(r:List Dd) (n:Int),∀x∈qv r n,x∈r
 | [],_,x,h=>h
 | d ::r,n,x,h=>by
   rw[qv]at h
   split at h
   · rcases List.mem_cons.1 h with rfl|h
     · exact X4 ..
     · exact X6 _ (Jh r _ x h)
   · exact X6 _ (Jh r _ x h)
theorem Xz{l:List Dd}{n:Int}{x:Dd}(h:zC l n=some x):x∈l/\x.ix=n:=
 ⟨List.mem_of_find?_eq_some h,Sa⟩
theorem Io{l:List Dd}{n:Int}:zC l n=none↔∀x∈l,x.ix≠n:=by
 unfold zC;rw[List.find?_eq_none];simp
theorem yG{l:List Dd}{n:Int}(h:zC l n=none):zW l n=[]:=Ae fun x hx=>Io.1 h x (List.mem_reverse.1 hx)
theorem Gr{l:List Dd}{n:Int}{x:Dd}(hw:Z8 l)(h:zC l n=some x):zW l n=x::zW l x.pa:=by
 obtain⟨h1,rfl⟩:=Xz h;exact NU hw x (List.mem_reverse.2 h1)
theorem NI(l:List Dd)(n:Int):(zW l n).length<=l.length:=by have:=G5 l.reverse n;rw[List.length_reverse]at this;exact this
theorem Jj{l:List Dd}{n:Int}{x:Dd}(h:x∈zW l n):x∈l:=List.mem_reverse.1 (Jh _ _ _ h)
theorem Dj{l:List Dd}(hw:Z8 l){x:Dd}(hx:x∈l):zC l x.ix=some x:=by
 cases h:zC l x.ix with
 |none=>exact absurd rfl (Io.1 h x hx)
 | some y=>
   obtain⟨_,e⟩:=Xz h;have h1:=Gr hw h;have h2:=NU hw x (List.mem_reverse.2 hx);unfold zW at h1;rw[h1]at h2;injection h2 with h3 _
   rw[h3]
def orgS(c:List Dd):ze:=c.reverse.flatMap fun d=>47::L d.og
theorem zjt:orgS []=[]:=rfl
theorem N1(d:Dd)(c:List Dd):orgS (d::c)=orgS c++47::L d.og:=by simp[orgS]
def qK(l:List Dd)(n:Int):ByteArray:=bs (orgS (zW l n))
theorem vY:∀{a b:List Dd} {d:Dd},UF (a++b)->1<=d.ix->(∀x∈a++b,x.ix≠d.ix)->(d.pa=0∨∃x∈b,x.ix=d.pa)->UF (a++d::b)
 | [],b,d,h,h1,h2,h3=>⟨h1,fun x hx=>h2 x Ki,h3,h⟩
 | y ::a,b,d,h,h1,h2,h3=>by
   refine⟨h.1,fun x hx=>?_,?_,vY h.2.2.2 h1 (fun x hx=>h2 x (X6 _ hx)) h3⟩
   · rcases List.mem_append.1 hx with hx|hx
     · exact h.2.1 x (List.mem_append_left _ hx)
     · rcases List.mem_cons.1 hx with rfl|hx
       · exact fun e=>h2 y (X4 ..) e.symm
       · exact h.2.1 x (List.mem_append_right _ hx)
   · rcases h.2.2.1 with e|⟨x,hx,e⟩
     · exact Or.inl e
     · refine Or.inr ⟨x,?_,e⟩;rcases List.mem_append.1 hx with hx|hx
       · exact List.mem_append_left _ hx
       · exact List.mem_append_right _ (X6 _ hx)
theorem za5{l:List Dd}{k:Nat}{d:Dd}(h:Z8 l)(h1:1<=d.ix)(h2:zC l d.ix=none)(h3:d.pa=0∨∃x∈l.take k,x.ix=d.pa):Z8 (l.take k++d::l.drop k):=by
 unfold Z8 at h⊢;rw[List.reverse_append,List.reverse_cons,zk9,List.singleton_append];have e:l.reverse=(l.drop k).reverse++(l.take k).reverse:=by rw[<-List.reverse_append,List.take_append_drop]
 refine vY (by rw[<-e];exact h) h1 (fun x hx=>Io.1 h2 x (by rw[<-e]at hx;exact List.mem_reverse.1 hx)) ?_;rcases h3 with e|⟨x,hx,e⟩
 · exact Or.inl e
 · exact Or.inr ⟨x,List.mem_reverse.2 hx,e⟩
end
section
structure Dr where
 props:List At
 tags:List ze
 links:List ze
 run:List ze
 load:List ze
 nam:ByteArray
 prio:Int
 own:ByteArray
 grp:ByteArray
 mode:Int
 res:ByteArray
 calls:Int
 ticks:Int
 closed:List Tm
def Z1(l:List At):Prop:=l.Pairwise fun x y=>nm x<nm y
def ZE(l:List At)(k:ze):List At:=l.takeWhile fun x=>decide (nm x<k)
def QT(l:List At)(k:ze):List At:=l.dropWhile fun x=>decide (nm x<k)
def Xo(l:List At)(k:ze):List At:=match QT l k with
 | []=>[]
 |y::r=>if nm y=k then r else y::r
def XK(l:List At)(x:At):List At:=ZE l (nm x)++((if(L x.val).isEmpty then []else [x])++Xo l (nm x))
theorem ke(l:List At)(k:ze):ZE l k++QT l k=l:=List.takeWhile_append_dropWhile
theorem MG{l:List At}{k:ze}{x:At}(h:x∈ZE l k):nm x<k/\x∈l:=by
 refine⟨?_,(List.takeWhile_sublist _).subset h⟩;unfold ZE at h;induction l with
 |nil=>cases h
 | cons y l ih=>
   rw[List.takeWhile_cons]at h
   split at h
   · rename_i hy;rcases List.mem_cons.1 h with rfl|h
     · simpa using hy
     · exact ih h
   · cases h
theorem Mj{l:List At}(ha:Z1 l){k:ze}{x:At}(h:x∈QT l k):¬nm x<k/\x∈l:=by
 induction l with
 |nil=>cases h
 | cons y l ih=>
   have ha2:=List.pairwise_cons.1 ha;unfold QT at h;rw[List.dropWhile_cons]at h
   split at h
   · obtain⟨h1,h2⟩:=ih ha2.2 h;exact⟨h1,X6 _ h2⟩
   · rename_i hy;have hy':¬nm y<k:=by simpa using hy
     refine⟨?_,h⟩;rcases List.mem_cons.1 h with rfl|h
     · exact hy'
     · intro hlt;exact hy' (yq (ha2.1 x h) hlt)
theorem Ha{l:List At}{k:ze}{x:At}(h:x∈Xo l k):x∈QT l k:=by
 unfold Xo at h
 split at h
 · cases h
 · rename_i y r e;rw[e]
   split at h
   · exact X6 _ h
   · exact h
theorem Cg{l:List At}(ha:Z1 l){k:ze}{x:At}(h:x∈Xo l k):k<nm x/\x∈l:=by
 have h0:=Ha h;obtain⟨h1,h2⟩:=Mj ha h0;refine⟨SJ h1 fun e=>?_,h2⟩;have hp:(QT l k).Pairwise fun x y=>nm x<nm y:=List.Pairwise.sublist (List.dropWhile_sublist _) ha;unfold Xo at h
 split at h
 · cases h
 · rename_i y r et;rw[et]at hp;have hp2:=List.pairwise_cons.1 hp
   split at h
   · rename_i ey;have:=hp2.1 x h;rw[ey,e]at this;exact vS _ this
   · rename_i ey;rcases List.mem_cons.1 h with rfl|h
     · exact ey e
     · obtain⟨h3,_⟩:=Mj ha (x:=y) (k:=k) (by rw[et];exact X4 ..);have:=hp2.1 x h;rw[e]at this;exact h3 this
theorem Pp{l:List At}(ha:Z1 l)(x:At):Z1 (XK l x):=by
 unfold Z1 XK;rw[List.pairwise_append,List.pairwise_append];refine⟨List.Pairwise.sublist (List.takeWhile_sublist _) ha,⟨?_,?_,?_⟩,?_⟩
 · split<;>simp
 · unfold Xo;have hp:(QT l (nm x)).Pairwise fun x y=>nm x<nm y:=List.Pairwise.sublist (List.dropWhile_sublist _) ha
   split
   · exact List.Pairwise.nil
   · rename_i y r e;rw[e]at hp
     split
     · exact(List.pairwise_cons.1 hp).2
     · exact hp
 · intro a h1 b h2
   split at h1
   · cases h1
   · obtain rfl:=List.mem_singleton.1 h1;exact(Cg ha h2).1
 · intro a h1 b h2;obtain⟨h3,_⟩:=MG h1;rcases List.mem_append.1 h2 with h2|h2
   · split at h2
     · cases h2
     · obtain rfl:=List.mem_singleton.1 h2;exact h3
   · exact yq h3 (Cg ha h2).1
theorem Mg{l:List At}{x y:At}(h:y∈XK l x):y∈l∨(y=x/\(L x.val).isEmpty=false):=by
 unfold XK at h;rcases List.mem_append.1 h with h|h
 · exact Or.inl (MG h).2
 rcases List.mem_append.1 h with h|h
 · split at h
   · cases h
   · rename_i he;exact Or.inr ⟨List.mem_singleton.1 h,by simpa using he⟩
 · exact Or.inl ((List.dropWhile_sublist _).subset (Ha h))
theorem zky(l:List At)(k:ze):(Xo l k).length<=(QT l k).length:=by
 unfold Xo
 split
 · exact KP
 · rename_i e;rw[e]
   split<;>simp
theorem Np(l:List At)(x:At):(XK l x).length<=l.length+1:=by
 have h1:=congrArg List.length (ke l (nm x));have h2:=zky l (nm x);unfold XK;rw[r7]at h1;rw[r7,r7]
 split<;>simp<;>omega
theorem Gx{l:List At}(ha:Z1 l){k:ze}{x:At}(h:zX l k=some x):∃r,QT l k=x::r/\Xo l k=r:=by
 obtain⟨h1,h2⟩:=R5 h;have h3:x∈QT l k:=by
  rw[<-ke l k]at h2;rcases List.mem_append.1 h2 with h2|h2
  · have:=(MG h2).1;rw[h1]at this;exact absurd this (vS _)
  · exact h2
 have hp:(QT l k).Pairwise fun x y=>nm x<nm y:=List.Pairwise.sublist (List.dropWhile_sublist _) ha;cases ht:QT l k with
 |nil=>rw[ht]at h3;cases h3
 | cons y r=>
   rw[ht]at h3 hp;have hp2:=List.pairwise_cons.1 hp;have e:y=x:=by
    rcases List.mem_cons.1 h3 with e|h4
    · exact e.symm
    · have h5:=hp2.1 x h4;rw[h1]at h5;exact absurd h5 (Mj ha (x:=y) (k:=k) (by rw[ht];exact X4 ..)).1
   subst e;refine⟨r,rfl,?_⟩;unfold Xo;rw[ht];exact if_pos h1
theorem zcj{l:List At}{k:ze}(h:zX l k=none):Xo l k=QT l k:=by
 unfold Xo;cases ht:QT l k with
 |nil=>rfl
 | cons y r=>
   refine if_neg fun e=>?_;exact Lt.1 h (List.mem_map.2 ⟨y,(List.dropWhile_sublist _).subset (by show y∈QT l k;rw[ht];exact X4 ..),e⟩)
theorem zgN{l:List At}(ha:Z1 l){x y:At}(h:zX l (nm x)=some y):(XK l x).length<=l.length:=by
 obtain⟨r,h1,h2⟩:=Gx ha h;have h3:=congrArg List.length (ke l (nm x));unfold XK;rw[r7,h1,u0]at h3;rw[r7,r7,h2]
 split<;>simp<;>omega
def zaF:List ze:=[[68,69,86,78,65,77,69],[68,69,86,80,65,84,72],[68,82,73,86,69,82],[73,78,84,69,82,70,65,67,69],[77,79,68,65,76,73,65,83],[78,85,77,66,69,82],[83,85,66,83,89,83,84,69,77]]
def GA(k:ze):Bool:=zaF.contains k
def Df(d:Dr)(k v:ByteArray):Bool:=GA (L k)|| !Y3 (L v)||((zX d.props (L k)).isNone&&decide (64<=d.props.length))
def X5(d:Dr)(k v:ByteArray):Dr:=if Df d k v then d else{d with props:=XK d.props ⟨k,v⟩}
def IC:ByteArray:=⟨#[32]⟩
def ka(d:Dr)(k v:ByteArray):Dr:=if(L v).isEmpty then d else match zX d.props (L k)with
 |some x=>X5 d k ((x.val++IC++v).extract 0 256)
 |none=>X5 d k v
def QA(l:List ze)(s:ze)(m:Nat):List ze:=if s∈l∨m<=l.length then l else Xi l s
def YS(l:List ze)(s:ze):List ze:=l.filter fun x=> !(x==s)
theorem NJ{l:List ze}(h:l.Pairwise (· < ·))(s:ze)(m:Nat):(QA l s m).Pairwise (· < ·):=by
 unfold QA
 split
 · exact h
 · exact zhm h s
theorem j4{l:List ze}{s:ze}{m:Nat}(h:l.length<=m):(QA l s m).length<=m:=by
 unfold QA
 split
 · exact h
 · rename_i hn;have:=vw l s;have:¬m<=l.length:=fun e=>hn (Or.inr e);omega
theorem BU{l:List ze}{s x:ze}{m:Nat}(h:x∈QA l s m):x∈l∨x=s:=by
 unfold QA at h
 split at h
 · exact Or.inl h
 · exact(vA _ _ _).1 h
theorem Lz{l:List ze}(h:l.Pairwise (· < ·))(s:ze):(YS l s).Pairwise (· < ·):=List.Pairwise.filter _ h
theorem Tf(l:List ze)(s:ze):(YS l s).length<=l.length:=List.length_filter_le _ _
end
section
open Go.RowKit
structure N4(w:World)(A:Option Addr)(ds:List (Ls At)):Prop where
 outer:zr w w.heap.size A 1 ds.length (ds.map Ls.v)
 inner:Yw 2 zw id w w.heap.size ds
 cap:∀d∈ds,d.l.length<=d.c
def KT(ds:List (Ls At)):Nat:=(ds.map fun d=>1+d.l.length).sum
theorem Bz(d:Ls At)(r:List (Ls At)):KT (d::r)=1+d.l.length+KT r:=by simp[KT]
theorem zgF(ds:List (Ls At)):ds.length<=KT ds:=by
 induction ds with
 |nil=>exact X1 _
 |cons d r ih=>rw[Bz,u0];omega
theorem N4.dir{w:World}{A:Option Addr}{ds:List (Ls At)}(h:N4 w A ds){i:Nat}(hi:i<ds.length):
 ∃g off,A=some ⟨g,off,none⟩/\g<w.heap.size/\(∀W,Below w.heap.size w W->W.cell? ⟨g,off+i,none⟩=some (.slice ds[i].A ds[i].l.length ds[i].c))/\(∀W,Below w.heap.size w W->zr W W.heap.size ds[i].A 2 ds[i].l.length (cellsOf zw ds[i].l)):=by
 obtain⟨g,off,e,hg,hc⟩:=h.outer.at_ zb;refine⟨g,off,e,hg,fun W hb=>?_,fun W hb=>?_⟩
 · rw[hb.cell (p:=⟨g,off+i,none⟩) hg];exact hc i _ (by rw[zd4,l0 hi];rfl)
 · exact((h.inner _ (X8 hi)).keep hb).up hb.size
theorem zr.file{w:World}{B:Nat}{A:Option Addr}{l:List At}(h:zr w B A 2 l.length (cellsOf zw l)){k:Nat}(hk:k<l.length):
 ∃ba off,A=some ⟨ba,off,none⟩/\ba<B/\∀W,Below B w W->W.cell? ⟨ba,off+k*2,none⟩=some (.string l[k].name)/\W.cell? ⟨ba,off+k*2+1,none⟩=some (.string l[k].val):=by
 obtain⟨ba,off,e,hB,hc⟩:=h.cell Ow hk;refine⟨ba,off,e,hB,fun W hb=>⟨?_,?_⟩⟩
 · rw[hb.cell (p:=⟨ba,off+k*2,none⟩) hB];exact hc k _ (l0 hk) 0 _ rfl
 · rw[hb.cell (p:=⟨ba,off+k*2+1,none⟩) hB];exact hc k _ (l0 hk) 1 _ rfl
theorem zr.fileX{w:World}{B:Nat}{A:Option Addr}{l:List At}(h:zr w B A 2 l.length (cellsOf zw l)){k:Nat}{x:At}(hx:l[k]? =some x):
 ∃ba off,A=some ⟨ba,off,none⟩/\ba<B/\∀W,Below B w W->W.cell? ⟨ba,off+k*2,none⟩=some (.string x.name)/\W.cell? ⟨ba,off+k*2+1,none⟩=some (.string x.val):=by
 obtain⟨hk,rfl⟩:=List.getElem?_eq_some_iff.1 hx;exact h.file hk
theorem zr.head{w:World}{B k n m:Nat}{A:Option Addr}{xs:List Value}(h:zr w B A k n xs)(hm:m<=n):zr w B A k m (xs.take (m*k)):=by
 refine⟨?_,fun hm0=>?_⟩
 · rw[W9,h.len];have:=Nat.mul_le_mul_right k hm;omega
 · obtain⟨ba,off,e,hB,hc⟩:=h.at_ zb;refine⟨ba,off,e,hB,fun j u hu=>hc j u ?_⟩;rw[List.getElem?_take]at hu
   split at hu
   · exact hu
   · cases hu
theorem yQ{α:Type}(enc:α->List Value)(k:Nat)(hk:∀x,(enc x).length=k)(l:List α)(m:Nat):(cellsOf enc l).take (m*k)=cellsOf enc (l.take m):=by
 induction l generalizing m with
 |nil=>simp[cellsOf]
 | cons x l ih=>
   cases m with
   |zero=>simp[cellsOf]
   | succ m=>
     have e:cellsOf enc (x::l)=enc x++cellsOf enc l:=XP;have e2:cellsOf enc ((x::l).take (m+1))=enc x++cellsOf enc (l.take m):=XP;rw[e,e2,List.take_append,hk,<-ih m,List.take_of_length_le yv,show(m+1)*k - k=m*k from by rw[Nat.add_mul];omega]
theorem bS{w W:World}{b i:Nat}{v:Value}(h:Below w.heap.size w W)(hb:w.heap.size<=b):Below w.heap.size w (W.setCell ⟨b,i,none⟩ v):=h.setCell (p:=⟨b,i,none⟩) hb _
end
section
open Go.RowKit
theorem Qq{w:World}{base base' kk n:Nat}{e:TypeId}{v:Value}{xs:List Value}(h:w.ownsRow base' e kk v n xs)(hb:base<=base'):w.ownsRow base e kk v n xs:=Ll
section
variable{α:Type}{TO TI:TypeId}{k:Nat}{enc:α->List Value}{w w':World}{base:Nat}{v:Value}{vs:List Value}{ls:List (List α)}
end
end
section
open Go.RowKit
def XY(l set:ze):Bool:=l.all fun b=>set.contains b
theorem zhX(l set:ze)(c:UInt8):XY (l++[c]) set=(XY l set&&set.contains c):=by simp[XY]
theorem zi1{set:ze}{k:Nat}(s:ByteArray)(hk:k<s.size)(h:set.contains s[k]=false):XY (L s) set=false:=by
 rw[XY,List.all_eq_false];exact⟨s[k],by rw[<-RK s k hk];exact X8 _,GN⟩
theorem zcq(c:UInt8):((c.toNat:Int)).toNat.toUInt8=c:=zl
theorem zcR(set:ze)(c:UInt8):(Lib.indexByte set c<0)↔set.contains c=false:=by
 have h1:=Lib.indexByte_ge set c;constructor
 · intro h;have h2:Lib.indexByte set c= -1:=zb;have h3:=Lib.indexByte_none h2;cases hc:set.contains c with
   |false=>rfl
   | true=>
     have hm:c∈set:=by simpa using hc
     obtain⟨k,hk⟩:=List.getElem?_of_mem hm;exact absurd hk (h3 k)
 · intro h;rcases(by omega:Lib.indexByte set c<0∨0<=Lib.indexByte set c)with h2|h2
   · exact h2
   · obtain⟨o,ho⟩:=Int.eq_ofNat_of_zero_le h2;have h3:=(Lib.indexByte_some ho).1;have hm:c∈set:=X7 h3;rw[List.contains_eq_mem]at h;simp[hm]at h
theorem CP(s set:ByteArray)(w:World)(hs:s.size<=9223372036854775807):
 Calls prog 100 #[.string s,.string set] w fun e w'=>e=.returned (.bool (XY (L s) (L set)))/\w=w':=by
 go_enter func100,ntmps100;go_wp2
 go_loop [5] (fun i=>∃k:Nat,k<=s.size/\i=.int .i64 k/\Hid (XY ((L s).take k) (L set)=true)) (fun i=>s.size - (intOf i).toNat)
 case atStart=>exact⟨0,X1 _,rfl,rfl⟩
 case round=>
  obtain⟨k,hk,rfl,hp⟩:=hrel;by_cases hlt:k<s.size
  · have H:=zcR (L set) s[k];have HC:∀W,Calls prog 131 #[.string set,.int .u8 s[k].toNat] W fun e w'=>e=.returned (.int .i64 (Lib.indexByte (L set) s[k]))/\W=w':=fun W=>
     (strings_IndexByte set s[k].toNat W).mono fun e w' h=>⟨by rw[h.1,zcq],h.2.symm⟩
    generalize Lib.indexByte (L set) s[k]=q at*;have Hq:=za H;clear H;go_wp2_with (go_at_call 131;refine(HC _).mono ?_;rintro e w' ⟨rfl,rfl⟩)
    · go_ret;have hq:q<0:=qq;exact⟨ZP (by rw[zi1 s hlt (Hq.out.1 hq)]),rfl⟩
    · have hq:¬q<0:=by omega
      go_round
      case rel=>exact⟨k+1,zb,zU,by
       show XY _ _=true;rw[IX s k hlt,zhX,hp.out];cases hc:(L set).contains s[k]with
       |true=>rfl
       |false=>exact absurd (Hq.out.2 hc) hq⟩
      case measure=>simp[intOf];omega
  · go_wp2;go_ret;have h:=hp.out;rw[IB s k hlt]at h;exact⟨ZP Gj,rfl⟩
theorem zeJ(f:Nat->Bool)(l:ze)(b:UInt8):qC f l b.toNat=(f b.toNat||l.contains b):=by
 simp only[qC]
 congr 1
 rw[Bool.eq_iff_iff];simp only[List.any_eq_true,zm4,List.contains_iff_mem];constructor
 · rintro⟨x,hx,e⟩;have:x=b:=UInt8.toNat_inj.1 e;rw[<-this];exact hx
 · intro h;exact⟨b,h,rfl⟩
theorem zhs(b:UInt8):Qw b.toNat=false:=by unfold Qw;rfl
theorem zkA(f:Nat->Bool)(set l:ze)(h:∀b:UInt8,f b.toNat=set.contains b):Q3 f l=XY l set:=by
 unfold Q3 XY
 congr 1
 funext b
 exact h b
def Je:ze:=[65,66,67,68,69,70,71,72,73,74,75,76,77,78,79,80,81,82,83,84,85,86,87,88,89,90,97,98,99,100,101,102,103,104,105,106,107,108,109,110,111,112,113,114,115,116,117,118,119,120,121,122,48,49,50,51,52,53,54,55,56,57,95,46,58,43,45,33]
theorem zfm(l:ze):Q3 (qC YJ [33]) l=XY l Je:=by
 apply zkA;intro b;have e:Je=UM++(T1++(Xt++(Cp++[33]))):=rfl;simp only[YJ,zeJ,zhs,e,List.contains_eq_any_beq,List.any_append,Bool.false_or,Bool.or_assoc]
theorem zc5(l:ze):Z4 l=(!l.isEmpty&&decide (l.length<=32)&&XY l Je&& !(l==[46])&& !(l==[46,46])):=by
 rw[Z4,zfm,Bool.not_or];cases(!l.isEmpty)<;>cases decide (l.length<=32)<;>cases XY l Je<;>cases(l==[46])<;>cases(l==[46,46])<;>rfl
theorem zfn(s:ByteArray)(w:World)(hs:s.size<=9223372036854775807):
 Calls prog 101 #[.string s] w fun e w'=>e=.returned (.bool (qZ (L s)))/\w=w':=by
 go_enter func101,ntmps101;go_wp2
 go_loop [3] (fun i=>∃k:Nat,k<=s.size/\i=.int .i64 k/\Hid (qZ ((L s).take k)=true)) (fun i=>s.size - (intOf i).toNat)
 case atStart=>exact⟨0,X1 _,rfl,rfl⟩
 case round=>
  obtain⟨k,hk,rfl,hp⟩:=hrel;go_wp2
  case roundEnd=>
   go_round
   case rel=>exact⟨k+1,zb,zU,by
    show qZ _=true;rw[IX s k zb,Fh,hp.out];simp[pr];omega⟩
   case measure=>simp[intOf];omega
  · exact Ee
  · exact Ee
  · go_ret;refine⟨ZP ?_,rfl⟩;have h:=hp.out;rw[IB s k qq]at h;rw[h]
theorem zdW(s:ByteArray)(w:World)(hs:s.size<=9223372036854775807):
 Calls prog 78 #[.string s] w fun e w'=>e=.returned (.bool (Y3 (L s)))/\w=w':=by
 cases hp:qZ (L s)
 all_goals
  have HC:=zfn s w hs;rw[hp]at HC;have Hp:=za hp;clear hp;go_enter func78,ntmps78;go_wp2_with (go_at_call 101;refine HC.mono ?_;rintro e w' ⟨rfl,rfl⟩)
  go_ret;exact⟨ZP (by rw[Y3,Hp.out,zF];simp<;>omega),rfl⟩
theorem Bu(s:ByteArray)(w:World)(hs:s.size<=9223372036854775807):
 Calls prog 77 #[.string s] w fun e w'=>e=.returned (.bool (Z4 (L s)))/\w=w':=by
 have HC:=CP s (bs Je) w hs;rw[qz]at HC;have HV:=za (zc5 (L s));cases hp:XY (L s) Je
 all_goals
  rw[hp]at HC;have Hp:=za hp;clear hp;go_enter func77,ntmps77;go_wp2_with (go_at_call 100;refine HC.mono ?_;rintro e w' ⟨rfl,rfl⟩)
  all_goals
   go_ret;refine⟨ZP ?_,rfl⟩;rw[HV.out,Hp.out,zF];clear HV HC Hp;simp only[tl]at*;generalize L s=l at*
   first|(have hz:s.size<=32:=zb)|(have hz:¬s.size<=32:=zb)|have hz:=True.intro
   cases hb1:(l==[46])<;>cases hb2:(l==[46,46])<;>cases hb3:l.isEmpty<;>simp_all
end
section
open Go.RowKit
def kb(w:World)(l:List At)(v:Value)(w':World):Prop:=w'.ownsRow w.heap.size 114 2 v l.length (cellsOf zw l)/\Below w.heap.size w w'
theorem zc8(x:At):∀u∈zw x,u.oneCell'=true:=yn x
def Z9(ds:List (Ls At)):List At:=ds.flatMap (·.l)
theorem Ft{ds:List (Ls At)}{k:Nat}(hk:k<ds.length):Z9 (ds.take (k+1))=Z9 (ds.take k)++ds[k].l:=by
 unfold Z9;rw[List.take_succ_eq_append_getElem hk,List.flatMap_append];simp only[List.flatMap_cons,List.flatMap_nil,zk7]
theorem zis(ds:List (Ls At)):(Z9 ds).length<=KT ds:=by
 induction ds with
 |nil=>exact X1 _
 | cons d r ih=>
   rw[Bz];have:Z9 (d::r)=d.l++Z9 r:=by simp[Z9]
   rw[this,r7];omega
theorem zcr(ds:List (Ls At))(k:Nat):(Z9 (ds.take k)).length<=(Z9 ds).length:=by
 have:Z9 ds=Z9 (ds.take k)++Z9 (ds.drop k):=by
  unfold Z9;rw[<-List.flatMap_append,List.take_append_drop]
 rw[this,r7];omega
def zh5(w:World)(e:Ending)(w':World):Prop:=∃v,e=.returned v/\w'.ownsRow w.heap.size 114 2 v 0 []/\Below w.heap.size w w'
theorem zeP(n:Nat)(hn:n<=1000000)(w:World):
 Calls prog 182 #[.slice none 0 0,.int .i64 n] w (zh5 w):=by
 rcases Nat.eq_zero_or_pos n with rfl|h0
 · go_enter func182,ntmps182;go_wp2;go_ret;exact⟨_,rfl,World.ownsRow_nil _ _ _ _,zj⟩
 · obtain⟨i0,hi0,hz0,hz1,hz2⟩:=info_parts V0;have hold:(Builtin.firstCells i0.size 0 (.slice none 0 0)).run prog w.drew=.ok ([]:List Value).toArray w.drew:=run_firstCells_none (w:=w.drew) i0.size 0 0 0;have hrz:∀ty,(Builtin.append_ #[31,3] ty #[.slice none 0 0,.int .i64 (n:Int)]).run prog w=.ok (.slice (some ⟨w.heap.size,0,none⟩) n (grownCap w n 0 114)) (w.drew.alloc (.cells (([]:List Value).toArray++Builtin.zeroCells (Value.agg #[.string ⟨#[]⟩,.string ⟨#[]⟩]).cells n++Builtin.zeroCells (Value.agg #[.string ⟨#[]⟩,.string ⟨#[]⟩]).cells (grownCap w n 0 114 - n)) 114)):=fun ty=>by
    have h:=Lib.run_append_grow_zeros w 31 3 ty 114 i0 _ .i64 .i64 underlying31 underlying3 hi0 hz0 none 0 0 [] hold n h0 IT zb zb (by rw[hz2];omega) (by rw[hz2,zk4];exact growslice_fits h0 zb);rw[zk4]at h;exact h
   have hGn:n<=grownCap w n 0 114:=grownCap_ge w _ _ _;have hG63:grownCap w n 0 114<=maxLen:=grownCap_le_maxLen w n 0 114 ql;generalize grownCap w n 0 114=G at*;have h1:¬((n:Int)<0):=zb;have h4:(n:Int)>0:=zb;have hG64:G<=9223372036854775807:=by unfold maxLen at hG63;omega
   clear hold hi0 hz0 hz1 hz2;go_enter func182,ntmps182;go_wp2_with (at_builtin;refine Lib.wpList_append_run _ rfl _ _ _ _ rfl _ _ rfl rfl _ _ (hrz _) ?_)
   all_goals
    go_ret;exact⟨_,rfl,⟨rfl,Or.inr ⟨w.heap.size,G,_,rfl,zo,i5 w _,X1 _,hG63,by simp[size_zeroCells];omega,zl⟩⟩,(zL w _).drew⟩
theorem zaq(A:Option Addr)(c:Nat)(ds:List (Ls At))(w:World)(h:N4 w A ds)(hb:KT ds<=100000):
 Calls prog 148 #[.slice A ds.length c] w fun e w'=>∃v,e=.returned v/\kb w (Z9 ds) v w':=by
 have H:=za h;have hM:ds.length<=100000:=i3 (zgF ds) hb;have hcl:=i3 (zis ds) hb;have HT:=za (fun k=>i3 (zcr ds k) hcl);have HFull:Hid (Z9 (ds.take ds.length)=Z9 ds):=za (by rw[List.take_length]);clear h hb;generalize hMM:ds.length=M at*;have HM:=za hMM;clear hMM;obtain⟨i0,hi0,hz0,hz1,hz2⟩:=info_parts V0;have Hi0:=za hi0;have Hz0:=za hz0;have Hz1:=za hz1;have Hz2:=za hz2;clear hi0 hz0 hz1 hz2;go_enter func148,ntmps148;go_wp2;go_loopg [3,5,11] (M+1) (fun gk s3 _ s11 wr=>∃(k b:Nat),s3=.int .i64 b/\s11=.int .i64 k/\k+gk=M+1/\k<=M/\b<=100000/\Hid ((Z9 (ds.take k)).length=b)/\Hid (Below w.heap.size w wr))
 case atStart=>exact⟨0,0,rfl,rfl,zb,X1 _,zb,(by exact rfl),zj⟩
 case round=>
  obtain⟨k,b,rfl,rfl,hkg,hkM,hb1,hbe,hB⟩:=hrel;by_cases hlt:k<M
  · have hltI:(k:Int)<(M:Int):=by omega
    have hk':k<ds.length:=PC;obtain⟨g,off,rfl,hg,hcell,hrow⟩:=H.out.dir hk';have hT1:=HT.out (k+1);have hn2:(Z9 (ds.take (k+1))).length=(Z9 (ds.take k)).length+ds[k].l.length:=by rw[Ft hk',r7]
    rw[hbe.out]at hn2;rw[hn2]at hT1;have HN2:=za hn2;have hc0:=hcell wr hB.out;clear hcell hrow hn2;generalize ds[k]=d at*;obtain⟨dA,dc,dl⟩:=d;dsimp only at*;generalize dl.length=N at*;have hN0:¬((b:Int)+(N:Int)<0):=zb;go_wp2;go_roundg (gk - 1)
    case measure=>omega
    case rel=>exact⟨k+1,b+N,zU,zU,zb,zb,hT1,HN2.out,hB.out⟩
  · obtain rfl:k=M:=by omega
    have hbb:=hbe.out;rw[HFull.out]at hbb;have HBb:=za hbb;clear hbb hbe;have hN1:b<=1000000:=zb;have HG:=za (fun n hn=>zeP n hn wr);go_wp2_with (go_at_call 182;refine(HG.out _ hN1).mono ?_;rintro e w2 ⟨v,rfl,hown,hb2⟩;have HO:=za hown;have HB2:=za hb2;clear hown hb2)
    have HBw:=za (bt hB.out HB2.out);have hws:=hB.out.size;obtain⟨w2o,rfl⟩:∃w2o:World,w2o=w2:=⟨_,rfl⟩;obtain⟨wo,rfl⟩:∃wo:World,wo=wr:=⟨_,rfl⟩;go_loopg [6,8,27] (k+1) (fun gk s6 _ s27 wr=>∃(m:Nat) (u:Value),u=s6/\s27=.int .i64 m/\m+gk=k+1/\m<=k/\Hid (kb w (Z9 (ds.take m)) u wr))
    case atStart=>exact⟨0,_,rfl,rfl,zb,X1 _,⟨by rw[List.take_zero];exact Qq HO.out hws,HBw.out⟩⟩
    case round=>
     obtain⟨m,u,rfl,rfl,hmg,hmk,hO⟩:=hrel;have hT2:=HT.out m;by_cases hltm:m<k
     · have hltI:(m:Int)<(k:Int):=by omega
       have hk':m<ds.length:=by rw[HM.out];exact hltm
       obtain⟨g,off,rfl,hg,hcell,hrow⟩:=H.out.dir hk';have HN:=za (Ft hk');have hT3:=HT.out (m+1);have hn2:(Z9 (ds.take (m+1))).length=(Z9 (ds.take m)).length+ds[m].l.length:=by rw[HN.out,r7]
       have hc0:=hcell wr hO.out.2;have HR:=za (hrow wr hO.out.2);have hO':=hO;have hwx:w.heap.size<=wr.heap.size:=hO.out.2.size;clear hcell hrow hO;obtain⟨b1,hb1⟩:∃b1,Z9 (ds.take (m+1))=b1:=⟨_,rfl⟩;rw[hb1]at HN hT3 hn2;have HB1:=za hb1;clear hb1;generalize Z9 (ds.take m)=b0 at*;generalize ds[m]=d at*;obtain⟨dA,dc,dl⟩:=d;dsimp only at*;have HO':=za hO'.out.1;have HOb:=za hO'.out.2;clear hO';rw[hn2]at hT3;clear hn2;generalize hdl:dl.length=N at*;generalize hbl:b0.length=N0 at*;have HDl:=za hdl;have HBl:=za hbl;clear hdl hbl;go_wp2_with (at_builtin;go_loud (refine yz rfl (.tmp 31) (.tmp 32) 31 rfl w.heap.size 114 i0 _ 2 32 underlying31 Hi0.out Hz0.out Hz1.out Hz2.out rfl zb u N0 (cellsOf zw b0) zk HO'.out dA N dc _ (cellsOf zw dl) zk HR.out (fun y hy=>by obtain⟨q,_,hq⟩:=List.mem_flatMap.1 hy;exact zc8 _ _ hq) ql zb zb ?_;intro v4 w4 hown4 hgrow4 hloc4 hnn4))
       have HO4:Hid (kb w b1 v4 w4):=za ⟨by rw[HN.out,r7,Xf,HBl.out,HDl.out];exact hown4,HOb.out.grown hgrow4 zb (fun j e=>(HO'.out.lt j e).1)⟩;clear hown4 hgrow4 hloc4 hnn4;go_wp2;go_roundg (gk - 1)
       case measure=>omega
       case rel=>exact⟨m+1,_,rfl,zU,zb,zb,by rw[HB1.out];exact HO4.out⟩
     · obtain rfl:m=k:=by omega
       rw[HFull.out]at hO;go_wp2;go_ret;exact⟨_,rfl,hO.out⟩
end
section
open Go.RowKit Go.Maps
abbrev DW:=DataW Unit
theorem IS(s:ze):WideAt.IsKeyLit (.string s):=FM
theorem j2{a b:ze}(h:a≠b):(Lit.string a)≠Lit.string b:=fun e=>h (by injection e)
end
section
def Zk(c:UInt8)(s:ByteArray):List ByteArray:=Lib.splitB ⟨#[c]⟩ 0 (Lib.countB s ⟨#[c]⟩) s
def QI:Nat->Bool:=qC YJ [64,35,61,37]
def Ut(p:ze):Bool:= !p.isEmpty&& !(p==[46]||p==[46,46])&&Q3 QI p
def Ig(s:ByteArray):Bool:=decide (s.size<=256)&&(Zk 47 s).all fun p=>Ut (L p)
def X0(s:ze):Bool:=Z4 s&&decide (s.length<=15)&&s.all fun b=> !(b==58||b==33)
def UW(s:ze):ze:=s.map fun b=>if qC QI [47] b.toNat then b else 95
def kP(p:ze):Bool:= !p.isEmpty&& !(p==[46])
def kG(s:ByteArray):ByteArray:=bs (Lib.join (((Zk 47 (bs (UW (L s)))).map L).filter kP) [47])
def JX(s:ByteArray):Option ByteArray:=if Ig (kG s)then some (kG s)else none
def Yr(s:ByteArray):List ByteArray:=Lib.goFieldsP (fun n=>n==32) s
def U6(s:ze):Bool:=decide (1<=s.length)&&decide (s.length<=4)&&s.all fun b=>decide (48<=b.toNat)&&decide (b.toNat<=55)
def Ip(s:ze):Int:=s.foldl (fun n b=>8*n+((b.toNat:Int) - 48)) 0
def VR(s:ze):Option Int:=match Lib.atoiAll s with
 | .ok v=>if Lib.itoa v==s&&decide (-1000<=v)&&decide (v<=1000)then some v else none
 |_=>none
def UG(v:ByteArray):Bool:= !(L v).isEmpty&&Y3 (L v)
def KF(d:Dr)(op:Int)(v:ByteArray):Dr:=if Z4 (L v)then(if op=3 then{d with tags:=[L v]}else if op=4 then{d with tags:=QA d.tags (L v) 16}else if op=5 then{d with tags:=YS d.tags (L v)}else d)else d
def Zs(op:Int)(l:List ze)(w:ByteArray):List ze:=match JX w with
 |some s=>if op=5 then YS l (L s)else QA l (L s) 16
 |none=>l
def XW(d:Dr)(op:Int)(v:ByteArray):Dr:={d with links:=(Yr v).foldl (Zs op) (if op=3∨op=6 then []else d.links)}
def JT(d:Dr)(op:Int)(v:ByteArray):Dr:=
 let l:=if op=4 then d.run else []
 {d with run:=if UG v&&decide (l.length<16)then l++[L v]else l}
def Qb(d:Dr)(t:Tm)(v:ByteArray):Dr:=
 if t.key=6 then(if t.op=4 then ka d t.name v else X5 d t.name v)
 else if t.key=7 then KF d t.op v
 else if t.key=15 then(if X0 (L v)then{d with nam:=v}else d)
 else if t.key=16 then XW d t.op v
 else if t.key=17 then(if Z4 (L v)then{d with own:=v}else d)
 else if t.key=18 then(if Z4 (L v)then{d with grp:=v}else d)
 else if t.key=19 then(if U6 (L v)then{d with mode:=Ip (L v)}else d)
 else if t.key=20 then JT d t.op v
 else if t.key=21 then(if UG v then{d with load:=QA d.load (L v) 16}else d)
 else if t.key=22 then(match VR (L v)with|some n=>{d with prio:=n}|none=>d)
 else d
def kO(t:Tm):Tm:=⟨t.key,t.name,0,⟨#[]⟩⟩
def P6(d:Dr)(t:Tm):Bool:=d.closed.any fun c=>c.key==t.key&&L c.name==L t.name
def Vh(d:Dr)(t:Tm)(v:ByteArray):Dr:=
 if P6 d t then d else if t.op=6 then{Qb d t v with closed:=(Qb d t v).closed++[kO t]}else Qb d t v
def Uy(d:Dr)(l:List At):Dr:=l.foldl (fun d p=>if UA (L p.name)&& !(L p.val).isEmpty then X5 d p.name p.val else d) d
def Dk:ByteArray:=⟨#[114,111,111,116]⟩
def RU(base:List At):Dr:=⟨base,[],[],[],[],⟨#[]⟩,0,Dk,Dk,384,⟨#[]⟩,0,0,[]⟩
end
section
open Go.RowKit
theorem ziR{l:List At}{n:ze}{k:Nat}{x:At}(hx:l[k]? =some x)(hno:∀(j:Nat) (y:At),j<k->l[j]? =some y->(L y.name==n)=false)(hyes:(L x.name==n)=true):zX l n=some x:=by
 induction l generalizing k with
 |nil=>simp at hx
 | cons y l ih=>
   cases k with
   | zero=>
     simp at hx;subst hx;simp only[zX,nm,List.find?_cons,hyes]
   | succ k=>
     have h0:=hno 0 y zb zl;have:=ih (k:=k) Ki (fun j z hj hz=>hno (j+1) z zb OZ);simp only[zX,nm,List.find?_cons,h0]at this⊢;exact this
theorem zh0{l:List At}{n:ze}(hno:∀(j:Nat) (y:At),l[j]? =some y->(L y.name==n)=false):zX l n=none:=by
 unfold zX;rw[List.find?_eq_none];intro x hx;obtain⟨j,hj⟩:=List.getElem?_of_mem hx;rw[show(nm x==n)=false from hno j x hj];simp
theorem zgh{W:World}{b:Nat}{e:TypeId}{sz:Nat}{v:Value}{n:Nat}{xs:List Value}(h:W.ownsRow b e sz v n xs):∃A c,v=.slice A n c/\n<=c:=by
 rcases h.2 with⟨h1,h2⟩|⟨g',cap,cur,h1,_,_,hr,_⟩
 · exact⟨_,_,by rw[h2];exact h1,zb⟩
 · exact⟨_,_,h1,hr⟩
end
section
open Go.RowKit
def JE:Option At->Value
 |some x=>.tuple #[.string x.val,.bool true]
 |none=>.tuple #[.string ⟨#[]⟩,.bool false]
def VB(o:Option At)(w:World)(e:Ending)(w':World):Prop:=e=.returned (JE o)/\Below w.heap.size w w'
theorem KR(A:Option Addr)(c:Nat)(l:List At)(nm:ByteArray)(w:World)(h:zr w w.heap.size A 2 l.length (cellsOf zw l))(hl:l.length<=4611686018427387904):
 Calls prog 33 #[.slice A l.length c,.string nm] w (VB (zX l (L nm)) w):=by
 have H:=za h;clear h;generalize hN:l.length=N at hl⊢;have HN:=za hN;clear hN;go_enter func33,ntmps33;go_wp2
 go_loopw [10] (fun i wr=>∃k:Nat,k<=N/\i=.int .i64 k/\Hid (∀(j:Nat) (y:At),j<k->l[j]? =some y->(L y.name==L nm)=false)/\Hid (Below w.heap.size w wr)) (fun i _=>N - (intOf i).toNat)
 case atStart=>exact⟨0,X1 _,rfl,fun j y hj=>absurd hj zb,zj⟩
 case round=>
  obtain⟨k,hk,rfl,hp,hB⟩:=hrel;by_cases hlt:k<N
  · have hlt':k<l.length:=by rw[HN.out];exact hlt
    have hltI:(k:Int)<(N:Int):=zb;obtain⟨ba,off,rfl,hBa,hc⟩:=H.out.cell Ow hlt';obtain⟨x,hx⟩:∃x,l[k]? =some x:=⟨_,l0 hlt'⟩;have c0:wr.cell? ⟨ba,off+k*2,none⟩=some (.string x.name):=(hB.out.cell (p:=⟨ba,off+k*2,none⟩) hBa).trans (hc k x hx 0 _ rfl);have c1:wr.cell? ⟨ba,off+k*2+1,none⟩=some (.string x.val):=(hB.out.cell (p:=⟨ba,off+k*2+1,none⟩) hBa).trans (hc k x hx 1 _ rfl);have HX:=za hx;have HB2:=za (bt hB.out (zL wr (.cells #[.string x.name,.string x.val] 114)));clear hx hc hlt';cases hq:(x.name.toList==nm.toList)
    · go_wp2
      go_roundw
      case rel=>
       refine⟨k+1,zb,zU,fun j y hj hy=>?_,HB2.out⟩;rcases(by omega:j=k∨j<k)with e|e
       · subst e;rw[HX.out]at hy;injection hy with hy
         rw[<-hy,<-tl,<-tl];exact hq
       · exact hp.out j y e hy
      case measure=>simp[intOf];omega
    · have e1:=ziR HX.out hp.out (by rw[<-tl,<-tl];exact hq);have E1:=za e1;clear e1;go_wp2;go_ret2;exact⟨by rw[E1.out];rfl,HB2.out⟩
  · have e1:=zh0 (l:=l) (n:=L nm) (fun j y hy=>hp.out j y (by have:=(List.getElem?_eq_some_iff.1 hy).1;rw[HN.out]at this;omega) hy);have E1:=za e1;clear e1;go_wp2;go_ret2;exact⟨by rw[E1.out];rfl,hB.out⟩
end
section
def Zr(l:List ze)(s:ze):Nat:=(l.takeWhile fun x=>decide (x<s)).length
theorem PT(l:List ze)(s:ze):Zr l s<=l.length:=List.IsPrefix.length_le (List.takeWhile_prefix _)
theorem Ds{l:List ze}{s:ze}{t:Nat}(h:t<Zr l s):∃h':t<l.length,l[t]<s:=by
 have hp:l.takeWhile (fun x=>decide (x<s))<+:l:=List.takeWhile_prefix _;have h1:t<l.length:=i4 h (PT l s);refine⟨h1,?_⟩;have h2:=List.IsPrefix.getElem hp (i:=t) h;rw[<-h2];have:=List.all_takeWhile (p:=fun x=>decide (x<s)) (l:=l);have:=List.all_eq_true.1 this _ (X8 (l:=l.takeWhile fun x=>decide (x<s)) (n:=t) h);exact QN
theorem Fu(s:ze):¬s<s:=List.lt_irrefl s
theorem Pe:∀{l:List ze},l.Pairwise (· < ·)->∀{s:ze} {t:Nat},Zr l s<=t->∀h:t<l.length,¬l[t]<s
 | [],_,_,_,_,h=>qI
 | x ::r,hs,s,t,hk,h=>by
   obtain⟨h1,h2⟩:=List.pairwise_cons.1 hs;by_cases hx:x<s
   · have e:Zr (x::r) s=Zr r s+1:=by unfold Zr;rw[List.takeWhile_cons,if_pos (zl1 hx)];rfl
     cases t with
     |zero=>omega
     |succ t=>exact Pe h2 zb XI
   · cases t with
     |zero=>exact hx
     | succ t=>
       intro hlt;have hm:r[t]' XI∈r:=X8 _;exact hx (List.lt_trans (h1 _ hm) hlt)
theorem AG:∀{l:List ze},l.Pairwise (· < ·)->∀{s:ze},s∉l->Xi l s=l.take (Zr l s)++s::l.drop (Zr l s)
 | [],_,_,_=>rfl
 | x ::r,hs,s,hn=>by
   obtain⟨h1,h2⟩:=List.pairwise_cons.1 hs;rw[Xi];by_cases hx:x<s
   · have e:Zr (x::r) s=Zr r s+1:=by unfold Zr;rw[List.takeWhile_cons,if_pos (zl1 hx)];rfl
     rw[if_pos hx,e,List.take_succ_cons,List.drop_succ_cons,List.cons_append,<-AG h2 (fun hm=>hn (X6 _ hm))]
   · have e:Zr (x::r) s=0:=by unfold Zr;rw[List.takeWhile_cons,if_neg Ki];rfl
     rw[if_neg hx,if_neg (fun e2=>hn (by rw[e2];exact X4)),e];rfl
theorem ziu{l:List ze}(hs:l.Pairwise (· < ·))(s:ze):s∈l↔∃h:Zr l s<l.length,l[Zr l s]=s:=by
 constructor
 · intro hm;obtain⟨t,ht,e⟩:=List.getElem_of_mem hm;have h1:Zr l s<=t:=by
    rcases Nat.lt_or_ge t (Zr l s)with k|k
    · obtain⟨_,k2⟩:=Ds k;rw[e]at k2;exact absurd k2 (Fu s)
    · exact k
   have h2:t<=Zr l s:=by
    rcases Nat.lt_or_ge (Zr l s) t with k|k
    · have h3:=Pe hs (Nat.le_refl (Zr l s)) zb;have h4:=List.pairwise_iff_getElem.1 hs (Zr l s) t zb ht k;rw[e]at h4;exact absurd h4 h3
    · exact k
   obtain rfl:t=Zr l s:=zb;exact⟨ht,e⟩
 · rintro⟨h,e⟩;rw[<-e];exact X8 _
end
section
open Go.RowKit
def iV(l:List Int):List Value:=l.map (Value.int .i64)
theorem zbU{l:List Int}{j:Nat}(h:j<l.length):(iV l)[j]? =some (.int .i64 l[j]):=by
 unfold iV;rw[zd4,l0 h];rfl
theorem BP:(prog.info? 3).map (fun i=>(i.zero,i.size,i.bytes))=some (some (.int .i64 0),1,8):=zg
abbrev Oq(w:World)(B:Nat)(A:Option Addr)(l:List Int):Prop:=zr w B A 1 l.length (iV l)
theorem Oq.cell{w wr:World}{B:Nat}{A:Option Addr}{l:List Int}(h:Oq w B A l)(hb:Below B w wr){k:Nat}(hk:k<l.length):∃ba off,A=some ⟨ba,off,none⟩/\wr.cell? ⟨ba,off+k,none⟩=some (.int .i64 l[k]):=by
 obtain⟨ba,off,e,hB,hc⟩:=h.at_ zb;exact⟨ba,off,e,(hb.cell (p:=⟨ba,off+k,none⟩) hB).trans (hc k _ (zbU hk))⟩
theorem zbt(A A':Option Addr)(c c':Nat)(l:List Int)(w:World)(hn:l.length<=4000000)(h:Oq w w.heap.size A l)(h':Oq w w.heap.size A' l):
 Calls prog 34 #[.slice A l.length c,.slice A' l.length c'] w fun e w'=>e=.returned (.bool true)/\Below w.heap.size w w':=by
 have H:=za h;have H':=za h';clear h h';generalize hN:l.length=N at*;have HN:=za hN;clear hN;go_enter func34,ntmps34;go_wp2
 go_loopw [5] (fun i wr=>∃k:Nat,k<=N/\i=.int .i64 k/\Hid (Below w.heap.size w wr)) (fun i _=>N - (intOf i).toNat)
 case atStart=>exact⟨0,X1 _,rfl,zj⟩
 case round=>
  obtain⟨k,hk,rfl,hB⟩:=hrel;by_cases hlt:k<N
  · have hk':k<l.length:=by rw[HN.out];exact hlt
    have hr:=H.out;have hr':=H'.out;obtain⟨ba,off,rfl,c0⟩:=hr.cell hB.out hk';obtain⟨ba',off',rfl,d0⟩:=hr'.cell hB.out hk';have hltI:(k:Int)<(N:Int):=zb;generalize l[k]=x at*;clear hr hr' hk';go_wp2;go_quiet (fail)
    go_wp2
    go_roundw
    case rel=>exact⟨k+1,zb,zU,ZO hB.out _⟩
    case measure=>simp[intOf];omega
  · obtain rfl:k=N:=by omega
    go_wp2;go_ret;exact⟨rfl,hB.out⟩
end
end Go.Proofs.YtecbmndgpepkcaaGreatDoor
