/- Contracts of functions that the law reaches, and what they rest on; each under the premises that it names. Shortened by a program. -/
import Derived.Lib.Case
import Derived.Test.YtobcmlmbblgcdaaGreatDoorG06
import Derived.Lib.IndexLaws
import Derived.Lib.AppendZerosOnto
import Derived.Maps.Views
import Derived.Maps.Own
import Derived.Maps.OwnSet
import Derived.Maps.StringElems
import Derived.Lib.Split
import Derived.Lib.Join
import Derived.Lib.FieldsP
import Derived.Lib.AtoiAll
namespace Go.Proofs.YtobcmlmbblgcdaaGreatDoor
open Tryz
set_option maxHeartbeats 8000000
set_option maxRecDepth 100000
section
open Go.RowKit
theorem zgg(w:World):(Instr.build 259 #[]).run prog w=.ok (.agg (setA Qn)) w:=run_build w 259 #[] (setA Qn) zg
def Ux:ze:=[65,66,67,68,69,70,71,72,73,74,75,76,77,78,79,80,81,82,83,84,85,86,87,88,89,90]
def Ry:ze:=[97,98,99,100,101,102,103,104,105,106,107,108,109,110,111,112,113,114,115,116,117,118,119,120,121,122]
def Xc:ze:=[48,49,50,51,52,53,54,55,56,57]
def D3:ze:=[95,46,58,43,45]
def Yr:Nat->Bool:=qv (qv (qv (qv Qn Ux) Ry) Xc) D3
def ZY(l:ze):Bool:= !l.isEmpty&&decide (l.length<=32)&& !(l==[46]||l==[46,46])&&QP (qv Yr [33]) l
def Xu(l:ze):Bool:= !l.isEmpty&&decide (l.length<=32)&&QP (qv Qn Ux) (l.take 1)&&QP (qv (qv (qv Qn Ux) Xc) [95]) l
theorem zhN(j:Nat)(b:UInt8)(h:Ux[j]? =some b):b.toNat<128:=by
 have hm:b∈Ux:=List.mem_of_getElem? h
 revert b
 intro b _ hm;simp only[Ux,List.mem_cons,List.not_mem_nil,or_false]at hm;exact C8
theorem BY:qv (qv (qv (qv Qn (L ⟨#[65,66,67,68,69,70,71,72,73,74,75,76,77,78,79,80,81,82,83,84,85,86,87,88,89,90]⟩)) (L ⟨(Lib.toLowerA [65,66,67,68,69,70,71,72,73,74,75,76,77,78,79,80,81,82,83,84,85,86,87,88,89,90]).toArray⟩)) (L ⟨#[48,49,50,51,52,53,54,55,56,57]⟩)) (L ⟨#[95,46,58,43,45]⟩)=Yr:=by
 have e:Lib.toLowerA [65,66,67,68,69,70,71,72,73,74,75,76,77,78,79,80,81,82,83,84,85,86,87,88,89,90]=Ry:=zi;rw[e];rfl
theorem Aj(w:World):
 Calls prog 220 #[] w fun e w'=>e=.returned (.agg (setA Yr))/\Below w.heap.size w w':=by
 have hz:=(zero_of_info kW).1;have hb:=zgg;have Hi:=za (zero_of_info kW).2;go_enter func220,ntmps220;have hn:=heap_alloc_new w (.cells (setA Qn) 259);go_wp2_with fail
 refine(kc _ _ _ zi).mono ?_;rintro e w1 ⟨rfl,h1⟩;go_wp2_with fail
 refine(strings_ToLower_ascii _ _ zi zhN).mono ?_;rintro e w2 ⟨rfl,h2⟩;go_wp2_with fail
 refine(kc _ _ _ zi).mono ?_;rintro e w3 ⟨rfl,h3⟩;go_wp2_with fail
 refine(kc _ _ _ zi).mono ?_;rintro e w4 ⟨rfl,h4⟩;go_wp2_with fail
 refine(kc _ _ _ zi).mono ?_;rintro e w5 ⟨rfl,h5⟩;rw[BY];have q1:Below (w.heap.size+1) (w.alloc (.cells (setA Qn) 259)) w5:=by
  have s1:=h1.size;have s2:=h2.size;have s3:=h3.size;have s4:=h4.size;simp only[World.size_alloc]at s1 h1;exact(((h1.trans (h2.mono s1)).trans (h3.mono zb)).trans (h4.mono zb)).trans (h5.mono zb)
 have q0:Below w.heap.size w w5:=((Below.refl w.heap.size w).alloc zo _).trans (q1.mono zb);have H2:=za ((q1.block w.heap.size zb).trans hn);have H3:=za (Xf Yr);have H4:=za (Gb Yr);have H5:=za (Xf Qn);have Q0:=za q0;clear q0 q1 hn h1 h2 h3 h4 h5 hz hb;go_wp2_with (refine wpList_store_row rfl 259 _ _ rfl _ _ rfl rfl _ _ H2.out GW (by rw[H3.out,H5.out]) H4.out ?_)
 refine bodyPost_ret (v:=.agg (setA Yr)) (results_cell_row rfl _ _ w.heap.size 259 (setA Yr) (0,0) _ rfl (setRow_heap _ _ _ _ _ _ H2.out) underlying259 rfl GW) rfl ⟨rfl,?_⟩;exact Mf Q0.out zo _
theorem P9:zeroCells259=setA Qn:=zg
theorem vK(s:ByteArray)(w:World):
 Calls prog 219 #[.string s] w fun e w'=>e=.returned (.bool (L s==[46]||L s==[46,46]))/\w=w':=by
 go_enter func219,ntmps219;go_wp2
 · go_ret;have h:s.toList=[46]:=qk;exact⟨ZT (by rw[<-tl,h];rfl),rfl⟩
 · go_ret;have h:¬s.toList=[46]:=qk;exact⟨ZT (by rw[<-tl]),rfl⟩
theorem ID(s:ByteArray)(w:World)(hs:s.size<=9223372036854775807):
 Calls prog 174 #[.string s] w fun e w'=>e=.returned (.bool (ZY (L s)))/\Below w.heap.size w w':=by
 have HD:=vK s w;cases hd:(L s==[46]||L s==[46,46])
 · rw[hd]at HD;have Hd:=za hd;clear hd;go_enter func174,ntmps174;go_wp2_with (first|(go_at_call 219;refine HD.mono ?_;rintro e w' ⟨rfl,rfl⟩)|(go_at_call 220;refine(Aj _).mono ?_;rintro e w1 ⟨rfl,h1⟩)|(go_at_call 189;refine(kc _ _ _ zi).mono ?_;rintro e w2 ⟨rfl,h2⟩)|(go_at_call 190;refine(Nq _ _ _ hs).mono ?_;rintro e w3 ⟨rfl,h3⟩))
   · go_ret;have h:=K9 (s:=s) qk;exact⟨ZT (by rw[h];rfl),zk⟩
   · go_ret;have h:=Xq (s:=s) qk;have hz:(s.size:Int)<=32:=qk;refine⟨ZT ?_,(h1.trans (h2.mono h1.size)).trans (h3.mono (Nat.le_trans h1.size h2.size))⟩;rw[ZY,tl,h,Hd.out,zC];simp;intro _;omega
   · go_ret;have hz:32<(s.size:Int):=qk;exact⟨ZT (by rw[ZY,zC];simp;omega),zk⟩
 · rw[hd]at HD;have Hd:=za hd;clear hd;go_enter func174,ntmps174;go_wp2_with (first|(go_at_call 219;refine HD.mono ?_;rintro e w' ⟨rfl,rfl⟩))
   all_goals
    go_ret;exact⟨ZT (by rw[ZY,Hd.out];simp),zk⟩
theorem PU(s:ByteArray)(w:World)(hs:s.size<=9223372036854775807):
 Calls prog 160 #[.string s] w fun e w'=>e=.returned (.bool (Xu (L s)))/\Below w.heap.size w w':=by
 have hzc:=P9;by_cases h0:s.toList=[]
 · go_enter func160,ntmps160;go_wp2;go_region
   all_goals go_wp2
   all_goals go_ret
   exact⟨ZT (by rw[K9 h0];rfl),zk.drew⟩
 have he:s.toList.isEmpty=false:=by rw[tl];exact Xq h0
 by_cases h1:(s.size:Int)<=32
 · have hd:decide ((s.size:Int)<=32)=true:=by simpa using h1
   have h2:(1:Int)<=(s.size:Int):=by
    rcases Nat.eq_zero_or_pos s.size with h|h
    · exfalso;apply h0;rw[tl];exact List.eq_nil_of_length_eq_zero VQ
    · omega
   have e1:(L (s.extract 0 1))=(L s).take 1:=by simp[L,ByteArray.data_extract]
   have hz:(s.extract 0 1).size<=9223372036854775807:=by rw[<-zC,e1,List.length_take];omega
   have HU:∀W,Calls prog 190 #[.agg (setA (qv Qn Ux)),.string (s.extract 0 1)] W fun e w'=>e=.returned (.bool (QP (qv Qn Ux) ((L s).take 1)))/\Below W.heap.size W w':=fun W=>by
    have:=Nq (qv Qn Ux) (s.extract 0 1) W hz;rw[e1]at this;exact this
   clear hz e1;cases hu:QP (qv Qn Ux) ((L s).take 1)
   · rw[hu]at HU;have Hu:=za hu;clear hu;go_enter func160,ntmps160;go_wp2;refine wp_region_held_drew (S:=fun _=>True) zg ?_ (fun hHeld=>?_)
     · trivial
     refine wpAnyH_take (i:=0) (v:=?_) Mq zg zg zg qf (Or.inl ⟨zj,?_⟩) qk ?_
     rotate_left
     · exact qt
     try simp only[Act.put,List.setIfInBounds_toArray,List.set_cons_zero,List.set_cons_succ]
     refine wpAnyH_take (i:=1) (v:=?_) zY zg zg zg qf (Or.inl ⟨zj,?_⟩) qk ?_
     rotate_left
     · exact qt
     try simp only[Act.put,List.setIfInBounds_toArray,List.set_cons_zero,List.set_cons_succ]
     refine wpAnyH_take (i:=2) (v:=?_) zY zg zg zg qf (Or.inl ⟨zj,?_⟩) qk ?_
     rotate_left
     · exact qt
     try simp only[Act.put,List.setIfInBounds_toArray,List.set_cons_zero,List.set_cons_succ]
     refine wpAnyH_take (i:=3) (v:=?_) zY zg zg zg qf (Or.inl ⟨zj,?_⟩) qk ?_
     rotate_left
     · exact qt
     try simp only[Act.put,List.setIfInBounds_toArray,List.set_cons_zero,List.set_cons_succ]
     refine wpAnyH_take (i:=4) (v:=?_) zY zg zg zg qf (Or.inl ⟨zj,?_⟩) qk ?_
     rotate_left
     · exact qt
     try simp only[Act.put,List.setIfInBounds_toArray,List.set_cons_zero,List.set_cons_succ]
     refine wpAnyH_take (i:=5) (v:=?_) zY zg zg zg qf (Or.inl ⟨zj,?_⟩) qk ?_
     rotate_left
     · exact qt
     try simp only[Act.put,List.setIfInBounds_toArray,List.set_cons_zero,List.set_cons_succ]
     refine wpAnyH_take (i:=6) (v:=?_) zY zg zg zg qf (Or.inl ⟨zj,?_⟩) qk ?_
     rotate_left
     · exact qt
     try simp only[Act.put,List.setIfInBounds_toArray,List.set_cons_zero,List.set_cons_succ]
     refine wpAnyH_take (i:=7) (v:=?_) zY zg zg zg qf (Or.inl ⟨zj,?_⟩) qk ?_
     rotate_left
     · exact qt
     try simp only[Act.put,List.setIfInBounds_toArray,List.set_cons_zero,List.set_cons_succ]
     refine wpAnyH_take (i:=8) (v:=?_) zY zg zg zg qf (Or.inl ⟨zj,?_⟩) qk ?_
     rotate_left
     · exact qt
     try simp only[Act.put,List.setIfInBounds_toArray,List.set_cons_zero,List.set_cons_succ]
     refine wpAnyH_take (i:=10) (v:=?_) zY zg zg zg qf (Or.inl ⟨zj,?_⟩) qk ?_
     rotate_left
     · exact qt
     try simp only[Act.put,List.setIfInBounds_toArray,List.set_cons_zero,List.set_cons_succ]
     refine wpAnyH_take (i:=11) (v:=?_) zY zg zg zg qf (Or.inl ⟨zj,?_⟩) qk ?_
     rotate_left
     · exact qt
     try simp only[Act.put,List.setIfInBounds_toArray,List.set_cons_zero,List.set_cons_succ]
     refine wpAnyH_ready (rs:=[9]) zg zl ?_;refine AllReadyH.cons zY (fun K hK=>?_) AllReadyH.nil
     go_simp
     refine(kc _ _ _ zi).mono ?_;rintro e w2 ⟨rfl,h2⟩;refine hK.out _ _ trivial (fun hHeld=>?_);clear hK K
     try simp only[Act.put,List.setIfInBounds_toArray,List.set_cons_zero,List.set_cons_succ]
     refine wpAnyH_ready (rs:=[12]) zg zl ?_;refine AllReadyH.cons zY (fun K hK=>?_) AllReadyH.nil
     go_simp
     refine(HU _).mono ?_;rintro e w3 ⟨rfl,h3⟩;refine hK.out _ _ trivial (fun hHeld=>?_);clear hK K
     try simp only[Act.put,List.setIfInBounds_toArray,List.set_cons_zero,List.set_cons_succ]
     refine wpAnyH_take (i:=13) (v:=?_) zY zg zg zg qf (Or.inl ⟨zj,?_⟩) qk ?_
     rotate_left
     · exact qt
     try simp only[Act.put,List.setIfInBounds_toArray,List.set_cons_zero,List.set_cons_succ]
     refine wpAnyH_take (i:=14) (v:=?_) zY zg zg zg qf (Or.inl ⟨zj,?_⟩) qk ?_
     rotate_left
     · exact qt
     try simp only[Act.put,List.setIfInBounds_toArray,List.set_cons_zero,List.set_cons_succ]
     refine wpAnyH_take (i:=15) zY zg zg zg qf (Or.inr ⟨zj,rfl⟩) qk ?_
     try simp only[Act.put,List.setIfInBounds_toArray,List.set_cons_zero,List.set_cons_succ]
     refine wpAnyH_take (i:=16) zY zg zg zg qf (Or.inr ⟨zj,rfl⟩) qk ?_
     try simp only[Act.put,List.setIfInBounds_toArray,List.set_cons_zero,List.set_cons_succ]
     refine wpAnyH_take (i:=17) zY zg zg zg qf (Or.inr ⟨zj,rfl⟩) qk ?_
     try simp only[Act.put,List.setIfInBounds_toArray,List.set_cons_zero,List.set_cons_succ]
     refine wpAnyH_take (i:=18) zY zg zg zg qf (Or.inr ⟨zj,rfl⟩) qk ?_
     try simp only[Act.put,List.setIfInBounds_toArray,List.set_cons_zero,List.set_cons_succ]
     refine wpAnyH_take (i:=19) zY zg zg zg qf (Or.inr ⟨zj,rfl⟩) qk ?_
     try simp only[Act.put,List.setIfInBounds_toArray,List.set_cons_zero,List.set_cons_succ]
     refine wpAnyH_take (i:=20) zY zg zg zg qf (Or.inr ⟨zj,rfl⟩) qk ?_
     try simp only[Act.put,List.setIfInBounds_toArray,List.set_cons_zero,List.set_cons_succ]
     refine wpAnyH_take (i:=21) (v:=?_) zY zg zg zg qf (Or.inl ⟨zj,?_⟩) qk ?_
     rotate_left
     · exact qt
     try simp only[Act.put,List.setIfInBounds_toArray,List.set_cons_zero,List.set_cons_succ]
     refine wpAnyH_take (i:=22) (v:=?_) zY zg zg zg qf (Or.inl ⟨zj,?_⟩) qk ?_
     rotate_left
     · exact qt
     try simp only[Act.put,List.setIfInBounds_toArray,List.set_cons_zero,List.set_cons_succ]
     refine wpAnyH_done zg ?_ _;go_wp2;go_ret;exact⟨ZT (by rw[Xu,Hu.out];simp),((zk.drew).trans h2).trans (h3.mono h2.size)⟩
   · rw[hu]at HU;have Hu:=za hu;clear hu;go_enter func160,ntmps160;go_wp2
     go_region_held3 (fun _=>True) (trivial) (first|(go_at_call 189;with_reducible refine(kc _ _ _ zi).mono ?_;rintro e w2 ⟨rfl,h2⟩)|(go_at_call_of 190 (s.extract 0 1);refine(HU _).mono ?_;rintro e w3 ⟨rfl,h3⟩)|(go_at_call 190;refine(Nq _ _ _ hs).mono ?_;rintro e w4 ⟨rfl,h4⟩))
     all_goals go_wp2
     go_ret;refine⟨ZT ?_,by repeat (first|exact zk.drew|refine bt ?_ qk)⟩;rw[Xu,zC,Xq h0,Hu.out];show QP (qv (qv (qv Qn Ux) Xc) [95]) (L s)=_;simp;omega
 · have hd:decide ((s.size:Int)<=32)=false:=by simpa using h1
   go_enter func160,ntmps160;go_wp2;go_region
   all_goals go_wp2
   all_goals go_ret
   exact⟨ZT (by rw[Xu,zC];simp;omega),zk.drew⟩
end
section
open Go.RowKit
theorem Me:∀x y:ze,Op.bytesLess x y=decide (x<y)
 | [],[]=>PV
 | [],_::_=>PV
 |_::_,[]=>PV
 | a::x,b::y=>by
   rw[Op.bytesLess,Me x y];simp only[List.cons_lt_cons_iff];by_cases h1:a<b<;>by_cases h2:a=b<;>by_cases h3:x<y<;>simp[h1,h2,h3]
theorem Ce(x:ze):¬x<x:=List.lt_irrefl x
theorem PE{x y z:ze}(h:x<y)(k:y<z):x<z:=List.lt_trans h k
theorem Fj{x y:ze}(h:¬x<y)(k:x≠y):y<x:=by
 rcases List.le_total x y with h1|h1
 · exact absurd (Decidable.byContradiction fun h2=>k (List.le_antisymm h1 h2)) h
 · exact Decidable.byContradiction fun h2=>k (List.le_antisymm h2 h1)
def YY:List ze->ze->List ze
 | [],s=>[s]
 |x::r,s=>if x<s then x::YY r s else if x=s then x::r else s::x::r
theorem ve(l:List ze)(s y:ze):y∈YY l s↔y∈l∨y=s:=by
 induction l with
 |nil=>simp[YY]
 | cons x r ih=>
   rw[YY]
   split
   · rw[List.mem_cons,ih,List.mem_cons,or_assoc]
   · split
     · rename_i _ e;subst e;simp only[List.mem_cons];constructor
       · exact fun h=>Or.inl h
       · rintro(h|h)
         · exact h
         · exact Or.inl h
     · simp only[List.mem_cons];constructor
       · rintro(h|h|h)<;>simp[h]
       · rintro((h|h)|h)<;>simp[h]
theorem Es(l:List ze)(s:ze):(YY l s).length<=l.length+1:=by
 induction l with
 |nil=>simp[YY]
 | cons x r ih=>
   rw[YY]
   split
   · simp only[List.length_cons];omega
   · split<;>simp
theorem zfb{l:List ze}(h:l.Pairwise (· < ·))(s:ze):(YY l s).Pairwise (· < ·):=by
 induction l with
 |nil=>simp[YY]
 | cons x r ih=>
   rw[List.pairwise_cons]at h;rw[YY]
   split
   · rename_i hx;refine List.pairwise_cons.2 ⟨fun y hy=>?_,ih h.2⟩;rcases(ve r s y).1 hy with hy|rfl
     · exact h.1 y hy
     · exact hx
   · split
     · exact List.pairwise_cons.2 h
     · rename_i h1 h2;have hs:=Fj h1 h2;refine List.pairwise_cons.2 ⟨fun y hy=>?_,List.pairwise_cons.2 h⟩;rcases List.mem_cons.1 hy with rfl|hy
       · exact hs
       · exact PE hs (h.1 y hy)
abbrev nm(x:At):ze:=L x.name
def zT(d:List At)(n:ze):Option At:=d.find? fun x=>nm x==n
theorem jw{d:List At}{n:ze}{x:At}(h:zT d n=some x):nm x=n/\x∈d:=
 ⟨vN,List.mem_of_find?_eq_some h⟩
theorem Sb{d:List At}{n:ze}:zT d n=none↔n∉d.map nm:=by
 unfold zT;rw[List.find?_eq_none];simp only[List.mem_map,beq_iff_eq,not_exists,not_and]
end
section
structure Dv where
 ix:Int
 pa:Int
 nam:ByteArray
 og:ByteArray
 sb:ByteArray
 dr:ByteArray
 al:ByteArray
 kd:Int
 nb:Int
 ats:Ls At
def zK(d:Dv):List Value:=[.int .i64 d.ix,.int .i64 d.pa,.string d.nam,.string d.og,.string d.sb,.string d.dr,.string d.al,.int .i64 d.kd,.int .i64 d.nb,.slice d.ats.A d.ats.l.length d.ats.c]
def zZ(d:Dv):Value:=.agg #[.int .i64 d.ix,.int .i64 d.pa,.string d.nam,.string d.og,.string d.sb,.string d.dr,.string d.al,.int .i64 d.kd,.int .i64 d.nb,.slice d.ats.A d.ats.l.length d.ats.c]
def qI(l:List At)(n:ze):ByteArray:=match zT l n with
 |some x=>x.val
 |none=>⟨#[]⟩
def R5(t:Tm)(d:Dv):Option ByteArray:=
 if t.key=2∨t.key=8 then some d.og else if t.key=3∨t.key=9 then some d.sb else if t.key=4∨t.key=10 then some d.dr else if t.key=5∨t.key=11 then some (qI d.ats.l (L t.name))else none
def YQ(t:Tm)(v:ByteArray):Bool:=zS (L t.value) (L v)==(t.op==1)
def Ym(t:Tm)(d:Dv):Bool:=qu t.op&&match R5 t d with
 |some v=>YQ t v
 |none=>false
def ZZ(t:Tm):Bool:=qu t.op&&(t.key==2||t.key==3||t.key==4||t.key==5)
def qS(t:Tm):Bool:=qu t.op&&(t.key==8||t.key==9||t.key==10||t.key==11)
end
section
structure Dd where
 ix:Int
 pa:Int
 nam:ByteArray
 og:ByteArray
 sb:ByteArray
 dr:ByteArray
 al:ByteArray
 kd:Int
 nb:Int
 ats:List At
def Dv.d(x:Dv):Dd:=⟨x.ix,x.pa,x.nam,x.og,x.sb,x.dr,x.al,x.kd,x.nb,x.ats.l⟩
def qL:List Dd->Int->List Dd
 | [],_=>[]
 |d::r,n=>if d.ix=n then d::qL r d.pa else qL r n
def qK(l:List Dd)(n:Int):List Dd:=qL l.reverse n
def zW(l:List Dd)(n:Int):Option Dd:=l.find? fun d=>d.ix==n
def kI:List Dd->Prop
 | []=>True
 |d::r=>1<=d.ix/\(∀x∈r,x.ix≠d.ix)/\(d.pa=0∨∃x∈r,x.ix=d.pa)/\kI r
def QW(l:List Dd):Prop:=kI l.reverse
theorem DN:∀{r:List Dd},kI r->∀x∈r,x.pa=0∨∃y∈r,y.ix=x.pa
 | d ::r,h,x,hx=>by
   rcases List.mem_cons.1 hx with rfl|hx
   · rcases h.2.2.1 with e|⟨y,hy,e⟩
     · exact Or.inl e
     · exact Or.inr ⟨y,List.mem_cons_of_mem _ hy,e⟩
   · rcases DN h.2.2.2 x hx with e|⟨y,hy,e⟩
     · exact Or.inl e
     · exact Or.inr ⟨y,List.mem_cons_of_mem _ hy,e⟩
theorem MD{d:Dd}{r:List Dd}{n:Int}(h:d.ix≠n):qL (d::r) n=qL r n:=by rw[qL,if_neg h]
theorem zfi{d:Dd}{r:List Dd}(h:kI (d::r)):∀x∈d::r,d.ix≠x.pa:=by
 intro x hx e;have h1:=h.1;rcases List.mem_cons.1 hx with rfl|hx
 · rcases h.2.2.1 with e2|⟨y,hy,e2⟩
   · omega
   · exact h.2.1 y hy zb
 · rcases DN h.2.2.2 x hx with e2|⟨y,hy,e2⟩
   · omega
   · exact h.2.1 y hy zb
theorem OH:∀{r:List Dd},kI r->∀x∈r,qL r x.ix=x::qL r x.pa
 | d::r,h,x,hx=>by
   rw[MD (zfi h x hx)];rcases List.mem_cons.1 hx with rfl|hx
   · rw[qL,if_pos rfl]
   · rw[MD (fun e=>h.2.1 x hx e.symm),OH h.2.2.2 x hx]
theorem Cc:∀{r:List Dd} {n:Int},(∀x∈r,x.ix≠n)->qL r n=[]
 | [],_,_=>rfl
 |d::r,n,h=>by rw[MD (h d zl),Cc fun x hx=>h x Jg]
theorem Gh:∀(r:List Dd) (n:Int),(qL r n).length<=r.length
 | [],_=>zo
 | d::r,n=>by
   rw[qL]
   split
   · have:=Gh r d.pa;simp;omega
   · have:=Gh r n;simp;omega
theorem J3:∀(r:List Dd) (n:Int),∀x∈qL r n,x∈r
 | [],_,x,h=>h
 | d ::r,n,x,h=>by
   rw[qL]at h
   split at h
   · rcases List.mem_cons.1 h with rfl|h
     · exact List.mem_cons_self ..
     · exact List.mem_cons_of_mem _ (J3 r _ x h)
   · exact List.mem_cons_of_mem _ (J3 r _ x h)
theorem XN{l:List Dd}{n:Int}{x:Dd}(h:zW l n=some x):x∈l/\x.ix=n:=
 ⟨List.mem_of_find?_eq_some h,vN⟩
theorem G5{l:List Dd}{n:Int}:zW l n=none↔∀x∈l,x.ix≠n:=by
 unfold zW;rw[List.find?_eq_none];simp
theorem Lw{l:List Dd}{n:Int}(h:zW l n=none):qK l n=[]:=Cc fun x hx=>G5.1 h x (List.mem_reverse.1 hx)
theorem OK{l:List Dd}{n:Int}{x:Dd}(hw:QW l)(h:zW l n=some x):qK l n=x::qK l x.pa:=by
 obtain⟨h1,rfl⟩:=XN h;exact OH hw x (List.mem_reverse.2 h1)
theorem Cd(l:List Dd)(n:Int):(qK l n).length<=l.length:=by have:=Gh l.reverse n;rw[List.length_reverse]at this;exact this
theorem Mi{l:List Dd}{n:Int}{x:Dd}(h:x∈qK l n):x∈l:=List.mem_reverse.1 (J3 _ _ _ h)
theorem vT{l:List Dd}(hw:QW l){x:Dd}(hx:x∈l):zW l x.ix=some x:=by
 cases h:zW l x.ix with
 |none=>exact absurd rfl (G5.1 h x hx)
 | some y=>
   obtain⟨_,e⟩:=XN h;have h1:=OK hw h;have h2:=OH hw x (List.mem_reverse.2 hx);unfold qK at h1;rw[h1]at h2;injection h2 with h3 _
   rw[h3]
def orgS(c:List Dd):ze:=c.reverse.flatMap fun d=>47::L d.og
theorem zi7:orgS []=[]:=rfl
theorem yT(d:Dd)(c:List Dd):orgS (d::c)=orgS c++47::L d.og:=by simp[orgS]
def ZW(l:List Dd)(n:Int):ByteArray:=bs (orgS (qK l n))
theorem FY:∀{a b:List Dd} {d:Dd},kI (a++b)->1<=d.ix->(∀x∈a++b,x.ix≠d.ix)->(d.pa=0∨∃x∈b,x.ix=d.pa)->kI (a++d::b)
 | [],b,d,h,h1,h2,h3=>⟨h1,fun x hx=>h2 x Ka,h3,h⟩
 | y ::a,b,d,h,h1,h2,h3=>by
   refine⟨h.1,fun x hx=>?_,?_,FY h.2.2.2 h1 (fun x hx=>h2 x (List.mem_cons_of_mem _ hx)) h3⟩
   · rcases List.mem_append.1 hx with hx|hx
     · exact h.2.1 x (List.mem_append_left _ hx)
     · rcases List.mem_cons.1 hx with rfl|hx
       · exact fun e=>h2 y (List.mem_cons_self ..) e.symm
       · exact h.2.1 x (List.mem_append_right _ hx)
   · rcases h.2.2.1 with e|⟨x,hx,e⟩
     · exact Or.inl e
     · refine Or.inr ⟨x,?_,e⟩;rcases List.mem_append.1 hx with hx|hx
       · exact List.mem_append_left _ hx
       · exact List.mem_append_right _ (List.mem_cons_of_mem _ hx)
theorem zch{l:List Dd}{k:Nat}{d:Dd}(h:QW l)(h1:1<=d.ix)(h2:zW l d.ix=none)(h3:d.pa=0∨∃x∈l.take k,x.ix=d.pa):QW (l.take k++d::l.drop k):=by
 unfold QW at h⊢;rw[List.reverse_append,List.reverse_cons,List.append_assoc,List.singleton_append];have e:l.reverse=(l.drop k).reverse++(l.take k).reverse:=by rw[<-List.reverse_append,List.take_append_drop]
 refine FY (by rw[<-e];exact h) h1 (fun x hx=>G5.1 h2 x (by rw[<-e]at hx;exact List.mem_reverse.1 hx)) ?_;rcases h3 with e|⟨x,hx,e⟩
 · exact Or.inl e
 · exact Or.inr ⟨x,List.mem_reverse.2 hx,e⟩
end
section
structure Dr where
 props:List At
 tags:List ze
 links:List ze
 run:List ze
 load:List ze
 nam:ByteArray
 prio:Int
 own:ByteArray
 grp:ByteArray
 mode:Int
 res:ByteArray
 calls:Int
 ticks:Int
 closed:List Tm
def ZX(l:List At):Prop:=l.Pairwise fun x y=>nm x<nm y
def Zw(l:List At)(k:ze):List At:=l.takeWhile fun x=>decide (nm x<k)
def QF(l:List At)(k:ze):List At:=l.dropWhile fun x=>decide (nm x<k)
def Xk(l:List At)(k:ze):List At:=match QF l k with
 | []=>[]
 |y::r=>if nm y=k then r else y::r
def Xy(l:List At)(x:At):List At:=Zw l (nm x)++((if(L x.val).isEmpty then []else [x])++Xk l (nm x))
theorem VL(l:List At)(k:ze):Zw l k++QF l k=l:=List.takeWhile_append_dropWhile
theorem MF{l:List At}{k:ze}{x:At}(h:x∈Zw l k):nm x<k/\x∈l:=by
 refine⟨?_,(List.takeWhile_sublist _).subset h⟩;unfold Zw at h;induction l with
 |nil=>cases h
 | cons y l ih=>
   rw[List.takeWhile_cons]at h
   split at h
   · rename_i hy;rcases List.mem_cons.1 h with rfl|h
     · simpa using hy
     · exact ih h
   · cases h
theorem MW{l:List At}(ha:ZX l){k:ze}{x:At}(h:x∈QF l k):¬nm x<k/\x∈l:=by
 induction l with
 |nil=>cases h
 | cons y l ih=>
   have ha2:=List.pairwise_cons.1 ha;unfold QF at h;rw[List.dropWhile_cons]at h
   split at h
   · obtain⟨h1,h2⟩:=ih ha2.2 h;exact⟨h1,List.mem_cons_of_mem _ h2⟩
   · rename_i hy;have hy':¬nm y<k:=by simpa using hy
     refine⟨?_,h⟩;rcases List.mem_cons.1 h with rfl|h
     · exact hy'
     · intro hlt;exact hy' (PE (ha2.1 x h) hlt)
theorem jG{l:List At}{k:ze}{x:At}(h:x∈Xk l k):x∈QF l k:=by
 unfold Xk at h
 split at h
 · cases h
 · rename_i y r e;rw[e]
   split at h
   · exact List.mem_cons_of_mem _ h
   · exact h
theorem Ae{l:List At}(ha:ZX l){k:ze}{x:At}(h:x∈Xk l k):k<nm x/\x∈l:=by
 have h0:=jG h;obtain⟨h1,h2⟩:=MW ha h0;refine⟨Fj h1 fun e=>?_,h2⟩;have hp:(QF l k).Pairwise fun x y=>nm x<nm y:=List.Pairwise.sublist (List.dropWhile_sublist _) ha;unfold Xk at h
 split at h
 · cases h
 · rename_i y r et;rw[et]at hp;have hp2:=List.pairwise_cons.1 hp
   split at h
   · rename_i ey;have:=hp2.1 x h;rw[ey,e]at this;exact Ce _ this
   · rename_i ey;rcases List.mem_cons.1 h with rfl|h
     · exact ey e
     · obtain⟨h3,_⟩:=MW ha (x:=y) (k:=k) (by rw[et];exact List.mem_cons_self ..);have:=hp2.1 x h;rw[e]at this;exact h3 this
theorem PJ{l:List At}(ha:ZX l)(x:At):ZX (Xy l x):=by
 unfold ZX Xy;rw[List.pairwise_append,List.pairwise_append];refine⟨List.Pairwise.sublist (List.takeWhile_sublist _) ha,⟨?_,?_,?_⟩,?_⟩
 · split<;>simp
 · unfold Xk;have hp:(QF l (nm x)).Pairwise fun x y=>nm x<nm y:=List.Pairwise.sublist (List.dropWhile_sublist _) ha
   split
   · exact List.Pairwise.nil
   · rename_i y r e;rw[e]at hp
     split
     · exact(List.pairwise_cons.1 hp).2
     · exact hp
 · intro a h1 b h2
   split at h1
   · cases h1
   · obtain rfl:=List.mem_singleton.1 h1;exact(Ae ha h2).1
 · intro a h1 b h2;obtain⟨h3,_⟩:=MF h1;rcases List.mem_append.1 h2 with h2|h2
   · split at h2
     · cases h2
     · obtain rfl:=List.mem_singleton.1 h2;exact h3
   · exact PE h3 (Ae ha h2).1
theorem Nb{l:List At}{x y:At}(h:y∈Xy l x):y∈l∨(y=x/\(L x.val).isEmpty=false):=by
 unfold Xy at h;rcases List.mem_append.1 h with h|h
 · exact Or.inl (MF h).2
 rcases List.mem_append.1 h with h|h
 · split at h
   · cases h
   · rename_i he;exact Or.inr ⟨List.mem_singleton.1 h,by simpa using he⟩
 · exact Or.inl ((List.dropWhile_sublist _).subset (jG h))
theorem BD(l:List At)(k:ze):(Xk l k).length<=(QF l k).length:=by
 unfold Xk
 split
 · exact JR
 · rename_i e;rw[e]
   split<;>simp
theorem IV(l:List At)(x:At):(Xy l x).length<=l.length+1:=by
 have h1:=congrArg List.length (VL l (nm x));have h2:=BD l (nm x);unfold Xy;rw[List.length_append]at h1;rw[List.length_append,List.length_append]
 split<;>simp<;>omega
theorem GY{l:List At}(ha:ZX l){k:ze}{x:At}(h:zT l k=some x):∃r,QF l k=x::r/\Xk l k=r:=by
 obtain⟨h1,h2⟩:=jw h;have h3:x∈QF l k:=by
  rw[<-VL l k]at h2;rcases List.mem_append.1 h2 with h2|h2
  · have:=(MF h2).1;rw[h1]at this;exact absurd this (Ce _)
  · exact h2
 have hp:(QF l k).Pairwise fun x y=>nm x<nm y:=List.Pairwise.sublist (List.dropWhile_sublist _) ha;cases ht:QF l k with
 |nil=>rw[ht]at h3;cases h3
 | cons y r=>
   rw[ht]at h3 hp;have hp2:=List.pairwise_cons.1 hp;have e:y=x:=by
    rcases List.mem_cons.1 h3 with e|h4
    · exact e.symm
    · have h5:=hp2.1 x h4;rw[h1]at h5;exact absurd h5 (MW ha (x:=y) (k:=k) (by rw[ht];exact List.mem_cons_self ..)).1
   subst e;refine⟨r,rfl,?_⟩;unfold Xk;rw[ht];exact if_pos h1
theorem zap{l:List At}{k:ze}(h:zT l k=none):Xk l k=QF l k:=by
 unfold Xk;cases ht:QF l k with
 |nil=>rfl
 | cons y r=>
   refine if_neg fun e=>?_;exact Sb.1 h (List.mem_map.2 ⟨y,(List.dropWhile_sublist _).subset (by show y∈QF l k;rw[ht];exact List.mem_cons_self ..),e⟩)
theorem zi8{l:List At}(ha:ZX l){x y:At}(h:zT l (nm x)=some y):(Xy l x).length<=l.length:=by
 obtain⟨r,h1,h2⟩:=GY ha h;have h3:=congrArg List.length (VL l (nm x));unfold Xy;rw[List.length_append,h1,List.length_cons]at h3;rw[List.length_append,List.length_append,h2]
 split<;>simp<;>omega
def zfl:List ze:=[[68,69,86,78,65,77,69],[68,69,86,80,65,84,72],[68,82,73,86,69,82],[73,78,84,69,82,70,65,67,69],[77,79,68,65,76,73,65,83],[78,85,77,66,69,82],[83,85,66,83,89,83,84,69,77]]
def If(k:ze):Bool:=zfl.contains k
def Ll(d:Dr)(k v:ByteArray):Bool:=If (L k)|| !YO (L v)||((zT d.props (L k)).isNone&&decide (64<=d.props.length))
def Yt(d:Dr)(k v:ByteArray):Dr:=if Ll d k v then d else{d with props:=Xy d.props ⟨k,v⟩}
def JZ:ByteArray:=⟨#[32]⟩
def UJ(d:Dr)(k v:ByteArray):Dr:=if(L v).isEmpty then d else match zT d.props (L k)with
 |some x=>Yt d k ((x.val++JZ++v).extract 0 256)
 |none=>Yt d k v
def Qt(l:List ze)(s:ze)(m:Nat):List ze:=if s∈l∨m<=l.length then l else YY l s
def YB(l:List ze)(s:ze):List ze:=l.filter fun x=> !(x==s)
theorem Mh{l:List ze}(h:l.Pairwise (· < ·))(s:ze)(m:Nat):(Qt l s m).Pairwise (· < ·):=by
 unfold Qt
 split
 · exact h
 · exact zfb h s
theorem OF{l:List ze}{s:ze}{m:Nat}(h:l.length<=m):(Qt l s m).length<=m:=by
 unfold Qt
 split
 · exact h
 · rename_i hn;have:=Es l s;have:¬m<=l.length:=fun e=>hn (Or.inr e);omega
theorem zi1{l:List ze}{s x:ze}{m:Nat}(h:x∈Qt l s m):x∈l∨x=s:=by
 unfold Qt at h
 split at h
 · exact Or.inl h
 · exact(ve _ _ _).1 h
theorem D0{l:List ze}(h:l.Pairwise (· < ·))(s:ze):(YB l s).Pairwise (· < ·):=List.Pairwise.filter _ h
theorem RU(l:List ze)(s:ze):(YB l s).length<=l.length:=List.length_filter_le _ _
end
section
open Go.RowKit
structure M1(w:World)(A:Option Addr)(ds:List (Ls At)):Prop where
 outer:zr w w.heap.size A 1 ds.length (ds.map Ls.v)
 inner:Ys 2 zu id w w.heap.size ds
 cap:∀d∈ds,d.l.length<=d.c
def Km(ds:List (Ls At)):Nat:=(ds.map fun d=>1+d.l.length).sum
theorem Dy(d:Ls At)(r:List (Ls At)):Km (d::r)=1+d.l.length+Km r:=by simp[Km]
theorem zgy(ds:List (Ls At)):ds.length<=Km ds:=by
 induction ds with
 |nil=>exact Nat.zero_le _
 |cons d r ih=>rw[Dy,List.length_cons];omega
theorem M1.dir{w:World}{A:Option Addr}{ds:List (Ls At)}(h:M1 w A ds){i:Nat}(hi:i<ds.length):
 ∃g off,A=some ⟨g,off,none⟩/\g<w.heap.size/\(∀W,Below w.heap.size w W->W.cell? ⟨g,off+i,none⟩=some (.slice ds[i].A ds[i].l.length ds[i].c))/\(∀W,Below w.heap.size w W->zr W W.heap.size ds[i].A 2 ds[i].l.length (cellsOf zu ds[i].l)):=by
 obtain⟨g,off,e,hg,hc⟩:=h.outer.at_ zb;refine⟨g,off,e,hg,fun W hb=>?_,fun W hb=>?_⟩
 · rw[hb.cell (p:=⟨g,off+i,none⟩) hg];exact hc i _ (by rw[List.getElem?_map,List.getElem?_eq_getElem hi];rfl)
 · exact((h.inner _ (List.getElem_mem hi)).keep hb).up hb.size
theorem zr.file{w:World}{B:Nat}{A:Option Addr}{l:List At}(h:zr w B A 2 l.length (cellsOf zu l)){k:Nat}(hk:k<l.length):
 ∃ba off,A=some ⟨ba,off,none⟩/\ba<B/\∀W,Below B w W->W.cell? ⟨ba,off+k*2,none⟩=some (.string l[k].name)/\W.cell? ⟨ba,off+k*2+1,none⟩=some (.string l[k].val):=by
 obtain⟨ba,off,e,hB,hc⟩:=h.cell MQ hk;refine⟨ba,off,e,hB,fun W hb=>⟨?_,?_⟩⟩
 · rw[hb.cell (p:=⟨ba,off+k*2,none⟩) hB];exact hc k _ (List.getElem?_eq_getElem hk) 0 _ rfl
 · rw[hb.cell (p:=⟨ba,off+k*2+1,none⟩) hB];exact hc k _ (List.getElem?_eq_getElem hk) 1 _ rfl
theorem zr.head{w:World}{B k n m:Nat}{A:Option Addr}{xs:List Value}(h:zr w B A k n xs)(hm:m<=n):zr w B A k m (xs.take (m*k)):=by
 refine⟨?_,fun hm0=>?_⟩
 · rw[List.length_take,h.len];have:=Nat.mul_le_mul_right k hm;omega
 · obtain⟨ba,off,e,hB,hc⟩:=h.at_ zb;refine⟨ba,off,e,hB,fun j u hu=>hc j u ?_⟩;rw[List.getElem?_take]at hu
   split at hu
   · exact hu
   · cases hu
theorem Dl{α:Type}(enc:α->List Value)(k:Nat)(hk:∀x,(enc x).length=k)(l:List α)(m:Nat):(cellsOf enc l).take (m*k)=cellsOf enc (l.take m):=by
 induction l generalizing m with
 |nil=>simp[cellsOf]
 | cons x l ih=>
   cases m with
   |zero=>simp[cellsOf]
   | succ m=>
     have e:cellsOf enc (x::l)=enc x++cellsOf enc l:=Xv;have e2:cellsOf enc ((x::l).take (m+1))=enc x++cellsOf enc (l.take m):=Xv;rw[e,e2,List.take_append,hk,<-ih m,List.take_of_length_le Pv,show(m+1)*k - k=m*k from by rw[Nat.add_mul];omega]
theorem bS{w W:World}{b i:Nat}{v:Value}(h:Below w.heap.size w W)(hb:w.heap.size<=b):Below w.heap.size w (W.setCell ⟨b,i,none⟩ v):=h.setCell (p:=⟨b,i,none⟩) hb _
end
section
open Go.RowKit
theorem Qp{w:World}{base base' kk n:Nat}{e:TypeId}{v:Value}{xs:List Value}(h:w.ownsRow base' e kk v n xs)(hb:base<=base'):w.ownsRow base e kk v n xs:=AW
section
variable{α:Type}{TO TI:TypeId}{k:Nat}{enc:α->List Value}{w w':World}{base:Nat}{v:Value}{vs:List Value}{ls:List (List α)}
end
end
section
open Go.RowKit
def Xz(l set:ze):Bool:=l.all fun b=>set.contains b
theorem zf4(l set:ze)(c:UInt8):Xz (l++[c]) set=(Xz l set&&set.contains c):=by simp[Xz]
theorem zfH{set:ze}{k:Nat}(s:ByteArray)(hk:k<s.size)(h:set.contains s[k]=false):Xz (L s) set=false:=by
 rw[Xz,List.all_eq_false];exact⟨s[k],by rw[<-je s k hk];exact List.getElem_mem _,Iy⟩
theorem zjv(c:UInt8):((c.toNat:Int)).toNat.toUInt8=c:=zl
theorem zbT(set:ze)(c:UInt8):(Lib.indexByte set c<0)↔set.contains c=false:=by
 have h1:=Lib.indexByte_ge set c;constructor
 · intro h;have h2:Lib.indexByte set c= -1:=zb;have h3:=Lib.indexByte_none h2;cases hc:set.contains c with
   |false=>rfl
   | true=>
     have hm:c∈set:=by simpa using hc
     obtain⟨k,hk⟩:=List.getElem?_of_mem hm;exact absurd hk (h3 k)
 · intro h;rcases(by omega:Lib.indexByte set c<0∨0<=Lib.indexByte set c)with h2|h2
   · exact h2
   · obtain⟨o,ho⟩:=Int.eq_ofNat_of_zero_le h2;have h3:=(Lib.indexByte_some ho).1;have hm:c∈set:=List.mem_of_getElem? h3;rw[List.contains_eq_mem]at h;simp[hm]at h
theorem jQ(s set:ByteArray)(w:World)(hs:s.size<=9223372036854775807):
 Calls prog 98 #[.string s,.string set] w fun e w'=>e=.returned (.bool (Xz (L s) (L set)))/\w=w':=by
 go_enter func98,ntmps98;go_wp2
 go_loop [5] (fun i=>∃k:Nat,k<=s.size/\i=.int .i64 k/\Hid (Xz ((L s).take k) (L set)=true)) (fun i=>s.size - (intOf i).toNat)
 case atStart=>exact⟨0,Nat.zero_le _,rfl,rfl⟩
 case round=>
  obtain⟨k,hk,rfl,hp⟩:=hrel;by_cases hlt:k<s.size
  · have H:=zbT (L set) s[k];have HC:∀W,Calls prog 125 #[.string set,.int .u8 s[k].toNat] W fun e w'=>e=.returned (.int .i64 (Lib.indexByte (L set) s[k]))/\W=w':=fun W=>
     (strings_IndexByte set s[k].toNat W).mono fun e w' h=>⟨by rw[h.1,zjv],h.2.symm⟩
    generalize Lib.indexByte (L set) s[k]=q at*;have Hq:=za H;clear H;go_wp2_with (go_at_call 125;refine(HC _).mono ?_;rintro e w' ⟨rfl,rfl⟩)
    · go_ret;have hq:q<0:=qk;exact⟨ZT (by rw[zfH s hlt (Hq.out.1 hq)]),rfl⟩
    · have hq:¬q<0:=by omega
      go_round
      case rel=>exact⟨k+1,zb,zP,by
       show Xz _ _=true;rw[Gt s k hlt,zf4,hp.out];cases hc:(L set).contains s[k]with
       |true=>rfl
       |false=>exact absurd (Hq.out.2 hc) hq⟩
      case measure=>simp[intOf];omega
  · go_wp2;go_ret;have h:=hp.out;rw[Gf s k hlt]at h;exact⟨ZT KU,rfl⟩
theorem zbU(f:Nat->Bool)(l:ze)(b:UInt8):qv f l b.toNat=(f b.toNat||l.contains b):=by
 simp only[qv]
 congr 1
 rw[Bool.eq_iff_iff];simp only[List.any_eq_true,beq_iff_eq,List.contains_iff_mem];constructor
 · rintro⟨x,hx,e⟩;have:x=b:=UInt8.toNat_inj.1 e;rw[<-this];exact hx
 · intro h;exact⟨b,h,rfl⟩
theorem zji(b:UInt8):Qn b.toNat=false:=by unfold Qn;rfl
theorem zfO(f:Nat->Bool)(set l:ze)(h:∀b:UInt8,f b.toNat=set.contains b):QP f l=Xz l set:=by
 unfold QP Xz
 congr 1
 funext b
 exact h b
def K3:ze:=[65,66,67,68,69,70,71,72,73,74,75,76,77,78,79,80,81,82,83,84,85,86,87,88,89,90,97,98,99,100,101,102,103,104,105,106,107,108,109,110,111,112,113,114,115,116,117,118,119,120,121,122,48,49,50,51,52,53,54,55,56,57,95,46,58,43,45,33]
theorem zhk(l:ze):QP (qv Yr [33]) l=Xz l K3:=by
 apply zfO;intro b;have e:K3=Ux++(Ry++(Xc++(D3++[33]))):=rfl;simp only[Yr,zbU,zji,e,List.contains_eq_any_beq,List.any_append,Bool.false_or,Bool.or_assoc]
theorem zcO(l:ze):ZY l=(!l.isEmpty&&decide (l.length<=32)&&Xz l K3&& !(l==[46])&& !(l==[46,46])):=by
 rw[ZY,zhk,Bool.not_or];cases(!l.isEmpty)<;>cases decide (l.length<=32)<;>cases Xz l K3<;>cases(l==[46])<;>cases(l==[46,46])<;>rfl
theorem zeT(s:ByteArray)(w:World)(hs:s.size<=9223372036854775807):
 Calls prog 99 #[.string s] w fun e w'=>e=.returned (.bool (qT (L s)))/\w=w':=by
 go_enter func99,ntmps99;go_wp2
 go_loop [3] (fun i=>∃k:Nat,k<=s.size/\i=.int .i64 k/\Hid (qT ((L s).take k)=true)) (fun i=>s.size - (intOf i).toNat)
 case atStart=>exact⟨0,Nat.zero_le _,rfl,rfl⟩
 case round=>
  obtain⟨k,hk,rfl,hp⟩:=hrel;go_wp2
  case roundEnd=>
   go_round
   case rel=>exact⟨k+1,zb,zP,by
    show qT _=true;rw[Gt s k zb,DI,hp.out];simp[pr];omega⟩
   case measure=>simp[intOf];omega
  · exact j8
  · exact j8
  · go_ret;refine⟨ZT ?_,rfl⟩;have h:=hp.out;rw[Gf s k qk]at h;rw[h]
theorem BX(s:ByteArray)(w:World)(hs:s.size<=9223372036854775807):
 Calls prog 77 #[.string s] w fun e w'=>e=.returned (.bool (YO (L s)))/\w=w':=by
 cases hp:qT (L s)
 all_goals
  have HC:=zeT s w hs;rw[hp]at HC;have Hp:=za hp;clear hp;go_enter func77,ntmps77;go_wp2_with (go_at_call 99;refine HC.mono ?_;rintro e w' ⟨rfl,rfl⟩)
  go_ret;exact⟨ZT (by rw[YO,Hp.out,zC];simp<;>omega),rfl⟩
theorem Cq(s:ByteArray)(w:World)(hs:s.size<=9223372036854775807):
 Calls prog 76 #[.string s] w fun e w'=>e=.returned (.bool (ZY (L s)))/\w=w':=by
 have HC:=jQ s (bs K3) w hs;rw[qr]at HC;have HV:=za (zcO (L s));cases hp:Xz (L s) K3
 all_goals
  rw[hp]at HC;have Hp:=za hp;clear hp;go_enter func76,ntmps76;go_wp2_with (go_at_call 98;refine HC.mono ?_;rintro e w' ⟨rfl,rfl⟩)
  all_goals
   go_ret;refine⟨ZT ?_,rfl⟩;rw[HV.out,Hp.out,zC];clear HV HC Hp;simp only[tl]at*;generalize L s=l at*
   first|(have hz:s.size<=32:=zb)|(have hz:¬s.size<=32:=zb)|have hz:=True.intro
   cases hb1:(l==[46])<;>cases hb2:(l==[46,46])<;>cases hb3:l.isEmpty<;>simp_all
end
section
open Go.RowKit
def Ve(w:World)(l:List At)(v:Value)(w':World):Prop:=w'.ownsRow w.heap.size 104 2 v l.length (cellsOf zu l)/\Below w.heap.size w w'
theorem zfp(x:At):∀u∈zu x,u.oneCell'=true:=T0 x
def Z8(ds:List (Ls At)):List At:=ds.flatMap (·.l)
theorem Di{ds:List (Ls At)}{k:Nat}(hk:k<ds.length):Z8 (ds.take (k+1))=Z8 (ds.take k)++ds[k].l:=by
 unfold Z8;rw[List.take_succ_eq_append_getElem hk,List.flatMap_append];simp only[List.flatMap_cons,List.flatMap_nil,List.append_nil]
theorem zhm(ds:List (Ls At)):(Z8 ds).length<=Km ds:=by
 induction ds with
 |nil=>exact Nat.zero_le _
 | cons d r ih=>
   rw[Dy];have:Z8 (d::r)=d.l++Z8 r:=by simp[Z8]
   rw[this,List.length_append];omega
theorem zan(ds:List (Ls At))(k:Nat):(Z8 (ds.take k)).length<=(Z8 ds).length:=by
 have:Z8 ds=Z8 (ds.take k)++Z8 (ds.drop k):=by
  unfold Z8;rw[<-List.flatMap_append,List.take_append_drop]
 rw[this,List.length_append];omega
def zef(w:World)(e:Ending)(w':World):Prop:=∃v,e=.returned v/\w'.ownsRow w.heap.size 104 2 v 0 []/\Below w.heap.size w w'
theorem zcQ(n:Nat)(hn:n<=1000000)(w:World):
 Calls prog 93 #[.slice none 0 0,.int .i64 n] w (zef w):=by
 rcases Nat.eq_zero_or_pos n with rfl|h0
 · go_enter func93,ntmps93;go_wp2;go_ret;exact⟨_,rfl,World.ownsRow_nil _ _ _ _,zk⟩
 · obtain⟨i0,hi0,hz0,hz1,hz2⟩:=info_parts Vc;have hold:(Builtin.firstCells i0.size 0 (.slice none 0 0)).run prog w.drew=.ok ([]:List Value).toArray w.drew:=run_firstCells_none (w:=w.drew) i0.size 0 0 0;have hrz:∀ty,(Builtin.append_ #[31,3] ty #[.slice none 0 0,.int .i64 (n:Int)]).run prog w=.ok (.slice (some ⟨w.heap.size,0,none⟩) n (grownCap w n 0 104)) (w.drew.alloc (.cells (([]:List Value).toArray++Builtin.zeroCells (Value.agg #[.string ⟨#[]⟩,.string ⟨#[]⟩]).cells n++Builtin.zeroCells (Value.agg #[.string ⟨#[]⟩,.string ⟨#[]⟩]).cells (grownCap w n 0 104 - n)) 104)):=fun ty=>by
    have h:=Lib.run_append_grow_zeros w 31 3 ty 104 i0 _ .i64 .i64 underlying31 underlying3 hi0 hz0 none 0 0 [] hold n h0 G2 zb zb (by rw[hz2];omega) (by rw[hz2,Nat.zero_add];exact growslice_fits h0 zb);rw[Nat.zero_add]at h;exact h
   have hGn:n<=grownCap w n 0 104:=grownCap_ge w _ _ _;have hG63:grownCap w n 0 104<=maxLen:=grownCap_le_maxLen w n 0 104 qh;generalize grownCap w n 0 104=G at*;have h1:¬((n:Int)<0):=zb;have h4:(n:Int)>0:=zb;have hG64:G<=9223372036854775807:=by unfold maxLen at hG63;omega
   clear hold hi0 hz0 hz1 hz2;go_enter func93,ntmps93;go_wp2_with (at_builtin;refine Lib.wpList_append_run _ rfl _ _ _ _ rfl _ _ rfl rfl _ _ (hrz _) ?_)
   all_goals
    go_ret;exact⟨_,rfl,⟨rfl,Or.inr ⟨w.heap.size,G,_,rfl,zo,heap_alloc_new w _,Nat.zero_le _,hG63,by simp[size_zeroCells];omega,zl⟩⟩,(zI w _).drew⟩
theorem zfN(A:Option Addr)(c:Nat)(ds:List (Ls At))(w:World)(h:M1 w A ds)(hb:Km ds<=100000):
 Calls prog 74 #[.slice A ds.length c] w fun e w'=>∃v,e=.returned v/\Ve w (Z8 ds) v w':=by
 have H:=za h;have hM:ds.length<=100000:=Nat.le_trans (zgy ds) hb;have hcl:=Nat.le_trans (zhm ds) hb;have HT:=za (fun k=>Nat.le_trans (zan ds k) hcl);have HFull:Hid (Z8 (ds.take ds.length)=Z8 ds):=za (by rw[List.take_length]);clear h hb;generalize hMM:ds.length=M at*;have HM:=za hMM;clear hMM;obtain⟨i0,hi0,hz0,hz1,hz2⟩:=info_parts Vc;have Hi0:=za hi0;have Hz0:=za hz0;have Hz1:=za hz1;have Hz2:=za hz2;clear hi0 hz0 hz1 hz2;go_enter func74,ntmps74;go_wp2;go_loopg [3,5,11] (M+1) (fun gk s3 _ s11 wr=>∃(k b:Nat),s3=.int .i64 b/\s11=.int .i64 k/\k+gk=M+1/\k<=M/\b<=100000/\Hid ((Z8 (ds.take k)).length=b)/\Hid (Below w.heap.size w wr))
 case atStart=>exact⟨0,0,rfl,rfl,zb,Nat.zero_le _,zb,(by exact rfl),zk⟩
 case round=>
  obtain⟨k,b,rfl,rfl,hkg,hkM,hb1,hbe,hB⟩:=hrel;by_cases hlt:k<M
  · have hltI:(k:Int)<(M:Int):=by omega
    have hk':k<ds.length:=Rb;obtain⟨g,off,rfl,hg,hcell,hrow⟩:=H.out.dir hk';have hT1:=HT.out (k+1);have hn2:(Z8 (ds.take (k+1))).length=(Z8 (ds.take k)).length+ds[k].l.length:=by rw[Di hk',List.length_append]
    rw[hbe.out]at hn2;rw[hn2]at hT1;have HN2:=za hn2;have hc0:=hcell wr hB.out;clear hcell hrow hn2;generalize ds[k]=d at*;obtain⟨dA,dc,dl⟩:=d;dsimp only at*;generalize dl.length=N at*;have hN0:¬((b:Int)+(N:Int)<0):=zb;go_wp2;go_roundg (gk - 1)
    case measure=>omega
    case rel=>exact⟨k+1,b+N,zP,zP,zb,zb,hT1,HN2.out,hB.out⟩
  · obtain rfl:k=M:=by omega
    have hbb:=hbe.out;rw[HFull.out]at hbb;have HBb:=za hbb;clear hbb hbe;have hN1:b<=1000000:=zb;have HG:=za (fun n hn=>zcQ n hn wr);go_wp2_with (go_at_call 93;refine(HG.out _ hN1).mono ?_;rintro e w2 ⟨v,rfl,hown,hb2⟩;have HO:=za hown;have HB2:=za hb2;clear hown hb2)
    have HBw:=za (bt hB.out HB2.out);have hws:=hB.out.size;obtain⟨w2o,rfl⟩:∃w2o:World,w2o=w2:=⟨_,rfl⟩;obtain⟨wo,rfl⟩:∃wo:World,wo=wr:=⟨_,rfl⟩;go_loopg [6,8,27] (k+1) (fun gk s6 _ s27 wr=>∃(m:Nat) (u:Value),u=s6/\s27=.int .i64 m/\m+gk=k+1/\m<=k/\Hid (Ve w (Z8 (ds.take m)) u wr))
    case atStart=>exact⟨0,_,rfl,rfl,zb,Nat.zero_le _,⟨by rw[List.take_zero];exact Qp HO.out hws,HBw.out⟩⟩
    case round=>
     obtain⟨m,u,rfl,rfl,hmg,hmk,hO⟩:=hrel;have hT2:=HT.out m;by_cases hltm:m<k
     · have hltI:(m:Int)<(k:Int):=by omega
       have hk':m<ds.length:=by rw[HM.out];exact hltm
       obtain⟨g,off,rfl,hg,hcell,hrow⟩:=H.out.dir hk';have HN:=za (Di hk');have hT3:=HT.out (m+1);have hn2:(Z8 (ds.take (m+1))).length=(Z8 (ds.take m)).length+ds[m].l.length:=by rw[HN.out,List.length_append]
       have hc0:=hcell wr hO.out.2;have HR:=za (hrow wr hO.out.2);have hO':=hO;have hwx:w.heap.size<=wr.heap.size:=hO.out.2.size;clear hcell hrow hO;obtain⟨b1,hb1⟩:∃b1,Z8 (ds.take (m+1))=b1:=⟨_,rfl⟩;rw[hb1]at HN hT3 hn2;have HB1:=za hb1;clear hb1;generalize Z8 (ds.take m)=b0 at*;generalize ds[m]=d at*;obtain⟨dA,dc,dl⟩:=d;dsimp only at*;have HO':=za hO'.out.1;have HOb:=za hO'.out.2;clear hO';rw[hn2]at hT3;clear hn2;generalize hdl:dl.length=N at*;generalize hbl:b0.length=N0 at*;have HDl:=za hdl;have HBl:=za hbl;clear hdl hbl;go_wp2_with (at_builtin;go_loud (refine PQ rfl (.tmp 31) (.tmp 32) 31 rfl w.heap.size 104 i0 _ 2 32 underlying31 Hi0.out Hz0.out Hz1.out Hz2.out rfl zb u N0 (cellsOf zu b0) zj HO'.out dA N dc _ (cellsOf zu dl) zj HR.out (fun y hy=>by obtain⟨q,_,hq⟩:=List.mem_flatMap.1 hy;exact zfp _ _ hq) qh zb zb ?_;intro v4 w4 hown4 hgrow4 hloc4 hnn4))
       have HO4:Hid (Ve w b1 v4 w4):=za ⟨by rw[HN.out,List.length_append,XP,HBl.out,HDl.out];exact hown4,HOb.out.grown hgrow4 zb (fun j e=>(HO'.out.lt j e).1)⟩;clear hown4 hgrow4 hloc4 hnn4;go_wp2;go_roundg (gk - 1)
       case measure=>omega
       case rel=>exact⟨m+1,_,rfl,zP,zb,zb,by rw[HB1.out];exact HO4.out⟩
     · obtain rfl:m=k:=by omega
       rw[HFull.out]at hO;go_wp2;go_ret;exact⟨_,rfl,hO.out⟩
end
section
open Go.RowKit Go.Maps
abbrev DW:=DataW Unit
theorem Il(s:ze):WideAt.IsKeyLit (.string s):=Ak
theorem TG{a b:ze}(h:a≠b):(Lit.string a)≠Lit.string b:=fun e=>h (by injection e)
end
section
def Zf(c:UInt8)(s:ByteArray):List ByteArray:=Lib.splitB ⟨#[c]⟩ 0 (Lib.countB s ⟨#[c]⟩) s
def Qz:Nat->Bool:=qv Yr [64,35,61,37]
def UK(p:ze):Bool:= !p.isEmpty&& !(p==[46]||p==[46,46])&&QP Qz p
def Gz(s:ByteArray):Bool:=decide (s.size<=256)&&(Zf 47 s).all fun p=>UK (L p)
def X0(s:ze):Bool:=ZY s&&decide (s.length<=15)&&s.all fun b=> !(b==58||b==33)
def UC(s:ze):ze:=s.map fun b=>if qv Qz [47] b.toNat then b else 95
def kL(p:ze):Bool:= !p.isEmpty&& !(p==[46])
def VT(s:ByteArray):ByteArray:=bs (Lib.join (((Zf 47 (bs (UC (L s)))).map L).filter kL) [47])
def JA(s:ByteArray):Option ByteArray:=if Gz (VT s)then some (VT s)else none
def Yg(s:ByteArray):List ByteArray:=Lib.goFieldsP (fun n=>n==32) s
def U6(s:ze):Bool:=decide (1<=s.length)&&decide (s.length<=4)&&s.all fun b=>decide (48<=b.toNat)&&decide (b.toNat<=55)
def Gi(s:ze):Int:=s.foldl (fun n b=>8*n+((b.toNat:Int) - 48)) 0
def Vi(s:ze):Option Int:=match Lib.atoiAll s with
 | .ok v=>if Lib.itoa v==s&&decide (-1000<=v)&&decide (v<=1000)then some v else none
 |_=>none
def Uu(v:ByteArray):Bool:= !(L v).isEmpty&&YO (L v)
def kh(d:Dr)(op:Int)(v:ByteArray):Dr:=if ZY (L v)then(if op=3 then{d with tags:=[L v]}else if op=4 then{d with tags:=Qt d.tags (L v) 16}else if op=5 then{d with tags:=YB d.tags (L v)}else d)else d
def Zo(op:Int)(l:List ze)(w:ByteArray):List ze:=match JA w with
 |some s=>if op=5 then YB l (L s)else Qt l (L s) 16
 |none=>l
def XA(d:Dr)(op:Int)(v:ByteArray):Dr:={d with links:=(Yg v).foldl (Zo op) (if op=3∨op=6 then []else d.links)}
def JP(d:Dr)(op:Int)(v:ByteArray):Dr:=
 let l:=if op=4 then d.run else []
 {d with run:=if Uu v&&decide (l.length<16)then l++[L v]else l}
def ZV(d:Dr)(t:Tm)(v:ByteArray):Dr:=
 if t.key=6 then(if t.op=4 then UJ d t.name v else Yt d t.name v)
 else if t.key=7 then kh d t.op v
 else if t.key=15 then(if X0 (L v)then{d with nam:=v}else d)
 else if t.key=16 then XA d t.op v
 else if t.key=17 then(if ZY (L v)then{d with own:=v}else d)
 else if t.key=18 then(if ZY (L v)then{d with grp:=v}else d)
 else if t.key=19 then(if U6 (L v)then{d with mode:=Gi (L v)}else d)
 else if t.key=20 then JP d t.op v
 else if t.key=21 then(if Uu v then{d with load:=Qt d.load (L v) 16}else d)
 else if t.key=22 then(match Vi (L v)with|some n=>{d with prio:=n}|none=>d)
 else d
def kZ(t:Tm):Tm:=⟨t.key,t.name,0,⟨#[]⟩⟩
def R4(d:Dr)(t:Tm):Bool:=d.closed.any fun c=>c.key==t.key&&L c.name==L t.name
def XX(d:Dr)(t:Tm)(v:ByteArray):Dr:=
 if R4 d t then d else if t.op=6 then{ZV d t v with closed:=(ZV d t v).closed++[kZ t]}else ZV d t v
def XY(d:Dr)(l:List At):Dr:=l.foldl (fun d p=>if Xu (L p.name)&& !(L p.val).isEmpty then Yt d p.name p.val else d) d
def yU:ByteArray:=⟨#[114,111,111,116]⟩
def TM(base:List At):Dr:=⟨base,[],[],[],[],⟨#[]⟩,0,yU,yU,384,⟨#[]⟩,0,0,[]⟩
end
section
open Go.RowKit
theorem zgQ{l:List At}{n:ze}{k:Nat}{x:At}(hx:l[k]? =some x)(hno:∀(j:Nat) (y:At),j<k->l[j]? =some y->(L y.name==n)=false)(hyes:(L x.name==n)=true):zT l n=some x:=by
 induction l generalizing k with
 |nil=>simp at hx
 | cons y l ih=>
   cases k with
   | zero=>
     simp at hx;subst hx;simp only[zT,nm,List.find?_cons,hyes]
   | succ k=>
     have h0:=hno 0 y zb zl;have:=ih (k:=k) Ka (fun j z hj hz=>hno (j+1) z zb IT);simp only[zT,nm,List.find?_cons,h0]at this⊢;exact this
theorem zbc{l:List At}{n:ze}(hno:∀(j:Nat) (y:At),l[j]? =some y->(L y.name==n)=false):zT l n=none:=by
 unfold zT;rw[List.find?_eq_none];intro x hx;obtain⟨j,hj⟩:=List.getElem?_of_mem hx;rw[show(nm x==n)=false from hno j x hj];simp
theorem zcJ{W:World}{b:Nat}{e:TypeId}{sz:Nat}{v:Value}{n:Nat}{xs:List Value}(h:W.ownsRow b e sz v n xs):∃A c,v=.slice A n c/\n<=c:=by
 rcases h.2 with⟨h1,h2⟩|⟨g',cap,cur,h1,_,_,hr,_⟩
 · exact⟨_,_,by rw[h2];exact h1,zb⟩
 · exact⟨_,_,h1,hr⟩
end
section
open Go.RowKit
def Jp:Option At->Value
 |some x=>.tuple #[.string x.val,.bool true]
 |none=>.tuple #[.string ⟨#[]⟩,.bool false]
def Vg(o:Option At)(w:World)(e:Ending)(w':World):Prop:=e=.returned (Jp o)/\Below w.heap.size w w'
theorem KE(A:Option Addr)(c:Nat)(l:List At)(nm:ByteArray)(w:World)(h:zr w w.heap.size A 2 l.length (cellsOf zu l))(hl:l.length<=4611686018427387904):
 Calls prog 27 #[.slice A l.length c,.string nm] w (Vg (zT l (L nm)) w):=by
 have H:=za h;clear h;generalize hN:l.length=N at hl⊢;have HN:=za hN;clear hN;go_enter func27,ntmps27;go_wp2
 go_loopw [10] (fun i wr=>∃k:Nat,k<=N/\i=.int .i64 k/\Hid (∀(j:Nat) (y:At),j<k->l[j]? =some y->(L y.name==L nm)=false)/\Hid (Below w.heap.size w wr)) (fun i _=>N - (intOf i).toNat)
 case atStart=>exact⟨0,Nat.zero_le _,rfl,fun j y hj=>absurd hj zb,zk⟩
 case round=>
  obtain⟨k,hk,rfl,hp,hB⟩:=hrel;by_cases hlt:k<N
  · have hlt':k<l.length:=by rw[HN.out];exact hlt
    have hltI:(k:Int)<(N:Int):=zb;obtain⟨ba,off,rfl,hBa,hc⟩:=H.out.cell MQ hlt';obtain⟨x,hx⟩:∃x,l[k]? =some x:=⟨_,List.getElem?_eq_getElem hlt'⟩;have c0:wr.cell? ⟨ba,off+k*2,none⟩=some (.string x.name):=(hB.out.cell (p:=⟨ba,off+k*2,none⟩) hBa).trans (hc k x hx 0 _ rfl);have c1:wr.cell? ⟨ba,off+k*2+1,none⟩=some (.string x.val):=(hB.out.cell (p:=⟨ba,off+k*2+1,none⟩) hBa).trans (hc k x hx 1 _ rfl);have HX:=za hx;have HB2:=za (bt hB.out (zI wr (.cells #[.string x.name,.string x.val] 104)));clear hx hc hlt';cases hq:(x.name.toList==nm.toList)
    · go_wp2
      go_roundw
      case rel=>
       refine⟨k+1,zb,zP,fun j y hj hy=>?_,HB2.out⟩;rcases(by omega:j=k∨j<k)with e|e
       · subst e;rw[HX.out]at hy;injection hy with hy
         rw[<-hy,<-tl,<-tl];exact hq
       · exact hp.out j y e hy
      case measure=>simp[intOf];omega
    · have e1:=zgQ HX.out hp.out (by rw[<-tl,<-tl];exact hq);have E1:=za e1;clear e1;go_wp2;go_ret2;exact⟨by rw[E1.out];rfl,HB2.out⟩
  · have e1:=zbc (l:=l) (n:=L nm) (fun j y hy=>hp.out j y (by have:=(List.getElem?_eq_some_iff.1 hy).1;rw[HN.out]at this;omega) hy);have E1:=za e1;clear e1;go_wp2;go_ret2;exact⟨by rw[E1.out];rfl,hB.out⟩
end
section
def Zl(l:List ze)(s:ze):Nat:=(l.takeWhile fun x=>decide (x<s)).length
theorem Rj(l:List ze)(s:ze):Zl l s<=l.length:=List.IsPrefix.length_le (List.takeWhile_prefix _)
theorem vy{l:List ze}{s:ze}{t:Nat}(h:t<Zl l s):∃h':t<l.length,l[t]<s:=by
 have hp:l.takeWhile (fun x=>decide (x<s))<+:l:=List.takeWhile_prefix _;have h1:t<l.length:=Nat.lt_of_lt_of_le h (Rj l s);refine⟨h1,?_⟩;have h2:=List.IsPrefix.getElem hp (i:=t) h;rw[<-h2];have:=List.all_takeWhile (p:=fun x=>decide (x<s)) (l:=l);have:=List.all_eq_true.1 this _ (List.getElem_mem (l:=l.takeWhile fun x=>decide (x<s)) (n:=t) h);exact QU
theorem j3(s:ze):¬s<s:=List.lt_irrefl s
theorem jt:∀{l:List ze},l.Pairwise (· < ·)->∀{s:ze} {t:Nat},Zl l s<=t->∀h:t<l.length,¬l[t]<s
 | [],_,_,_,_,h=>qG
 | x ::r,hs,s,t,hk,h=>by
   obtain⟨h1,h2⟩:=List.pairwise_cons.1 hs;by_cases hx:x<s
   · have e:Zl (x::r) s=Zl r s+1:=by unfold Zl;rw[List.takeWhile_cons,if_pos (decide_eq_true hx)];rfl
     cases t with
     |zero=>omega
     |succ t=>exact jt h2 zb XD
   · cases t with
     |zero=>exact hx
     | succ t=>
       intro hlt;have hm:r[t]' XD∈r:=List.getElem_mem _;exact hx (List.lt_trans (h1 _ hm) hlt)
theorem vC:∀{l:List ze},l.Pairwise (· < ·)->∀{s:ze},s∉l->YY l s=l.take (Zl l s)++s::l.drop (Zl l s)
 | [],_,_,_=>rfl
 | x ::r,hs,s,hn=>by
   obtain⟨h1,h2⟩:=List.pairwise_cons.1 hs;rw[YY];by_cases hx:x<s
   · have e:Zl (x::r) s=Zl r s+1:=by unfold Zl;rw[List.takeWhile_cons,if_pos (decide_eq_true hx)];rfl
     rw[if_pos hx,e,List.take_succ_cons,List.drop_succ_cons,List.cons_append,<-vC h2 (fun hm=>hn (List.mem_cons_of_mem _ hm))]
   · have e:Zl (x::r) s=0:=by unfold Zl;rw[List.takeWhile_cons,if_neg Ka];rfl
     rw[if_neg hx,if_neg (fun e2=>hn (by rw[e2];exact List.mem_cons_self)),e];rfl
theorem zi3{l:List ze}(hs:l.Pairwise (· < ·))(s:ze):s∈l↔∃h:Zl l s<l.length,l[Zl l s]=s:=by
 constructor
 · intro hm;obtain⟨t,ht,e⟩:=List.getElem_of_mem hm;have h1:Zl l s<=t:=by
    rcases Nat.lt_or_ge t (Zl l s)with k|k
    · obtain⟨_,k2⟩:=vy k;rw[e]at k2;exact absurd k2 (j3 s)
    · exact k
   have h2:t<=Zl l s:=by
    rcases Nat.lt_or_ge (Zl l s) t with k|k
    · have h3:=jt hs (Nat.le_refl (Zl l s)) zb;have h4:=List.pairwise_iff_getElem.1 hs (Zl l s) t zb ht k;rw[e]at h4;exact absurd h4 h3
    · exact k
   obtain rfl:t=Zl l s:=zb;exact⟨ht,e⟩
 · rintro⟨h,e⟩;rw[<-e];exact List.getElem_mem _
end
section
open Go.RowKit
def iV(l:List Int):List Value:=l.map (Value.int .i64)
theorem zgH{l:List Int}{j:Nat}(h:j<l.length):(iV l)[j]? =some (.int .i64 l[j]):=by
 unfold iV;rw[List.getElem?_map,List.getElem?_eq_getElem h];rfl
theorem ze3:(prog.info? 3).map (fun i=>(i.zero,i.size,i.bytes))=some (some (.int .i64 0),1,8):=zg
abbrev N3(w:World)(B:Nat)(A:Option Addr)(l:List Int):Prop:=zr w B A 1 l.length (iV l)
theorem N3.cell{w wr:World}{B:Nat}{A:Option Addr}{l:List Int}(h:N3 w B A l)(hb:Below B w wr){k:Nat}(hk:k<l.length):∃ba off,A=some ⟨ba,off,none⟩/\wr.cell? ⟨ba,off+k,none⟩=some (.int .i64 l[k]):=by
 obtain⟨ba,off,e,hB,hc⟩:=h.at_ zb;exact⟨ba,off,e,(hb.cell (p:=⟨ba,off+k,none⟩) hB).trans (hc k _ (zgH hk))⟩
theorem BP(A A':Option Addr)(c c':Nat)(l:List Int)(w:World)(hn:l.length<=4000000)(h:N3 w w.heap.size A l)(h':N3 w w.heap.size A' l):
 Calls prog 28 #[.slice A l.length c,.slice A' l.length c'] w fun e w'=>e=.returned (.bool true)/\Below w.heap.size w w':=by
 have H:=za h;have H':=za h';clear h h';generalize hN:l.length=N at*;have HN:=za hN;clear hN;go_enter func28,ntmps28;go_wp2
 go_loopw [5] (fun i wr=>∃k:Nat,k<=N/\i=.int .i64 k/\Hid (Below w.heap.size w wr)) (fun i _=>N - (intOf i).toNat)
 case atStart=>exact⟨0,Nat.zero_le _,rfl,zk⟩
 case round=>
  obtain⟨k,hk,rfl,hB⟩:=hrel;by_cases hlt:k<N
  · have hk':k<l.length:=by rw[HN.out];exact hlt
    have hr:=H.out;have hr':=H'.out;obtain⟨ba,off,rfl,c0⟩:=hr.cell hB.out hk';obtain⟨ba',off',rfl,d0⟩:=hr'.cell hB.out hk';have hltI:(k:Int)<(N:Int):=zb;generalize l[k]=x at*;clear hr hr' hk';go_wp2;go_quiet (fail)
    go_wp2
    go_roundw
    case rel=>exact⟨k+1,zb,zP,ZN hB.out _⟩
    case measure=>simp[intOf];omega
  · obtain rfl:k=N:=by omega
    go_wp2;go_ret;exact⟨rfl,hB.out⟩
end
end Go.Proofs.YtobcmlmbblgcdaaGreatDoor
