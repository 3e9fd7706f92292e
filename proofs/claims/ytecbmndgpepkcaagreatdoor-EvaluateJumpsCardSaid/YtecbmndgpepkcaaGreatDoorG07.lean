/- Contracts of functions that the law reaches, and what they rest on; each under the premises that it names. Shortened by a program. -/
import Derived.Lib.Case
import Derived.Test.YtecbmndgpepkcaaGreatDoorG06
import Derived.Lib.IndexLaws
import Derived.Lib.AppendZerosOnto
import Derived.Maps.Views
import Derived.Maps.Own
import Derived.Maps.OwnSet
import Derived.Maps.StringElems
import Derived.Lib.Split
import Derived.Lib.Join
import Derived.Lib.FieldsP
import Derived.Lib.AtoiAll
namespace Go.Proofs.YtecbmndgpepkcaaGreatDoor
open Tryz
set_option maxHeartbeats 8000000
set_option maxRecDepth 100000
section
open Go.RowKit
theorem S5(w:World):(Instr.build 256 #[]).run prog w=.ok (.agg (setA Qp)) w:=run_build w 256 #[] (setA Qp) zg
def Uk:ze:=[65,66,67,68,69,70,71,72,73,74,75,76,77,78,79,80,81,82,83,84,85,86,87,88,89,90]
def Oy:ze:=[97,98,99,100,101,102,103,104,105,106,107,108,109,110,111,112,113,114,115,116,117,118,119,120,121,122]
def Xa:ze:=[48,49,50,51,52,53,54,55,56,57]
def DV:ze:=[95,46,58,43,45]
def YB:Nat->Bool:=qt (qt (qt (qt Qp Uk) Oy) Xa) DV
def ZT(l:ze):Bool:= !l.isEmpty&&decide (l.length<=32)&& !(l==[46]||l==[46,46])&&QO (qt YB [33]) l
def Uu(l:ze):Bool:= !l.isEmpty&&decide (l.length<=32)&&QO (qt Qp Uk) (l.take 1)&&QO (qt (qt (qt Qp Uk) Xa) [95]) l
theorem zhD(j:Nat)(b:UInt8)(h:Uk[j]? =some b):b.toNat<128:=by
 have hm:b∈Uk:=List.mem_of_getElem? h
 revert b
 intro b _ hm;simp only[Uk,List.mem_cons,List.not_mem_nil,or_false]at hm;exact E4
theorem zgw:qt (qt (qt (qt Qp (L ⟨#[65,66,67,68,69,70,71,72,73,74,75,76,77,78,79,80,81,82,83,84,85,86,87,88,89,90]⟩)) (L ⟨(Lib.toLowerA [65,66,67,68,69,70,71,72,73,74,75,76,77,78,79,80,81,82,83,84,85,86,87,88,89,90]).toArray⟩)) (L ⟨#[48,49,50,51,52,53,54,55,56,57]⟩)) (L ⟨#[95,46,58,43,45]⟩)=YB:=by
 have e:Lib.toLowerA [65,66,67,68,69,70,71,72,73,74,75,76,77,78,79,80,81,82,83,84,85,86,87,88,89,90]=Oy:=zi;rw[e];rfl
theorem D8(w:World):
 Calls prog 219 #[] w fun e w'=>e=.returned (.agg (setA YB))/\Below w.heap.size w w':=by
 have hz:=(zero_of_info kT).1;have hb:=S5;have Hi:=za (zero_of_info kT).2;go_enter func219,ntmps219;have hn:=heap_alloc_new w (.cells (setA Qp) 256);go_wp2_with fail
 refine(VV _ _ _ zi).mono ?_;rintro e w1 ⟨rfl,h1⟩;go_wp2_with fail
 refine(strings_ToLower_ascii _ _ zi zhD).mono ?_;rintro e w2 ⟨rfl,h2⟩;go_wp2_with fail
 refine(VV _ _ _ zi).mono ?_;rintro e w3 ⟨rfl,h3⟩;go_wp2_with fail
 refine(VV _ _ _ zi).mono ?_;rintro e w4 ⟨rfl,h4⟩;go_wp2_with fail
 refine(VV _ _ _ zi).mono ?_;rintro e w5 ⟨rfl,h5⟩;rw[zgw];have q1:Below (w.heap.size+1) (w.alloc (.cells (setA Qp) 256)) w5:=by
  have s1:=h1.size;have s2:=h2.size;have s3:=h3.size;have s4:=h4.size;simp only[World.size_alloc]at s1 h1;exact(((h1.trans (h2.mono s1)).trans (h3.mono zb)).trans (h4.mono zb)).trans (h5.mono zb)
 have q0:Below w.heap.size w w5:=((Below.refl w.heap.size w).alloc zo _).trans (q1.mono zb);have H2:=za ((q1.block w.heap.size zb).trans hn);have H3:=za (Xm YB);have H4:=za (If YB);have H5:=za (Xm Qp);have Q0:=za q0;clear q0 q1 hn h1 h2 h3 h4 h5 hz hb;go_wp2_with (refine wpList_store_row rfl 256 _ _ rfl _ _ rfl rfl _ _ H2.out GA (by rw[H3.out,H5.out]) H4.out ?_)
 refine bodyPost_ret (v:=.agg (setA YB)) (results_cell_row rfl _ _ w.heap.size 256 (setA YB) (0,0) _ rfl (setRow_heap _ _ _ _ _ _ H2.out) underlying256 rfl GA) rfl ⟨rfl,?_⟩;exact NW Q0.out zo _
theorem Po:zeroCells256=setA Qp:=zg
theorem ES(s:ByteArray)(w:World):
 Calls prog 218 #[.string s] w fun e w'=>e=.returned (.bool (L s==[46]||L s==[46,46]))/\w=w':=by
 go_enter func218,ntmps218;go_wp2
 · go_ret;have h:s.toList=[46]:=qj;exact⟨ZD (by rw[<-tl,h];rfl),rfl⟩
 · go_ret;have h:¬s.toList=[46]:=qj;exact⟨ZD (by rw[<-tl]),rfl⟩
theorem GQ(s:ByteArray)(w:World)(hs:s.size<=9223372036854775807):
 Calls prog 169 #[.string s] w fun e w'=>e=.returned (.bool (ZT (L s)))/\Below w.heap.size w w':=by
 have HD:=ES s w;cases hd:(L s==[46]||L s==[46,46])
 · rw[hd]at HD;have Hd:=za hd;clear hd;go_enter func169,ntmps169;go_wp2_with (first|(go_at_call 218;refine HD.mono ?_;rintro e w' ⟨rfl,rfl⟩)|(go_at_call 219;refine(D8 _).mono ?_;rintro e w1 ⟨rfl,h1⟩)|(go_at_call 188;refine(VV _ _ _ zi).mono ?_;rintro e w2 ⟨rfl,h2⟩)|(go_at_call 189;refine(Mg _ _ _ hs).mono ?_;rintro e w3 ⟨rfl,h3⟩))
   · go_ret;have h:=JU (s:=s) qj;exact⟨ZD (by rw[h];rfl),zk⟩
   · go_ret;have h:=XL (s:=s) qj;have hz:(s.size:Int)<=32:=qj;refine⟨ZD ?_,(h1.trans (h2.mono h1.size)).trans (h3.mono (Nat.le_trans h1.size h2.size))⟩;rw[ZT,tl,h,Hd.out,zC];simp;intro _;omega
   · go_ret;have hz:32<(s.size:Int):=qj;exact⟨ZD (by rw[ZT,zC];simp;omega),zk⟩
 · rw[hd]at HD;have Hd:=za hd;clear hd;go_enter func169,ntmps169;go_wp2_with (first|(go_at_call 218;refine HD.mono ?_;rintro e w' ⟨rfl,rfl⟩))
   all_goals
    go_ret;exact⟨ZD (by rw[ZT,Hd.out];simp),zk⟩
theorem Ri(s:ByteArray)(w:World)(hs:s.size<=9223372036854775807):
 Calls prog 155 #[.string s] w fun e w'=>e=.returned (.bool (Uu (L s)))/\Below w.heap.size w w':=by
 have hzc:=Po;by_cases h0:s.toList=[]
 · go_enter func155,ntmps155;go_wp2;go_region
   all_goals go_wp2
   all_goals go_ret
   exact⟨ZD (by rw[JU h0];rfl),zk.drew⟩
 have he:s.toList.isEmpty=false:=by rw[tl];exact XL h0
 by_cases h1:(s.size:Int)<=32
 · have hd:decide ((s.size:Int)<=32)=true:=by simpa using h1
   have h2:(1:Int)<=(s.size:Int):=by
    rcases Nat.eq_zero_or_pos s.size with h|h
    · exfalso;apply h0;rw[tl];exact List.eq_nil_of_length_eq_zero Vz
    · omega
   have e1:(L (s.extract 0 1))=(L s).take 1:=by simp[L,ByteArray.data_extract]
   have hz:(s.extract 0 1).size<=9223372036854775807:=by rw[<-zC,e1,List.length_take];omega
   have HU:∀W,Calls prog 189 #[.agg (setA (qt Qp Uk)),.string (s.extract 0 1)] W fun e w'=>e=.returned (.bool (QO (qt Qp Uk) ((L s).take 1)))/\Below W.heap.size W w':=fun W=>by
    have:=Mg (qt Qp Uk) (s.extract 0 1) W hz;rw[e1]at this;exact this
   clear hz e1;cases hu:QO (qt Qp Uk) ((L s).take 1)
   · rw[hu]at HU;have Hu:=za hu;clear hu;go_enter func155,ntmps155;go_wp2;refine wp_region_held_drew (S:=fun _=>True) zg ?_ (fun hHeld=>?_)
     · trivial
     refine wpAnyH_take (i:=0) (v:=?_) Mn zg zg zg qf (Or.inl ⟨zj,?_⟩) qj ?_
     rotate_left
     · exact qs
     try simp only[Act.put,List.setIfInBounds_toArray,List.set_cons_zero,List.set_cons_succ]
     refine wpAnyH_take (i:=1) (v:=?_) zX zg zg zg qf (Or.inl ⟨zj,?_⟩) qj ?_
     rotate_left
     · exact qs
     try simp only[Act.put,List.setIfInBounds_toArray,List.set_cons_zero,List.set_cons_succ]
     refine wpAnyH_take (i:=2) (v:=?_) zX zg zg zg qf (Or.inl ⟨zj,?_⟩) qj ?_
     rotate_left
     · exact qs
     try simp only[Act.put,List.setIfInBounds_toArray,List.set_cons_zero,List.set_cons_succ]
     refine wpAnyH_take (i:=3) (v:=?_) zX zg zg zg qf (Or.inl ⟨zj,?_⟩) qj ?_
     rotate_left
     · exact qs
     try simp only[Act.put,List.setIfInBounds_toArray,List.set_cons_zero,List.set_cons_succ]
     refine wpAnyH_take (i:=4) (v:=?_) zX zg zg zg qf (Or.inl ⟨zj,?_⟩) qj ?_
     rotate_left
     · exact qs
     try simp only[Act.put,List.setIfInBounds_toArray,List.set_cons_zero,List.set_cons_succ]
     refine wpAnyH_take (i:=5) (v:=?_) zX zg zg zg qf (Or.inl ⟨zj,?_⟩) qj ?_
     rotate_left
     · exact qs
     try simp only[Act.put,List.setIfInBounds_toArray,List.set_cons_zero,List.set_cons_succ]
     refine wpAnyH_take (i:=6) (v:=?_) zX zg zg zg qf (Or.inl ⟨zj,?_⟩) qj ?_
     rotate_left
     · exact qs
     try simp only[Act.put,List.setIfInBounds_toArray,List.set_cons_zero,List.set_cons_succ]
     refine wpAnyH_take (i:=7) (v:=?_) zX zg zg zg qf (Or.inl ⟨zj,?_⟩) qj ?_
     rotate_left
     · exact qs
     try simp only[Act.put,List.setIfInBounds_toArray,List.set_cons_zero,List.set_cons_succ]
     refine wpAnyH_take (i:=8) (v:=?_) zX zg zg zg qf (Or.inl ⟨zj,?_⟩) qj ?_
     rotate_left
     · exact qs
     try simp only[Act.put,List.setIfInBounds_toArray,List.set_cons_zero,List.set_cons_succ]
     refine wpAnyH_take (i:=10) (v:=?_) zX zg zg zg qf (Or.inl ⟨zj,?_⟩) qj ?_
     rotate_left
     · exact qs
     try simp only[Act.put,List.setIfInBounds_toArray,List.set_cons_zero,List.set_cons_succ]
     refine wpAnyH_take (i:=11) (v:=?_) zX zg zg zg qf (Or.inl ⟨zj,?_⟩) qj ?_
     rotate_left
     · exact qs
     try simp only[Act.put,List.setIfInBounds_toArray,List.set_cons_zero,List.set_cons_succ]
     refine wpAnyH_ready (rs:=[9]) zg zl ?_;refine AllReadyH.cons zX (fun K hK=>?_) AllReadyH.nil
     go_simp
     refine(VV _ _ _ zi).mono ?_;rintro e w2 ⟨rfl,h2⟩;refine hK.out _ _ trivial (fun hHeld=>?_);clear hK K
     try simp only[Act.put,List.setIfInBounds_toArray,List.set_cons_zero,List.set_cons_succ]
     refine wpAnyH_ready (rs:=[12]) zg zl ?_;refine AllReadyH.cons zX (fun K hK=>?_) AllReadyH.nil
     go_simp
     refine(HU _).mono ?_;rintro e w3 ⟨rfl,h3⟩;refine hK.out _ _ trivial (fun hHeld=>?_);clear hK K
     try simp only[Act.put,List.setIfInBounds_toArray,List.set_cons_zero,List.set_cons_succ]
     refine wpAnyH_take (i:=13) (v:=?_) zX zg zg zg qf (Or.inl ⟨zj,?_⟩) qj ?_
     rotate_left
     · exact qs
     try simp only[Act.put,List.setIfInBounds_toArray,List.set_cons_zero,List.set_cons_succ]
     refine wpAnyH_take (i:=14) (v:=?_) zX zg zg zg qf (Or.inl ⟨zj,?_⟩) qj ?_
     rotate_left
     · exact qs
     try simp only[Act.put,List.setIfInBounds_toArray,List.set_cons_zero,List.set_cons_succ]
     refine wpAnyH_take (i:=15) zX zg zg zg qf (Or.inr ⟨zj,rfl⟩) qj ?_
     try simp only[Act.put,List.setIfInBounds_toArray,List.set_cons_zero,List.set_cons_succ]
     refine wpAnyH_take (i:=16) zX zg zg zg qf (Or.inr ⟨zj,rfl⟩) qj ?_
     try simp only[Act.put,List.setIfInBounds_toArray,List.set_cons_zero,List.set_cons_succ]
     refine wpAnyH_take (i:=17) zX zg zg zg qf (Or.inr ⟨zj,rfl⟩) qj ?_
     try simp only[Act.put,List.setIfInBounds_toArray,List.set_cons_zero,List.set_cons_succ]
     refine wpAnyH_take (i:=18) zX zg zg zg qf (Or.inr ⟨zj,rfl⟩) qj ?_
     try simp only[Act.put,List.setIfInBounds_toArray,List.set_cons_zero,List.set_cons_succ]
     refine wpAnyH_take (i:=19) zX zg zg zg qf (Or.inr ⟨zj,rfl⟩) qj ?_
     try simp only[Act.put,List.setIfInBounds_toArray,List.set_cons_zero,List.set_cons_succ]
     refine wpAnyH_take (i:=20) zX zg zg zg qf (Or.inr ⟨zj,rfl⟩) qj ?_
     try simp only[Act.put,List.setIfInBounds_toArray,List.set_cons_zero,List.set_cons_succ]
     refine wpAnyH_take (i:=21) (v:=?_) zX zg zg zg qf (Or.inl ⟨zj,?_⟩) qj ?_
     rotate_left
     · exact qs
     try simp only[Act.put,List.setIfInBounds_toArray,List.set_cons_zero,List.set_cons_succ]
     refine wpAnyH_take (i:=22) (v:=?_) zX zg zg zg qf (Or.inl ⟨zj,?_⟩) qj ?_
     rotate_left
     · exact qs
     try simp only[Act.put,List.setIfInBounds_toArray,List.set_cons_zero,List.set_cons_succ]
     refine wpAnyH_done zg ?_ _;go_wp2;go_ret;exact⟨ZD (by rw[Uu,Hu.out];simp),((zk.drew).trans h2).trans (h3.mono h2.size)⟩
   · rw[hu]at HU;have Hu:=za hu;clear hu;go_enter func155,ntmps155;go_wp2
     go_region_held3 (fun _=>True) (trivial) (first|(go_at_call 188;with_reducible refine(VV _ _ _ zi).mono ?_;rintro e w2 ⟨rfl,h2⟩)|(go_at_call_of 189 (s.extract 0 1);refine(HU _).mono ?_;rintro e w3 ⟨rfl,h3⟩)|(go_at_call 189;refine(Mg _ _ _ hs).mono ?_;rintro e w4 ⟨rfl,h4⟩))
     all_goals go_wp2
     go_ret;refine⟨ZD ?_,by repeat (first|exact zk.drew|refine bt ?_ qj)⟩;rw[Uu,zC,XL h0,Hu.out];show QO (qt (qt (qt Qp Uk) Xa) [95]) (L s)=_;simp;omega
 · have hd:decide ((s.size:Int)<=32)=false:=by simpa using h1
   go_enter func155,ntmps155;go_wp2;go_region
   all_goals go_wp2
   all_goals go_ret
   exact⟨ZD (by rw[Uu,zC];simp;omega),zk.drew⟩
end
section
open Go.RowKit
theorem N2:∀x y:ze,Op.bytesLess x y=decide (x<y)
 | [],[]=>O2
 | [],_::_=>O2
 |_::_,[]=>O2
 | a::x,b::y=>by
   rw[Op.bytesLess,N2 x y];simp only[List.cons_lt_cons_iff];by_cases h1:a<b<;>by_cases h2:a=b<;>by_cases h3:x<y<;>simp[h1,h2,h3]
theorem AX(x:ze):¬x<x:=List.lt_irrefl x
theorem PC{x y z:ze}(h:x<y)(k:y<z):x<z:=List.lt_trans h k
theorem FL{x y:ze}(h:¬x<y)(k:x≠y):y<x:=by
 rcases List.le_total x y with h1|h1
 · exact absurd (Decidable.byContradiction fun h2=>k (List.le_antisymm h1 h2)) h
 · exact Decidable.byContradiction fun h2=>k (List.le_antisymm h2 h1)
def Y3:List ze->ze->List ze
 | [],s=>[s]
 |x::r,s=>if x<s then x::Y3 r s else if x=s then x::r else s::x::r
theorem EG(l:List ze)(s y:ze):y∈Y3 l s↔y∈l∨y=s:=by
 induction l with
 |nil=>simp[Y3]
 | cons x r ih=>
   rw[Y3]
   split
   · rw[List.mem_cons,ih,List.mem_cons,or_assoc]
   · split
     · rename_i _ e;subst e;simp only[List.mem_cons];constructor
       · exact fun h=>Or.inl h
       · rintro(h|h)
         · exact h
         · exact Or.inl h
     · simp only[List.mem_cons];constructor
       · rintro(h|h|h)<;>simp[h]
       · rintro((h|h)|h)<;>simp[h]
theorem yj(l:List ze)(s:ze):(Y3 l s).length<=l.length+1:=by
 induction l with
 |nil=>simp[Y3]
 | cons x r ih=>
   rw[Y3]
   split
   · simp only[List.length_cons];omega
   · split<;>simp
theorem zgK{l:List ze}(h:l.Pairwise (· < ·))(s:ze):(Y3 l s).Pairwise (· < ·):=by
 induction l with
 |nil=>simp[Y3]
 | cons x r ih=>
   rw[List.pairwise_cons]at h;rw[Y3]
   split
   · rename_i hx;refine List.pairwise_cons.2 ⟨fun y hy=>?_,ih h.2⟩;rcases(EG r s y).1 hy with hy|rfl
     · exact h.1 y hy
     · exact hx
   · split
     · exact List.pairwise_cons.2 h
     · rename_i h1 h2;have hs:=FL h1 h2;refine List.pairwise_cons.2 ⟨fun y hy=>?_,List.pairwise_cons.2 h⟩;rcases List.mem_cons.1 hy with rfl|hy
       · exact hs
       · exact PC hs (h.1 y hy)
abbrev nm(x:At):ze:=L x.name
def zR(d:List At)(n:ze):Option At:=d.find? fun x=>nm x==n
theorem Px{d:List At}{n:ze}{x:At}(h:zR d n=some x):nm x=n/\x∈d:=
 ⟨FB,List.mem_of_find?_eq_some h⟩
theorem vx{d:List At}{n:ze}:zR d n=none↔n∉d.map nm:=by
 unfold zR;rw[List.find?_eq_none];simp only[List.mem_map,beq_iff_eq,not_exists,not_and]
end
section
structure Dv where
 ix:Int
 pa:Int
 nam:ByteArray
 og:ByteArray
 sb:ByteArray
 dr:ByteArray
 al:ByteArray
 kd:Int
 nb:Int
 ats:Ls At
def zK(d:Dv):List Value:=[.int .i64 d.ix,.int .i64 d.pa,.string d.nam,.string d.og,.string d.sb,.string d.dr,.string d.al,.int .i64 d.kd,.int .i64 d.nb,.slice d.ats.A d.ats.l.length d.ats.c]
def zY(d:Dv):Value:=.agg #[.int .i64 d.ix,.int .i64 d.pa,.string d.nam,.string d.og,.string d.sb,.string d.dr,.string d.al,.int .i64 d.kd,.int .i64 d.nb,.slice d.ats.A d.ats.l.length d.ats.c]
def qF(l:List At)(n:ze):ByteArray:=match zR l n with
 |some x=>x.val
 |none=>⟨#[]⟩
def T2(t:Tm)(d:Dv):Option ByteArray:=
 if t.key=2∨t.key=8 then some d.og else if t.key=3∨t.key=9 then some d.sb else if t.key=4∨t.key=10 then some d.dr else if t.key=5∨t.key=11 then some (qF d.ats.l (L t.name))else none
def YQ(t:Tm)(v:ByteArray):Bool:=zS (L t.value) (L v)==(t.op==1)
def Yn(t:Tm)(d:Dv):Bool:=qA t.op&&match T2 t d with
 |some v=>YQ t v
 |none=>false
def Z4(t:Tm):Bool:=qA t.op&&(t.key==2||t.key==3||t.key==4||t.key==5)
def qO(t:Tm):Bool:=qA t.op&&(t.key==8||t.key==9||t.key==10||t.key==11)
end
section
structure Dd where
 ix:Int
 pa:Int
 nam:ByteArray
 og:ByteArray
 sb:ByteArray
 dr:ByteArray
 al:ByteArray
 kd:Int
 nb:Int
 ats:List At
def Dv.d(x:Dv):Dd:=⟨x.ix,x.pa,x.nam,x.og,x.sb,x.dr,x.al,x.kd,x.nb,x.ats.l⟩
def qH:List Dd->Int->List Dd
 | [],_=>[]
 |d::r,n=>if d.ix=n then d::qH r d.pa else qH r n
def qI(l:List Dd)(n:Int):List Dd:=qH l.reverse n
def qa(l:List Dd)(n:Int):Option Dd:=l.find? fun d=>d.ix==n
def kC:List Dd->Prop
 | []=>True
 |d::r=>1<=d.ix/\(∀x∈r,x.ix≠d.ix)/\(d.pa=0∨∃x∈r,x.ix=d.pa)/\kC r
def QM(l:List Dd):Prop:=kC l.reverse
theorem ye:∀{r:List Dd},kC r->∀x∈r,x.pa=0∨∃y∈r,y.ix=x.pa
 | d ::r,h,x,hx=>by
   rcases List.mem_cons.1 hx with rfl|hx
   · rcases h.2.2.1 with e|⟨y,hy,e⟩
     · exact Or.inl e
     · exact Or.inr ⟨y,List.mem_cons_of_mem _ hy,e⟩
   · rcases ye h.2.2.2 x hx with e|⟨y,hy,e⟩
     · exact Or.inl e
     · exact Or.inr ⟨y,List.mem_cons_of_mem _ hy,e⟩
theorem NT{d:Dd}{r:List Dd}{n:Int}(h:d.ix≠n):qH (d::r) n=qH r n:=by rw[qH,if_neg h]
theorem zai{d:Dd}{r:List Dd}(h:kC (d::r)):∀x∈d::r,d.ix≠x.pa:=by
 intro x hx e;have h1:=h.1;rcases List.mem_cons.1 hx with rfl|hx
 · rcases h.2.2.1 with e2|⟨y,hy,e2⟩
   · omega
   · exact h.2.1 y hy zb
 · rcases ye h.2.2.2 x hx with e2|⟨y,hy,e2⟩
   · omega
   · exact h.2.1 y hy zb
theorem TL:∀{r:List Dd},kC r->∀x∈r,qH r x.ix=x::qH r x.pa
 | d::r,h,x,hx=>by
   rw[NT (zai h x hx)];rcases List.mem_cons.1 hx with rfl|hx
   · rw[qH,if_pos rfl]
   · rw[NT (fun e=>h.2.1 x hx e.symm),TL h.2.2.2 x hx]
theorem AE:∀{r:List Dd} {n:Int},(∀x∈r,x.ix≠n)->qH r n=[]
 | [],_,_=>rfl
 |d::r,n,h=>by rw[NT (h d zl),AE fun x hx=>h x Jy]
theorem J3:∀(r:List Dd) (n:Int),(qH r n).length<=r.length
 | [],_=>zo
 | d::r,n=>by
   rw[qH]
   split
   · have:=J3 r d.pa;simp;omega
   · have:=J3 r n;simp;omega
theorem Ix:∀(r:List Dd) (n:Int),∀x∈qH r n,x∈r
 | [],_,x,h=>h
 | d ::r,n,x,h=>by
   rw[qH]at h
   split at h
   · rcases List.mem_cons.1 h with rfl|h
     · exact List.mem_cons_self ..
     · exact List.mem_cons_of_mem _ (Ix r _ x h)
   · exact List.mem_cons_of_mem _ (Ix r _ x h)
theorem XE{l:List Dd}{n:Int}{x:Dd}(h:qa l n=some x):x∈l/\x.ix=n:=
 ⟨List.mem_of_find?_eq_some h,FB⟩
theorem Gu{l:List Dd}{n:Int}:qa l n=none↔∀x∈l,x.ix≠n:=by
 unfold qa;rw[List.find?_eq_none];simp
theorem j1{l:List Dd}{n:Int}(h:qa l n=none):qI l n=[]:=AE fun x hx=>Gu.1 h x (List.mem_reverse.1 hx)
theorem Pk{l:List Dd}{n:Int}{x:Dd}(hw:QM l)(h:qa l n=some x):qI l n=x::qI l x.pa:=by
 obtain⟨h1,rfl⟩:=XE h;exact TL hw x (List.mem_reverse.2 h1)
theorem Ll(l:List Dd)(n:Int):(qI l n).length<=l.length:=by have:=J3 l.reverse n;rw[List.length_reverse]at this;exact this
theorem Mv{l:List Dd}{n:Int}{x:Dd}(h:x∈qI l n):x∈l:=List.mem_reverse.1 (Ix _ _ _ h)
theorem DB{l:List Dd}(hw:QM l){x:Dd}(hx:x∈l):qa l x.ix=some x:=by
 cases h:qa l x.ix with
 |none=>exact absurd rfl (Gu.1 h x hx)
 | some y=>
   obtain⟨_,e⟩:=XE h;have h1:=Pk hw h;have h2:=TL hw x (List.mem_reverse.2 hx);unfold qI at h1;rw[h1]at h2;injection h2 with h3 _
   rw[h3]
def orgS(c:List Dd):ze:=c.reverse.flatMap fun d=>47::L d.og
theorem zb5:orgS []=[]:=rfl
theorem yD(d:Dd)(c:List Dd):orgS (d::c)=orgS c++47::L d.og:=by simp[orgS]
def ZP(l:List Dd)(n:Int):ByteArray:=bs (orgS (qI l n))
theorem L3:∀{a b:List Dd} {d:Dd},kC (a++b)->1<=d.ix->(∀x∈a++b,x.ix≠d.ix)->(d.pa=0∨∃x∈b,x.ix=d.pa)->kC (a++d::b)
 | [],b,d,h,h1,h2,h3=>⟨h1,fun x hx=>h2 x kY,h3,h⟩
 | y ::a,b,d,h,h1,h2,h3=>by
   refine⟨h.1,fun x hx=>?_,?_,L3 h.2.2.2 h1 (fun x hx=>h2 x (List.mem_cons_of_mem _ hx)) h3⟩
   · rcases List.mem_append.1 hx with hx|hx
     · exact h.2.1 x (List.mem_append_left _ hx)
     · rcases List.mem_cons.1 hx with rfl|hx
       · exact fun e=>h2 y (List.mem_cons_self ..) e.symm
       · exact h.2.1 x (List.mem_append_right _ hx)
   · rcases h.2.2.1 with e|⟨x,hx,e⟩
     · exact Or.inl e
     · refine Or.inr ⟨x,?_,e⟩;rcases List.mem_append.1 hx with hx|hx
       · exact List.mem_append_left _ hx
       · exact List.mem_append_right _ (List.mem_cons_of_mem _ hx)
theorem zfa{l:List Dd}{k:Nat}{d:Dd}(h:QM l)(h1:1<=d.ix)(h2:qa l d.ix=none)(h3:d.pa=0∨∃x∈l.take k,x.ix=d.pa):QM (l.take k++d::l.drop k):=by
 unfold QM at h⊢;rw[List.reverse_append,List.reverse_cons,List.append_assoc,List.singleton_append];have e:l.reverse=(l.drop k).reverse++(l.take k).reverse:=by rw[<-List.reverse_append,List.take_append_drop]
 refine L3 (by rw[<-e];exact h) h1 (fun x hx=>Gu.1 h2 x (by rw[<-e]at hx;exact List.mem_reverse.1 hx)) ?_;rcases h3 with e|⟨x,hx,e⟩
 · exact Or.inl e
 · exact Or.inr ⟨x,List.mem_reverse.2 hx,e⟩
end
section
structure Dr where
 props:List At
 tags:List ze
 links:List ze
 run:List ze
 load:List ze
 nam:ByteArray
 prio:Int
 own:ByteArray
 grp:ByteArray
 mode:Int
 res:ByteArray
 calls:Int
 ticks:Int
 closed:List Tm
def ZR(l:List At):Prop:=l.Pairwise fun x y=>nm x<nm y
def Zx(l:List At)(k:ze):List At:=l.takeWhile fun x=>decide (nm x<k)
def QG(l:List At)(k:ze):List At:=l.dropWhile fun x=>decide (nm x<k)
def Xo(l:List At)(k:ze):List At:=match QG l k with
 | []=>[]
 |y::r=>if nm y=k then r else y::r
def Xx(l:List At)(x:At):List At:=Zx l (nm x)++((if(L x.val).isEmpty then []else [x])++Xo l (nm x))
theorem U5(l:List At)(k:ze):Zx l k++QG l k=l:=List.takeWhile_append_dropWhile
theorem Mk{l:List At}{k:ze}{x:At}(h:x∈Zx l k):nm x<k/\x∈l:=by
 refine⟨?_,(List.takeWhile_sublist _).subset h⟩;unfold Zx at h;induction l with
 |nil=>cases h
 | cons y l ih=>
   rw[List.takeWhile_cons]at h
   split at h
   · rename_i hy;rcases List.mem_cons.1 h with rfl|h
     · simpa using hy
     · exact ih h
   · cases h
theorem MV{l:List At}(ha:ZR l){k:ze}{x:At}(h:x∈QG l k):¬nm x<k/\x∈l:=by
 induction l with
 |nil=>cases h
 | cons y l ih=>
   have ha2:=List.pairwise_cons.1 ha;unfold QG at h;rw[List.dropWhile_cons]at h
   split at h
   · obtain⟨h1,h2⟩:=ih ha2.2 h;exact⟨h1,List.mem_cons_of_mem _ h2⟩
   · rename_i hy;have hy':¬nm y<k:=by simpa using hy
     refine⟨?_,h⟩;rcases List.mem_cons.1 h with rfl|h
     · exact hy'
     · intro hlt;exact hy' (PC (ha2.1 x h) hlt)
theorem LV{l:List At}{k:ze}{x:At}(h:x∈Xo l k):x∈QG l k:=by
 unfold Xo at h
 split at h
 · cases h
 · rename_i y r e;rw[e]
   split at h
   · exact List.mem_cons_of_mem _ h
   · exact h
theorem Cd{l:List At}(ha:ZR l){k:ze}{x:At}(h:x∈Xo l k):k<nm x/\x∈l:=by
 have h0:=LV h;obtain⟨h1,h2⟩:=MV ha h0;refine⟨FL h1 fun e=>?_,h2⟩;have hp:(QG l k).Pairwise fun x y=>nm x<nm y:=List.Pairwise.sublist (List.dropWhile_sublist _) ha;unfold Xo at h
 split at h
 · cases h
 · rename_i y r et;rw[et]at hp;have hp2:=List.pairwise_cons.1 hp
   split at h
   · rename_i ey;have:=hp2.1 x h;rw[ey,e]at this;exact AX _ this
   · rename_i ey;rcases List.mem_cons.1 h with rfl|h
     · exact ey e
     · obtain⟨h3,_⟩:=MV ha (x:=y) (k:=k) (by rw[et];exact List.mem_cons_self ..);have:=hp2.1 x h;rw[e]at this;exact h3 this
theorem Rs{l:List At}(ha:ZR l)(x:At):ZR (Xx l x):=by
 unfold ZR Xx;rw[List.pairwise_append,List.pairwise_append];refine⟨List.Pairwise.sublist (List.takeWhile_sublist _) ha,⟨?_,?_,?_⟩,?_⟩
 · split<;>simp
 · unfold Xo;have hp:(QG l (nm x)).Pairwise fun x y=>nm x<nm y:=List.Pairwise.sublist (List.dropWhile_sublist _) ha
   split
   · exact List.Pairwise.nil
   · rename_i y r e;rw[e]at hp
     split
     · exact(List.pairwise_cons.1 hp).2
     · exact hp
 · intro a h1 b h2
   split at h1
   · cases h1
   · obtain rfl:=List.mem_singleton.1 h1;exact(Cd ha h2).1
 · intro a h1 b h2;obtain⟨h3,_⟩:=Mk h1;rcases List.mem_append.1 h2 with h2|h2
   · split at h2
     · cases h2
     · obtain rfl:=List.mem_singleton.1 h2;exact h3
   · exact PC h3 (Cd ha h2).1
theorem Nk{l:List At}{x y:At}(h:y∈Xx l x):y∈l∨(y=x/\(L x.val).isEmpty=false):=by
 unfold Xx at h;rcases List.mem_append.1 h with h|h
 · exact Or.inl (Mk h).2
 rcases List.mem_append.1 h with h|h
 · split at h
   · cases h
   · rename_i he;exact Or.inr ⟨List.mem_singleton.1 h,by simpa using he⟩
 · exact Or.inl ((List.dropWhile_sublist _).subset (LV h))
theorem Sj(l:List At)(k:ze):(Xo l k).length<=(QG l k).length:=by
 unfold Xo
 split
 · exact Je
 · rename_i e;rw[e]
   split<;>simp
theorem I5(l:List At)(x:At):(Xx l x).length<=l.length+1:=by
 have h1:=congrArg List.length (U5 l (nm x));have h2:=Sj l (nm x);unfold Xx;rw[List.length_append]at h1;rw[List.length_append,List.length_append]
 split<;>simp<;>omega
theorem Gf{l:List At}(ha:ZR l){k:ze}{x:At}(h:zR l k=some x):∃r,QG l k=x::r/\Xo l k=r:=by
 obtain⟨h1,h2⟩:=Px h;have h3:x∈QG l k:=by
  rw[<-U5 l k]at h2;rcases List.mem_append.1 h2 with h2|h2
  · have:=(Mk h2).1;rw[h1]at this;exact absurd this (AX _)
  · exact h2
 have hp:(QG l k).Pairwise fun x y=>nm x<nm y:=List.Pairwise.sublist (List.dropWhile_sublist _) ha;cases ht:QG l k with
 |nil=>rw[ht]at h3;cases h3
 | cons y r=>
   rw[ht]at h3 hp;have hp2:=List.pairwise_cons.1 hp;have e:y=x:=by
    rcases List.mem_cons.1 h3 with e|h4
    · exact e.symm
    · have h5:=hp2.1 x h4;rw[h1]at h5;exact absurd h5 (MV ha (x:=y) (k:=k) (by rw[ht];exact List.mem_cons_self ..)).1
   subst e;refine⟨r,rfl,?_⟩;unfold Xo;rw[ht];exact if_pos h1
theorem zek{l:List At}{k:ze}(h:zR l k=none):Xo l k=QG l k:=by
 unfold Xo;cases ht:QG l k with
 |nil=>rfl
 | cons y r=>
   refine if_neg fun e=>?_;exact vx.1 h (List.mem_map.2 ⟨y,(List.dropWhile_sublist _).subset (by show y∈QG l k;rw[ht];exact List.mem_cons_self ..),e⟩)
theorem zjq{l:List At}(ha:ZR l){x y:At}(h:zR l (nm x)=some y):(Xx l x).length<=l.length:=by
 obtain⟨r,h1,h2⟩:=Gf ha h;have h3:=congrArg List.length (U5 l (nm x));unfold Xx;rw[List.length_append,h1,List.length_cons]at h3;rw[List.length_append,List.length_append,h2]
 split<;>simp<;>omega
def zbe:List ze:=[[68,69,86,78,65,77,69],[68,69,86,80,65,84,72],[68,82,73,86,69,82],[73,78,84,69,82,70,65,67,69],[77,79,68,65,76,73,65,83],[78,85,77,66,69,82],[83,85,66,83,89,83,84,69,77]]
def J8(k:ze):Bool:=zbe.contains k
def vC(d:Dr)(k v:ByteArray):Bool:=J8 (L k)|| !YZ (L v)||((zR d.props (L k)).isNone&&decide (64<=d.props.length))
def XR(d:Dr)(k v:ByteArray):Dr:=if vC d k v then d else{d with props:=Xx d.props ⟨k,v⟩}
def J7:ByteArray:=⟨#[32]⟩
def VK(d:Dr)(k v:ByteArray):Dr:=if(L v).isEmpty then d else match zR d.props (L k)with
 |some x=>XR d k ((x.val++J7++v).extract 0 256)
 |none=>XR d k v
def Qw(l:List ze)(s:ze)(m:Nat):List ze:=if s∈l∨m<=l.length then l else Y3 l s
def YN(l:List ze)(s:ze):List ze:=l.filter fun x=> !(x==s)
theorem NS{l:List ze}(h:l.Pairwise (· < ·))(s:ze)(m:Nat):(Qw l s m).Pairwise (· < ·):=by
 unfold Qw
 split
 · exact h
 · exact zgK h s
theorem Td{l:List ze}{s:ze}{m:Nat}(h:l.length<=m):(Qw l s m).length<=m:=by
 unfold Qw
 split
 · exact h
 · rename_i hn;have:=yj l s;have:¬m<=l.length:=fun e=>hn (Or.inr e);omega
theorem zhF{l:List ze}{s x:ze}{m:Nat}(h:x∈Qw l s m):x∈l∨x=s:=by
 unfold Qw at h
 split at h
 · exact Or.inl h
 · exact(EG _ _ _).1 h
theorem FY{l:List ze}(h:l.Pairwise (· < ·))(s:ze):(YN l s).Pairwise (· < ·):=List.Pairwise.filter _ h
theorem jc(l:List ze)(s:ze):(YN l s).length<=l.length:=List.length_filter_le _ _
end
section
open Go.RowKit
structure NE(w:World)(A:Option Addr)(ds:List (Ls At)):Prop where
 outer:zr w w.heap.size A 1 ds.length (ds.map Ls.v)
 inner:Yq 2 zu id w w.heap.size ds
 cap:∀d∈ds,d.l.length<=d.c
def Kt(ds:List (Ls At)):Nat:=(ds.map fun d=>1+d.l.length).sum
theorem D4(d:Ls At)(r:List (Ls At)):Kt (d::r)=1+d.l.length+Kt r:=by simp[Kt]
theorem SZ(ds:List (Ls At)):ds.length<=Kt ds:=by
 induction ds with
 |nil=>exact Nat.zero_le _
 |cons d r ih=>rw[D4,List.length_cons];omega
theorem NE.dir{w:World}{A:Option Addr}{ds:List (Ls At)}(h:NE w A ds){i:Nat}(hi:i<ds.length):
 ∃g off,A=some ⟨g,off,none⟩/\g<w.heap.size/\(∀W,Below w.heap.size w W->W.cell? ⟨g,off+i,none⟩=some (.slice ds[i].A ds[i].l.length ds[i].c))/\(∀W,Below w.heap.size w W->zr W W.heap.size ds[i].A 2 ds[i].l.length (cellsOf zu ds[i].l)):=by
 obtain⟨g,off,e,hg,hc⟩:=h.outer.at_ zb;refine⟨g,off,e,hg,fun W hb=>?_,fun W hb=>?_⟩
 · rw[hb.cell (p:=⟨g,off+i,none⟩) hg];exact hc i _ (by rw[List.getElem?_map,List.getElem?_eq_getElem hi];rfl)
 · exact((h.inner _ (List.getElem_mem hi)).keep hb).up hb.size
theorem zr.file{w:World}{B:Nat}{A:Option Addr}{l:List At}(h:zr w B A 2 l.length (cellsOf zu l)){k:Nat}(hk:k<l.length):
 ∃ba off,A=some ⟨ba,off,none⟩/\ba<B/\∀W,Below B w W->W.cell? ⟨ba,off+k*2,none⟩=some (.string l[k].name)/\W.cell? ⟨ba,off+k*2+1,none⟩=some (.string l[k].val):=by
 obtain⟨ba,off,e,hB,hc⟩:=h.cell MK hk;refine⟨ba,off,e,hB,fun W hb=>⟨?_,?_⟩⟩
 · rw[hb.cell (p:=⟨ba,off+k*2,none⟩) hB];exact hc k _ (List.getElem?_eq_getElem hk) 0 _ rfl
 · rw[hb.cell (p:=⟨ba,off+k*2+1,none⟩) hB];exact hc k _ (List.getElem?_eq_getElem hk) 1 _ rfl
theorem zr.head{w:World}{B k n m:Nat}{A:Option Addr}{xs:List Value}(h:zr w B A k n xs)(hm:m<=n):zr w B A k m (xs.take (m*k)):=by
 refine⟨?_,fun hm0=>?_⟩
 · rw[List.length_take,h.len];have:=Nat.mul_le_mul_right k hm;omega
 · obtain⟨ba,off,e,hB,hc⟩:=h.at_ zb;refine⟨ba,off,e,hB,fun j u hu=>hc j u ?_⟩;rw[List.getElem?_take]at hu
   split at hu
   · exact hu
   · cases hu
theorem Eo{α:Type}(enc:α->List Value)(k:Nat)(hk:∀x,(enc x).length=k)(l:List α)(m:Nat):(cellsOf enc l).take (m*k)=cellsOf enc (l.take m):=by
 induction l generalizing m with
 |nil=>simp[cellsOf]
 | cons x l ih=>
   cases m with
   |zero=>simp[cellsOf]
   | succ m=>
     have e:cellsOf enc (x::l)=enc x++cellsOf enc l:=Xv;have e2:cellsOf enc ((x::l).take (m+1))=enc x++cellsOf enc (l.take m):=Xv;rw[e,e2,List.take_append,hk,<-ih m,List.take_of_length_le Th,show(m+1)*k - k=m*k from by rw[Nat.add_mul];omega]
theorem bS{w W:World}{b i:Nat}{v:Value}(h:Below w.heap.size w W)(hb:w.heap.size<=b):Below w.heap.size w (W.setCell ⟨b,i,none⟩ v):=h.setCell (p:=⟨b,i,none⟩) hb _
end
section
open Go.RowKit
theorem Qk{w:World}{base base' kk n:Nat}{e:TypeId}{v:Value}{xs:List Value}(h:w.ownsRow base' e kk v n xs)(hb:base<=base'):w.ownsRow base e kk v n xs:=vh
section
variable{α:Type}{TO TI:TypeId}{k:Nat}{enc:α->List Value}{w w':World}{base:Nat}{v:Value}{vs:List Value}{ls:List (List α)}
end
end
section
open Go.RowKit
def Xr(l set:ze):Bool:=l.all fun b=>set.contains b
theorem SE(l set:ze)(c:UInt8):Xr (l++[c]) set=(Xr l set&&set.contains c):=by simp[Xr]
theorem ziJ{set:ze}{k:Nat}(s:ByteArray)(hk:k<s.size)(h:set.contains s[k]=false):Xr (L s) set=false:=by
 rw[Xr,List.all_eq_false];exact⟨s[k],by rw[<-jx s k hk];exact List.getElem_mem _,G9⟩
theorem zjp(c:UInt8):((c.toNat:Int)).toNat.toUInt8=c:=zl
theorem zhu(set:ze)(c:UInt8):(Lib.indexByte set c<0)↔set.contains c=false:=by
 have h1:=Lib.indexByte_ge set c;constructor
 · intro h;have h2:Lib.indexByte set c= -1:=zb;have h3:=Lib.indexByte_none h2;cases hc:set.contains c with
   |false=>rfl
   | true=>
     have hm:c∈set:=by simpa using hc
     obtain⟨k,hk⟩:=List.getElem?_of_mem hm;exact absurd hk (h3 k)
 · intro h;rcases(by omega:Lib.indexByte set c<0∨0<=Lib.indexByte set c)with h2|h2
   · exact h2
   · obtain⟨o,ho⟩:=Int.eq_ofNat_of_zero_le h2;have h3:=(Lib.indexByte_some ho).1;have hm:c∈set:=List.mem_of_getElem? h3;rw[List.contains_eq_mem]at h;simp[hm]at h
theorem yI(s set:ByteArray)(w:World)(hs:s.size<=9223372036854775807):
 Calls prog 100 #[.string s,.string set] w fun e w'=>e=.returned (.bool (Xr (L s) (L set)))/\w=w':=by
 go_enter func100,ntmps100;go_wp2
 go_loop [5] (fun i=>∃k:Nat,k<=s.size/\i=.int .i64 k/\Hid (Xr ((L s).take k) (L set)=true)) (fun i=>s.size - (intOf i).toNat)
 case atStart=>exact⟨0,Nat.zero_le _,rfl,rfl⟩
 case round=>
  obtain⟨k,hk,rfl,hp⟩:=hrel;by_cases hlt:k<s.size
  · have H:=zhu (L set) s[k];have HC:∀W,Calls prog 131 #[.string set,.int .u8 s[k].toNat] W fun e w'=>e=.returned (.int .i64 (Lib.indexByte (L set) s[k]))/\W=w':=fun W=>
     (strings_IndexByte set s[k].toNat W).mono fun e w' h=>⟨by rw[h.1,zjp],h.2.symm⟩
    generalize Lib.indexByte (L set) s[k]=q at*;have Hq:=za H;clear H;go_wp2_with (go_at_call 131;refine(HC _).mono ?_;rintro e w' ⟨rfl,rfl⟩)
    · go_ret;have hq:q<0:=qj;exact⟨ZD (by rw[ziJ s hlt (Hq.out.1 hq)]),rfl⟩
    · have hq:¬q<0:=by omega
      go_round
      case rel=>exact⟨k+1,zb,zP,by
       show Xr _ _=true;rw[GD s k hlt,SE,hp.out];cases hc:(L set).contains s[k]with
       |true=>rfl
       |false=>exact absurd (Hq.out.2 hc) hq⟩
      case measure=>simp[intOf];omega
  · go_wp2;go_ret;have h:=hp.out;rw[It s k hlt]at h;exact⟨ZD JC,rfl⟩
theorem zcp(f:Nat->Bool)(l:ze)(b:UInt8):qt f l b.toNat=(f b.toNat||l.contains b):=by
 simp only[qt]
 congr 1
 rw[Bool.eq_iff_iff];simp only[List.any_eq_true,beq_iff_eq,List.contains_iff_mem];constructor
 · rintro⟨x,hx,e⟩;have:x=b:=UInt8.toNat_inj.1 e;rw[<-this];exact hx
 · intro h;exact⟨b,h,rfl⟩
theorem zgx(b:UInt8):Qp b.toNat=false:=by unfold Qp;rfl
theorem zcD(f:Nat->Bool)(set l:ze)(h:∀b:UInt8,f b.toNat=set.contains b):QO f l=Xr l set:=by
 unfold QO Xr
 congr 1
 funext b
 exact h b
def JA:ze:=[65,66,67,68,69,70,71,72,73,74,75,76,77,78,79,80,81,82,83,84,85,86,87,88,89,90,97,98,99,100,101,102,103,104,105,106,107,108,109,110,111,112,113,114,115,116,117,118,119,120,121,122,48,49,50,51,52,53,54,55,56,57,95,46,58,43,45,33]
theorem zbP(l:ze):QO (qt YB [33]) l=Xr l JA:=by
 apply zcD;intro b;have e:JA=Uk++(Oy++(Xa++(DV++[33]))):=rfl;simp only[YB,zcp,zgx,e,List.contains_eq_any_beq,List.any_append,Bool.false_or,Bool.or_assoc]
theorem SX(l:ze):ZT l=(!l.isEmpty&&decide (l.length<=32)&&Xr l JA&& !(l==[46])&& !(l==[46,46])):=by
 rw[ZT,zbP,Bool.not_or];cases(!l.isEmpty)<;>cases decide (l.length<=32)<;>cases Xr l JA<;>cases(l==[46])<;>cases(l==[46,46])<;>rfl
theorem zhx(s:ByteArray)(w:World)(hs:s.size<=9223372036854775807):
 Calls prog 101 #[.string s] w fun e w'=>e=.returned (.bool (qR (L s)))/\w=w':=by
 go_enter func101,ntmps101;go_wp2
 go_loop [3] (fun i=>∃k:Nat,k<=s.size/\i=.int .i64 k/\Hid (qR ((L s).take k)=true)) (fun i=>s.size - (intOf i).toNat)
 case atStart=>exact⟨0,Nat.zero_le _,rfl,rfl⟩
 case round=>
  obtain⟨k,hk,rfl,hp⟩:=hrel;go_wp2
  case roundEnd=>
   go_round
   case rel=>exact⟨k+1,zb,zP,by
    show qR _=true;rw[GD s k zb,Ca,hp.out];simp[pr];omega⟩
   case measure=>simp[intOf];omega
  · exact Ae
  · exact Ae
  · go_ret;refine⟨ZD ?_,rfl⟩;have h:=hp.out;rw[It s k qj]at h;rw[h]
theorem zh7(s:ByteArray)(w:World)(hs:s.size<=9223372036854775807):
 Calls prog 78 #[.string s] w fun e w'=>e=.returned (.bool (YZ (L s)))/\w=w':=by
 cases hp:qR (L s)
 all_goals
  have HC:=zhx s w hs;rw[hp]at HC;have Hp:=za hp;clear hp;go_enter func78,ntmps78;go_wp2_with (go_at_call 101;refine HC.mono ?_;rintro e w' ⟨rfl,rfl⟩)
  go_ret;exact⟨ZD (by rw[YZ,Hp.out,zC];simp<;>omega),rfl⟩
theorem D7(s:ByteArray)(w:World)(hs:s.size<=9223372036854775807):
 Calls prog 77 #[.string s] w fun e w'=>e=.returned (.bool (ZT (L s)))/\w=w':=by
 have HC:=yI s (bs JA) w hs;rw[qr]at HC;have HV:=za (SX (L s));cases hp:Xr (L s) JA
 all_goals
  rw[hp]at HC;have Hp:=za hp;clear hp;go_enter func77,ntmps77;go_wp2_with (go_at_call 100;refine HC.mono ?_;rintro e w' ⟨rfl,rfl⟩)
  all_goals
   go_ret;refine⟨ZD ?_,rfl⟩;rw[HV.out,Hp.out,zC];clear HV HC Hp;simp only[tl]at*;generalize L s=l at*
   first|(have hz:s.size<=32:=zb)|(have hz:¬s.size<=32:=zb)|have hz:=True.intro
   cases hb1:(l==[46])<;>cases hb2:(l==[46,46])<;>cases hb3:l.isEmpty<;>simp_all
end
section
open Go.RowKit
def Vp(w:World)(l:List At)(v:Value)(w':World):Prop:=w'.ownsRow w.heap.size 114 2 v l.length (cellsOf zu l)/\Below w.heap.size w w'
theorem Bs(x:At):∀u∈zu x,u.oneCell'=true:=Tf x
def Z6(ds:List (Ls At)):List At:=ds.flatMap (·.l)
theorem CT{ds:List (Ls At)}{k:Nat}(hk:k<ds.length):Z6 (ds.take (k+1))=Z6 (ds.take k)++ds[k].l:=by
 unfold Z6;rw[List.take_succ_eq_append_getElem hk,List.flatMap_append];simp only[List.flatMap_cons,List.flatMap_nil,List.append_nil]
theorem ze9(ds:List (Ls At)):(Z6 ds).length<=Kt ds:=by
 induction ds with
 |nil=>exact Nat.zero_le _
 | cons d r ih=>
   rw[D4];have:Z6 (d::r)=d.l++Z6 r:=by simp[Z6]
   rw[this,List.length_append];omega
theorem zfT(ds:List (Ls At))(k:Nat):(Z6 (ds.take k)).length<=(Z6 ds).length:=by
 have:Z6 ds=Z6 (ds.take k)++Z6 (ds.drop k):=by
  unfold Z6;rw[<-List.flatMap_append,List.take_append_drop]
 rw[this,List.length_append];omega
def zji(w:World)(e:Ending)(w':World):Prop:=∃v,e=.returned v/\w'.ownsRow w.heap.size 114 2 v 0 []/\Below w.heap.size w w'
theorem BK(n:Nat)(hn:n<=1000000)(w:World):
 Calls prog 182 #[.slice none 0 0,.int .i64 n] w (zji w):=by
 rcases Nat.eq_zero_or_pos n with rfl|h0
 · go_enter func182,ntmps182;go_wp2;go_ret;exact⟨_,rfl,World.ownsRow_nil _ _ _ _,zk⟩
 · obtain⟨i0,hi0,hz0,hz1,hz2⟩:=info_parts Vy;have hold:(Builtin.firstCells i0.size 0 (.slice none 0 0)).run prog w.drew=.ok ([]:List Value).toArray w.drew:=run_firstCells_none (w:=w.drew) i0.size 0 0 0;have hrz:∀ty,(Builtin.append_ #[31,3] ty #[.slice none 0 0,.int .i64 (n:Int)]).run prog w=.ok (.slice (some ⟨w.heap.size,0,none⟩) n (grownCap w n 0 114)) (w.drew.alloc (.cells (([]:List Value).toArray++Builtin.zeroCells (Value.agg #[.string ⟨#[]⟩,.string ⟨#[]⟩]).cells n++Builtin.zeroCells (Value.agg #[.string ⟨#[]⟩,.string ⟨#[]⟩]).cells (grownCap w n 0 114 - n)) 114)):=fun ty=>by
    have h:=Lib.run_append_grow_zeros w 31 3 ty 114 i0 _ .i64 .i64 underlying31 underlying3 hi0 hz0 none 0 0 [] hold n h0 Gl zb zb (by rw[hz2];omega) (by rw[hz2,Nat.zero_add];exact growslice_fits h0 zb);rw[Nat.zero_add]at h;exact h
   have hGn:n<=grownCap w n 0 114:=grownCap_ge w _ _ _;have hG63:grownCap w n 0 114<=maxLen:=grownCap_le_maxLen w n 0 114 qi;generalize grownCap w n 0 114=G at*;have h1:¬((n:Int)<0):=zb;have h4:(n:Int)>0:=zb;have hG64:G<=9223372036854775807:=by unfold maxLen at hG63;omega
   clear hold hi0 hz0 hz1 hz2;go_enter func182,ntmps182;go_wp2_with (at_builtin;refine Lib.wpList_append_run _ rfl _ _ _ _ rfl _ _ rfl rfl _ _ (hrz _) ?_)
   all_goals
    go_ret;exact⟨_,rfl,⟨rfl,Or.inr ⟨w.heap.size,G,_,rfl,zo,heap_alloc_new w _,Nat.zero_le _,hG63,by simp[size_zeroCells];omega,zl⟩⟩,(zI w _).drew⟩
theorem zcm(A:Option Addr)(c:Nat)(ds:List (Ls At))(w:World)(h:NE w A ds)(hb:Kt ds<=100000):
 Calls prog 148 #[.slice A ds.length c] w fun e w'=>∃v,e=.returned v/\Vp w (Z6 ds) v w':=by
 have H:=za h;have hM:ds.length<=100000:=Nat.le_trans (SZ ds) hb;have hcl:=Nat.le_trans (ze9 ds) hb;have HT:=za (fun k=>Nat.le_trans (zfT ds k) hcl);have HFull:Hid (Z6 (ds.take ds.length)=Z6 ds):=za (by rw[List.take_length]);clear h hb;generalize hMM:ds.length=M at*;have HM:=za hMM;clear hMM;obtain⟨i0,hi0,hz0,hz1,hz2⟩:=info_parts Vy;have Hi0:=za hi0;have Hz0:=za hz0;have Hz1:=za hz1;have Hz2:=za hz2;clear hi0 hz0 hz1 hz2;go_enter func148,ntmps148;go_wp2;go_loopg [3,5,11] (M+1) (fun gk s3 _ s11 wr=>∃(k b:Nat),s3=.int .i64 b/\s11=.int .i64 k/\k+gk=M+1/\k<=M/\b<=100000/\Hid ((Z6 (ds.take k)).length=b)/\Hid (Below w.heap.size w wr))
 case atStart=>exact⟨0,0,rfl,rfl,zb,Nat.zero_le _,zb,(by exact rfl),zk⟩
 case round=>
  obtain⟨k,b,rfl,rfl,hkg,hkM,hb1,hbe,hB⟩:=hrel;by_cases hlt:k<M
  · have hltI:(k:Int)<(M:Int):=by omega
    have hk':k<ds.length:=R1;obtain⟨g,off,rfl,hg,hcell,hrow⟩:=H.out.dir hk';have hT1:=HT.out (k+1);have hn2:(Z6 (ds.take (k+1))).length=(Z6 (ds.take k)).length+ds[k].l.length:=by rw[CT hk',List.length_append]
    rw[hbe.out]at hn2;rw[hn2]at hT1;have HN2:=za hn2;have hc0:=hcell wr hB.out;clear hcell hrow hn2;generalize ds[k]=d at*;obtain⟨dA,dc,dl⟩:=d;dsimp only at*;generalize dl.length=N at*;have hN0:¬((b:Int)+(N:Int)<0):=zb;go_wp2;go_roundg (gk - 1)
    case measure=>omega
    case rel=>exact⟨k+1,b+N,zP,zP,zb,zb,hT1,HN2.out,hB.out⟩
  · obtain rfl:k=M:=by omega
    have hbb:=hbe.out;rw[HFull.out]at hbb;have HBb:=za hbb;clear hbb hbe;have hN1:b<=1000000:=zb;have HG:=za (fun n hn=>BK n hn wr);go_wp2_with (go_at_call 182;refine(HG.out _ hN1).mono ?_;rintro e w2 ⟨v,rfl,hown,hb2⟩;have HO:=za hown;have HB2:=za hb2;clear hown hb2)
    have HBw:=za (bt hB.out HB2.out);have hws:=hB.out.size;obtain⟨w2o,rfl⟩:∃w2o:World,w2o=w2:=⟨_,rfl⟩;obtain⟨wo,rfl⟩:∃wo:World,wo=wr:=⟨_,rfl⟩;go_loopg [6,8,27] (k+1) (fun gk s6 _ s27 wr=>∃(m:Nat) (u:Value),u=s6/\s27=.int .i64 m/\m+gk=k+1/\m<=k/\Hid (Vp w (Z6 (ds.take m)) u wr))
    case atStart=>exact⟨0,_,rfl,rfl,zb,Nat.zero_le _,⟨by rw[List.take_zero];exact Qk HO.out hws,HBw.out⟩⟩
    case round=>
     obtain⟨m,u,rfl,rfl,hmg,hmk,hO⟩:=hrel;have hT2:=HT.out m;by_cases hltm:m<k
     · have hltI:(m:Int)<(k:Int):=by omega
       have hk':m<ds.length:=by rw[HM.out];exact hltm
       obtain⟨g,off,rfl,hg,hcell,hrow⟩:=H.out.dir hk';have HN:=za (CT hk');have hT3:=HT.out (m+1);have hn2:(Z6 (ds.take (m+1))).length=(Z6 (ds.take m)).length+ds[m].l.length:=by rw[HN.out,List.length_append]
       have hc0:=hcell wr hO.out.2;have HR:=za (hrow wr hO.out.2);have hO':=hO;have hwx:w.heap.size<=wr.heap.size:=hO.out.2.size;clear hcell hrow hO;obtain⟨b1,hb1⟩:∃b1,Z6 (ds.take (m+1))=b1:=⟨_,rfl⟩;rw[hb1]at HN hT3 hn2;have HB1:=za hb1;clear hb1;generalize Z6 (ds.take m)=b0 at*;generalize ds[m]=d at*;obtain⟨dA,dc,dl⟩:=d;dsimp only at*;have HO':=za hO'.out.1;have HOb:=za hO'.out.2;clear hO';rw[hn2]at hT3;clear hn2;generalize hdl:dl.length=N at*;generalize hbl:b0.length=N0 at*;have HDl:=za hdl;have HBl:=za hbl;clear hdl hbl;go_wp2_with (at_builtin;go_loud (refine ON rfl (.tmp 31) (.tmp 32) 31 rfl w.heap.size 114 i0 _ 2 32 underlying31 Hi0.out Hz0.out Hz1.out Hz2.out rfl zb u N0 (cellsOf zu b0) zj HO'.out dA N dc _ (cellsOf zu dl) zj HR.out (fun y hy=>by obtain⟨q,_,hq⟩:=List.mem_flatMap.1 hy;exact Bs _ _ hq) qi zb zb ?_;intro v4 w4 hown4 hgrow4 hloc4 hnn4))
       have HO4:Hid (Vp w b1 v4 w4):=za ⟨by rw[HN.out,List.length_append,XF,HBl.out,HDl.out];exact hown4,HOb.out.grown hgrow4 zb (fun j e=>(HO'.out.lt j e).1)⟩;clear hown4 hgrow4 hloc4 hnn4;go_wp2;go_roundg (gk - 1)
       case measure=>omega
       case rel=>exact⟨m+1,_,rfl,zP,zb,zb,by rw[HB1.out];exact HO4.out⟩
     · obtain rfl:m=k:=by omega
       rw[HFull.out]at hO;go_wp2;go_ret;exact⟨_,rfl,hO.out⟩
end
section
open Go.RowKit Go.Maps
abbrev DW:=DataW Unit
theorem GP(s:ze):WideAt.IsKeyLit (.string s):=AM
theorem T8{a b:ze}(h:a≠b):(Lit.string a)≠Lit.string b:=fun e=>h (by injection e)
end
section
def Zb(c:UInt8)(s:ByteArray):List ByteArray:=Lib.splitB ⟨#[c]⟩ 0 (Lib.countB s ⟨#[c]⟩) s
def QB:Nat->Bool:=qt YB [64,35,61,37]
def UC(p:ze):Bool:= !p.isEmpty&& !(p==[46]||p==[46,46])&&QO QB p
def GR(s:ByteArray):Bool:=decide (s.size<=256)&&(Zb 47 s).all fun p=>UC (L p)
def XY(s:ze):Bool:=ZT s&&decide (s.length<=15)&&s.all fun b=> !(b==58||b==33)
def Ut(s:ze):ze:=s.map fun b=>if qt QB [47] b.toNat then b else 95
def kU(p:ze):Bool:= !p.isEmpty&& !(p==[46])
def kf(s:ByteArray):ByteArray:=bs (Lib.join (((Zb 47 (bs (Ut (L s)))).map L).filter kU) [47])
def KQ(s:ByteArray):Option ByteArray:=if GR (kf s)then some (kf s)else none
def Ym(s:ByteArray):List ByteArray:=Lib.goFieldsP (fun n=>n==32) s
def UM(s:ze):Bool:=decide (1<=s.length)&&decide (s.length<=4)&&s.all fun b=>decide (48<=b.toNat)&&decide (b.toNat<=55)
def Gd(s:ze):Int:=s.foldl (fun n b=>8*n+((b.toNat:Int) - 48)) 0
def Vv(s:ze):Option Int:=match Lib.atoiAll s with
 | .ok v=>if Lib.itoa v==s&&decide (-1000<=v)&&decide (v<=1000)then some v else none
 |_=>none
def Ug(v:ByteArray):Bool:= !(L v).isEmpty&&YZ (L v)
def Ku(d:Dr)(op:Int)(v:ByteArray):Dr:=if ZT (L v)then(if op=3 then{d with tags:=[L v]}else if op=4 then{d with tags:=Qw d.tags (L v) 16}else if op=5 then{d with tags:=YN d.tags (L v)}else d)else d
def Zn(op:Int)(l:List ze)(w:ByteArray):List ze:=match KQ w with
 |some s=>if op=5 then YN l (L s)else Qw l (L s) 16
 |none=>l
def Xw(d:Dr)(op:Int)(v:ByteArray):Dr:={d with links:=(Ym v).foldl (Zn op) (if op=3∨op=6 then []else d.links)}
def Jc(d:Dr)(op:Int)(v:ByteArray):Dr:=
 let l:=if op=4 then d.run else []
 {d with run:=if Ug v&&decide (l.length<16)then l++[L v]else l}
def Z0(d:Dr)(t:Tm)(v:ByteArray):Dr:=
 if t.key=6 then(if t.op=4 then VK d t.name v else XR d t.name v)
 else if t.key=7 then Ku d t.op v
 else if t.key=15 then(if XY (L v)then{d with nam:=v}else d)
 else if t.key=16 then Xw d t.op v
 else if t.key=17 then(if ZT (L v)then{d with own:=v}else d)
 else if t.key=18 then(if ZT (L v)then{d with grp:=v}else d)
 else if t.key=19 then(if UM (L v)then{d with mode:=Gd (L v)}else d)
 else if t.key=20 then Jc d t.op v
 else if t.key=21 then(if Ug v then{d with load:=Qw d.load (L v) 16}else d)
 else if t.key=22 then(match Vv (L v)with|some n=>{d with prio:=n}|none=>d)
 else d
def kQ(t:Tm):Tm:=⟨t.key,t.name,0,⟨#[]⟩⟩
def P4(d:Dr)(t:Tm):Bool:=d.closed.any fun c=>c.key==t.key&&L c.name==L t.name
def U2(d:Dr)(t:Tm)(v:ByteArray):Dr:=
 if P4 d t then d else if t.op=6 then{Z0 d t v with closed:=(Z0 d t v).closed++[kQ t]}else Z0 d t v
def Uy(d:Dr)(l:List At):Dr:=l.foldl (fun d p=>if Uu (L p.name)&& !(L p.val).isEmpty then XR d p.name p.val else d) d
def Ld:ByteArray:=⟨#[114,111,111,116]⟩
def R9(base:List At):Dr:=⟨base,[],[],[],[],⟨#[]⟩,0,Ld,Ld,384,⟨#[]⟩,0,0,[]⟩
end
section
open Go.RowKit
theorem zcq{l:List At}{n:ze}{k:Nat}{x:At}(hx:l[k]? =some x)(hno:∀(j:Nat) (y:At),j<k->l[j]? =some y->(L y.name==n)=false)(hyes:(L x.name==n)=true):zR l n=some x:=by
 induction l generalizing k with
 |nil=>simp at hx
 | cons y l ih=>
   cases k with
   | zero=>
     simp at hx;subst hx;simp only[zR,nm,List.find?_cons,hyes]
   | succ k=>
     have h0:=hno 0 y zb zl;have:=ih (k:=k) kY (fun j z hj hz=>hno (j+1) z zb MM);simp only[zR,nm,List.find?_cons,h0]at this⊢;exact this
theorem zdt{l:List At}{n:ze}(hno:∀(j:Nat) (y:At),l[j]? =some y->(L y.name==n)=false):zR l n=none:=by
 unfold zR;rw[List.find?_eq_none];intro x hx;obtain⟨j,hj⟩:=List.getElem?_of_mem hx;rw[show(nm x==n)=false from hno j x hj];simp
theorem zi1{W:World}{b:Nat}{e:TypeId}{sz:Nat}{v:Value}{n:Nat}{xs:List Value}(h:W.ownsRow b e sz v n xs):∃A c,v=.slice A n c/\n<=c:=by
 rcases h.2 with⟨h1,h2⟩|⟨g',cap,cur,h1,_,_,hr,_⟩
 · exact⟨_,_,by rw[h2];exact h1,zb⟩
 · exact⟨_,_,h1,hr⟩
end
section
open Go.RowKit
def JH:Option At->Value
 |some x=>.tuple #[.string x.val,.bool true]
 |none=>.tuple #[.string ⟨#[]⟩,.bool false]
def Vd(o:Option At)(w:World)(e:Ending)(w':World):Prop:=e=.returned (JH o)/\Below w.heap.size w w'
theorem KL(A:Option Addr)(c:Nat)(l:List At)(nm:ByteArray)(w:World)(h:zr w w.heap.size A 2 l.length (cellsOf zu l))(hl:l.length<=4611686018427387904):
 Calls prog 33 #[.slice A l.length c,.string nm] w (Vd (zR l (L nm)) w):=by
 have H:=za h;clear h;generalize hN:l.length=N at hl⊢;have HN:=za hN;clear hN;go_enter func33,ntmps33;go_wp2
 go_loopw [10] (fun i wr=>∃k:Nat,k<=N/\i=.int .i64 k/\Hid (∀(j:Nat) (y:At),j<k->l[j]? =some y->(L y.name==L nm)=false)/\Hid (Below w.heap.size w wr)) (fun i _=>N - (intOf i).toNat)
 case atStart=>exact⟨0,Nat.zero_le _,rfl,fun j y hj=>absurd hj zb,zk⟩
 case round=>
  obtain⟨k,hk,rfl,hp,hB⟩:=hrel;by_cases hlt:k<N
  · have hlt':k<l.length:=by rw[HN.out];exact hlt
    have hltI:(k:Int)<(N:Int):=zb;obtain⟨ba,off,rfl,hBa,hc⟩:=H.out.cell MK hlt';obtain⟨x,hx⟩:∃x,l[k]? =some x:=⟨_,List.getElem?_eq_getElem hlt'⟩;have c0:wr.cell? ⟨ba,off+k*2,none⟩=some (.string x.name):=(hB.out.cell (p:=⟨ba,off+k*2,none⟩) hBa).trans (hc k x hx 0 _ rfl);have c1:wr.cell? ⟨ba,off+k*2+1,none⟩=some (.string x.val):=(hB.out.cell (p:=⟨ba,off+k*2+1,none⟩) hBa).trans (hc k x hx 1 _ rfl);have HX:=za hx;have HB2:=za (bt hB.out (zI wr (.cells #[.string x.name,.string x.val] 114)));clear hx hc hlt';cases hq:(x.name.toList==nm.toList)
    · go_wp2
      go_roundw
      case rel=>
       refine⟨k+1,zb,zP,fun j y hj hy=>?_,HB2.out⟩;rcases(by omega:j=k∨j<k)with e|e
       · subst e;rw[HX.out]at hy;injection hy with hy
         rw[<-hy,<-tl,<-tl];exact hq
       · exact hp.out j y e hy
      case measure=>simp[intOf];omega
    · have e1:=zcq HX.out hp.out (by rw[<-tl,<-tl];exact hq);have E1:=za e1;clear e1;go_wp2;go_ret2;exact⟨by rw[E1.out];rfl,HB2.out⟩
  · have e1:=zdt (l:=l) (n:=L nm) (fun j y hy=>hp.out j y (by have:=(List.getElem?_eq_some_iff.1 hy).1;rw[HN.out]at this;omega) hy);have E1:=za e1;clear e1;go_wp2;go_ret2;exact⟨by rw[E1.out];rfl,hB.out⟩
end
section
def Zl(l:List ze)(s:ze):Nat:=(l.takeWhile fun x=>decide (x<s)).length
theorem PK(l:List ze)(s:ze):Zl l s<=l.length:=List.IsPrefix.length_le (List.takeWhile_prefix _)
theorem Al{l:List ze}{s:ze}{t:Nat}(h:t<Zl l s):∃h':t<l.length,l[t]<s:=by
 have hp:l.takeWhile (fun x=>decide (x<s))<+:l:=List.takeWhile_prefix _;have h1:t<l.length:=Nat.lt_of_lt_of_le h (PK l s);refine⟨h1,?_⟩;have h2:=List.IsPrefix.getElem hp (i:=t) h;rw[<-h2];have:=List.all_takeWhile (p:=fun x=>decide (x<s)) (l:=l);have:=List.all_eq_true.1 this _ (List.getElem_mem (l:=l.takeWhile fun x=>decide (x<s)) (n:=t) h);exact Q2
theorem CS(s:ze):¬s<s:=List.lt_irrefl s
theorem OX:∀{l:List ze},l.Pairwise (· < ·)->∀{s:ze} {t:Nat},Zl l s<=t->∀h:t<l.length,¬l[t]<s
 | [],_,_,_,_,h=>qD
 | x ::r,hs,s,t,hk,h=>by
   obtain⟨h1,h2⟩:=List.pairwise_cons.1 hs;by_cases hx:x<s
   · have e:Zl (x::r) s=Zl r s+1:=by unfold Zl;rw[List.takeWhile_cons,if_pos (decide_eq_true hx)];rfl
     cases t with
     |zero=>omega
     |succ t=>exact OX h2 zb Xz
   · cases t with
     |zero=>exact hx
     | succ t=>
       intro hlt;have hm:r[t]' Xz∈r:=List.getElem_mem _;exact hx (List.lt_trans (h1 _ hm) hlt)
theorem yp:∀{l:List ze},l.Pairwise (· < ·)->∀{s:ze},s∉l->Y3 l s=l.take (Zl l s)++s::l.drop (Zl l s)
 | [],_,_,_=>rfl
 | x ::r,hs,s,hn=>by
   obtain⟨h1,h2⟩:=List.pairwise_cons.1 hs;rw[Y3];by_cases hx:x<s
   · have e:Zl (x::r) s=Zl r s+1:=by unfold Zl;rw[List.takeWhile_cons,if_pos (decide_eq_true hx)];rfl
     rw[if_pos hx,e,List.take_succ_cons,List.drop_succ_cons,List.cons_append,<-yp h2 (fun hm=>hn (List.mem_cons_of_mem _ hm))]
   · have e:Zl (x::r) s=0:=by unfold Zl;rw[List.takeWhile_cons,if_neg kY];rfl
     rw[if_neg hx,if_neg (fun e2=>hn (by rw[e2];exact List.mem_cons_self)),e];rfl
theorem zbE{l:List ze}(hs:l.Pairwise (· < ·))(s:ze):s∈l↔∃h:Zl l s<l.length,l[Zl l s]=s:=by
 constructor
 · intro hm;obtain⟨t,ht,e⟩:=List.getElem_of_mem hm;have h1:Zl l s<=t:=by
    rcases Nat.lt_or_ge t (Zl l s)with k|k
    · obtain⟨_,k2⟩:=Al k;rw[e]at k2;exact absurd k2 (CS s)
    · exact k
   have h2:t<=Zl l s:=by
    rcases Nat.lt_or_ge (Zl l s) t with k|k
    · have h3:=OX hs (Nat.le_refl (Zl l s)) zb;have h4:=List.pairwise_iff_getElem.1 hs (Zl l s) t zb ht k;rw[e]at h4;exact absurd h4 h3
    · exact k
   obtain rfl:t=Zl l s:=zb;exact⟨ht,e⟩
 · rintro⟨h,e⟩;rw[<-e];exact List.getElem_mem _
end
section
open Go.RowKit
def iV(l:List Int):List Value:=l.map (Value.int .i64)
theorem zal{l:List Int}{j:Nat}(h:j<l.length):(iV l)[j]? =some (.int .i64 l[j]):=by
 unfold iV;rw[List.getElem?_map,List.getElem?_eq_getElem h];rfl
theorem Sf:(prog.info? 3).map (fun i=>(i.zero,i.size,i.bytes))=some (some (.int .i64 0),1,8):=zg
abbrev Mb(w:World)(B:Nat)(A:Option Addr)(l:List Int):Prop:=zr w B A 1 l.length (iV l)
theorem Mb.cell{w wr:World}{B:Nat}{A:Option Addr}{l:List Int}(h:Mb w B A l)(hb:Below B w wr){k:Nat}(hk:k<l.length):∃ba off,A=some ⟨ba,off,none⟩/\wr.cell? ⟨ba,off+k,none⟩=some (.int .i64 l[k]):=by
 obtain⟨ba,off,e,hB,hc⟩:=h.at_ zb;exact⟨ba,off,e,(hb.cell (p:=⟨ba,off+k,none⟩) hB).trans (hc k _ (zal hk))⟩
theorem zfR(A A':Option Addr)(c c':Nat)(l:List Int)(w:World)(hn:l.length<=4000000)(h:Mb w w.heap.size A l)(h':Mb w w.heap.size A' l):
 Calls prog 34 #[.slice A l.length c,.slice A' l.length c'] w fun e w'=>e=.returned (.bool true)/\Below w.heap.size w w':=by
 have H:=za h;have H':=za h';clear h h';generalize hN:l.length=N at*;have HN:=za hN;clear hN;go_enter func34,ntmps34;go_wp2
 go_loopw [5] (fun i wr=>∃k:Nat,k<=N/\i=.int .i64 k/\Hid (Below w.heap.size w wr)) (fun i _=>N - (intOf i).toNat)
 case atStart=>exact⟨0,Nat.zero_le _,rfl,zk⟩
 case round=>
  obtain⟨k,hk,rfl,hB⟩:=hrel;by_cases hlt:k<N
  · have hk':k<l.length:=by rw[HN.out];exact hlt
    have hr:=H.out;have hr':=H'.out;obtain⟨ba,off,rfl,c0⟩:=hr.cell hB.out hk';obtain⟨ba',off',rfl,d0⟩:=hr'.cell hB.out hk';have hltI:(k:Int)<(N:Int):=zb;generalize l[k]=x at*;clear hr hr' hk';go_wp2;go_quiet (fail)
    go_wp2
    go_roundw
    case rel=>exact⟨k+1,zb,zP,ZC hB.out _⟩
    case measure=>simp[intOf];omega
  · obtain rfl:k=N:=by omega
    go_wp2;go_ret;exact⟨rfl,hB.out⟩
end
end Go.Proofs.YtecbmndgpepkcaaGreatDoor
