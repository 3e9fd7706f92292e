/- Contracts of functions that the law reaches, and what they rest on; each under the premises that it names. Shortened by a program. -/
import Derived.Test.YtobcmlmbblgcdaaGreatDoorG07
import Derived.Lib.IndexAny
namespace Go.Proofs.YtobcmlmbblgcdaaGreatDoor
open Tryz
set_option maxHeartbeats 8000000
set_option maxRecDepth 100000
section
open Go.RowKit Go.Maps
def Qc:List (Int×DW)->DW
 | []=>.map []
 |p::r=>(Qc r).put (.int .i64 p.1) p.2
theorem jP(n:Int):WideAt.IsKeyLit (.int .i64 n):=Ak
theorem Sq{a b:Int}(h:a≠b):(Lit.int .i64 a)≠Lit.int .i64 b:=fun e=>h (by injection e)
theorem Ag:∀l,Tidy (Qc l)
 | []=>tidy_empty
 |_::r=>(Ag r).put (jP _) _
def Q1(l:List (Int×DW))(n:Int):Option DW:=(l.find? fun p=>p.1==n).map (·.2)
theorem J8(l:List (Int×DW))(n:Int)(z:DW):(Qc l).atKey (.int .i64 n) z=(Q1 l n).getD z:=by
 induction l with
 |nil=>rfl
 | cons p r ih=>
   by_cases e:p.1=n
   · subst e;rw[Qc,atKey_put_same (Ag _).isMap (jP _)];simp[Q1]
   · rw[Qc,atKey_put_other (Sq fun h=>e h.symm),ih];simp[Q1,e]
theorem yH(l:List (Int×DW))(n:Int):Maps.has (Qc l) (.int .i64 n)=(Q1 l n).isSome:=by
 cases h:Q1 l n with
 |some x=>exact has_true_of_atKey (y:=x) (fun z=>by rw[J8,h];rfl)
 |none=>exact has_false_of_atKey (fun z=>by rw[J8,h];rfl)
def XJ:List Dd->List (Int×DW)
 | []=>[]
 |d::r=>(d.ix,.lit (.string (orgS (qL (d::r) d.ix))))::XJ r
def YT:List Dd->List (Int×DW)
 | []=>[]
 |d::r=>(d.ix,.lit (.int .i64 r.length))::YT r
theorem jF:∀(r:List Dd) (n:Int),Q1 (XJ r) n=if qL r n=[]then none else some (.lit (.string (orgS (qL r n))))
 | [],_=>rfl
 | d ::r,n=>by
   have ih:=jF r n;by_cases e:d.ix=n
   · subst e;have hne:qL (d::r) d.ix≠[]:=by rw[qL,if_pos rfl];simp
     rw[if_neg hne];simp[Q1,XJ]
   · rw[MD e,<-ih];simp[Q1,XJ,e]
theorem zaP(d:Dd)(r:List Dd):orgS (qL (d::r) d.ix)=orgS (qL r d.pa)++47::L d.og:=by rw[qL,if_pos rfl,yT]
theorem vf:∀(r:List Dd) (n:Int),(match Q1 (YT r) n with|none=>∀x∈r,x.ix≠n|some z=>∃(i:Nat) (x:Dd),z=.lit (.int .i64 i)/\i<r.length/\r.reverse[i]? =some x/\x.ix=n)
 | [],n=>by simp[Q1,YT]
 | d ::r,n=>by
   have ih:=vf r n;by_cases e:d.ix=n
   · have h1:Q1 (YT (d::r)) n=some (.lit (.int .i64 r.length)):=by simp[Q1,YT,e]
     rw[h1];exact⟨r.length,d,rfl,zl,zl,e⟩
   · have h1:Q1 (YT (d::r)) n=Q1 (YT r) n:=by simp[Q1,YT,e]
     rw[h1];cases h2:Q1 (YT r) n with
     | none=>
       rw[h2]at ih;intro x hx;rcases List.mem_cons.1 hx with rfl|hx
       · exact e
       · exact ih x hx
     | some z=>
       rw[h2]at ih;obtain⟨i,x,h3,h4,h5,h6⟩:=ih;refine⟨i,x,h3,zG,?_,h6⟩;rw[List.reverse_cons,List.getElem?_append_left (by simp;exact h4)];exact h5
end
section
open Go.RowKit
theorem any_cons(b:UInt8)(l c:ze):Lib.containsAny (b::l) c=(c.contains b||Lib.containsAny l c):=by
 unfold Lib.containsAny;rw[Lib.indexAny];have:=Lib.indexAny_ge c l;by_cases h:c.contains b=true
 · rw[if_pos h,h];simp
 · rw[if_neg h];have hb:c.contains b=false:=XD;rw[hb,Bool.false_or]
   split
   · rename_i h1;have h1:Lib.indexAny l c= -1:=Jz;rw[h1]
   · rename_i h1;have h1:¬Lib.indexAny l c= -1:=Jz;exact Nh
theorem Si(l:ze):(!Lib.containsAny l [58,33])=l.all fun b=> !(b==58||b==33):=by
 induction l with
 |nil=>rfl
 | cons b l ih=>
   rw[any_cons,Bool.not_or,ih,List.all_cons]
   congr 1
   simp;rfl
theorem zaG:((List.range 256).all fun n=> !(qv Yr [33] n)||decide (n<128))=true:=zg
theorem za7{l:ze}(h:ZY l=true):∀(j:Nat) b,l[j]? =some b->b.toNat<128:=by
 intro j b hb;unfold ZY at h;rw[Bool.and_eq_true]at h;have h1:=List.all_eq_true.1 h.2 b (List.mem_of_getElem? hb);have h2:=List.all_eq_true.1 zaG b.toNat (List.mem_range.2 b.toNat_lt);rw[h1]at h2;simpa using h2
theorem NR(s:ByteArray)(w:World)(hs:s.size<=1000000):
 Calls prog 172 #[.string s] w fun e w'=>e=.returned (.bool (X0 (L s)))/\Below w.heap.size w w':=by
 have hE:X0 (L s)=(ZY (L s)&&decide (s.size<=15)&& !Lib.containsAny (L s) [58,33]):=by rw[Si,<-zC];rfl
 rw[hE];clear hE;have HV0:=ID s w zb;cases hv:ZY (L s)with
 | false=>
   rw[hv]at HV0;have HV:=za HV0;clear HV0 hv;exact E9
 | true=>
   rw[hv]at HV0;have HC:=za (fun(W:World)=>strings_ContainsAny_laid s ⟨#[58,33]⟩ W zb zi (za7 hv) (by
    intro j b hb
    match j,hb with
    |0,hb=>cases hb;decide
    |1,hb=>cases hb;decide))
   have HV:=za HV0;clear HV0 hv;have hd:(⟨#[58,33]⟩:ByteArray).data.toList=[58,33]:=rfl;rw[hd]at HC;have hd2:s.data.toList=L s:=rfl;rw[hd2]at HC;clear hd hd2;generalize Lib.containsAny (L s) [58,33]=b at*;by_cases hn:s.size<=15
   · have hni:((s.size:Nat):Int)<=15:=by omega
     rw[decide_eq_true hn];go_enter func172,ntmps172;go_wp2_with (first|(go_at_call 174;refine HV.out.mono ?_;rintro e w2 ⟨rfl,hb2⟩)|(go_at_call 215;refine(HC.out _).mono ?_;rintro e w3 ⟨rfl,hb3⟩))
     go_ret;exact⟨R9,bt hb2 hb3⟩
   · have hni:¬((s.size:Nat):Int)<=15:=by omega
     rw[decide_eq_false hn];exact E9
end
end Go.Proofs.YtobcmlmbblgcdaaGreatDoor
