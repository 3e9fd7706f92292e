/- Contracts of functions that the law reaches, and what they rest on; each under the premises that it names. Shortened by a program. -/
import Derived.Test.YtecbmndgpepkcaaGreatDoorG07
import Derived.Lib.IndexAny
namespace Go.Proofs.YtecbmndgpepkcaaGreatDoor
open Tryz
set_option maxHeartbeats 8000000
set_option maxRecDepth 100000
section
open Go.RowKit Go.Maps
def Qh:List (Int×DW)->DW
 | []=>.map []
 |p::r=>(Qh r).put (.int .i64 p.1) p.2
theorem EK(n:Int):WideAt.IsKeyLit (.int .i64 n):=AM
theorem kni{a b:Int}(h:a≠b):(Lit.int .i64 a)≠Lit.int .i64 b:=fun e=>h (by injection e)
theorem Fe:∀l,Tidy (Qh l)
 | []=>tidy_empty
 |_::r=>(Fe r).put (EK _) _
def Q6(l:List (Int×DW))(n:Int):Option DW:=(l.find? fun p=>p.1==n).map (·.2)
theorem GM(l:List (Int×DW))(n:Int)(z:DW):(Qh l).atKey (.int .i64 n) z=(Q6 l n).getD z:=by
 induction l with
 |nil=>rfl
 | cons p r ih=>
   by_cases e:p.1=n
   · subst e;rw[Qh,atKey_put_same (Fe _).isMap (EK _)];simp[Q6]
   · rw[Qh,atKey_put_other (kni fun h=>e h.symm),ih];simp[Q6,e]
theorem AU(l:List (Int×DW))(n:Int):Maps.has (Qh l) (.int .i64 n)=(Q6 l n).isSome:=by
 cases h:Q6 l n with
 |some x=>exact has_true_of_atKey (y:=x) (fun z=>by rw[GM,h];rfl)
 |none=>exact has_false_of_atKey (fun z=>by rw[GM,h];rfl)
def XM:List Dd->List (Int×DW)
 | []=>[]
 |d::r=>(d.ix,.lit (.string (orgS (qH (d::r) d.ix))))::XM r
def YK:List Dd->List (Int×DW)
 | []=>[]
 |d::r=>(d.ix,.lit (.int .i64 r.length))::YK r
theorem OZ:∀(r:List Dd) (n:Int),Q6 (XM r) n=if qH r n=[]then none else some (.lit (.string (orgS (qH r n))))
 | [],_=>rfl
 | d ::r,n=>by
   have ih:=OZ r n;by_cases e:d.ix=n
   · subst e;have hne:qH (d::r) d.ix≠[]:=by rw[qH,if_pos rfl];simp
     rw[if_neg hne];simp[Q6,XM]
   · rw[NT e,<-ih];simp[Q6,XM,e]
theorem zgk(d:Dd)(r:List Dd):orgS (qH (d::r) d.ix)=orgS (qH r d.pa)++47::L d.og:=by rw[qH,if_pos rfl,yD]
theorem yL:∀(r:List Dd) (n:Int),(match Q6 (YK r) n with|none=>∀x∈r,x.ix≠n|some z=>∃(i:Nat) (x:Dd),z=.lit (.int .i64 i)/\i<r.length/\r.reverse[i]? =some x/\x.ix=n)
 | [],n=>by simp[Q6,YK]
 | d ::r,n=>by
   have ih:=yL r n;by_cases e:d.ix=n
   · have h1:Q6 (YK (d::r)) n=some (.lit (.int .i64 r.length)):=by simp[Q6,YK,e]
     rw[h1];exact⟨r.length,d,rfl,zl,zl,e⟩
   · have h1:Q6 (YK (d::r)) n=Q6 (YK r) n:=by simp[Q6,YK,e]
     rw[h1];cases h2:Q6 (YK r) n with
     | none=>
       rw[h2]at ih;intro x hx;rcases List.mem_cons.1 hx with rfl|hx
       · exact e
       · exact ih x hx
     | some z=>
       rw[h2]at ih;obtain⟨i,x,h3,h4,h5,h6⟩:=ih;refine⟨i,x,h3,zH,?_,h6⟩;rw[List.reverse_cons,List.getElem?_append_left (by simp;exact h4)];exact h5
end
section
open Go.RowKit
theorem any_cons(b:UInt8)(l c:ze):Lib.containsAny (b::l) c=(c.contains b||Lib.containsAny l c):=by
 unfold Lib.containsAny;rw[Lib.indexAny];have:=Lib.indexAny_ge c l;by_cases h:c.contains b=true
 · rw[if_pos h,h];simp
 · rw[if_neg h];have hb:c.contains b=false:=Xz;rw[hb,Bool.false_or]
   split
   · rename_i h1;have h1:Lib.indexAny l c= -1:=KP;rw[h1]
   · rename_i h1;have h1:¬Lib.indexAny l c= -1:=KP;rw[decide_eq_decide];omega
theorem zgA(l:ze):(!Lib.containsAny l [58,33])=l.all fun b=> !(b==58||b==33):=by
 induction l with
 |nil=>rfl
 | cons b l ih=>
   rw[any_cons,Bool.not_or,ih,List.all_cons]
   congr 1
   simp;rfl
theorem zaS:((List.range 256).all fun n=> !(qt YB [33] n)||decide (n<128))=true:=zg
theorem zcb{l:ze}(h:ZT l=true):∀(j:Nat) b,l[j]? =some b->b.toNat<128:=by
 intro j b hb;unfold ZT at h;rw[Bool.and_eq_true]at h;have h1:=List.all_eq_true.1 h.2 b (List.mem_of_getElem? hb);have h2:=List.all_eq_true.1 zaS b.toNat (List.mem_range.2 b.toNat_lt);rw[h1]at h2;simpa using h2
theorem Nq(s:ByteArray)(w:World)(hs:s.size<=1000000):
 Calls prog 167 #[.string s] w fun e w'=>e=.returned (.bool (XY (L s)))/\Below w.heap.size w w':=by
 have hE:XY (L s)=(ZT (L s)&&decide (s.size<=15)&& !Lib.containsAny (L s) [58,33]):=by rw[zgA,<-zC];rfl
 rw[hE];clear hE;have HV0:=GQ s w zb;cases hv:ZT (L s)with
 | false=>
   rw[hv]at HV0;have HV:=za HV0;clear HV0 hv;exact yq
 | true=>
   rw[hv]at HV0;have HC:=za (fun(W:World)=>strings_ContainsAny_laid s ⟨#[58,33]⟩ W zb zi (zcb hv) (by
    intro j b hb
    match j,hb with
    |0,hb=>cases hb;decide
    |1,hb=>cases hb;decide))
   have HV:=za HV0;clear HV0 hv;have hd:(⟨#[58,33]⟩:ByteArray).data.toList=[58,33]:=rfl;rw[hd]at HC;have hd2:s.data.toList=L s:=rfl;rw[hd2]at HC;clear hd hd2;generalize Lib.containsAny (L s) [58,33]=b at*;by_cases hn:s.size<=15
   · have hni:((s.size:Nat):Int)<=15:=by omega
     rw[decide_eq_true hn];go_enter func167,ntmps167;go_wp2_with (first|(go_at_call 169;refine HV.out.mono ?_;rintro e w2 ⟨rfl,hb2⟩)|(go_at_call 214;refine(HC.out _).mono ?_;rintro e w3 ⟨rfl,hb3⟩))
     go_ret;exact⟨Pf,bt hb2 hb3⟩
   · have hni:¬((s.size:Nat):Int)<=15:=by omega
     rw[decide_eq_false hn];exact yq
end
end Go.Proofs.YtecbmndgpepkcaaGreatDoor
