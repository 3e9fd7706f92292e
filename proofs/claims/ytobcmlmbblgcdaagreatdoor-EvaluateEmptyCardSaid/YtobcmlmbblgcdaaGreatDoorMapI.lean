/-
  Maps from numbers, as data; the origins and places that a view of a tree holds; no program in sight.
-/
import Derived.Test.YtobcmlmbblgcdaaGreatDoorG05
namespace Go.Proofs.YtobcmlmbblgcdaaGreatDoor
open Go.RowKit Go.Maps
def kvD:List (Int × DW)→DW
 | []=>.map []
 | p :: r=>(kvD r).put (.int .i64 p.1) p.2
theorem key_int (n:Int):WideAt.IsKeyLit (.int .i64 n):=by first | exact trivial | simp [WideAt.IsKeyLit]
theorem kni {a b:Int} (h:a≠b):(Lit.int .i64 a)≠Lit.int .i64 b:=fun e=>h (by injection e)
theorem kvD_tidy:∀ l,Tidy (kvD l)
 | []=>tidy_empty
 | _ :: r=>(kvD_tidy r).put (key_int _) _
def atV (l:List (Int × DW)) (n:Int):Option DW:=(l.find? fun p=>p.1 == n).map (·.2)
theorem kvD_at (l:List (Int × DW)) (n:Int) (z:DW):(kvD l).atKey (.int .i64 n) z=(atV l n).getD z:=by
 induction l with
 | nil=>rfl
 | cons p r ih =>
   by_cases e:p.1=n
   · subst e
     rw [kvD,atKey_put_same (kvD_tidy _).isMap (key_int _)]
     simp [atV]
   · rw [kvD,atKey_put_other (kni fun h=>e h.symm),ih]
     simp [atV,e]
theorem kvD_has (l:List (Int × DW)) (n:Int):Maps.has (kvD l) (.int .i64 n)=(atV l n).isSome:=by
 cases h:atV l n with
 | some x=>exact has_true_of_atKey (y:=x) (fun z=>by rw [kvD_at,h];rfl)
 | none=>exact has_false_of_atKey (fun z=>by rw [kvD_at,h];rfl)
def orgR:List Dd→List (Int × DW)
 | []=>[]
 | d :: r=>(d.ix,.lit (.string (orgS (chR (d :: r) d.ix)))) :: orgR r
def plcR:List Dd→List (Int × DW)
 | []=>[]
 | d :: r=>(d.ix,.lit (.int .i64 r.length)) :: plcR r
theorem orgR_at:∀ (r:List Dd) (n:Int),atV (orgR r) n=if chR r n=[] then none else some (.lit (.string (orgS (chR r n))))
 | [],_=>rfl
 | d :: r,n=>by
   have ih:=orgR_at r n
   by_cases e:d.ix=n
   · subst e
     have hne:chR (d :: r) d.ix≠[]:=by rw [chR,if_pos rfl];simp
     rw [if_neg hne]
     simp [atV,orgR]
   · rw [chR_skip e,←ih]
     simp [atV,orgR,e]
theorem org_step (d:Dd) (r:List Dd):orgS (chR (d :: r) d.ix)=orgS (chR r d.pa)++47 :: L d.og:=by rw [chR,if_pos rfl,orgS_cons]
end Go.Proofs.YtobcmlmbblgcdaaGreatDoor
