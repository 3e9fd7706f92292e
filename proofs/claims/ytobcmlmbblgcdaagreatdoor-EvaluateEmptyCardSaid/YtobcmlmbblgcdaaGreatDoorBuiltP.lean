/-
  What the builtins give and the base properties, on data; no program in sight. (Printed by gen_builtp.py.)
-/
import Derived.Test.YtobcmlmbblgcdaaGreatDoorG05
import Derived.Lib.Replace
import Derived.Lib.MapU
namespace Go.Proofs.YtobcmlmbblgcdaaGreatDoor
def nodeB (d:Dd):Option ByteArray:=if d.kd=2∨d.kd=3 then some (bs (Lib.replaceAll (L d.og) [33] [47])) else none
def setN (l:List At) (k v:ByteArray):List At:=if (L v).isEmpty then l else setP l ⟨k,v⟩
abbrev kDevpath:ByteArray:=⟨#[68,69,86,80,65,84,72]⟩
abbrev kSubsys:ByteArray:=⟨#[83,85,66,83,89,83,84,69,77]⟩
abbrev kDriver:ByteArray:=⟨#[68,82,73,86,69,82]⟩
abbrev kModal:ByteArray:=⟨#[77,79,68,65,76,73,65,83]⟩
abbrev kDevname:ByteArray:=⟨#[68,69,86,78,65,77,69]⟩
abbrev kNumber:ByteArray:=⟨#[78,85,77,66,69,82]⟩
abbrev kIface:ByteArray:=⟨#[73,78,84,69,82,70,65,67,69]⟩
abbrev kPath:ByteArray:=⟨#[73,68,95,80,65,84,72]⟩
abbrev kTag:ByteArray:=⟨#[73,68,95,80,65,84,72,95,84,65,71]⟩
abbrev kUsage:ByteArray:=⟨#[73,68,95,70,83,95,85,83,65,71,69]⟩
abbrev kUuid:ByteArray:=⟨#[73,68,95,70,83,95,85,85,73,68]⟩
abbrev kLabel:ByteArray:=⟨#[73,68,95,70,83,95,76,65,66,69,76]⟩
abbrev kOnb:ByteArray:=⟨#[73,68,95,78,69,84,95,78,65,77,69,95,79,78,66,79,65,82,68]⟩
abbrev kSlot:ByteArray:=⟨#[73,68,95,78,69,84,95,78,65,77,69,95,83,76,79,84]⟩
abbrev kMac:ByteArray:=⟨#[73,68,95,78,69,84,95,78,65,77,69,95,77,65,67]⟩
abbrev hEno:ByteArray:=⟨#[101,110,111]⟩
abbrev hEns:ByteArray:=⟨#[101,110,115]⟩
abbrev hEnx:ByteArray:=⟨#[101,110,120]⟩
abbrev nIndex:ByteArray:=⟨#[105,110,100,101,120]⟩
abbrev nSlot:ByteArray:=⟨#[115,108,111,116]⟩
abbrev nAddr:ByteArray:=⟨#[97,100,100,114,101,115,115]⟩
abbrev nCont:ByteArray:=⟨#[99,111,110,116,101,110,116]⟩
abbrev bColon:ByteArray:=⟨#[58]⟩
abbrev bDash:ByteArray:=⟨#[45]⟩
def baseD (d:Dd) (o:ByteArray):List At :=
 let a:=setN (setN (setN (setN [] kDevpath o) kSubsys d.sb) kDriver d.dr) kModal d.al
 let b:=match nodeB d with
  | some v=>setN (setN a kDevname v) kNumber (bs (Lib.itoa d.nb))
  | none=>a
 if d.kd=4 then setN b kIface d.og else b
def baseS (l:List Dd) (n:Int):List At:=match findD l n with
 | some d=>baseD d (orgB l n)
 | none=>[]
def partD (d:Dd):ByteArray:=d.sb++bColon++d.og
def pathT:List Dd→ByteArray
 | []=>⟨#[]⟩
 | d :: r=>(r.foldl (fun p a=>partD a++bDash++p) (partD d)).extract 0 256
def wordI (z:Int):Int:=if (65≤z∧z≤90)∨(97≤z∧z≤122)∨(48≤z∧z≤57) then z else 95
def pathS (l:List Dd) (n:Int):List At:=match findD l n with
 | some _=>[⟨kPath,pathT (chS l n)⟩,⟨kTag,bs (Lib.mapD wordI (L (pathT (chS l n))))⟩]
 | none=>[]
def contT (s:ByteArray):Option (ByteArray × ByteArray × ByteArray) :=
 if L s=L ⟨#[102,115,58,117,49,58,114,111,111,116]⟩ then some (⟨#[102,105,108,101,115,121,115,116,101,109]⟩,⟨#[117,49]⟩,⟨#[114,111,111,116]⟩) else
 if L s=L ⟨#[102,115,58,117,50,58]⟩ then some (⟨#[102,105,108,101,115,121,115,116,101,109]⟩,⟨#[117,50]⟩,⟨#[]⟩) else
 if L s=L ⟨#[114,97,105,100,58,114,49,58,49,47,50,47,49,40,102,115,58,117,51,58,100,97,116,97,41]⟩ then some (⟨#[114,97,105,100]⟩,⟨#[114,49]⟩,⟨#[]⟩) else
 if L s=L ⟨#[114,97,105,100,58,114,49,58,50,47,50,47,49,40,102,115,58,117,51,58,100,97,116,97,41]⟩ then some (⟨#[114,97,105,100]⟩,⟨#[114,49]⟩,⟨#[]⟩) else
 if L s=L ⟨#[99,114,121,112,116,58,99,49,40,102,115,58,117,52,58,41]⟩ then some (⟨#[99,114,121,112,116,111]⟩,⟨#[99,49]⟩,⟨#[]⟩) else
 if L s=L ⟨#[112,118,58,103,49,58,49,47,49,40,102,115,58,117,53,58,44,41]⟩ then some (⟨#[109,101,109,98,101,114]⟩,⟨#[103,49]⟩,⟨#[]⟩) else
 if L s=L ⟨#[116,97,98,108,101,58,116,49,40,102,115,58,117,54,58,98,111,111,116,44,114,97,105,100,58,114,49,58,50,47,50,47,49,40,102,115,58,117,51,58,100,97,116,97,41,41]⟩ then some (⟨#[116,97,98,108,101]⟩,⟨#[116,49]⟩,⟨#[]⟩) else
 none
def contS (d:Dd):List At:=if d.kd=2 then (match contT (attrS d.ats (L nCont)) with
 | some (u,i,l)=>setN (setN (setN [] kUsage u) kUuid i) kLabel l
 | none=>[]) else []
def netN (l:List At) (k h:ByteArray) (v:Option ByteArray):List At:=match v with
 | some v=>if ifaceB (L (h++v)) then setN l k (h++v) else l
 | none=>l
def netS (d:Dd):List At:=if d.kd=4 then netN (netN (netN [] kOnb hEno ((findF d.ats (L nIndex)).map (·.val))) kSlot hEns ((findF d.ats (L nSlot)).map (·.val))) kMac hEnx ((findF d.ats (L nAddr)).map fun x=>bs (Lib.replaceAll (L x.val) [58] [])) else []
def runB (name:ByteArray) (l:List Dd) (n:Int):List At :=
 if L name=[112,97,116,104] then pathS l n else if L name=[99,111,110,116,101,110,116] then (match findD l n with | some d=>contS d | none=>[]) else if L name=[110,101,116] then (match findD l n with | some d=>netS d | none=>[]) else []
end Go.Proofs.YtobcmlmbblgcdaaGreatDoor
