/-
  The chapter's example of an evaluation, on data; no program in sight. (Printed by gen_kne.py.)
  The law's example of an evaluation, in memory. (Printed by gen_knm.py.)
-/
import Derived.Test.YtobcmlmbblgcdaaGreatDoorG23
import Derived.Test.YtobcmlmbblgcdaaGreatDoorG41
import Derived.Test.YtobcmlmbblgcdaaGreatDoorG39
namespace Go.Proofs.YtobcmlmbblgcdaaGreatDoor
set_option maxRecDepth 100000
section
abbrev sdaB:ByteArray:=⟨#[115,100,97]⟩
abbrev sdbB:ByteArray:=⟨#[115,100,98]⟩
def exD (s:ByteArray):Dd:=⟨1,0,s,s,⟨#[98,108,111,99,107]⟩,⟨#[]⟩,⟨#[]⟩,2,8,[]⟩
def exI (s:ByteArray):Inp:=⟨⟨#[97,100,100]⟩,[exD s],1,[],[⟨⟨#[112,114,111,98,101,32,115,100,97]⟩,⟨#[120]⟩,false,0⟩],9⟩
def exC (s:ByteArray):Cst:=⟨exI s,exD s,orgB [exD s] 1,pntS [exD s] (exD s)⟩
def exL:List (List Tm):=[[⟨2,⟨#[]⟩,1,⟨#[115,100,42]⟩⟩,⟨12,⟨#[]⟩,1,⟨#[112,114,111,98,101,32,37,107]⟩⟩,⟨6,⟨#[73,68]⟩,3,⟨#[37,99]⟩⟩],[⟨6,⟨#[73,68]⟩,2,⟨#[]⟩⟩,⟨24,⟨#[]⟩,3,⟨#[101,110,100]⟩⟩],[⟨16,⟨#[]⟩,4,⟨#[110,111,110,101]⟩⟩],[⟨23,⟨#[]⟩,3,⟨#[101,110,100]⟩⟩,⟨7,⟨#[]⟩,4,⟨#[115,101,101,110]⟩⟩]]
theorem kg1:globM [115,100,42] [115,100,97]=true:=by
 have e:globS [115,100,42]=some [[.lit 115,.lit 100,.star]]:=by kernel_rfl
 have e2:printS [115,100,97]=true:=by kernel_rfl
 unfold globM;rw [e];simp [e2,altB,matchS,El.isStar,hasB,El.has]
theorem kg2:globM [115,100,42] [115,100,98]=true:=by
 have e:globS [115,100,42]=some [[.lit 115,.lit 100,.star]]:=by kernel_rfl
 have e2:printS [115,100,98]=true:=by kernel_rfl
 unfold globM;rw [e];simp [e2,altB,matchS,El.isStar,hasB,El.has]
theorem kg3:globM [112,114,111,98,101,32,115,100,97] [112,114,111,98,101,32,115,100,97]=true:=by
 have e:globS [112,114,111,98,101,32,115,100,97]=some [[.lit 112,.lit 114,.lit 111,.lit 98,.lit 101,.lit 32,.lit 115,.lit 100,.lit 97]]:=by kernel_rfl
 have e2:printS [112,114,111,98,101,32,115,100,97]=true:=by kernel_rfl
 unfold globM;rw [e];simp [e2,altB,matchS,El.isStar,hasB,El.has]
theorem kg4:globM [112,114,111,98,101,32,115,100,97] [112,114,111,98,101,32,115,100,98]=false:=by
 have e:globS [112,114,111,98,101,32,115,100,97]=some [[.lit 112,.lit 114,.lit 111,.lit 98,.lit 101,.lit 32,.lit 115,.lit 100,.lit 97]]:=by kernel_rfl
 have e2:printS [112,114,111,98,101,32,115,100,98]=true:=by kernel_rfl
 unfold globM;rw [e];simp [e2,altB,matchS,El.isStar,hasB,El.has]
theorem kg5:globM [] [120]=false:=by
 have e:globS []=some [[]]:=by kernel_rfl
 have e2:printS [120]=true:=by kernel_rfl
 unfold globM;rw [e];simp [e2,altB,matchS]
theorem kg6:globM [] []=true:=by
 have e:globS []=some [[]]:=by kernel_rfl
 have e2:printS []=true:=by kernel_rfl
 unfold globM;rw [e];simp [e2,altB,matchS]
section
variable {c:Cst} {l r:List Tm} {x y:Ev} {t:Tm} {ls:List (List Tm)} {f k:Nat} {held:List Int}
theorem mt_t (h:matchB t.op=true) (h2:holdsE c l x t=(y,true)):matchE c l (t :: r) x=matchE c l r y:=by rw [matchE,if_pos h,h2];rfl
theorem mt_f (h:matchB t.op=true) (h2:holdsE c l x t=(y,false)):matchE c l (t :: r) x=(y,false):=by rw [matchE,if_pos h,h2];rfl
theorem mt_s (h:matchB t.op=false):matchE c l (t :: r) x=matchE c l r x:=by rw [matchE,if_neg (by rw [h];simp)]
theorem rd_t (h:matchE c l l { x with ab:=c.dev,re:=false }=(y,true)):readE c x l=((l.filter fun t => !matchB t.op).foldl (asgE c) y,true):=by unfold readE;rw [h];rfl
theorem rd_f (h:matchE c l l { x with ab:=c.dev,re:=false }=(y,false)):readE c x l=(y,false):=by unfold readE;rw [h];rfl
theorem rn_t (hl:ls[k]? = some l) (h:readE c x l=(y,true)):runE c ls (f+1) k x held=runE c ls f (nextS ls k l) y (held++[(k:Int)]):=by rw [runE,hl];dsimp only;rw [h];rfl
theorem rn_f (hl:ls[k]? = some l) (h:readE c x l=(y,false)):runE c ls (f+1) k x held=runE c ls f (k+1) y held:=by rw [runE,hl];dsimp only;rw [h];rfl
theorem hd_static (h:staticB t=true):holdsE c l x t=(x,devD t c.dev):=by unfold holdsE;rw [if_pos h]
theorem hd_prog (h:staticB t=false) (h2:upB t=false) (h3:t.key=12) {a:ByteArray} {n e:Int} (hc:callE c x t.value=(a,n,e)):holdsE c l x t=({ tickE x n with dr:={ (tickE x n).dr with res:=a } },(e == 0) == (t.op == 1)):=by
 unfold holdsE
 rw [if_neg (by rw [h];simp),if_neg (by rw [h2];simp),if_pos h3,hc]
theorem hd_draft (h:staticB t=false) (h2:upB t=false) (h3:t.key≠12) (h4:t.key≠14):holdsE c l x t=(x,draftB t c.i.act x.dr):=by
 unfold holdsE
 rw [if_neg (by rw [h];simp),if_neg (by rw [h2];simp),if_neg h3,if_neg h4]
end
abbrev tA0:Tm:=⟨2,⟨#[]⟩,1,⟨#[115,100,42]⟩⟩
abbrev tA1:Tm:=⟨12,⟨#[]⟩,1,⟨#[112,114,111,98,101,32,37,107]⟩⟩
abbrev tA2:Tm:=⟨6,⟨#[73,68]⟩,3,⟨#[37,99]⟩⟩
abbrev tB0:Tm:=⟨6,⟨#[73,68]⟩,2,⟨#[]⟩⟩
abbrev tB1:Tm:=⟨24,⟨#[]⟩,3,⟨#[101,110,100]⟩⟩
abbrev lA:List Tm:=[tA0,tA1,tA2]
abbrev lB:List Tm:=[tB0,tB1]
abbrev lC:List Tm:=[⟨16,⟨#[]⟩,4,⟨#[110,111,110,101]⟩⟩]
abbrev lD:List Tm:=[⟨23,⟨#[]⟩,3,⟨#[101,110,100]⟩⟩,⟨7,⟨#[]⟩,4,⟨#[115,101,101,110]⟩⟩]
def x0A:Ev:=evS (exC sdaB)
def x1A:Ev:={ x0A with ab:=exD sdaB,re:=false }
def y1A:Ev:={ tickE x1A 0 with dr:={ (tickE x1A 0).dr with res:=⟨#[120]⟩ } }
def z1A:Ev:=(lA.filter fun t => !matchB t.op).foldl (asgE (exC sdaB)) y1A
def x2A:Ev:={ z1A with ab:=exD sdaB,re:=false }
def z2A:Ev:=(lB.filter fun t => !matchB t.op).foldl (asgE (exC sdaB)) x2A
def x4A:Ev:={ z2A with ab:=exD sdaB,re:=false }
def z4A:Ev:=(lD.filter fun t => !matchB t.op).foldl (asgE (exC sdaB)) x4A
theorem callA:callE (exC sdaB) x1A tA1.value=(⟨#[120]⟩,0,0):=by
 unfold callE
 rw [show expE (exC sdaB) x1A tA1.value=(⟨#[112,114,111,98,101,32,115,100,97]⟩:ByteArray) from by kernel_rfl]
 unfold callS
 rw [if_neg (by decide)]
 have:((exC sdaB).i.hps.find? fun x=>globM (L x.cmd) (L (⟨#[112,114,111,98,101,32,115,100,97]⟩:ByteArray)))=some ⟨⟨#[112,114,111,98,101,32,115,100,97]⟩,⟨#[120]⟩,false,0⟩:=by
  show List.find? _ [_]=_
  rw [List.find?_cons_of_pos (by exact kg3)]
 rw [this]
 rfl
theorem readA0:readE (exC sdaB) x0A lA=(z1A,true):=by
 refine rd_t ?_
 rw [mt_t (y:=x1A) rfl (by rw [hd_static rfl];show (_,(true && (globM [115,100,42] [115,100,97] == true)))=_;rw [kg1];rfl)]
 rw [mt_t (y:=y1A) rfl (by rw [hd_prog rfl rfl rfl callA];rfl)]
 rw [mt_s rfl]
 rfl
theorem readA1:readE (exC sdaB) z1A lB=(z2A,true):=by
 refine rd_t ?_
 rw [mt_t (y:=x2A) rfl (by
  rw [hd_draft rfl rfl (by decide) (by decide)]
  show (_,(true && (globM [] (L (attrS x2A.dr.props [73,68])) == false)))=_
  rw [show L (attrS x2A.dr.props [73,68])=[120] from by kernel_rfl,kg5];rfl)]
 rw [mt_s rfl]
 rfl
theorem exA_is:runE (exC sdaB) exL 5 0 (evS (exC sdaB)) []=(z4A,[0,1,3]):=by
 show runE (exC sdaB) exL (4+1) 0 x0A []=_
 rw [rn_t (l:=lA) rfl readA0,show nextS exL 0 lA=1 from by kernel_rfl,rn_t (l:=lB) rfl readA1,show nextS exL 1 lB=3 from by kernel_rfl,rn_t (l:=lD) (y:=z4A) rfl (rd_t (by rw [mt_s rfl,mt_s rfl];rfl)),show nextS exL 3 lD=4 from by kernel_rfl,runE]
 rfl
def x0B:Ev:=evS (exC sdbB)
def x1B:Ev:={ x0B with ab:=exD sdbB,re:=false }
def y1B:Ev:={ tickE x1B 0 with dr:={ (tickE x1B 0).dr with res:=⟨#[]⟩ } }
def x2B:Ev:={ y1B with ab:=exD sdbB,re:=false }
def x3B:Ev:={ x2B with ab:=exD sdbB,re:=false }
def z3B:Ev:=(lC.filter fun t => !matchB t.op).foldl (asgE (exC sdbB)) x3B
def x4B:Ev:={ z3B with ab:=exD sdbB,re:=false }
def z4B:Ev:=(lD.filter fun t => !matchB t.op).foldl (asgE (exC sdbB)) x4B
theorem callB:callE (exC sdbB) x1B tA1.value=(⟨#[]⟩,0,143):=by
 unfold callE
 rw [show expE (exC sdbB) x1B tA1.value=(⟨#[112,114,111,98,101,32,115,100,98]⟩:ByteArray) from by kernel_rfl]
 unfold callS
 rw [if_neg (by decide)]
 have:((exC sdbB).i.hps.find? fun x=>globM (L x.cmd) (L (⟨#[112,114,111,98,101,32,115,100,98]⟩:ByteArray)))=none:=by
  show List.find? _ [_]=_
  rw [List.find?_cons_of_neg (by rw [show globM (L (⟨#[112,114,111,98,101,32,115,100,97]⟩:ByteArray)) (L (⟨#[112,114,111,98,101,32,115,100,98]⟩:ByteArray))=false from kg4];simp),List.find?_nil]
 rw [this]
theorem readB0:readE (exC sdbB) x0B lA=(y1B,false):=by
 refine rd_f ?_
 rw [mt_t (y:=x1B) rfl (by rw [hd_static rfl];show (_,(true && (globM [115,100,42] [115,100,98] == true)))=_;rw [kg2];rfl)]
 rw [mt_f (y:=y1B) rfl (by rw [hd_prog rfl rfl rfl callB];rfl)]
theorem readB1:readE (exC sdbB) y1B lB=(x2B,false):=by
 refine rd_f ?_
 rw [mt_f (y:=x2B) rfl (by
  rw [hd_draft rfl rfl (by decide) (by decide)]
  show (_,(true && (globM [] (L (attrS x2B.dr.props [73,68])) == false)))=_
  rw [show L (attrS x2B.dr.props [73,68])=[] from by kernel_rfl,kg6];rfl)]
theorem exB_is:runE (exC sdbB) exL 5 0 (evS (exC sdbB)) []=(z4B,[2,3]):=by
 show runE (exC sdbB) exL (4+1) 0 x0B []=_
 rw [rn_f (l:=lA) rfl readB0,rn_f (l:=lB) rfl readB1,rn_t (l:=lC) (y:=z3B) rfl (rd_t (by rw [mt_s rfl];rfl)),show nextS exL 2 lC=3 from by kernel_rfl,rn_t (l:=lD) (y:=z4B) rfl (rd_t (by rw [mt_s rfl,mt_s rfl];rfl)),show nextS exL 3 lD=4 from by kernel_rfl,runE]
 rfl
theorem exA_links:z4A.dr.links.length=0:=by kernel_rfl
theorem exA_tags:z4A.dr.tags.length=1:=by kernel_rfl
theorem exA_id:(findF z4A.dr.props [73,68]).map (·.val)=some ⟨#[120]⟩:=by kernel_rfl
theorem exA_props:z4A.dr.props.length=5:=by kernel_rfl
theorem exB_links:z4B.dr.links.length=1:=by kernel_rfl
end
section
open Go.RowKit
abbrev rulT:TypeId:=44
theorem rowN_blk {W:World} {g k n:Nat} {T:TypeId} {cs:Array Value} {xs:List Value} (h:W.heap[g]? = some (.cells cs T (0,0))) (hx:cs.toList=xs) (hl:xs.length=n*k):RowN W (some ⟨g,0,none⟩) k n xs :=
 ⟨⟨hl,fun _=>⟨g,0,rfl,blk_lt' h,fun j u hu=>by rw [Nat.zero_add];exact cellOf h (by rw [←Array.getElem?_toList,hx];exact hu)⟩⟩,fun a e=>by injection e with e;rw [←e];exact ⟨rfl,blk_lt' h⟩⟩
theorem allocs_get:∀ (os:List Obj) (w:World) (i:Nat) (o:Obj),os[i]? = some o→(os.foldl World.alloc w).heap[w.heap.size+i]? = some o∧Below w.heap.size w (os.foldl World.alloc w)
 | [],w,i,o,h=>by cases h
 | a :: os,w,0,o,h=>by
   injection h with h
   subst h
   have hb:∀ (os:List Obj) (w:World),Below w.heap.size w (os.foldl World.alloc w):=by
    intro os
    induction os with
    | nil=>exact fun w=>Below.refl _ _
    | cons a os ih=>exact fun w=>bt (below_alloc w a) (ih (w.alloc a))
   exact ⟨((hb os (w.alloc a)).block _ (by simp)).trans (by rw [Nat.add_zero];exact heap_alloc_new w a),bt (below_alloc w a) (hb os _)⟩
 | a :: os,w,i+1,o,h=>by
   obtain ⟨h1,h2⟩:=allocs_get os (w.alloc a) i o h
   refine ⟨?_,bt (below_alloc w a) h2⟩
   rw [World.size_alloc] at h1
   rw [show w.heap.size+(i+1)=w.heap.size+1+i by omega]
   exact h1
def exR (g1 g2 g3 g4:Nat):List Rl:=[⟨⟨#[]⟩,0,⟨some ⟨g1,0,none⟩,3,[⟨2,⟨#[]⟩,1,⟨#[115,100,42]⟩⟩,⟨12,⟨#[]⟩,1,⟨#[112,114,111,98,101,32,37,107]⟩⟩,⟨6,⟨#[73,68]⟩,3,⟨#[37,99]⟩⟩]⟩⟩,⟨⟨#[]⟩,0,⟨some ⟨g2,0,none⟩,2,[⟨6,⟨#[73,68]⟩,2,⟨#[]⟩⟩,⟨24,⟨#[]⟩,3,⟨#[101,110,100]⟩⟩]⟩⟩,⟨⟨#[]⟩,0,⟨some ⟨g3,0,none⟩,1,[⟨16,⟨#[]⟩,4,⟨#[110,111,110,101]⟩⟩]⟩⟩,⟨⟨#[]⟩,0,⟨some ⟨g4,0,none⟩,2,[⟨23,⟨#[]⟩,3,⟨#[101,110,100]⟩⟩,⟨7,⟨#[]⟩,4,⟨#[115,101,101,110]⟩⟩]⟩⟩]
theorem exR_z (g1 g2 g3 g4:Nat):RuZ (exR g1 g2 g3 g4):=by
 refine ⟨by show 4≤40;omega,fun y hy=>?_⟩
 simp only [exR,List.mem_cons,List.not_mem_nil,or_false] at hy
 rcases hy with rfl | rfl | rfl | rfl <;> (dsimp only;decide)
theorem exR_k (g1 g2 g3 g4:Nat):∀ y∈exR g1 g2 g3 g4,∀ t∈y.tms.l,KeyS t:=by
 intro y hy
 simp only [exR,List.mem_cons,List.not_mem_nil,or_false] at hy
 rcases hy with rfl | rfl | rfl | rfl <;> (dsimp only;decide)
theorem exR_in {w:World} {g1 g2 g3 g4 g5:Nat} (h1:w.heap[g1]? = some (.cells #[.int .i64 2,.string ⟨#[]⟩,.int .i64 1,.string ⟨#[115,100,42]⟩,.int .i64 12,.string ⟨#[]⟩,.int .i64 1,.string ⟨#[112,114,111,98,101,32,37,107]⟩,.int .i64 6,.string ⟨#[73,68]⟩,.int .i64 3,.string ⟨#[37,99]⟩] 46 (0,0))) (h2:w.heap[g2]? = some (.cells #[.int .i64 6,.string ⟨#[73,68]⟩,.int .i64 2,.string ⟨#[]⟩,.int .i64 24,.string ⟨#[]⟩,.int .i64 3,.string ⟨#[101,110,100]⟩] 46 (0,0))) (h3:w.heap[g3]? = some (.cells #[.int .i64 16,.string ⟨#[]⟩,.int .i64 4,.string ⟨#[110,111,110,101]⟩] 46 (0,0))) (h4:w.heap[g4]? = some (.cells #[.int .i64 23,.string ⟨#[]⟩,.int .i64 3,.string ⟨#[101,110,100]⟩,.int .i64 7,.string ⟨#[]⟩,.int .i64 4,.string ⟨#[115,101,101,110]⟩] 46 (0,0)))
 (h5:w.heap[g5]? = some (.cells #[.string ⟨#[]⟩,.int .i64 0,.slice (some ⟨g1,0,none⟩) 3 3,.string ⟨#[]⟩,.int .i64 0,.slice (some ⟨g2,0,none⟩) 2 2,.string ⟨#[]⟩,.int .i64 0,.slice (some ⟨g3,0,none⟩) 1 1,.string ⟨#[]⟩,.int .i64 0,.slice (some ⟨g4,0,none⟩) 2 2] rulT (0,0))):RuE w (some ⟨g5,0,none⟩) (exR g1 g2 g3 g4):=by
 refine ⟨rowN_blk h5 rfl rfl,fun y hy=>?_,fun y hy=>?_⟩
 · simp only [exR,List.mem_cons,List.not_mem_nil,or_false] at hy
   rcases hy with rfl | rfl | rfl | rfl
   · exact rowN_blk h1 rfl rfl
   · exact rowN_blk h2 rfl rfl
   · exact rowN_blk h3 rfl rfl
   · exact rowN_blk h4 rfl rfl
 · simp only [exR,List.mem_cons,List.not_mem_nil,or_false] at hy
   rcases hy with rfl | rfl | rfl | rfl <;> (intro e;cases e)
def exM (s:ByteArray) (td th:Nat):EmC:=⟨⟨#[97,100,100]⟩,some ⟨td,0,none⟩,1,[⟨1,0,s,s,⟨#[98,108,111,99,107]⟩,⟨#[]⟩,⟨#[]⟩,2,8,⟨none,0,[]⟩⟩],1,rmZ,⟨some ⟨th,0,none⟩,1,[⟨⟨#[112,114,111,98,101,32,115,100,97]⟩,⟨#[120]⟩,false,0⟩]⟩,9,dv0,⟨#[]⟩,⟨#[]⟩⟩
theorem exM_d (s:ByteArray) (td th:Nat):dsD (exM s td th).tds=[exD s]:=rfl
theorem exM_z (s:ByteArray) (hs:s.size≤100) (td th:Nat):InZ (exM s td th):=by
 have hD:∀ d∈dsD (exM s td th).tds,d=exD s:=fun d hd=>by rw [exM_d] at hd;exact List.mem_singleton.1 hd
 refine ⟨⟨⟨by show (1:Int)≤9;omega,by show (9:Int)≤1000;omega,fun x hx=>?_⟩,fun x hx=>(by cases hx),fun n x hx=>?_⟩,fun d hd=>?_,?_,by show 1≤100;omega,by show (-9223372036854775808:Int)≤1;omega,by show (1:Int)≤9223372036854775807;omega,by show 1≤1000;omega,fun y hy=>?_,by show 3≤1000000;omega,by show 0≤1000;omega,fun y hy=>(by cases hy),fun d hd=>?_⟩
 · rw [List.mem_singleton.1 hx];decide
 · have:=runB_val n _ _ x hx;omega
 · rw [hD d hd]
   exact ⟨⟨⟨by show (-9223372036854775808:Int)≤1;omega,by show (1:Int)≤9223372036854775807;omega⟩,⟨by show (-9223372036854775808:Int)≤0;omega,by show (0:Int)≤9223372036854775807;omega⟩,by show s.size≤1000;omega⟩,by show 5≤1000;omega,by show 0≤1000;omega,by show (-9223372036854775808:Int)≤8;omega,by show (8:Int)≤9223372036854775807;omega,fun a ha=>by cases ha⟩
 · rw [exM_d]
   exact ⟨by show (1:Int)≤1;omega,(fun x hx=>by cases hx),Or.inl rfl,trivial⟩
 · rw [List.mem_singleton.1 hy];decide
 · rw [hD d hd];show 0≤1000000;omega
theorem exM_in {w:World} {s:ByteArray} {td th:Nat} (h1:w.heap[td]? = some (.cells #[.int .i64 1,.int .i64 0,.string s,.string s,.string ⟨#[98,108,111,99,107]⟩,.string ⟨#[]⟩,.string ⟨#[]⟩,.int .i64 2,.int .i64 8,.slice none 0 0] devT (0,0))) (h2:w.heap[th]? = some (.cells #[.string ⟨#[112,114,111,98,101,32,115,100,97]⟩,.string ⟨#[120]⟩,.bool false,.int .i64 0] hpT (0,0))):InM w (exM s td th):=by
 refine ⟨⟨rowN_blk h1 rfl rfl,fun d hd=>?_,by show 1≤1000;omega,fun d hd=>?_⟩,⟨LsN.empty,LsN.empty,LsN.empty,LsN.empty,LsN.empty⟩,⟨rowN_blk h2 rfl rfl,Nat.le_refl _,by show 1≤maxLen;unfold maxLen;omega,fun e=>by cases e⟩⟩
 · rw [List.mem_singleton.1 hd];exact RowN.nil
 · rw [List.mem_singleton.1 hd];exact Nat.zero_le _
def ExP (s:ByteArray) (w:World) (e:Ending) (w':World):Prop:=∃ g1 g2 g3 g4 g5 td th,e=.returned (.tuple #[.slice (some ⟨g5,0,none⟩) 4 4,.agg #[.string ⟨#[97,100,100]⟩,.slice (some ⟨td,0,none⟩) 1 1,.int .i64 1,.string ⟨#[]⟩,.int .i64 0,.slice none 0 0,.slice none 0 0,.slice none 0 0,.slice none 0 0,.slice none 0 0,.string ⟨#[]⟩,.int .i64 0,.string ⟨#[]⟩,.string ⟨#[]⟩,.int .i64 0,.slice (some ⟨th,0,none⟩) 1 1,.int .i64 9]])∧(w.heap.size≤g1∧w.heap.size≤g2∧w.heap.size≤g3∧w.heap.size≤g4∧w.heap.size≤g5∧w.heap.size≤td∧w.heap.size≤th)∧RuE w' (some ⟨g5,0,none⟩) (exR g1 g2 g3 g4)∧InM w' (exM s td th)∧Below w.heap.size w w'
theorem st_inpK (v u:Value):Instr.storeAt inpT v u=stG inpT v u:=by unfold stG;rfl
theorem stInp_at {w:World} {q:Nat} {cs:Array Value} (h:w.heap[q]? = some (.cells cs inpT (0,0))) (hs:cs.size=17) (c:EmC):(stG inpT (.pointer (some ⟨q,0,none⟩)) (.agg (inA c))).run Tryz.prog w=.ok () (w.setRow q (inA c)):=by
 have h1:=stG_at (P:=Tryz.prog) (w:=w) (T:=inpT) (g:=q) (o:=0) (cs:=cs) (vs:=inA c) h (by rw [hs];show 0+17≤17;omega) (by show 0<17;omega) (by exact inSize) (inA_one c)
 rw [setAll_whole cs (inA c) (by rw [hs];rfl)] at h1
 exact h1
theorem post_tc {P:Program} {fn:Func} {R:Ending→World→Prop} {a:Act} {W:World} {g:Nat} {p q:Tmp} {ty t:TypeId} {cs:Array Value} {u:Value} {fr:Nat × Nat} {d:TypeDesc} (h:fn.results=#[.tmp q,.cell p ty]) (hp:a.tmps.getD p undef=.pointer (some ⟨g,0,none⟩)) (hq:a.tmps.getD q undef=u)
 (hg:W.heap[g]? = some (.cells cs t fr)) (hu:P.underlying ty=some d) (hd:(match d with | .struct _ | .array _ _=>true | _=>false)=true) (hi:(P.info? ty).map (·.size)=some cs.size) (hdef:a.defers=[])
 (hR:R (.returned (.tuple #[u,.agg cs])) W):bodyPost P fn R .ret a W:=by
 have hp':a.tmps[p]?.getD undef=.pointer (some ⟨g,0,none⟩):=by simpa using hp
 have hq':a.tmps[q]?.getD undef=u:=by simpa using hq
 refine bodyPost_ret (v:=.tuple #[u,.agg cs]) ?_ hdef hR
 simp [results,h,hp',hq',asAddr,run_loadVar_row W g t ty cs fr d hg hu hd hi]
attribute [local go_sem ↓] st_inpK
set_option maxHeartbeats 4000000 in
theorem Example_any (s:ByteArray) (w:World):Calls Tryz.prog 25 #[.string s] w (ExP s w):=by
 obtain ⟨w1,hw1⟩:∃ w1,((((((w.alloc (.cells #[.string ⟨#[]⟩,.slice none 0 0,.int .i64 0,.string ⟨#[]⟩,.int .i64 0,.slice none 0 0,.slice none 0 0,.slice none 0 0,.slice none 0 0,.slice none 0 0,.string ⟨#[]⟩,.int .i64 0,.string ⟨#[]⟩,.string ⟨#[]⟩,.int .i64 0,.slice none 0 0,.int .i64 0] inpT)).alloc (.cells #[.int .i64 2,.string ⟨#[]⟩,.int .i64 1,.string ⟨#[115,100,42]⟩,.int .i64 12,.string ⟨#[]⟩,.int .i64 1,.string ⟨#[112,114,111,98,101,32,37,107]⟩,.int .i64 6,.string ⟨#[73,68]⟩,.int .i64 3,.string ⟨#[37,99]⟩] 46)).alloc (.cells #[.int .i64 6,.string ⟨#[73,68]⟩,.int .i64 2,.string ⟨#[]⟩,.int .i64 24,.string ⟨#[]⟩,.int .i64 3,.string ⟨#[101,110,100]⟩] 46)).alloc (.cells #[.int .i64 16,.string ⟨#[]⟩,.int .i64 4,.string ⟨#[110,111,110,101]⟩] 46)).alloc (.cells #[.int .i64 23,.string ⟨#[]⟩,.int .i64 3,.string ⟨#[101,110,100]⟩,.int .i64 7,.string ⟨#[]⟩,.int .i64 4,.string ⟨#[115,101,101,110]⟩] 46)).alloc (.cells #[.string ⟨#[]⟩,.int .i64 0,.slice (some ⟨w.heap.size+1,0,none⟩) 3 3,.string ⟨#[]⟩,.int .i64 0,.slice (some ⟨w.heap.size+1+1,0,none⟩) 2 2,.string ⟨#[]⟩,.int .i64 0,.slice (some ⟨w.heap.size+1+1+1,0,none⟩) 1 1,.string ⟨#[]⟩,.int .i64 0,.slice (some ⟨w.heap.size+1+1+1+1,0,none⟩) 2 2] rulT)).alloc (.cells #[.int .i64 1,.int .i64 0,.string s,.string s,.string ⟨#[98,108,111,99,107]⟩,.string ⟨#[]⟩,.string ⟨#[]⟩,.int .i64 2,.int .i64 8,.slice none 0 0] devT)=w1:=⟨_,rfl⟩
 have hf:w1=[.cells #[.string ⟨#[]⟩,.slice none 0 0,.int .i64 0,.string ⟨#[]⟩,.int .i64 0,.slice none 0 0,.slice none 0 0,.slice none 0 0,.slice none 0 0,.slice none 0 0,.string ⟨#[]⟩,.int .i64 0,.string ⟨#[]⟩,.string ⟨#[]⟩,.int .i64 0,.slice none 0 0,.int .i64 0] inpT,.cells #[.int .i64 2,.string ⟨#[]⟩,.int .i64 1,.string ⟨#[115,100,42]⟩,.int .i64 12,.string ⟨#[]⟩,.int .i64 1,.string ⟨#[112,114,111,98,101,32,37,107]⟩,.int .i64 6,.string ⟨#[73,68]⟩,.int .i64 3,.string ⟨#[37,99]⟩] 46,.cells #[.int .i64 6,.string ⟨#[73,68]⟩,.int .i64 2,.string ⟨#[]⟩,.int .i64 24,.string ⟨#[]⟩,.int .i64 3,.string ⟨#[101,110,100]⟩] 46,.cells #[.int .i64 16,.string ⟨#[]⟩,.int .i64 4,.string ⟨#[110,111,110,101]⟩] 46,.cells #[.int .i64 23,.string ⟨#[]⟩,.int .i64 3,.string ⟨#[101,110,100]⟩,.int .i64 7,.string ⟨#[]⟩,.int .i64 4,.string ⟨#[115,101,101,110]⟩] 46,.cells #[.string ⟨#[]⟩,.int .i64 0,.slice (some ⟨w.heap.size+1,0,none⟩) 3 3,.string ⟨#[]⟩,.int .i64 0,.slice (some ⟨w.heap.size+1+1,0,none⟩) 2 2,.string ⟨#[]⟩,.int .i64 0,.slice (some ⟨w.heap.size+1+1+1,0,none⟩) 1 1,.string ⟨#[]⟩,.int .i64 0,.slice (some ⟨w.heap.size+1+1+1+1,0,none⟩) 2 2] rulT,.cells #[.int .i64 1,.int .i64 0,.string s,.string s,.string ⟨#[98,108,111,99,107]⟩,.string ⟨#[]⟩,.string ⟨#[]⟩,.int .i64 2,.int .i64 8,.slice none 0 0] devT].foldl World.alloc w:=hw1.symm
 have hb1:Below w.heap.size w w1:=by rw [hf];exact (allocs_get _ w 0 _ rfl).2
 have h0:w1.heap[w.heap.size]? = some (.cells (inA inZ) inpT (0,0)):=by rw [hf];exact (allocs_get _ w 0 _ rfl).1
 have h1:w1.heap[w.heap.size+1]? = some (.cells #[.int .i64 2,.string ⟨#[]⟩,.int .i64 1,.string ⟨#[115,100,42]⟩,.int .i64 12,.string ⟨#[]⟩,.int .i64 1,.string ⟨#[112,114,111,98,101,32,37,107]⟩,.int .i64 6,.string ⟨#[73,68]⟩,.int .i64 3,.string ⟨#[37,99]⟩] 46 (0,0)):=by rw [hf];exact (allocs_get _ w 1 _ rfl).1
 have h2:w1.heap[w.heap.size+1+1]? = some (.cells #[.int .i64 6,.string ⟨#[73,68]⟩,.int .i64 2,.string ⟨#[]⟩,.int .i64 24,.string ⟨#[]⟩,.int .i64 3,.string ⟨#[101,110,100]⟩] 46 (0,0)):=by rw [hf];exact (allocs_get _ w 2 _ rfl).1
 have h3:w1.heap[w.heap.size+1+1+1]? = some (.cells #[.int .i64 16,.string ⟨#[]⟩,.int .i64 4,.string ⟨#[110,111,110,101]⟩] 46 (0,0)):=by rw [hf];exact (allocs_get _ w 3 _ rfl).1
 have h4:w1.heap[w.heap.size+1+1+1+1]? = some (.cells #[.int .i64 23,.string ⟨#[]⟩,.int .i64 3,.string ⟨#[101,110,100]⟩,.int .i64 7,.string ⟨#[]⟩,.int .i64 4,.string ⟨#[115,101,101,110]⟩] 46 (0,0)):=by rw [hf];exact (allocs_get _ w 4 _ rfl).1
 have h5:w1.heap[w.heap.size+1+1+1+1+1]? = some (.cells #[.string ⟨#[]⟩,.int .i64 0,.slice (some ⟨w.heap.size+1,0,none⟩) 3 3,.string ⟨#[]⟩,.int .i64 0,.slice (some ⟨w.heap.size+1+1,0,none⟩) 2 2,.string ⟨#[]⟩,.int .i64 0,.slice (some ⟨w.heap.size+1+1+1,0,none⟩) 1 1,.string ⟨#[]⟩,.int .i64 0,.slice (some ⟨w.heap.size+1+1+1+1,0,none⟩) 2 2] rulT (0,0)):=by rw [hf];exact (allocs_get _ w 5 _ rfl).1
 have h6:w1.heap[w.heap.size+1+1+1+1+1+1]? = some (.cells #[.int .i64 1,.int .i64 0,.string s,.string s,.string ⟨#[98,108,111,99,107]⟩,.string ⟨#[]⟩,.string ⟨#[]⟩,.int .i64 2,.int .i64 8,.slice none 0 0] devT (0,0)):=by rw [hf];exact (allocs_get _ w 6 _ rfl).1
 have hs1:w1.heap.size=w.heap.size+7:=by rw [hf];simp
 clear hf
 have HW1:=Lib.hid hw1
 have HB1:=Lib.hid hb1
 clear hw1 hb1
 go_enter Tryz.func25,Tryz.ntmps25
 go_upto_region 3 with fail
 rw [HW1.out]
 have hlw:w.heap.size<w1.heap.size:=by omega
 have hd6:=h6
 obtain ⟨⟨c0,c1,c2,c3,c4,c5,c6,c7,c8,c9⟩,-⟩:=box10 hd6
 have hl6:=blk_lt' h6
 have hA1:Below w1.heap.size w1 (((w1.alloc (.cells #[.int .i64 1,.int .i64 0,.string s,.string s,.string ⟨#[98,108,111,99,107]⟩,.string ⟨#[]⟩,.string ⟨#[]⟩,.int .i64 2,.int .i64 8,.slice none 0 0] devT)).alloc (.cells #[.string ⟨#[112,114,111,98,101,32,115,100,97]⟩,.string ⟨#[120]⟩,.bool false,.int .i64 0] hpT)).drew):=bDr (bAl (below_alloc _ _))
 have hA2:Below w1.heap.size w1 (((w1.alloc (.cells #[.string ⟨#[112,114,111,98,101,32,115,100,97]⟩,.string ⟨#[120]⟩,.bool false,.int .i64 0] hpT)).alloc (.cells #[.int .i64 1,.int .i64 0,.string s,.string s,.string ⟨#[98,108,111,99,107]⟩,.string ⟨#[]⟩,.string ⟨#[]⟩,.int .i64 2,.int .i64 8,.slice none 0 0] devT)).drew):=bDr (bAl (below_alloc _ _))
 have hstA:=stInp_at ((hA1.block _ hlw).trans h0) rfl (exM s w1.heap.size (w1.heap.size+1))
 have hstB:=stInp_at ((hA2.block _ hlw).trans h0) rfl (exM s (w1.heap.size+1) w1.heap.size)
 have HEnd:Hid (∀ (W:World) (td th:Nat),Below w1.heap.size w1 W→W.heap[td]? = some (.cells #[.int .i64 1,.int .i64 0,.string s,.string s,.string ⟨#[98,108,111,99,107]⟩,.string ⟨#[]⟩,.string ⟨#[]⟩,.int .i64 2,.int .i64 8,.slice none 0 0] devT (0,0))→W.heap[th]? = some (.cells #[.string ⟨#[112,114,111,98,101,32,115,100,97]⟩,.string ⟨#[120]⟩,.bool false,.int .i64 0] hpT (0,0))→w.heap.size<td→w.heap.size<th→ExP s w (.returned (.tuple #[.slice (some ⟨w.heap.size+5,0,none⟩) 4 4,.agg (inA (exM s td th))])) (W.setRow w.heap.size (inA (exM s td th)))):=Lib.hid fun W td th hW e1 e2 l1 l2=>by
  have hg:=grown_setRow W w.heap.size (inA (exM s td th))
  refine ⟨w.heap.size+1,w.heap.size+2,w.heap.size+3,w.heap.size+4,w.heap.size+5,td,th,rfl,⟨by omega,by omega,by omega,by omega,by omega,by omega,by omega⟩,?_,?_,(bt HB1.out hW).grown hg (bt HB1.out hW).size (fun j e=>by cases e;exact Nat.le_refl _)⟩
  · exact (exR_in ((hW.block _ (blk_lt' h1)).trans h1) ((hW.block _ (blk_lt' h2)).trans h2) ((hW.block _ (blk_lt' h3)).trans h3) ((hW.block _ (blk_lt' h4)).trans h4) ((hW.block _ (blk_lt' h5)).trans h5)).grown hg (fun p e=>by cases e;show w.heap.size+5≠_;omega) (fun y hy p e=>by
     simp only [exR,List.mem_cons,List.not_mem_nil,or_false] at hy
     rcases hy with rfl | rfl | rfl | rfl
     · cases e;show w.heap.size+1≠_;omega
     · cases e;show w.heap.size+2≠_;omega
     · cases e;show w.heap.size+3≠_;omega
     · cases e;show w.heap.size+4≠_;omega)
  · exact (exM_in e1 e2).grown hg (fun a ha p e=>by
     rcases List.mem_append.1 ha with ha | ha
     · simp only [List.mem_cons,List.not_mem_nil,or_false,exM] at ha
       rcases ha with rfl | rfl | rfl | rfl | rfl | rfl | rfl | rfl
       · cases e;show td≠_;omega
       all_goals first
        | (cases e;done)
        | (cases e;show th≠_;omega)
     · obtain ⟨x,hx,rfl⟩:=List.mem_map.1 ha
       rw [List.mem_singleton.1 hx] at e
       cases e)
 have HFa:∀ o1 o2:Obj,(((w1.alloc o1).alloc o2).drew).heap[w1.heap.size]? = some o1∧(((w1.alloc o1).alloc o2).drew).heap[w1.heap.size+1]? = some o2:=fun o1 o2 =>
  ⟨((below_alloc (w1.alloc o1) o2).block _ (by simp)).trans (heap_alloc_new w1 o1),by have:=heap_alloc_new (w1.alloc o1) o2;rw [World.size_alloc] at this;exact this⟩
 have HF1:=Lib.hid (HFa (.cells #[.int .i64 1,.int .i64 0,.string s,.string s,.string ⟨#[98,108,111,99,107]⟩,.string ⟨#[]⟩,.string ⟨#[]⟩,.int .i64 2,.int .i64 8,.slice none 0 0] devT) (.cells #[.string ⟨#[112,114,111,98,101,32,115,100,97]⟩,.string ⟨#[120]⟩,.bool false,.int .i64 0] hpT))
 have HF2:=Lib.hid (HFa (.cells #[.string ⟨#[112,114,111,98,101,32,115,100,97]⟩,.string ⟨#[120]⟩,.bool false,.int .i64 0] hpT) (.cells #[.int .i64 1,.int .i64 0,.string s,.string s,.string ⟨#[98,108,111,99,107]⟩,.string ⟨#[]⟩,.string ⟨#[]⟩,.int .i64 2,.int .i64 8,.slice none 0 0] devT))
 clear HFa
 have HH0:=Lib.hid h0
 have HA1:=Lib.hid hA1
 have HA2:=Lib.hid hA2
 have HS1:=Lib.hid hs1
 clear h0 h1 h2 h3 h4 h5 h6 hd6 hA1 hA2 hs1
 unfold inA exM at hstA hstB
 dsimp only [List.length_cons,List.length_nil,Nat.zero_add] at hstA hstB
 go_region
 all_goals
  go_wp2
  first
   | (refine post_tc rfl (by rfl) (by rfl) (setRow_heap _ _ _ _ _ _ ((HA1.out.block _ hlw).trans HH0.out)) Tryz.underlying37 rfl (by exact inSize) (by rfl) ?_
      exact HEnd.out _ w1.heap.size (w1.heap.size+1) HA1.out HF1.out.1 HF1.out.2 hlw (by omega))
   | (refine post_tc rfl (by rfl) (by rfl) (setRow_heap _ _ _ _ _ _ ((HA2.out.block _ hlw).trans HH0.out)) Tryz.underlying37 rfl (by exact inSize) (by rfl) ?_
      exact HEnd.out _ (w1.heap.size+1) w1.heap.size HA2.out HF2.out.2 HF2.out.1 (by omega) hlw)
end
end Go.Proofs.YtobcmlmbblgcdaaGreatDoor
