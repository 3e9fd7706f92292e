/- Contracts that the law rests on, each under the premises that it names. -/
import Derived.Test.YtecbmndgpepkcaaGreatDoorCards
import Derived.Test.YtecbmndgpepkcaaGreatDoorTie
import Derived.Test.YtecbmndgpepkcaaGreatDoorG35
import Derived.Lib.LaidU8T
import Derived.PinnedBridge
import Derived.ProofKit
import Derived.OpenShut
import Derived.Deep.DeepHandedRow
import Derived.Lib.LaidTab
import Derived.Stop.LaidErr
import Derived.Lay
import Derived.LaidMore
import Derived.SevenTiedAt
namespace Go.Proofs.YtecbmndgpepkcaaGreatDoor
open Go.Proofs.Tryz
set_option maxRecDepth 100000
open Go.ChangeShapes Go.WideShapes Go.ChangeAt Go.RowKit
theorem own:ownKnob prog.godebug=none:=zg
theorem zh2:laidOutB prog=true:=zg
def Yu:List (String×DataW Unit):=Rows.evaluateJumpsRow.laid
theorem Pb:(Yu.all fun x=>x.2.handleName?.isNone)=true:=zg
theorem star: "*" ++ "errors.errorString" = "*errors.errorString" :=zi
theorem Bf(u:TypeId)(h:prog.typeName? 3 u=some "*errors.errorString"):u=363:=
 typeName_ptr_named (nm:= "errors.errorString") (by rw[star];kernel_rfl) zg zi u (by rw[star];exact h)
theorem zbC:prog.cellsOf 206=20:=zg
theorem zjV:prog.cellsOf 177=1:=zg
theorem Fy:prog.cellsOf 365=1:=zg
theorem Dh:prog.cellsOf 9=1:=zg
theorem zg6:(prog.globals[1]?).map (·.type)=some 206:=zg
theorem zcZ:(prog.globals[6]?).map (·.type)=some 159:=zg
theorem BF:(prog.globals[7]?).map (·.type)=some 159:=zg
theorem zk1{P:Program}{w:World}{n:String}{g:Nat}{v:Value}(hg:P.globalNamed n=some g)(h:w.var? P n=some #[v]):g<w.heap.size:=by
 have h1:=World.var?_cell hg h 0;have h2:w.cell? ⟨g,0,none⟩=some v:=Gi;exact block_lt_of_cell h2
theorem zi8{W:World}(hL:laidMetH prog Yu W)(hS:W.ShapedOpen prog):Env W:=by
 rw[MakeChecks.laidMetH_plain _ _ _ Pb]at hL;obtain⟨m,hm⟩:=cell_of_shapedOpen_int (g:=0) (zero:=#[.int .i64 0]) (t:=3) hS (of_decide_eq_true zg) zg rfl zg zg underlying3;have hP:Lib.TabIs prog W "internal/strconv.uint64pow10" .u64 Lib.pow10Tab:=Lib.tabIs_of_head LK zg6 underlying206 underlying177 zjV zbC hL.tail.tail;obtain⟨a1,s1,hr,_,_,_⟩:=laid_sentinel hL.tail.tail.tail.tail RJ BF underlying159 Bf underlying363 underlying365 rfl rfl underlying9 Fy Dh;obtain⟨a2,s2,hs,_,_,_⟩:=laid_sentinel hL.tail.tail.tail.tail.tail RL zcZ underlying159 Bf underlying363 underlying365 rfl rfl underlying9 Fy Dh;refine{toEnv0:=⟨?_,⟨m,hm⟩,hP⟩,syn:=⟨_,_,hs⟩,rng:=⟨_,_,hr⟩};have h0:(((begin prog (fun _ _=>0) default).world.heap[nG - 1]?).bind Obj.row?).isSome=true:=zg;obtain⟨⟨z,t⟩,hz⟩:=Option.isSome_iff_exists.1 h0;obtain⟨cs,hh,_⟩:=hS.1 (nG - 1) z t (of_decide_eq_true zg) hz;have h1:=(Array.getElem?_eq_some_iff.1 hh).1;have h2:0<nG:=zi;omega
def LS:Go.Shelf.Ren:=⟨fun x=>x,fun x=>if x=5 then 5 else if x=119 then 248 else if x=138 then 250 else 251,fun x=>if x=3 then 2 else 3⟩
theorem zgG:U8Types prog LS:=⟨zg,zg,zg,zg⟩
theorem zf2:U8Extra prog LS:=⟨zg,zg,zg,zg,zg,zg,zg⟩
theorem AN{W:World}(hL:laidMetH prog Yu W)(hS:W.ShapedOpen prog):Z2 W:=by
 have h:=zi8 hL hS;rw[MakeChecks.laidMetH_plain _ _ _ Pb]at hL;have h3:Lib.VarReads prog W "unicode/utf8.first" Lib.firstData:=by
  refine Lib.laidMet.reads hL ?_;rw[<-Pinned.utf8First_eq];simp[Yu,Rows.evaluateJumpsRow,Rows.laid_unicode_utf8_first]
 have h4:Lib.VarReads prog W "unicode/utf8.acceptRanges" Lib.acceptData:=by
  refine Lib.laidMet.reads hL ?_;rw[show Lib.acceptData=Rows.laid_unicode_utf8_acceptRanges from by kernel_rfl];simp[Yu,Rows.evaluateJumpsRow]
 exact{toEnv:=h,u8:=utf8Tabs_of_readsT zgG zf2 h3 h4}
theorem zeW{P:Program}(hl:laidOutB P=true){H:Type}{enc:TypeId×Value->H}{W W':World}{sp:Nat->Bool}(hb:Below W.heap.size W W')
 (ts:List TypeId):∀(vs:List Value) (ds:List (DataW H)) (ps:List MemPlace),(ts.all fun t=>P.readableRec t&&decide (t<P.types.size))=true->DataW.TrodAll enc P W 0 (fun _=>true) true ts vs ds ps ->
   (∀x∈ps,x.block<W.heap.size)->(∀x∈ps,sp x.block=true)->DataW.TrodAll enc P W' 0 sp true ts vs ds ps:=by
 induction ts with
 | nil=>
   intro vs ds ps _ h _ _;obtain⟨rfl,rfl,rfl⟩:=trodAll_nil h;exact trodAll_mk0
 | cons t ts ih=>
   intro vs ds ps ht h h1 h2;obtain⟨v,vs',d,ds',p,q,rfl,rfl,rfl,hd,hr⟩:=trodAll_cons h;rw[List.all_cons,Bool.and_eq_true,Bool.and_eq_true,decide_eq_true_eq]at ht;obtain⟨⟨a,b⟩,c⟩:=ht;exact trodAll_cons_mk (WideElems.Trod_stays hl a b hd (fun x hx=>hb.same (h1 x (List.mem_append_left _ hx))) (fun x hx=>h2 x (List.mem_append_left _ hx)))
    (ih vs' ds' q c hr (fun x hx=>h1 x (List.mem_append_right _ hx)) (fun x hx=>h2 x (List.mem_append_right _ hx)))
def jw(w:World)(e:Ending)(w':World):Prop:=e=.returned (.bool true)/\Below w.heap.size w w'
theorem zcK:(Value.bool true).resultList 1=[.bool true]:=zg
theorem zgA(W':World):Value.okWide prog W' .any 0 4 (.bool true):=okWide_bool_mk underlying4 _
theorem yT{H:Type}{enc:TypeId×Value->H}{F:FuncId}{fn:Func}{s:ChangeSpec}{W:World}{args:Array Value}{ds gs:List (DataW H)}{before:List MemPlace}
 (hfn:fn.resultTypes=#[4])(hps:(fn.params.toList.all fun t=>prog.readableRec t&&decide (t<prog.types.size))=true)(hv:s.vars=[])
 (hs:s.fn H (ds++gs)={results:=[.lit (.bool true)],args:=ds})
 (hW:DataW.Whole enc prog fn.params.toList s.vars false W args.toList ds gs before)
 (h:Calls prog F args W (jw W)):
 Calls prog F args W fun e W'=>∃v,e=.returned v/\s.post enc prog fn false true false false W args v W':=by
 refine h.mono fun e W' ⟨he,hb⟩=>⟨_,he,?_⟩;have hW':=hW;obtain⟨p,q,hA,hV,rfl,hfz,hnd⟩:=hW;rw[hv]at hV;obtain⟨rfl,rfl⟩:=trodVars_none hV;have hlt:=hW'.lt;have hargs:∀sp:Nat->Bool,(∀x∈p,sp x.block=true)->DataW.TrodAll enc prog W' 0 sp true fn.params.toList args.toList (s.fn H (ds++[])).args p:=fun sp hsp=>by
  rw[hs];exact zeW zh2 hb _ _ _ _ hps hA (fun x hx=>hlt x J5) hsp
 have hvars:∀sp:Nat->Bool,DataW.TrodVars enc prog W' sp s.vars (s.fn H (ds++[])).vars []:=fun sp=>by rw[hv,hs];exact rfl
 have hres:∀(b:Nat) (sp:Nat->Bool) (hd:Bool),DataW.TrodAll enc prog W' b sp hd fn.resultTypes.toList ((Value.bool true).resultList fn.resultTypes.size) (s.fn H (ds++[])).results []:=fun b sp hd=>by
  rw[hfn,hs];exact trodAll_cons_mk (shut_bool underlying4 _) trodAll_mk0
 refine⟨ds,[],p++[],[],p,[],hW',hres _ _ _,hargs _ (fun x hx=>by simpa using hlt x J5),hvars _,World.keptBut_mono (fun x hx=>⟨hx,Or.inr Ki⟩) (hb.frame (· ∈p++[])),fun _=>?_⟩;refine⟨?_,_,_,([]++p)++[],⟨[]++p,[],trodAll_append (hargs _ (fun _ _=>rfl)) (hres _ _ _),hvars _,rfl,?_,?_⟩,?_⟩
 · exact ok_one hfn zcK (zgA W')
 · intro b off hx;have hin:MemPlace.cell b off∈p++[]:=Ki;rw[hb.frozen (hlt _ hin)];exact hfz b off hin
 · intro ha;have:=hnd ha;exact QN
 · intro x hx _;simpa using hx
theorem zfC{w:World}{a:Addr}{v:Value}(h:w.cell? a=some v):a=⟨a.block,a.off,none⟩:=by
 obtain⟨b,o,sp⟩:=a;cases sp with
 |none=>rfl
 | some x=>
   unfold World.cell? at h
   split at h
   · simp at h
   · cases h
theorem zbu:prog.cellsOf 3=1:=zg
theorem Ah{z:Int}(h:(Lit.int .i64 z).wf=true): -9223372036854775808<=z/\z<=9223372036854775807:=by
 simp[Lit.wf,IntKind.min,IntKind.max,IntKind.signed,IntKind.bits]at h;omega
theorem Lb{H:Type}{enc:TypeId×Value->H}{W:World}{base:Nat}{v:Value}{d:DataW H}{p:List MemPlace}(h0:0<W.heap.size)(hval:Value.okWide prog W .any base 22 v)(h:DataW.Trod enc prog W 0 (fun _=>true) true 22 v d p):
 ∃A n c,v=.slice A n c/\It W A n:=by
 obtain⟨a0,len,cap,rfl⟩:=okWide_slice underlying22 hval;obtain⟨fuel,hf⟩:=h;rcases open_ints underlying22 underlying3 zbu hf with⟨hcs,hx⟩|⟨a,len',cap',zs,hcs,_,hl,hm,hz,hx,hcell,hwz⟩
 · simp[Value.cells]at hcs;obtain⟨rfl,rfl,rfl⟩:=hcs;exact⟨none,0,0,rfl,Nat.zero_le _,0,0,fun h=>absurd h (Nat.lt_irrefl 0),h0,fun i hi=>absurd hi (Nat.not_lt_zero _)⟩
 · simp [Value.cells]at hcs;obtain⟨rfl,rfl,rfl⟩:=hcs;simp only[if_true]at hz;unfold maxLen at hm;refine⟨some a,len,cap,rfl,zb,?_⟩;by_cases h1:len=0
   · subst h1;exact⟨0,0,fun h=>absurd h (Nat.lt_irrefl 0),h0,fun i hi=>absurd hi (Nat.not_lt_zero _)⟩
   · have hc0:=hcell 0 zb;have ha:a.add 0=a:=rfl;rw[ha]at hc0;have hs:=zfC hc0;refine⟨a.block,a.off,fun _=>by rw[<-hs],block_lt_of_cell hc0,fun i hi=>⟨zs.getD i 0,?_,?_⟩⟩
     · have:=hcell i zb;rw[hs,add_plain]at this;exact this
     · exact Ah (hwz _ (by
        have h2:i<zs.length:=zb;have:zs.getD i 0=zs[i]:=by simp[List.getD,h2]
        rw[this];exact List.getElem_mem _))
theorem zb2(os:Os)(args:Array Value):laidMet prog Yu ((World.laidAll prog os Yu).forCall (fun _ _=>0) ⟨#[],args,[]⟩).memory:=laidMet_laidAll args zg zg
theorem Sp(os:Os)(args:Array Value):((World.laidAll prog os Yu).forCall (fun _ _=>0) ⟨#[],args,[]⟩).Shaped prog:=World.shaped_of_ZipB zg zg
end Go.Proofs.YtecbmndgpepkcaaGreatDoor
