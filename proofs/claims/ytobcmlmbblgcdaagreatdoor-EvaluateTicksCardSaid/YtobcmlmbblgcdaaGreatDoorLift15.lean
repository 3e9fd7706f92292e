/- Contracts of functions that the law reaches, and what they rest on; each under the premises that it names. Shortened by a program. -/
import Derived.Test.YtobcmlmbblgcdaaGreatDoorCards
import Derived.Test.YtobcmlmbblgcdaaGreatDoorTie
import Derived.Test.YtobcmlmbblgcdaaGreatDoorG38
import Derived.Lib.LaidU8T
import Derived.PinnedBridge
import Derived.ProofKit
import Derived.OpenShut
import Derived.Deep.DeepHandedRow
import Derived.Lib.LaidTab
import Derived.Stop.LaidErr
import Derived.Lay
import Derived.LaidMore
import Derived.SevenTiedAt
namespace Go.Proofs.YtobcmlmbblgcdaaGreatDoor
open Go.Proofs.Tryz
set_option maxRecDepth 100000
open Go.ChangeShapes Go.WideShapes Go.ChangeAt Go.RowKit
theorem own:ownKnob prog.godebug=none:=zg
theorem zhO:laidOutB prog=true:=zg
def Ul:List (String×DataW Unit):=Rows.evaluateEmptyRow.laid
theorem Tl:(Ul.all fun x=>x.2.handleName?.isNone)=true:=zg
theorem star: "*" ++ "errors.errorString" = "*errors.errorString" :=zi
theorem L6(u:TypeId)(h:prog.typeName? 3 u=some "*errors.errorString"):u=362:=
 typeName_ptr_named (nm:= "errors.errorString") (by rw[star];kernel_rfl) zg zi u (by rw[star];exact h)
theorem zbD:prog.cellsOf 186=20:=zg
theorem zfZ:prog.cellsOf 169=1:=zg
theorem FO:prog.cellsOf 364=1:=zg
theorem vY:prog.cellsOf 9=1:=zg
theorem zdL:(prog.globals[1]?).map (·.type)=some 186:=zg
theorem zgF:(prog.globals[6]?).map (·.type)=some 151:=zg
theorem zgM:(prog.globals[7]?).map (·.type)=some 151:=zg
theorem zjB{P:Program}{w:World}{n:String}{g:Nat}{v:Value}(hg:P.globalNamed n=some g)(h:w.var? P n=some #[v]):g<w.heap.size:=by
 have h1:=World.var?_cell hg h 0;have h2:w.cell? ⟨g,0,none⟩=some v:=Jz;exact block_lt_of_cell h2
theorem ziq{W:World}(hL:laidMetH prog Ul W)(hS:W.ShapedOpen prog):Env W:=by
 rw[MakeChecks.laidMetH_plain _ _ _ Tl]at hL;obtain⟨m,hm⟩:=cell_of_shapedOpen_int (g:=0) (zero:=#[.int .i64 0]) (t:=3) hS (of_decide_eq_true zg) zg rfl zg zg underlying3;have hP:Lib.TabIs prog W "internal/strconv.uint64pow10" .u64 Lib.pow10Tab:=Lib.tabIs_of_head AK zdL underlying186 underlying169 zfZ zbD hL.tail.tail;obtain⟨a1,s1,hr,_,_,_⟩:=laid_sentinel hL.tail.tail.tail.tail Rq zgM underlying151 L6 underlying362 underlying364 rfl rfl underlying9 FO vY;obtain⟨a2,s2,hs,_,_,_⟩:=laid_sentinel hL.tail.tail.tail.tail.tail jC zgF underlying151 L6 underlying362 underlying364 rfl rfl underlying9 FO vY;refine{toEnv0:=⟨?_,⟨m,hm⟩,hP⟩,syn:=⟨_,_,hs⟩,rng:=⟨_,_,hr⟩};have h0:(((begin prog (fun _ _=>0) default).world.heap[nG - 1]?).bind Obj.row?).isSome=true:=zg;obtain⟨⟨z,t⟩,hz⟩:=Option.isSome_iff_exists.1 h0;obtain⟨cs,hh,_⟩:=hS.1 (nG - 1) z t (of_decide_eq_true zg) hz;have h1:=(Array.getElem?_eq_some_iff.1 hh).1;have h2:0<nG:=zi;omega
def LB:Go.Shelf.Ren:=⟨fun x=>x,fun x=>if x=5 then 5 else if x=119 then 211 else if x=138 then 213 else 214,fun x=>if x=3 then 2 else 3⟩
theorem Bq:U8Types prog LB:=⟨zg,zg,zg,zg⟩
theorem zgL:U8Extra prog LB:=⟨zg,zg,zg,zg,zg,zg,zg⟩
theorem zam{W:World}(hL:laidMetH prog Ul W)(hS:W.ShapedOpen prog):Z5 W:=by
 have h:=ziq hL hS;rw[MakeChecks.laidMetH_plain _ _ _ Tl]at hL;have h3:Lib.VarReads prog W "unicode/utf8.first" Lib.firstData:=by
  refine Lib.laidMet.reads hL ?_;rw[<-Pinned.utf8First_eq];simp[Ul,Rows.evaluateEmptyRow,Rows.laid_unicode_utf8_first]
 have h4:Lib.VarReads prog W "unicode/utf8.acceptRanges" Lib.acceptData:=by
  refine Lib.laidMet.reads hL ?_;rw[show Lib.acceptData=Rows.laid_unicode_utf8_acceptRanges from by kernel_rfl];simp[Ul,Rows.evaluateEmptyRow]
 exact{toEnv:=h,u8:=utf8Tabs_of_readsT Bq zgL h3 h4}
theorem zeu{P:Program}(hl:laidOutB P=true){H:Type}{enc:TypeId×Value->H}{W W':World}{sp:Nat->Bool}(hb:Below W.heap.size W W')
 (ts:List TypeId):∀(vs:List Value) (ds:List (DataW H)) (ps:List MemPlace),(ts.all fun t=>P.readableRec t&&decide (t<P.types.size))=true->DataW.TrodAll enc P W 0 (fun _=>true) true ts vs ds ps ->
   (∀x∈ps,x.block<W.heap.size)->(∀x∈ps,sp x.block=true)->DataW.TrodAll enc P W' 0 sp true ts vs ds ps:=by
 induction ts with
 | nil=>
   intro vs ds ps _ h _ _;obtain⟨rfl,rfl,rfl⟩:=trodAll_nil h;exact trodAll_mk0
 | cons t ts ih=>
   intro vs ds ps ht h h1 h2;obtain⟨v,vs',d,ds',p,q,rfl,rfl,rfl,hd,hr⟩:=trodAll_cons h;rw[List.all_cons,Bool.and_eq_true,Bool.and_eq_true,decide_eq_true_eq]at ht;obtain⟨⟨a,b⟩,c⟩:=ht;exact trodAll_cons_mk (WideElems.Trod_stays hl a b hd (fun x hx=>hb.same (h1 x (List.mem_append_left _ hx))) (fun x hx=>h2 x (List.mem_append_left _ hx)))
    (ih vs' ds' q c hr (fun x hx=>h1 x (List.mem_append_right _ hx)) (fun x hx=>h2 x (List.mem_append_right _ hx)))
def FW(w:World)(e:Ending)(w':World):Prop:=e=.returned (.bool true)/\Below w.heap.size w w'
theorem za0:(Value.bool true).resultList 1=[.bool true]:=zg
theorem zas(W':World):Value.okWide prog W' .any 0 4 (.bool true):=okWide_bool_mk underlying4 _
theorem zcq{H:Type}{enc:TypeId×Value->H}{F:FuncId}{fn:Func}{s:ChangeSpec}{W:World}{args:Array Value}{ds gs:List (DataW H)}{before:List MemPlace}
 (hfn:fn.resultTypes=#[4])(hps:(fn.params.toList.all fun t=>prog.readableRec t&&decide (t<prog.types.size))=true)(hv:s.vars=[])
 (hs:s.fn H (ds++gs)={results:=[.lit (.bool true)],args:=ds})
 (hW:DataW.Whole enc prog fn.params.toList s.vars false W args.toList ds gs before)
 (h:Calls prog F args W (FW W)):
 Calls prog F args W fun e W'=>∃v,e=.returned v/\s.post enc prog fn false true false false W args v W':=by
 refine h.mono fun e W' ⟨he,hb⟩=>⟨_,he,?_⟩;have hW':=hW;obtain⟨p,q,hA,hV,rfl,hfz,hnd⟩:=hW;rw[hv]at hV;obtain⟨rfl,rfl⟩:=trodVars_none hV;have hlt:=hW'.lt;have hargs:∀sp:Nat->Bool,(∀x∈p,sp x.block=true)->DataW.TrodAll enc prog W' 0 sp true fn.params.toList args.toList (s.fn H (ds++[])).args p:=fun sp hsp=>by
  rw[hs];exact zeu zhO hb _ _ _ _ hps hA (fun x hx=>hlt x Jg) hsp
 have hvars:∀sp:Nat->Bool,DataW.TrodVars enc prog W' sp s.vars (s.fn H (ds++[])).vars []:=fun sp=>by rw[hv,hs];exact rfl
 have hres:∀(b:Nat) (sp:Nat->Bool) (hd:Bool),DataW.TrodAll enc prog W' b sp hd fn.resultTypes.toList ((Value.bool true).resultList fn.resultTypes.size) (s.fn H (ds++[])).results []:=fun b sp hd=>by
  rw[hfn,hs];exact trodAll_cons_mk (shut_bool underlying4 _) trodAll_mk0
 refine⟨ds,[],p++[],[],p,[],hW',hres _ _ _,hargs _ (fun x hx=>by simpa using hlt x Jg),hvars _,World.keptBut_mono (fun x hx=>⟨hx,Or.inr Ka⟩) (hb.frame (· ∈p++[])),fun _=>?_⟩;refine⟨?_,_,_,([]++p)++[],⟨[]++p,[],trodAll_append (hargs _ (fun _ _=>rfl)) (hres _ _ _),hvars _,rfl,?_,?_⟩,?_⟩
 · exact ok_one hfn za0 (zas W')
 · intro b off hx;have hin:MemPlace.cell b off∈p++[]:=Ka;rw[hb.frozen (hlt _ hin)];exact hfz b off hin
 · intro ha;have:=hnd ha;exact QU
 · intro x hx _;exact Ka
theorem zdG{w:World}{a:Addr}{v:Value}(h:w.cell? a=some v):a=⟨a.block,a.off,none⟩:=by
 obtain⟨b,o,sp⟩:=a;cases sp with
 |none=>rfl
 | some x=>
   unfold World.cell? at h
   split at h
   · simp at h
   · cases h
theorem zdd:prog.cellsOf 3=1:=zg
theorem zf0{z:Int}(h:(Lit.int .i64 z).wf=true): -9223372036854775808<=z/\z<=9223372036854775807:=by
 simp[Lit.wf,IntKind.min,IntKind.max,IntKind.signed,IntKind.bits]at h;omega
theorem zgO{H:Type}{enc:TypeId×Value->H}{W:World}{base:Nat}{v:Value}{d:DataW H}{p:List MemPlace}(h0:0<W.heap.size)(hval:Value.okWide prog W .any base 22 v)(h:DataW.Trod enc prog W 0 (fun _=>true) true 22 v d p):
 ∃A n c,v=.slice A n c/\Ml W A n:=by
 obtain⟨a0,len,cap,rfl⟩:=okWide_slice underlying22 hval;obtain⟨fuel,hf⟩:=h;rcases open_ints underlying22 underlying3 zdd hf with⟨hcs,hx⟩|⟨a,len',cap',zs,hcs,_,hl,hm,hz,hx,hcell,hwz⟩
 · simp[Value.cells]at hcs;obtain⟨rfl,rfl,rfl⟩:=hcs;exact⟨none,0,0,rfl,Nat.zero_le _,0,0,fun h=>absurd h (Nat.lt_irrefl 0),h0,fun i hi=>absurd hi (Nat.not_lt_zero _)⟩
 · simp [Value.cells]at hcs;obtain⟨rfl,rfl,rfl⟩:=hcs;simp only[if_true]at hz;unfold maxLen at hm;refine⟨some a,len,cap,rfl,zb,?_⟩;by_cases h1:len=0
   · subst h1;exact⟨0,0,fun h=>absurd h (Nat.lt_irrefl 0),h0,fun i hi=>absurd hi (Nat.not_lt_zero _)⟩
   · have hc0:=hcell 0 zb;have ha:a.add 0=a:=rfl;rw[ha]at hc0;have hs:=zdG hc0;refine⟨a.block,a.off,fun _=>by rw[<-hs],block_lt_of_cell hc0,fun i hi=>⟨zs.getD i 0,?_,?_⟩⟩
     · have:=hcell i zb;rw[hs,add_plain]at this;exact this
     · exact zf0 (hwz _ (by
        have h2:i<zs.length:=zb;have:zs.getD i 0=zs[i]:=by simp[List.getD,h2]
        rw[this];exact List.getElem_mem _))
theorem zb7(os:Os)(args:Array Value):laidMet prog Ul ((World.laidAll prog os Ul).forCall (fun _ _=>0) ⟨#[],args,[]⟩).memory:=laidMet_laidAll args zg zg
theorem zit(os:Os)(args:Array Value):((World.laidAll prog os Ul).forCall (fun _ _=>0) ⟨#[],args,[]⟩).Shaped prog:=World.shaped_of_ZipB zg zg
end Go.Proofs.YtobcmlmbblgcdaaGreatDoor
