/- The statement Rows.EvaluateAloneCardSaid: for every input that the row speaks of the call returns true, and each argument reads as it read before; the row lists package-level variables, and the card ties them to the program's text. -/
import Derived.Test.YtecbmndgpepkcaaGreatDoorG46
import Derived.Test.YtecbmndgpepkcaaGreatDoorLift15
namespace Go.Proofs.YtecbmndgpepkcaaGreatDoor.lawAlone
open Go.Proofs.Tryz
set_option maxHeartbeats 8000000
set_option maxRecDepth 100000
open Go.ChangeShapes Go.WideShapes Go.ChangeAt Go.RowKit
theorem MZ:Rows.evaluateAloneRow.laid=Yu:=rfl
theorem Ra:([22].all fun t=>prog.readableRec t&&decide (t<prog.types.size))=true:=zg
theorem jb(H:Type)(enc:TypeId×Value->H)(W:World)(base:Nat)(args:Array Value)(ds gs:List (DataW H))(before:List MemPlace)
 (hval:∀(j:Nat) t v,Tryz.f3.params[j]? =some t->args[j]? =some v->Value.okWide prog W .any base t v)
 (hW:DataW.Whole enc prog Tryz.f3.params.toList Rows.evaluateAloneSpec.vars false W args.toList ds gs before)
 (hcond:∀k,(OpenSpec.ofChange Rows.evaluateAloneSpec).cond=some k->k H (ds++gs)=true)(hL:laidMetH prog Rows.evaluateAloneRow.laid W)(hS:W.ShapedOpen prog):
 Calls prog 3 args W (jw W):=by
 have hE:=AN (by rw[<-MZ];exact hL) hS;have hpos:0<W.heap.size:=Nat.lt_of_lt_of_le zi hE.toEnv.toEnv0.size;have hlt:=hW.lt;obtain⟨p,q,hA0,hV,rfl,_,_⟩:=hW;have hA:DataW.TrodAll enc prog W 0 (fun _=>true) true Tryz.f3.params.toList args.toList ds p:=hA0;rw[params3]at hA hval;obtain⟨v0,d0,rfl,rfl,h0⟩:=trodAll_one hA;obtain⟨A1,n1,c1,rfl,hi⟩:=Lb hpos (hval 0 22 v0 rfl rfl) h0;exact Go.Proofs.YtecbmndgpepkcaaGreatDoor.lawAlone A1 n1 c1 W hE hi
theorem Bi(os:Os)(started:os.Started)(H:Type)(enc:TypeId×Value->H)(F:Stop.Interp):
 ReturnsInHanded {} checked os 3 .any ((OpenSpec.ofChange Rows.evaluateAloneSpec).preRow enc prog Tryz.f3 Rows.evaluateAloneRow.domain false Rows.evaluateAloneRow.laid) (((OpenSpec.ofChange Rows.evaluateAloneSpec).at F).post enc prog Tryz.f3 false true false false):=by
 have hx:∃places,DataW.whole enc prog ((World.laidAll prog os Yu).forCall (fun _ _=>0) ⟨#[],#[.slice none 0 0],[]⟩).memory Tryz.f3.params.toList Rows.evaluateAloneSpec.vars false (#[.slice none 0 0]:Array Value).toList 8=some ([.nil],[],places):=⟨[],zg⟩;obtain⟨places,hx⟩:=hx;have hrow:(OpenSpec.ofChange Rows.evaluateAloneSpec).preRow enc prog Tryz.f3 Rows.evaluateAloneRow.domain false Rows.evaluateAloneRow.laid ((World.laidAll prog os Yu).forCall (fun _ _=>0) ⟨#[],#[.slice none 0 0],[]⟩).memory #[.slice none 0 0]:=
  OpenSpec.preRow_of_cond 8 hx zg (fun k hk=>by cases hk) zg vT
 have hok:Input.okWideB prog ((World.laidAll prog os Yu).forCall (fun _ _=>0) ⟨#[],#[.slice none 0 0],[]⟩) 3 ⟨#[],#[.slice none 0 0],[]⟩=true:=zg;refine returnsInHanded_of_row (C:=checked) (s:=(OpenSpec.ofChange Rows.evaluateAloneSpec)) own started zg func3
  ⟨World.laidAll prog os Yu,fun _ _=>0,⟨#[],#[.slice none 0 0],[]⟩,World.laidAll_os _ _ _,Sp os _,(Input.okWide_of_okWideB (base:=0) hok).1,(Input.okWide_of_okWideB hok).2,hrow,by
   simp only[Assume.holds];exact⟨zl,zl,(fun h=>by simp at h),zl,zl⟩⟩ ?_
 intro W base args ds gs before hval hW _ hcond _ hL hS _;have h:=jb H enc W base args ds gs before hval hW hcond hL hS;have hsp:Rows.evaluateAloneSpec.fn H (ds++gs)={results:=[.lit (.bool true)],args:=ds}:=by
  obtain⟨p,q,hA0,hV,_,_,_⟩:=hW;have hA:DataW.TrodAll enc prog W 0 (fun _=>true) true Tryz.f3.params.toList args.toList ds p:=hA0;rw[params3]at hA;obtain⟨rfl,rfl⟩:=trodVars_none hV;obtain⟨v0,d0,_,rfl,_⟩:=trodAll_one hA;exact rfl
 exact yT (s:=Rows.evaluateAloneSpec) zg (by rw[params3];exact Ra) rfl hsp hW h
theorem closed:joinedFacts Tryz.pinned.checked.prog 3 Tryz.f3 (OpenSpec.ofChange Rows.evaluateAloneSpec).bare Rows.evaluateAloneRow=true:=Ca
theorem PE:false=Rows.evaluateAloneRow.goesBy Tryz.pinned.checked.prog:=zg
theorem yR:Rows.EvaluateAloneSaid:=
 OpenClaim.holds_of_cond 3 Tryz.f3 rfl rfl rfl rfl rfl rfl rfl ⟨rfl,rfl,rfl,rfl,rfl⟩ rfl rfl rfl rfl rfl (by as_aux_lemma=>kernel_rfl) func3 closed
  (of_decide_eq_true zg) DP
  (fun os started H enc _ F=>LH)
theorem jV(f:FuncId)(fn:Func)(hf:Tryz.pinned.checked.prog.funcNamed "coldplug/coldpluglaw15.EvaluateAlone" =some f)(hfn:Tryz.pinned.checked.prog.funcs[f]? =some fn):
 true=Tryz.pinned.checked.prog.looks []/\∀(j:Nat) t,fn.params[j]? =some t->Tryz.pinned.checked.prog.wantsStandIn t=false:=by
 obtain rfl:f=3:=Option.some.inj ((show prog.funcNamed "coldplug/coldpluglaw15.EvaluateAlone" =some 3 by kernel_rfl).symm.trans hf)|>.symm;obtain rfl:fn=Tryz.f3:=(Option.some.inj (func3.symm.trans hfn)).symm;refine⟨zg,fun j t ht=>?_⟩;rw[params3]at ht;have hm:t∈[22]:=Hr;have hall:([22].all fun u=> !prog.wantsStandIn u)=true:=zg;exact DI
theorem card:Rows.EvaluateAloneCardSaid:=
 Claim7.holds_tied_plain_at .later [] _ _ _ _ yR (fun _ h=>qI) zg (fun _ h=>qI) evaluateAlone_row_tie rfl ⟨rfl,rfl⟩ zg rfl jV PE
end Go.Proofs.YtecbmndgpepkcaaGreatDoor.lawAlone
