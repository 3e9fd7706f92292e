/- The statement Rows.EvaluateJumpsCardSaid: for every input that the row speaks of the call returns true, and each argument reads as it read before; the row lists package-level variables, and the card ties them to the program's text. -/
import Derived.Test.YtecbmndgpepkcaaGreatDoorG48
import Derived.Test.YtecbmndgpepkcaaGreatDoorLift15
namespace Go.Proofs.YtecbmndgpepkcaaGreatDoor.lawJumps
open Go.Proofs.Tryz
set_option maxHeartbeats 8000000
set_option maxRecDepth 100000
open Go.ChangeShapes Go.WideShapes Go.ChangeAt Go.RowKit
theorem AA:Rows.evaluateJumpsRow.laid=Uc:=rfl
theorem zcB:([22].all fun t=>prog.readableRec t&&decide (t<prog.types.size))=true:=zg
theorem zag(H:Type)(enc:TypeId×Value->H)(W:World)(base:Nat)(args:Array Value)(ds gs:List (DataW H))(before:List MemPlace)
 (hval:∀(j:Nat) t v,Tryz.f5.params[j]? =some t->args[j]? =some v->Value.okWide prog W .any base t v)
 (hW:DataW.Whole enc prog Tryz.f5.params.toList Rows.evaluateJumpsSpec.vars false W args.toList ds gs before)
 (hcond:∀k,(OpenSpec.ofChange Rows.evaluateJumpsSpec).cond=some k->k H (ds++gs)=true)(hL:laidMetH prog Rows.evaluateJumpsRow.laid W)(hS:W.ShapedOpen prog):
 Calls prog 5 args W (vS W):=by
 have hE:=zbY (by rw[<-AA];exact hL) hS;have hpos:0<W.heap.size:=Nat.lt_of_lt_of_le zi hE.toEnv.toEnv0.size;have hlt:=hW.lt;obtain⟨p,q,hA0,hV,rfl,_,_⟩:=hW;have hA:DataW.TrodAll enc prog W 0 (fun _=>true) true Tryz.f5.params.toList args.toList ds p:=hA0;rw[params5]at hA hval;obtain⟨v0,d0,rfl,rfl,h0⟩:=trodAll_one hA;obtain⟨A1,n1,c1,rfl,hi⟩:=C9 hpos (hval 0 22 v0 rfl rfl) h0;exact Go.Proofs.YtecbmndgpepkcaaGreatDoor.lawJumps A1 n1 c1 W hE hi
theorem zbm(os:Os)(started:os.Started)(H:Type)(enc:TypeId×Value->H)(F:Stop.Interp):
 ReturnsInHanded {} checked os 5 .any ((OpenSpec.ofChange Rows.evaluateJumpsSpec).preRow enc prog Tryz.f5 Rows.evaluateJumpsRow.domain false Rows.evaluateJumpsRow.laid) (((OpenSpec.ofChange Rows.evaluateJumpsSpec).at F).post enc prog Tryz.f5 false true false false):=by
 have hx:∃places,DataW.whole enc prog ((World.laidAll prog os Uc).forCall (fun _ _=>0) ⟨#[],#[.slice none 0 0],[]⟩).memory Tryz.f5.params.toList Rows.evaluateJumpsSpec.vars false (#[.slice none 0 0]:Array Value).toList 8=some ([.nil],[],places):=⟨[],zg⟩;obtain⟨places,hx⟩:=hx;have hrow:(OpenSpec.ofChange Rows.evaluateJumpsSpec).preRow enc prog Tryz.f5 Rows.evaluateJumpsRow.domain false Rows.evaluateJumpsRow.laid ((World.laidAll prog os Uc).forCall (fun _ _=>0) ⟨#[],#[.slice none 0 0],[]⟩).memory #[.slice none 0 0]:=
  OpenSpec.preRow_of_cond 8 hx zg (fun k hk=>by cases hk) zg (by rw[AA,MakeChecks.laidMetH_plain _ _ _ RQ];exact za2 os _)
 have hok:Input.okWideB prog ((World.laidAll prog os Uc).forCall (fun _ _=>0) ⟨#[],#[.slice none 0 0],[]⟩) 5 ⟨#[],#[.slice none 0 0],[]⟩=true:=zg;refine returnsInHanded_of_row (C:=checked) (s:=(OpenSpec.ofChange Rows.evaluateJumpsSpec)) own started zg func5
  ⟨World.laidAll prog os Uc,fun _ _=>0,⟨#[],#[.slice none 0 0],[]⟩,World.laidAll_os _ _ _,zfz os _,(Input.okWide_of_okWideB (base:=0) hok).1,(Input.okWide_of_okWideB hok).2,hrow,by
   simp only[Assume.holds];exact⟨zl,zl,(fun h=>by simp at h),zl,zl⟩⟩ ?_
 intro W base args ds gs before hval hW _ hcond _ hL hS _;have h:=zag H enc W base args ds gs before hval hW hcond hL hS;have hsp:Rows.evaluateJumpsSpec.fn H (ds++gs)={results:=[.lit (.bool true)],args:=ds}:=by
  obtain⟨p,q,hA0,hV,_,_,_⟩:=hW;have hA:DataW.TrodAll enc prog W 0 (fun _=>true) true Tryz.f5.params.toList args.toList ds p:=hA0;rw[params5]at hA;obtain⟨rfl,rfl⟩:=trodVars_none hV;obtain⟨v0,d0,_,rfl,_⟩:=trodAll_one hA;exact rfl
 exact zhv (s:=Rows.evaluateJumpsSpec) zg (by rw[params5];exact zcB) rfl hsp hW h
theorem closed:joinedFacts Tryz.pinned.checked.prog 5 Tryz.f5 (OpenSpec.ofChange Rows.evaluateJumpsSpec).bare Rows.evaluateJumpsRow=true:=by
 unfold joinedFacts;simp only[Bool.and_eq_true]
 repeat' refine And.intro ?_ ?_
 all_goals (as_aux_lemma=>kernel_rfl)
theorem zgW:false=Rows.evaluateJumpsRow.goesBy Tryz.pinned.checked.prog:=zg
theorem ziQ:Rows.EvaluateJumpsSaid:=
 OpenClaim.holds_of_cond 5 Tryz.f5 rfl rfl rfl rfl rfl rfl rfl ⟨rfl,rfl,rfl,rfl,rfl⟩ rfl rfl rfl rfl rfl (by as_aux_lemma=>kernel_rfl) func5 closed
  (of_decide_eq_true zg) (by unfold Func.isWrapper;first|(rw[if_pos (by decide+kernel)];kernel_rfl)|(rw[if_neg (by decide+kernel)];exact⟨rfl,rfl⟩))
  (fun os started H enc _ F=>by rw[OpenClaim.pre_eq_preRow];exact zbm os started H enc F)
theorem zf0(f:FuncId)(fn:Func)(hf:Tryz.pinned.checked.prog.funcNamed "coldplug/coldpluglaw15.EvaluateJumps" =some f)(hfn:Tryz.pinned.checked.prog.funcs[f]? =some fn):
 true=Tryz.pinned.checked.prog.looks []/\∀(j:Nat) t,fn.params[j]? =some t->Tryz.pinned.checked.prog.wantsStandIn t=false:=by
 obtain rfl:f=5:=Option.some.inj ((show prog.funcNamed "coldplug/coldpluglaw15.EvaluateJumps" =some 5 by kernel_rfl).symm.trans hf)|>.symm;obtain rfl:fn=Tryz.f5:=(Option.some.inj (func5.symm.trans hfn)).symm;refine⟨zg,fun j t ht=>?_⟩;rw[params5]at ht;have hm:t∈[22]:=by simpa using Array.mem_of_getElem? ht
 have hall:([22].all fun u=> !prog.wantsStandIn u)=true:=zg;exact(show prog.wantsStandIn t=false by simpa using List.all_eq_true.1 hall t hm)
theorem card:Rows.EvaluateJumpsCardSaid:=
 Claim7.holds_tied_plain_at .later [] _ _ _ _ ziQ (fun _ h=>qD) zg (fun _ h=>qD) evaluateJumps_row_tie rfl ⟨rfl,rfl⟩ zg rfl zf0 zgW
end Go.Proofs.YtecbmndgpepkcaaGreatDoor.lawJumps
