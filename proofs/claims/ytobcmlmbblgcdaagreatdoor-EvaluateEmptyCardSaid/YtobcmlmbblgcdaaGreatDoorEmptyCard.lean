/-
  The statement Rows.EvaluateEmptyCardSaid: for every input that the row speaks of the call returns true, and each argument reads as it read before; the row lists package-level variables, and the card ties them to the program's text.
-/
import Derived.Test.YtobcmlmbblgcdaaGreatDoorLEmpty
import Derived.Test.YtobcmlmbblgcdaaGreatDoorLift15
namespace Go.Proofs.YtobcmlmbblgcdaaGreatDoor.lawEmpty
set_option maxRecDepth 100000
open Go.ChangeShapes Go.WideShapes Go.ChangeAt Go.RowKit
theorem laid_is:Rows.evaluateEmptyRow.laid=laidL:=rfl
theorem params_ok:([22].all fun t=>Tryz.prog.readableRec t && decide (t<Tryz.prog.types.size))=true:=by kernel_rfl
theorem contract (H:Type) (enc:TypeId × Value→H) (W:World) (base:Nat) (args:Array Value) (ds gs:List (DataW H)) (before:List MemPlace)
 (hval:∀ (j:Nat) t v,Tryz.f4.params[j]? = some t→args[j]? = some v→Value.okWide Tryz.prog W .any base t v)
 (hW:DataW.Whole enc Tryz.prog Tryz.f4.params.toList Rows.evaluateEmptySpec.vars false W args.toList ds gs before)
 (hcond:∀ k,(OpenSpec.ofChange Rows.evaluateEmptySpec).cond=some k→k H (ds++gs)=true) (hL:laidMetH Tryz.prog Rows.evaluateEmptyRow.laid W) (hS:W.ShapedOpen Tryz.prog) :
 Calls Tryz.prog 4 args W (Yes W):=by
 have hE:=envE_of (by rw [←laid_is];exact hL) hS
 have hpos:0<W.heap.size:=Nat.lt_of_lt_of_le (by decide) hE.toEnv.toEnv0.size
 have hlt:=hW.lt
 obtain ⟨p,q,hA0,hV,rfl,_,_⟩:=hW
 have hA:DataW.TrodAll enc Tryz.prog W 0 (fun _=>true) true Tryz.f4.params.toList args.toList ds p:=hA0
 rw [Tryz.params4] at hA hval
 obtain ⟨v0,d0,rfl,rfl,h0⟩:=trodAll_one hA
 obtain ⟨A1,n1,c1,rfl,hi⟩:=open_ints_in hpos (hval 0 22 v0 rfl rfl) h0
 exact Go.Proofs.YtobcmlmbblgcdaaGreatDoor.lawEmpty A1 n1 c1 W hE hi
theorem lifted (os:Os) (started:os.Started) (H:Type) (enc:TypeId × Value→H) (F:Stop.Interp) :
 ReturnsInHanded {} Tryz.checked os 4 .any ((OpenSpec.ofChange Rows.evaluateEmptySpec).preRow enc Tryz.prog Tryz.f4 Rows.evaluateEmptyRow.domain false Rows.evaluateEmptyRow.laid) (((OpenSpec.ofChange Rows.evaluateEmptySpec).at F).post enc Tryz.prog Tryz.f4 false true false false):=by
 have hx:∃ places,DataW.whole enc Tryz.prog ((World.laidAll Tryz.prog os laidL).forCall (fun _ _=>0) ⟨#[],#[.slice none 0 0],[]⟩).memory Tryz.f4.params.toList Rows.evaluateEmptySpec.vars false (#[.slice none 0 0]:Array Value).toList 8=some ([.nil],[],places):=⟨[],by kernel_rfl⟩
 obtain ⟨places,hx⟩:=hx
 have hrow:(OpenSpec.ofChange Rows.evaluateEmptySpec).preRow enc Tryz.prog Tryz.f4 Rows.evaluateEmptyRow.domain false Rows.evaluateEmptyRow.laid ((World.laidAll Tryz.prog os laidL).forCall (fun _ _=>0) ⟨#[],#[.slice none 0 0],[]⟩).memory #[.slice none 0 0] :=
  OpenSpec.preRow_of_cond 8 hx (by kernel_rfl) (fun k hk=>by cases hk) (by kernel_rfl) (by rw [laid_is,MakeChecks.laidMetH_plain _ _ _ laid_plain];exact laid_met os _)
 have hok:Input.okWideB Tryz.prog ((World.laidAll Tryz.prog os laidL).forCall (fun _ _=>0) ⟨#[],#[.slice none 0 0],[]⟩) 4 ⟨#[],#[.slice none 0 0],[]⟩=true:=by kernel_rfl
 refine returnsInHanded_of_row (C:=Tryz.checked) (s:=(OpenSpec.ofChange Rows.evaluateEmptySpec)) own started (by kernel_rfl) Tryz.func4
  ⟨World.laidAll Tryz.prog os laidL,fun _ _=>0,⟨#[],#[.slice none 0 0],[]⟩,World.laidAll_os _ _ _,laid_shaped os _,(Input.okWide_of_okWideB (base:=0) hok).1,(Input.okWide_of_okWideB hok).2,hrow,by
   simp only [Assume.holds]
   exact ⟨by simp,by simp,(fun h=>by simp at h),by simp,by simp⟩⟩ ?_
 intro W base args ds gs before hval hW _ hcond _ hL hS _
 have h:=contract H enc W base args ds gs before hval hW hcond hL hS
 have hsp:Rows.evaluateEmptySpec.fn H (ds++gs)={ results:=[.lit (.bool true)],args:=ds }:=by
  obtain ⟨p,q,hA0,hV,_,_,_⟩:=hW
  have hA:DataW.TrodAll enc Tryz.prog W 0 (fun _=>true) true Tryz.f4.params.toList args.toList ds p:=hA0
  rw [Tryz.params4] at hA
  obtain ⟨rfl,rfl⟩:=trodVars_none hV
  obtain ⟨v0,d0,_,rfl,_⟩:=trodAll_one hA
  exact rfl
 exact post_of_yes (s:=Rows.evaluateEmptySpec) (by kernel_rfl) (by rw [Tryz.params4];exact params_ok) rfl hsp hW h
set_option maxHeartbeats 4000000 in
theorem closed:joinedFacts Tryz.pinned.checked.prog 4 Tryz.f4 (OpenSpec.ofChange Rows.evaluateEmptySpec).bare Rows.evaluateEmptyRow=true:=by
 unfold joinedFacts
 simp only [Bool.and_eq_true]
 repeat' refine And.intro ?_ ?_
 all_goals (as_aux_lemma=>kernel_rfl)
theorem goes:false=Rows.evaluateEmptyRow.goesBy Tryz.pinned.checked.prog:=by kernel_rfl
theorem said:Rows.EvaluateEmptySaid :=
 OpenClaim.holds_of_cond 4 Tryz.f4 rfl rfl rfl rfl rfl rfl rfl ⟨rfl,rfl,rfl,rfl,rfl⟩ rfl rfl rfl rfl rfl (by as_aux_lemma=>kernel_rfl) Tryz.func4 closed
  (of_decide_eq_true (by kernel_rfl)) (by unfold Func.isWrapper;first | (rw [if_pos (by decide +kernel)];kernel_rfl) | (rw [if_neg (by decide +kernel)];exact ⟨rfl,rfl⟩))
  (fun os started H enc _ F=>by rw [OpenClaim.pre_eq_preRow];exact lifted os started H enc F)
theorem plain (f : FuncId) (fn : Func) (hf : Tryz.pinned.checked.prog.funcNamed "coldplug/coldpluglaw15.EvaluateEmpty" = some f) (hfn : Tryz.pinned.checked.prog.funcs[f]? = some fn) :
 true=Tryz.pinned.checked.prog.looks []∧∀ (j:Nat) t,fn.params[j]? = some t→Tryz.pinned.checked.prog.wantsStandIn t=false:=by
 obtain rfl : f = 4 := Option.some.inj ((show Tryz.prog.funcNamed "coldplug/coldpluglaw15.EvaluateEmpty" = some 4 by kernel_rfl).symm.trans hf) |>.symm
 obtain rfl:fn=Tryz.f4:=(Option.some.inj (Tryz.func4.symm.trans hfn)).symm
 refine ⟨by kernel_rfl,fun j t ht=>?_⟩
 rw [Tryz.params4] at ht
 have hm:t∈[22]:=by simpa using Array.mem_of_getElem? ht
 have hall:([22].all fun u => !Tryz.prog.wantsStandIn u)=true:=by kernel_rfl
 exact (show Tryz.prog.wantsStandIn t=false by simpa using List.all_eq_true.1 hall t hm)
theorem card:Rows.EvaluateEmptyCardSaid :=
 Claim7.holds_tied_plain_at .later [] _ _ _ _ said (fun _ h=>by cases h) (by kernel_rfl) (fun _ h=>by cases h) evaluateEmpty_row_tie rfl ⟨rfl,rfl⟩ (by kernel_rfl) rfl plain goes
end Go.Proofs.YtobcmlmbblgcdaaGreatDoor.lawEmpty
