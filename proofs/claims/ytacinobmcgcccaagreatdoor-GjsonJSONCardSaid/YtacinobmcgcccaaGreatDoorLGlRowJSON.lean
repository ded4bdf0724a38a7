/- The statement of GjsonJSON and its card. -/
import Derived.Test.YtacinobmcgcccaaGreatDoorL41
import Derived.Test.YtacinobmcgcccaaGreatDoorTie
import Derived.Deep.DeepHandedRow
set_option linter.unusedSimpArgs false
set_option linter.unusedVariables false
namespace Go.Proofs.YtacinobmcgcccaaGreatDoor
open Go.ChangeShapes Go.WideShapes Go.ChangeAt Go.RowKit Go.Deep
set_option maxRecDepth 100000 in
theorem gjsonJSON_contract (H:Type) (enc:TypeId × Value→H) (W:World) (base:Nat) (args:Array Value) (ds gs:List (DataW H)) (before:List MemPlace)
 (hval:∀ (j:Nat) t v,Tryz.f4.params[j]? = some t→args[j]? = some v→Value.okWide Tryz.prog W .any base t v)
 (hW:DataW.Whole enc Tryz.prog Tryz.f4.params.toList Rows.gjsonJSONSpec.vars false W args.toList ds gs before)
 (hsz:(DataW.weightsEach Tryz.prog (Tryz.f4.params.toList++Rows.gjsonJSONSpec.plain.varTypes Tryz.prog) (ds++gs)).all (· ≤ reachBytes)=true)
 (hL:laidMetH Tryz.prog Rows.gjsonJSONRow.laid W) :
 Calls Tryz.prog 4 args W fun e W'=>∃ v,e=.returned v∧Rows.gjsonJSONSpec.post enc Tryz.prog Tryz.f4 false true false false W args v W':=by
 have hW':=hW;obtain ⟨p,q,hA0,hV,rfl,hfz,hnd⟩:=hW;have hA:DataW.TrodAll enc Tryz.prog W 0 (fun _=>true) true Tryz.f4.params.toList args.toList ds p:=hA0;rw [Tryz.params4] at hA hval hsz;obtain ⟨v0,vs0,d0,ds0,p0,q0,hargs,rfl,rfl,h0,r0⟩:=trodAll_cons hA;obtain ⟨rfl,rfl,rfl⟩:=trodAll_nil r0;obtain rfl:args=#[v0]:=by cases args;simp_all
 obtain ⟨rfl,rfl⟩:=trodVars_none hV;have lt0:∀ x∈p0,x.block<W.heap.size:=by obtain ⟨m,hm⟩:=h0;exact DataW.trod_lt m _ _ _ hm
 have k0:=h0;obtain ⟨P,rfl,hP⟩:=open_plan (hval 0 TPl v0 rfl rfl) h0 (fun x hx=>by simpa using List.all_eq_true.1 hsz x (DataW.weights_mem_each (j:=0) (t:=TPl) (d:=d0) rfl rfl x hx));have hT:GT W:=gt_of_laid hL (by kernel_rfl) (i:=4) (j:=3) (k:=2) (by kernel_rfl) (by kernel_rfl) (by kernel_rfl);clear hA0;refine (json12_any P W hP hT).mono fun e W' ⟨he,bel⟩=>?_
 subst he;exact ⟨_,rfl,_,_,_,[],_,[],hW',trodAll_mk1 (shut_bool Tryz.underlying4 _),(trodAll_cons_mk (Below.trod laid_out (by kernel_rfl) (of_decide_eq_true (by kernel_rfl)) k0 bel lt0) trodAll_mk0),rfl,bel.frame _,fun h=>by cases h⟩
theorem gjsonJSON_reads (os:Os) {H:Type} (enc:TypeId × Value→H):∃ places,DataW.whole enc Tryz.prog ((World.laidAll Tryz.prog os Rows.gjsonJSONRow.laid).forCall (fun _ _=>0) ⟨#[],#[.agg #[.slice none 0 0,.slice none 0 0]],[]⟩).memory Tryz.f4.params.toList Rows.gjsonJSONSpec.vars false (#[.agg #[.slice none 0 0,.slice none 0 0]]:Array Value).toList 8=some ([.agg [.nil,.nil]],[],places):=
 ⟨[],by kernel_rfl⟩
theorem gjsonJSON_laid (os:Os):laidMetH Tryz.prog Rows.gjsonJSONRow.laid ((World.laidAll Tryz.prog os Rows.gjsonJSONRow.laid).forCall (fun _ _=>0) ⟨#[],#[.agg #[.slice none 0 0,.slice none 0 0]],[]⟩).memory:=
 laidMet_laidAll #[.agg #[.slice none 0 0,.slice none 0 0]] (by kernel_rfl) (by kernel_rfl)
set_option maxRecDepth 100000 in
theorem gjsonJSON_lifted (os:Os) (started:os.Started) (H:Type) (enc:TypeId × Value→H) (F:Stop.Interp) :
 ReturnsInHanded {} Tryz.checked os 4 .any ((OpenSpec.ofChange Rows.gjsonJSONSpec).preRow enc Tryz.prog Tryz.f4 Rows.gjsonJSONRow.domain false Rows.gjsonJSONRow.laid) (((OpenSpec.ofChange Rows.gjsonJSONSpec).at F).post enc Tryz.prog Tryz.f4 false true false false):=by
 obtain ⟨places,hx⟩:=gjsonJSON_reads os enc;refine returnsInHanded_of_row (C:=Tryz.checked) (s:=OpenSpec.ofChange Rows.gjsonJSONSpec) own_knob started (by kernel_rfl) Tryz.func4
  (witness_row_at (enc:=enc) (C:=Tryz.checked) false (World.laidAll Tryz.prog os Rows.gjsonJSONRow.laid) #[.agg #[.slice none 0 0,.slice none 0 0]] rfl (by kernel_rfl) (by kernel_rfl) (by kernel_rfl)
    (OpenSpec.preRow_of_cond 8 hx (by kernel_rfl) (fun k hk=>by cases hk) (by kernel_rfl) (gjsonJSON_laid os))) ?_
 intro W base args ds gs before hval hW _ _ hsz hL _ _;exact gjsonJSON_contract H enc W base args ds gs before hval hW hsz hL
theorem gjsonJSON_said:Rows.GjsonJSONSaid:=
 OpenClaim.holds_of_cond 4 Tryz.f4 rfl rfl rfl rfl rfl rfl rfl ⟨rfl,rfl,rfl,rfl,rfl⟩ rfl rfl rfl rfl rfl (by kernel_rfl) Tryz.func4 (by kernel_rfl)
  (of_decide_eq_true (by kernel_rfl)) (by unfold Func.isWrapper;first|(rw [if_pos (by decide +kernel)];kernel_rfl)|(rw [if_neg (by decide +kernel)];exact ⟨rfl,rfl⟩))
  (fun os started H enc _ F=>by rw [OpenClaim.pre_eq_preRow];exact gjsonJSON_lifted os started H enc F)
theorem gjsonJSON_plain (f : FuncId) (fn : Func) (hf : Tryz.pinned.checked.prog.funcNamed "merestone/merestonelaw12.GjsonJSON" = some f) (hfn : Tryz.pinned.checked.prog.funcs[f]? = some fn) :
 true=Tryz.pinned.checked.prog.looks [] ∧ ∀ (j:Nat) t,fn.params[j]? = some t→Tryz.pinned.checked.prog.wantsStandIn t=false:=by
 obtain rfl : f = 4 := Option.some.inj ((show Tryz.prog.funcNamed "merestone/merestonelaw12.GjsonJSON" = some 4 by kernel_rfl).symm.trans hf) |>.symm
 obtain rfl:fn=Tryz.f4:=(Option.some.inj (Tryz.func4.symm.trans hfn)).symm;refine ⟨by kernel_rfl,fun j t ht=>?_⟩;rw [Tryz.params4] at ht;obtain rfl:t=TPl:=by simpa using Array.mem_of_getElem? ht
 exact (show Tryz.prog.wantsStandIn TPl=false by kernel_rfl)
theorem gjsonJSON_card : Rows.GjsonJSONCardSaid :=
  Claim7.holds_tied_plain_at .later [] _ _ _ _ gjsonJSON_said (fun _ h => by cases h) (by kernel_rfl) (fun _ h => by cases h) gjsonJSON_row_tie rfl ⟨rfl, rfl⟩ (by kernel_rfl) rfl gjsonJSON_plain (by kernel_rfl)
end Go.Proofs.YtacinobmcgcccaaGreatDoor
