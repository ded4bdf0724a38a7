/- The statement of TreePuts, second form: whatever steps come in, together of bulk at most 1048576, the law returns true and leaves its argument as it was. -/
import Derived.Test.YtkolacaceaamoaaKTd
import Derived.Test.YtkolacaceaamoaaKTe
import Derived.Test.YtkolacaceaamoaaKTf
import Derived.JoinedCond
import Derived.WalkKit
set_option linter.unusedSimpArgs false
set_option linter.unusedVariables false
namespace Go.Proofs.Ytkolacaceaamoaa
open Go.ChangeShapes Go.WideShapes Go.ChangeAt Go.RowKit Go.Deep
set_option maxRecDepth 100000 in
theorem treePuts_contract (H:Type) (enc:TypeId × Value → H) (W:World) (base:Nat) (args:Array Value) (ds gs:List (DataW H)) (before:List MemPlace)
  (hval:∀ (j:Nat) t v,Try.f3.params[j]? = some t → args[j]? = some v → Value.okWide Try.prog W .any base t v)
  (hW:DataW.Whole enc Try.prog Try.f3.params.toList Rows.treePutsSpec.vars false W args.toList ds gs before)
  (hk:Rows.uptoSmall H (ds ++ gs) = true) :
  Calls Try.prog 3 args W fun e W'=>∃ v,e = .returned v ∧ Rows.treePutsSpec.post enc Try.prog Try.f3 false true false false W args v W':=by
 have hW':=hW
 obtain ⟨p,q,hA0,hV,rfl,hfz,hnd⟩:=hW
 have hA:DataW.TrodAll enc Try.prog W 0 (fun _=>true) true Try.f3.params.toList args.toList ds p:=hA0
 rw [Try.params3] at hA hval
 obtain ⟨v0,vs0,d0,ds0,p0,q0,hargs,rfl,rfl,h0,r0⟩:=trodAll_cons hA
 obtain ⟨rfl,rfl,rfl⟩:=trodAll_nil r0
 obtain rfl:args = #[v0]:=by cases args; simp_all
 obtain ⟨rfl,rfl⟩:=trodVars_none hV
 have lt0:∀ x ∈ p0,x.block < W.heap.size:=by obtain ⟨m,hm⟩:=h0; exact DataW.trod_lt m _ _ _ hm
 have k0:=h0
 obtain ⟨a0,n0,c0,rfl⟩:=okWide_slice Try.underlying22 (hval 0 22 v0 rfl rfl)
 have hb:Rows.uptoBulk d0 ≤ 1048576:=by
  have h:Rows.uptoBulkAll (H:=H) ([d0] ++ []) ≤ 1048576:=of_decide_eq_true hk
  simp only [List.append_nil,Rows.uptoBulkAll] at h
  omega
 obtain ⟨l,hl,hn,hx⟩:=open_steps h0 hb
 clear hA0
 refine (puts_of (fun w1 tb c m hN h0=>grown_any hN h0 hl (by omega) (fun s hs=>by
  obtain ⟨p1,p2,p3,p4⟩:=hx s hs
  exact ⟨fun x hm=>⟨Nat.le_trans (p1 x hm).1 (by decide),Nat.le_trans (p1 x hm).2 (by decide)⟩,fun k hk=>Nat.le_trans (p2 k hk) (by decide),by omega,by omega⟩))).mono fun e W' ⟨he,bel⟩=>?_
 subst he
 exact ⟨_,rfl,_,_,_,[],_,[],hW',trodAll_mk1 (shut_bool Try.underlying4 _),(trodAll_cons_mk (Below.trod laid_out (by kernel_rfl) (of_decide_eq_true (by kernel_rfl)) k0 bel lt0) trodAll_mk0),rfl,bel.frame _,fun h=>by cases h⟩
set_option maxRecDepth 100000 in
theorem treePuts_lifted (os:Os) (started:os.Started) (H:Type) (enc:TypeId × Value → H) (F:Stop.Interp) :
  ReturnsInHanded {} Try.checked os 3 .any ((Rows.OpenSpec.upto Rows.treePutsSpec).pre6 enc Try.prog Try.f3 Rows.treePutsUptoRow.domain false) (((Rows.OpenSpec.upto Rows.treePutsSpec).at F).post enc Try.prog Try.f3 false true false false):=by
 refine returnsInHanded_of_cond (C:=Try.checked) (s:=Rows.OpenSpec.upto Rows.treePutsSpec) (k:=Rows.uptoSmall) rfl own_knob started (by kernel_rfl) Try.func3
  (OpenSpec.witness (enc:=enc) (C:=Try.checked) (s:=Rows.OpenSpec.upto Rows.treePutsSpec) (k:=Rows.uptoSmall) rfl false ⟨#[],#[.slice none 0 0],[]⟩ 8 (by kernel_rfl) (by kernel_rfl) (by kernel_rfl)
   (x:=([.nil],[],[])) (by kernel_rfl) rfl (by kernel_rfl)) ?_
 intro W base args ds gs before hval hW _ hk _
 exact treePuts_contract H enc W base args ds gs before hval hW hk
theorem treePuts_holds:Rows.TreePutsUptoSaid:=
 OpenClaim.holds_of_cond 3 Try.f3 rfl rfl rfl rfl rfl rfl rfl ⟨rfl,rfl,rfl,rfl,rfl⟩ rfl rfl rfl rfl rfl (by kernel_rfl) Try.func3 (by kernel_rfl)
  (of_decide_eq_true (by kernel_rfl)) (by unfold Func.isWrapper; first | (rw [if_pos (by decide +kernel)]; kernel_rfl) | (rw [if_neg (by decide +kernel)]; exact ⟨rfl,rfl⟩))
  (fun os started H enc _ F=>treePuts_lifted os started H enc F)
end Go.Proofs.Ytkolacaceaamoaa
