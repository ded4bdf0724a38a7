/- The statement of TreeFinds, second form: whatever comes in, together of bulk at most 1048576, the law returns true and leaves its arguments as they were. -/
import Derived.Test.YtkolacaceaamoaaKTh
import Derived.Test.YtkolacaceaamoaaKTf
import Derived.JoinedCond
import Derived.WalkKit
set_option linter.unusedSimpArgs false
set_option linter.unusedVariables false
namespace Go.Proofs.Ytkolacaceaamoaa
open Go.ChangeShapes Go.WideShapes Go.ChangeAt Go.RowKit Go.Deep
set_option maxRecDepth 100000 in
theorem treeFinds_contract (H:Type) (enc:TypeId × Value → H) (W:World) (base:Nat) (args:Array Value) (ds gs:List (DataW H)) (before:List MemPlace)
  (hval:∀ (j:Nat) t v,Try.f4.params[j]? = some t → args[j]? = some v → Value.okWide Try.prog W .any base t v)
  (hW:DataW.Whole enc Try.prog Try.f4.params.toList Rows.treeFindsSpec.vars false W args.toList ds gs before)
  (hk:Rows.uptoSmall H (ds ++ gs) = true) :
  Calls Try.prog 4 args W fun e W'=>∃ v,e = .returned v ∧ Rows.treeFindsSpec.post enc Try.prog Try.f4 false true false false W args v W':=by
 have hW':=hW
 obtain ⟨p,q,hA0,hV,rfl,hfz,hnd⟩:=hW
 have hA:DataW.TrodAll enc Try.prog W 0 (fun _=>true) true Try.f4.params.toList args.toList ds p:=hA0
 rw [Try.params4] at hA hval
 obtain ⟨v0,vs0,d0,ds0,p0,q0,hargs,rfl,rfl,h0,r0⟩:=trodAll_cons hA
 obtain ⟨v1,vs1,d1,ds1,p1,q1,rfl,rfl,rfl,h1,r1⟩:=trodAll_cons r0
 obtain ⟨v2,vs2,d2,ds2,p2,q2,rfl,rfl,rfl,h2,r2⟩:=trodAll_cons r1
 obtain ⟨v3,vs3,d3,ds3,p3,q3,rfl,rfl,rfl,h3,r3⟩:=trodAll_cons r2
 obtain ⟨v4,vs4,d4,ds4,p4,q4,rfl,rfl,rfl,h4,r4⟩:=trodAll_cons r3
 obtain ⟨rfl,rfl,rfl⟩:=trodAll_nil r4
 obtain rfl:args = #[v0,v1,v2,v3,v4]:=by cases args; simp_all
 obtain ⟨rfl,rfl⟩:=trodVars_none hV
 have lt0:∀ x ∈ p0,x.block < W.heap.size:=by obtain ⟨m,hm⟩:=h0; exact DataW.trod_lt m _ _ _ hm
 have lt1:∀ x ∈ p1,x.block < W.heap.size:=by obtain ⟨m,hm⟩:=h1; exact DataW.trod_lt m _ _ _ hm
 have lt2:∀ x ∈ p2,x.block < W.heap.size:=by obtain ⟨m,hm⟩:=h2; exact DataW.trod_lt m _ _ _ hm
 have lt3:∀ x ∈ p3,x.block < W.heap.size:=by obtain ⟨m,hm⟩:=h3; exact DataW.trod_lt m _ _ _ hm
 have lt4:∀ x ∈ p4,x.block < W.heap.size:=by obtain ⟨m,hm⟩:=h4; exact DataW.trod_lt m _ _ _ hm
 have k0:=h0
 have k1:=h1
 have k2:=h2
 have k3:=h3
 have k4:=h4
 obtain ⟨a0,n0,c0,rfl⟩:=okWide_slice Try.underlying22 (hval 0 22 v0 rfl rfl)
 obtain ⟨x1,rfl,_⟩:=okWide_int Try.underlying3 (hval 1 3 v1 rfl rfl)
 obtain ⟨a2,n2,c2,rfl⟩:=okWide_slice Try.underlying38 (hval 2 38 v2 rfl rfl)
 obtain ⟨a3,n3,c3,rfl⟩:=okWide_slice Try.underlying38 (hval 3 38 v3 rfl rfl)
 obtain ⟨x4,rfl,_⟩:=okWide_int Try.underlying3 (hval 4 3 v4 rfl rfl)
 have hb:Rows.uptoBulk d0 ≤ 1048576 ∧ Rows.uptoBulk d2 ≤ 1048576 ∧ Rows.uptoBulk d3 ≤ 1048576:=by
  have h:Rows.uptoBulkAll (H:=H) ([d0,d1,d2,d3,d4] ++ []) ≤ 1048576:=of_decide_eq_true hk
  simp only [List.append_nil,Rows.uptoBulkAll] at h
  omega
 obtain ⟨hb0,hb2,hb3⟩:=hb
 obtain ⟨l,hl,hn,hx⟩:=open_steps h0 hb0
 obtain ⟨m2,hm2⟩:=h2
 obtain ⟨m3,hm3⟩:=h3
 obtain ⟨fr,hf,hfl⟩:=open_bs hm2
 obtain ⟨te,ht,htl⟩:=open_bs hm3
 clear hA0
 refine (finds_any hl (by omega) (fun s hs=>by
  obtain ⟨p1,p2,p3,p4⟩:=hx s hs
  exact ⟨fun x hm=>⟨Nat.le_trans (p1 x hm).1 (by decide),Nat.le_trans (p1 x hm).2 (by decide)⟩,fun k hk=>Nat.le_trans (p2 k hk) (by decide),by omega,by omega⟩) hf ht (Nat.le_trans hfl (Nat.le_trans hb2 (by decide))) (Nat.le_trans htl (Nat.le_trans hb3 (by decide)))).mono fun e W' ⟨he,bel⟩=>?_
 subst he
 exact ⟨_,rfl,_,_,_,[],_,[],hW',trodAll_mk1 (shut_bool Try.underlying4 _),(trodAll_cons_mk (Below.trod laid_out (by kernel_rfl) (of_decide_eq_true (by kernel_rfl)) k0 bel lt0) (trodAll_cons_mk (Below.trod laid_out (by kernel_rfl) (of_decide_eq_true (by kernel_rfl)) k1 bel lt1) (trodAll_cons_mk (Below.trod laid_out (by kernel_rfl) (of_decide_eq_true (by kernel_rfl)) k2 bel lt2) (trodAll_cons_mk (Below.trod laid_out (by kernel_rfl) (of_decide_eq_true (by kernel_rfl)) k3 bel lt3) (trodAll_cons_mk (Below.trod laid_out (by kernel_rfl) (of_decide_eq_true (by kernel_rfl)) k4 bel lt4) trodAll_mk0))))),rfl,bel.frame _,fun h=>by cases h⟩
set_option maxRecDepth 100000 in
theorem treeFinds_lifted (os:Os) (started:os.Started) (H:Type) (enc:TypeId × Value → H) (F:Stop.Interp) :
  ReturnsInHanded {} Try.checked os 4 .any ((Rows.OpenSpec.upto Rows.treeFindsSpec).pre6 enc Try.prog Try.f4 Rows.treeFindsUptoRow.domain false) (((Rows.OpenSpec.upto Rows.treeFindsSpec).at F).post enc Try.prog Try.f4 false true false false):=by
 refine returnsInHanded_of_cond (C:=Try.checked) (s:=Rows.OpenSpec.upto Rows.treeFindsSpec) (k:=Rows.uptoSmall) rfl own_knob started (by kernel_rfl) Try.func4
  (OpenSpec.witness (enc:=enc) (C:=Try.checked) (s:=Rows.OpenSpec.upto Rows.treeFindsSpec) (k:=Rows.uptoSmall) rfl false ⟨#[],#[.slice none 0 0,.int .i64 0,.slice none 0 0,.slice none 0 0,.int .i64 0],[]⟩ 8 (by kernel_rfl) (by kernel_rfl) (by kernel_rfl)
   (x:=([.nil,.lit (.int .i64 0),.nil,.nil,.lit (.int .i64 0)],[],[])) (by kernel_rfl) rfl (by kernel_rfl)) ?_
 intro W base args ds gs before hval hW _ hk _
 exact treeFinds_contract H enc W base args ds gs before hval hW hk
theorem treeFinds_holds:Rows.TreeFindsUptoSaid:=
 OpenClaim.holds_of_cond 4 Try.f4 rfl rfl rfl rfl rfl rfl rfl ⟨rfl,rfl,rfl,rfl,rfl⟩ rfl rfl rfl rfl rfl (by kernel_rfl) Try.func4 (by kernel_rfl)
  (of_decide_eq_true (by kernel_rfl)) (by unfold Func.isWrapper; first | (rw [if_pos (by decide +kernel)]; kernel_rfl) | (rw [if_neg (by decide +kernel)]; exact ⟨rfl,rfl⟩))
  (fun os started H enc _ F=>treeFinds_lifted os started H enc F)
end Go.Proofs.Ytkolacaceaamoaa
