/- slices.Backward at the disk's writes: its iterator's contract. -/
import Derived.Test.YtkolacaceaamoaaKM3
import Derived.RangeFuncNested
import Derived.RangeFuncBound
import Derived.RangeFuncCalls
import Derived.RangeFuncLeaves
import Derived.RangeFuncBox
import Derived.Shelf.Abstract
import Derived.Shelf.RegionOpen
import Derived.OwnWalkIn
import Derived.TacticsInMore
import Derived.LoopNIn
import Derived.LoopIn
set_option linter.unusedSimpArgs false
set_option linter.unusedVariables false
namespace Go.Proofs.Ytkolacaceaamoaa
open Go.RowKit Go.Shelf
attribute [local go_sem] Oper.semAt_some
/-- What an element that comes is: its index, and its two cells. -/
def Comes1 (W:World) (g:Nat) {α:Type} (encs:α → Array Value) (zs:List α):Prop:=
 ∀ k (h:k < zs.length),∃ a gd cd,encs zs[k] = #[.int .i64 ((zs.length - 1 - k:Nat):Int),.agg #[.int .i64 a,.slice (some ⟨gd,0,none⟩) 512 cd]] ∧
  W.cell? ⟨g,(zs.length - 1 - k) * 2,none⟩ = some (.int .i64 a) ∧ W.cell? ⟨g,(zs.length - 1 - k) * 2 + 1,none⟩ = some (.slice (some ⟨gd,0,none⟩) 512 cd)
theorem Comes1.below {W W':World} {g n₀:Nat} {α:Type} {encs:α → Array Value} {zs:List α} (h:Comes1 W g encs zs) (hb:Below n₀ W W') (hg:g < n₀):Comes1 W' g encs zs:=fun k hk=>by
 obtain ⟨a,gd,cd,e,h1,h2⟩:=h k hk
 exact ⟨a,gd,cd,e,(hb.cell (p:=⟨g,_,none⟩) hg).trans h1,(hb.cell (p:=⟨g,_,none⟩) hg).trans h2⟩
set_option maxRecDepth 100000 in
set_option maxHeartbeats 2000000 in
theorem back1_in {α:Type} (encs:α → Array Value) (zs:List α) (n:Nat) (hn:1 ≤ n) (l Bs n₀ g cap:Nat) (hlen:zs.length ≤ 2000000000) (hb:g < n₀) (J Jx:List α → World → Prop)
  (hY:∀ pre x W,J pre W → pre.length < zs.length → YieldAt Fence.wide (n - 1) Try.prog l (encs x) W fun e W'=>
   (e = .returned (.bool true) ∧ J (pre ++ [x]) W' ∧ Below n₀ W W') ∨ (e = .returned (.bool false) ∧ Jx (pre ++ [x]) W'))
  (W:World) (hBs:W.cell? ⟨Bs,0,none⟩ = some (.slice (some ⟨g,0,none⟩) zs.length cap)) (hBn:Bs < n₀) (hc:Comes1 W g encs zs) (h0:J [] W) :
  CallsIn Fence.wide n Try.prog 76 #[.func (.yield l) #[] #[],.pointer (some ⟨Bs,0,none⟩)] W fun e W'=>(∃ v,e = .returned v) ∧
   ((∃ ys,ys = zs ∧ J ys W') ∨ (∃ pre,(∃ k,k ≤ zs.length ∧ pre = zs.take k) ∧ Jx pre W')):=by
 obtain ⟨m,hm⟩:∃ m,zs.length = m:=⟨_,rfl⟩
 have HM:=hide hm
 rw [hm] at hlen hBs
 have HY:=hide hY
 have HC:=hide hc
 have HB:=hide hBs
 clear hm hY hc
 refine callsIn_of_wp Try.func76 rfl trivial ?_ rfl
 simp only [Try.ntmps76,List.size_toArray,List.length_cons,List.length_nil,Nat.reduceAdd,Nat.reduceSub,Array.replicate_succ,Array.replicate_zero,List.push_toArray,List.append_toArray,List.nil_append,List.cons_append]
 gi_wp2
 gi_loopw [3] (fun i wr=>∃ q:Nat,q ≤ m ∧ i = .int .i64 ((q:Int) - 1) ∧ J (zs.take (m - q)) wr ∧ Hid (Below n₀ W wr))
  (fun i _=>(intOf i + 1).toNat)
 case atStart=>exact ⟨m,Nat.le_refl _,rfl,by simpa using h0,hide (Below.refl _ _)⟩
 case round=>
  obtain ⟨q,hq,rfl,hJs,hnx⟩:=hrel
  clear hBs
  cases q with
  | zero=>
   gi_wp2
   go_end0
   exact ⟨⟨_,rfl⟩,.inl ⟨_,rfl,by rw [← HM.out,Nat.sub_zero,List.take_length] at hJs; exact hJs⟩⟩
  | succ p=>
   have hk:m - (p + 1) < zs.length:=by rw [HM.out]; omega
   obtain ⟨a,gd,cd,e1,c0,c1⟩:=(HC.out.below hnx.out hb) (m - (p + 1)) hk
   have hi:zs.length - 1 - (m - (p + 1)) = p:=by rw [HM.out]; omega
   rw [hi] at e1 c0 c1
   have cB:=(hnx.out.cell (p:=⟨Bs,0,none⟩) hBn).trans HB.out
   obtain ⟨fn,tmps,assign,body,hy,hR⟩:=HY.out _ zs[m - (p + 1)] wr hJs (by rw [List.length_take]; omega)
   rw [e1] at hy
   rw [show (((p + 1:Nat):Int) - 1) = (p:Int) by omega]
   have hp:(p:Int) < m:=by omega
   have HTK:=hide (show zs.take (m - p) = zs.take (m - (p + 1)) ++ [zs[m - (p + 1)]] by rw [show m - p = m - (p + 1) + 1 by omega]; exact List.take_succ_eq_append_getElem hk)
   clear e1 hi
   gi_wp2
   refine hR.mono ?_
   rintro e W3 (⟨rfl,hJ3,hk3⟩ | ⟨rfl,hJx3⟩)
   ·gi_wp2
    go_roundw
    case rel=>exact ⟨p,by omega,rfl,by rw [HTK.out]; exact hJ3,hide (hnx.out.trans hk3)⟩
    case measure=>simp [intOf]
   ·gi_wp2
    refine bodyPost_ret (results_none rfl _ _ _) rfl ?_
    exact ⟨⟨_,rfl⟩,.inr ⟨_,⟨m - p,by rw [HM.out]; omega,rfl⟩,by rw [HTK.out]; exact hJx3⟩⟩
set_option maxRecDepth 100000 in
set_option maxHeartbeats 1000000 in
theorem back1_nil {α:Type} (n:Nat) (l Bs cap:Nat) (A:Option Addr) (J:List α → World → Prop) (W:World) (hBs:W.cell? ⟨Bs,0,none⟩ = some (.slice A 0 cap)) (h0:J [] W) :
  CallsIn Fence.wide n Try.prog 76 #[.func (.yield l) #[] #[],.pointer (some ⟨Bs,0,none⟩)] W fun e W'=>(∃ v,e = .returned v) ∧ J [] W':=by
 refine callsIn_of_wp Try.func76 rfl trivial ?_ rfl
 simp only [Try.ntmps76,List.size_toArray,List.length_cons,List.length_nil,Nat.reduceAdd,Nat.reduceSub,Array.replicate_succ,Array.replicate_zero,List.push_toArray,List.append_toArray,List.nil_append,List.cons_append]
 gi_wp2
 gi_loopw [3] (fun i wr=>i = .int .i64 (-1) ∧ J [] wr) (fun _ _=>0)
 case atStart=>exact ⟨rfl,h0⟩
 case round=>
  obtain ⟨rfl,hJs⟩:=hrel
  gi_wp2
  go_end0
  exact ⟨⟨_,rfl⟩,hJs⟩
theorem back_stops {α:Type} (encs:α → Array Value) (zs:List α) (n:Nat) (hn:1 ≤ n) (Bs n₀:Nat) (A:Option Addr) (cap:Nat) (hlen:zs.length ≤ 2000000000) (w:World) (hBs:Bs < n₀) (hn₀:n₀ ≤ w.heap.size)
  (hc:w.cell? ⟨Bs,0,none⟩ = some (.slice A zs.length cap)) (hI:0 < zs.length → ∃ g,A = some ⟨g,0,none⟩ ∧ g < n₀ ∧ Comes1 w g encs zs) :
  SeqStopsK Fence.wide n Try.prog 76 #[.pointer (some ⟨Bs,0,none⟩)] encs (Below n₀) (fun ys=>ys = zs) (fun pre=>∃ k,k ≤ zs.length ∧ pre = zs.take k) zs.length w:=fun l J Jx W hW _ _ hY h0=>by
 have hW0:=hW.mono hn₀
 have hc':=(hW0.cell (p:=⟨Bs,0,none⟩) hBs).trans hc
 rcases Nat.eq_zero_or_pos zs.length with h | h
 ·have hz:zs = []:=List.eq_nil_of_length_eq_zero h
  subst hz
  exact (back1_nil n l Bs cap A J W hc' h0).mono fun e W' ⟨he,hj⟩=>⟨he,.inl ⟨_,rfl,hj⟩⟩
 ·obtain ⟨g,rfl,hg,hcs⟩:=hI h
  exact back1_in encs zs n hn l Bs n₀ g cap hlen hg J Jx hY W hc' hBs (hcs.below hW0 hg) h0
theorem back_any (A:Option Addr) (k cap:Nat) (w:World) :
  Calls Try.prog 63 #[.slice A k cap] w fun e w'=>e = .returned (.func (.func 76) #[] #[.pointer (some ⟨w.heap.size,0,none⟩)]) ∧ w' = w.alloc (.cells #[.slice A k cap] 98):=by
 go_enter Try.func63,Try.ntmps63
 go_wp2_with fail
 go_ret
 exact ⟨rfl,rfl⟩
end Go.Proofs.Ytkolacaceaamoaa
