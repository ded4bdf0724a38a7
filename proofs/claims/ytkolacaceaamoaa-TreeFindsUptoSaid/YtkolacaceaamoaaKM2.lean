/- The sectors' disk: what the small functions do. -/
import Derived.Test.YtkolacaceaamoaaKM0
import Derived.BigRegion
import Derived.Maps.OwnSet
import Derived.Deep.CutRange
import Derived.Deep.OwnRows
import Derived.Outline
import Derived.Lib.BufferMore
/- The sectors' disk: what the small functions do. -/
set_option linter.unusedSimpArgs false
set_option linter.unusedVariables false
namespace Go.Proofs.Ytkolacaceaamoaa
open Go.RowKit
/-- A disk's block. -/
def dk (out:Bool) (left size:Int) (m:Option Nat) (u:Value):Array Value:=#[.bool out,.int .i64 left,.int .i64 size,.map m,u]
def burnO (out:Bool) (left:Int):Bool:=if 0 < left then left - 1 == 0 else out
def burnL (left:Int):Int:=if 0 < left then left - 1 else left
theorem gby_set (W:World) (b i:Nat) (v:Value):W.grownBy (W.setCell ⟨b,i,none⟩ v) (some b):=by
 refine ⟨rfl,rfl,rfl,by simp,fun j hj hne=>Below.heap_setCell _ _ _ _ (fun e=>hne (by rw [e]))⟩
set_option maxHeartbeats 1000000 in
theorem burn_any (b:Nat) (out:Bool) (left size:Int) (m:Option Nat) (u:Value) (w:World) (h:Blk w b 100 (dk out left size m u)) (hl:0 ≤ left ∧ left < 9223372036854775808) :
  Calls Try.prog 103 #[.pointer (some ⟨b,0,none⟩)] w fun e w'=>e = .returned (.bool (burnO out left)) ∧ Blk w' b 100 (dk (burnO out left) (burnL left) size m u) ∧ w.grownBy w' (some b):=by
 have HB:=hide h
 have kx:=h.cell; have qx:=h.frozen; have zx:=h.lt
 unfold dk at kx
 obtain ⟨l1,l2⟩:=hl
 unfold burnO burnL
 cases d:decide (0 < left)
 ·have d':¬ 0 < left:=by simpa using d
  rw [if_neg d',if_neg d']
  clear d'
  go_enter Try.func103,Try.ntmps103
  go_wp2_with fail
  go_ret
  exact ⟨rfl,HB.out,World.grownBy.refl _ _⟩
 ·have d':0 < left:=by simpa using d
  rw [if_pos d',if_pos d']
  clear d'
  go_enter Try.func103,Try.ntmps103
  go_wp2_with fail
  go_ret
  exact ⟨rfl,(HB.out.set_ 1 (.int .i64 (left - 1))).set_ 0 (.bool (left - 1 == 0)),(gby_set _ _ _ _).trans (gby_set _ _ _ _)⟩
def faultE (out:Bool) (size at_:Int):Int:=if out then 15 else if at_ < 0 then 1 else if size ≤ at_ then 1 else 0
set_option maxHeartbeats 1000000 in
theorem fault_any (b:Nat) (out:Bool) (left size at_:Int) (m:Option Nat) (u:Value) (w:World) (h:Blk w b 100 (dk out left size m u)) :
  Calls Try.prog 62 #[.pointer (some ⟨b,0,none⟩),.int .i64 at_] w fun e w'=>e = .returned (.int .i64 (faultE out size at_)) ∧ Below w.heap.size w w':=by
 have kx:=h.cell; have qx:=h.frozen; have zx:=h.lt
 unfold dk at kx
 clear h
 unfold faultE
 cases out
 ·cases d:decide (at_ < 0)
  ·have d0:¬ at_ < 0:=by simpa using d
   cases d2:decide (size ≤ at_)
   ·have d3:¬ size ≤ at_:=by simpa using d2
    simp only [if_neg d0,if_neg d3,Bool.false_eq_true,if_false]
    clear d0 d3
    go_enter Try.func62,Try.ntmps62
    go_wp2_with fail
    go_ret
    exact ⟨rfl,by (repeat (first | exact Below.refl _ _ | refine Below.drew ?_ | refine Below.setCell ?_ (by simp; try omega) _ | refine bal ?_ _))⟩
   ·have d3:size ≤ at_:=by simpa using d2
    simp only [if_neg d0,if_pos d3,Bool.false_eq_true,if_false]
    clear d0 d3
    go_enter Try.func62,Try.ntmps62
    go_wp2_with fail
    go_ret
    exact ⟨rfl,by (repeat (first | exact Below.refl _ _ | refine Below.drew ?_ | refine Below.setCell ?_ (by simp; try omega) _ | refine bal ?_ _))⟩
  ·have d0:at_ < 0:=by simpa using d
   simp only [if_pos d0,Bool.false_eq_true,if_false]
   clear d0
   go_enter Try.func62,Try.ntmps62
   go_wp2_with fail
   go_ret
   exact ⟨rfl,by (repeat (first | exact Below.refl _ _ | refine Below.drew ?_ | refine Below.setCell ?_ (by simp; try omega) _ | refine bal ?_ _))⟩
 ·simp only [if_true]
  go_enter Try.func62,Try.ntmps62
  go_wp2_with fail
  go_ret
  exact ⟨rfl,by (repeat (first | exact Below.refl _ _ | refine Below.drew ?_ | refine Below.setCell ?_ (by simp; try omega) _ | refine bal ?_ _))⟩
end Go.Proofs.Ytkolacaceaamoaa
/- The sectors' disk: New, Down, Limit. -/
namespace Go.Proofs.Ytkolacaceaamoaa
open Go.RowKit
/-- How an element of the disk's map stands in the ghost datum: as itself. -/
def heldR (v:Value):Option (DataW Value × List MemPlace):=some (.held v,[])
abbrev DMap (w:World) (b n:Nat) (D:DataW Value):Prop:=w.ownsMap Try.prog 3 heldR b n D
set_option maxHeartbeats 1000000 in
theorem down_any (b:Nat) (out:Bool) (left size:Int) (m:Option Nat) (u:Value) (w:World) (h:Blk w b 100 (dk out left size m u)) :
  Calls Try.prog 38 #[.pointer (some ⟨b,0,none⟩)] w fun e w'=>e = .returned (.bool out) ∧ Below w.heap.size w w':=by
 have kx:=h.cell; have qx:=h.frozen; have zx:=h.lt
 unfold dk at kx
 clear h
 go_enter Try.func38,Try.ntmps38
 go_wp2_with fail
 go_ret
 exact ⟨rfl,by (repeat (first | exact Below.refl _ _ | refine Below.drew ?_ | refine Below.setCell ?_ (by simp; try omega) _ | refine bal ?_ _))⟩
set_option maxHeartbeats 1000000 in
theorem new_any (n:Int) (w:World) (hn:1 ≤ n ∧ n ≤ 65536) :
  Calls Try.prog 19 #[.int .i64 n] w fun e w'=>e = .returned (.tuple #[.pointer (some ⟨w.heap.size + 1,0,none⟩),.int .i64 0]) ∧ DMap w' w.heap.size 0 (.map []) ∧ Blk w' (w.heap.size + 1) 100 (dk false 0 n (some w.heap.size) (.slice none 0 0)) ∧ Below w.heap.size w w':=by
 have hmm:=@run_makeMap Try.prog
 have HM:=hide (World.ownsMap_made w Try.prog 3 heldR)
 have d1:decide (n < 1) = false:=by simp; omega
 have d2:decide (65536 < n) = false:=by simp; omega
 clear hn
 go_enter Try.func19,Try.ntmps19
 go_wp2_with fail
 refine bodyPost_ret (v:=.tuple #[.pointer (some ⟨w.heap.size + 1,0,none⟩),.int .i64 0]) (by simp [results,Try.results19,go_sem]) rfl ⟨rfl,HM.out.alloc _,?_,by (repeat (first | exact Below.refl _ _ | refine Below.drew ?_ | refine Below.setCell ?_ (by simp; try omega) _ | refine bal ?_ _))⟩
 have:=Blk.new (w.alloc (.map #[] 0)) 100 (dk false 0 n (some w.heap.size) (.slice none 0 0))
 simpa [dk] using this
end Go.Proofs.Ytkolacaceaamoaa
/- Blocks of noughts. -/
namespace Go.Proofs.Ytkolacaceaamoaa
open Go.RowKit
def fillA (c:Int) (k n:Nat):Array Value:=((List.range n).map fun i=>Value.int .u8 (if i < k then c else 0)).toArray
theorem fillA_0 (c:Int) (n:Nat):madeCells #[Value.int .u8 0] n = fillA c 0 n:=by
 apply Array.ext'
 rw [toList_madeCells_one]
 unfold fillA
 simp [List.map_const']
theorem fillA_at (c:Int) {k n j:Nat} (h:j < n):(fillA c k n)[j]? = some (.int .u8 (if j < k then c else 0)):=by
 unfold fillA
 simp [h]
theorem u8_info:(Try.prog.info? 5).map (fun i=>(i.zero,i.size,i.bytes)) = some (some (.int .u8 0),1,1):=by kernel_rfl
def dataN (c:Int) (odd:Bool):Nat:=if odd then 511 + (c % 3 * 2).toNat else 512
end Go.Proofs.Ytkolacaceaamoaa
/- slices.Clone at bytes. -/
namespace Go.Proofs.Ytkolacaceaamoaa
open Go.RowKit
theorem Reads.al {w:World} {size n:Nat} {A:Option Addr} {xs:List Value} {B:Nat} (hB:B ≤ w.heap.size) (h:Reads w B size A n xs) (o:Obj):Reads (w.alloc o) B size A n xs:=by
 refine ⟨h.1,fun hn=>?_⟩
 obtain ⟨ad,e,hb,hc⟩:=h.2 hn
 refine ⟨ad,e,hb,fun j u hj=>?_⟩
 rw [((Below.refl B w).alloc hB o).cell (by unfold Addr.add; split <;> exact hb)]
 exact hc j u hj
set_option maxHeartbeats 1000000 in
theorem clone_any (A:Addr) (n c:Nat) (xs:List Value) (w:World) (hr:Reads w w.heap.size 1 (some A) n xs) (h1:∀ u ∈ xs,u.oneCell' = true) (hn:n ≤ 60000) :
  Calls Try.prog 48 #[.slice (some A) n c] w fun e w'=>∃ v,e = .returned v ∧ w'.ownsRow w.heap.size 5 1 v n xs ∧ Below w.heap.size w w':=by
 obtain ⟨i0,hi0,hz0,hz1,hz2⟩:=info_parts u8_info
 have HR:=hide hr
 have H1:=hide h1
 clear hr h1
 have heq:=fun w=>Go.Lib.run_eql_slice_some_nil (P:=Try.prog) w A n c Try.underlying38
 go_enter Try.func48,Try.ntmps48
 go_wp2_with (at_builtin; (refine wpList_append_any _ rfl (.tmp 5) (.tmp 6) _ rfl w.heap.size 5 i0 _ 1 1 Try.underlying38 hi0 hz0 hz1 hz2 rfl (by omega) _ 0 [] rfl (World.ownsRow_lit w #[] 0 (Nat.le_refl _) (by unfold maxLen; omega) rfl) w.heap.size (some A) n c xs rfl (Reads.al (Nat.le_refl _) HR.out _) H1.out (by unfold maxLen; omega) (by omega) (by simp) ?_); intro v' w2 ho hg _)
 simp only [List.nil_append,Nat.zero_add] at ho
 have HO:=hide ho
 have HG:=hide hg
 clear ho hg
 go_wp2_with fail
 go_ret
 exact ⟨_,rfl,HO.out,((Below.refl _ _).alloc (Nat.le_refl _) _).trans ⟨HG.out.os,HG.out.tape,HG.out.output,HG.out.size,fun j hj=>HG.out.block j (by simp; omega) (by intro e; have e2:some j = some w.heap.size:=e; cases e2; omega)⟩⟩
end Go.Proofs.Ytkolacaceaamoaa
