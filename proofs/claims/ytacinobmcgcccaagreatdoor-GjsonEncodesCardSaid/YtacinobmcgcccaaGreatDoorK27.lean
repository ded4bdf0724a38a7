/- The JSON writer: numeral. -/
import Derived.Test.YtacinobmcgcccaaGreatDoorK26
import Derived.Test.YtacinobmcgcccaaGreatDoorRows
import Derived.Shelf.Unicode.ValidAny
import Derived.Ground.NamesProg
set_option linter.unusedSimpArgs false
set_option linter.unusedVariables false
namespace Go.Proofs.YtacinobmcgcccaaGreatDoor
open Go.RowKit
def numIs (t:L8):JV→Bool
 | .mk k t' _ _=>decide (k=4)&&decide (t'=t)
def numOk (t:L8):Bool:=decide (gotE (parseS t)=0)&&numIs t (gotJ (parseS t))
set_option maxRecDepth 100000 in
set_option maxHeartbeats 600000 in
theorem numeral_any (w:World) (t:L8) (hT:Tabs w):Calls Tryz.prog 107 #[.string ⟨t.toArray⟩] w fun e w'=>e=.returned (.bool (numOk t))∧Below w.heap.size w w':=by
 obtain ⟨w1,hw1⟩:∃ x,Lib.bytesWorld w T8 ⟨t.toArray⟩=x:=⟨_,rfl⟩;have hcx:(convert 9 29 (.string ⟨t.toArray⟩)).run Tryz.prog w=.ok (.slice (some ⟨w.heap.size,0,none⟩) t.length (grownCap w t.length 0 T8)) w1:=hw1 ▸ conv_run t w;have HR1:=hide (show RB w1 w1.heap.size (some ⟨w.heap.size,0,none⟩) t.length t from hw1 ▸ conv_rb t w);have HK1:=hide (conv_cap t w);have HN1:=hide (show Below w.heap.size w w1 from hw1 ▸ conv_below t w);have HA1:=hide (show ∀ ad:Addr,(some (⟨w.heap.size,0,none⟩:Addr))=some ad→ad.block<w1.heap.size from hw1 ▸ conv_lt t w);have HT1:=hide (hT.below HN1.out);clear hw1 hT
 go_enter Tryz.func107,Tryz.ntmps107
 go_upto_region 2 with (go_at_call 13;(refine (parse_uni HR1.out HK1.out HT1.out HA1.out).mono ?_);rintro e w2 ⟨hb,k,tb,A1,n1,c1,A2,n2,c2,at_,rfl,hv⟩;have HB2:=hide (HN1.out.trans (hb.mono HN1.out.size));have HV2:=hide hv;clear hb hv)
 obtain ⟨w3,hw3⟩:∃ x,w2.alloc (.cells #[.int .i64 k,.string tb,.slice A1 n1 c1,.slice A2 n2 c2] TV)=x:=⟨_,rfl⟩;have HB3:=hide (show Below w.heap.size w w3 from hw3 ▸ bal HB2.out _);have HC:=hide (show Blk w3 w2.heap.size TV #[.int .i64 k,.string tb,.slice A1 n1 c1,.slice A2 n2 c2] from hw3 ▸ Blk.new _ _ _);rw [hw3];clear hw3 hcx;obtain ⟨J,hJ⟩:∃ J,gotJ (parseS t)=J:=⟨_,rfl⟩;obtain ⟨ge,hge⟩:∃ x,gotE (parseS t)=x:=⟨_,rfl⟩;have HD:=hide (show numOk t=(decide (ge=0)&&numIs t J) by unfold numOk;rw [hJ,hge]);rw [hJ] at HV2;rw [hge];clear hJ hge;obtain ⟨k',t',ks,vs⟩:=J;obtain ⟨B1,d1,B2,d2,xs,hcs,_⟩:=HV2.out.mk';simp only [List.cons.injEq,Value.int.injEq,Value.string.injEq,Value.slice.injEq,true_and,and_true] at hcs;obtain ⟨rfl,rfl,_⟩:=hcs;have kv:=HC.out.cell;have fv:=HC.out.frozen;have zv:=HC.out.lt;clear HV2;by_cases h1:ge=0
 ·subst h1;by_cases h2:k=4
  ·subst h2;by_cases h3:t'=t
   ·subst h3;go_wp2_with fail
    go_ret;exact ⟨by rw [HD.out];simp [numIs],HB3.out⟩
   ·have e3:=str_ne h3;go_wp2_with fail
    go_ret;exact ⟨by rw [HD.out];simp [numIs,h3],HB3.out⟩
  ·have e2:(k == 4)=false:=by simp;omega
   have HH2:=hide h2;clear h2;go_wp2_with fail
   go_ret;exact ⟨by rw [HD.out];simp [numIs,HH2.out],HB3.out⟩
 ·have e1:((ge:Int) == 0)=false:=by simp;omega
  have HH1:=hide h1;clear h1;go_wp2_with fail
  go_ret;exact ⟨by rw [HD.out];simp [HH1.out],HB3.out⟩
end Go.Proofs.YtacinobmcgcccaaGreatDoor
/-
  DERIVED: THE SHELF's CONTRACTS AT THIS DUMP, IN PLAIN WORDS (tools/lay-plain.mjs out of 'TryzShelfD.lean', which tools/lay-shelf.mjs wrote): THE SAME DECLARATIONS UNDER THE SAME NAMES: 'import', 'namespace', 'open', 'def', 'theorem' AND NOTHING ELSE: no command of the shelf's: FOR A HAND-IN. Each laying: the table of numbers ('.._ren') and one theorem, a field a fact of the dump's own or the kernel's comparison;each contract: ONE APPLICATION.
-/
namespace Go.Proofs
open Go.Shelf
def Tryz.lays196_ren:Go.Shelf.Ren:=⟨fun|196=>106|259=>149|n=>n,fun|9=>9|4=>4|3=>3|5=>5|12=>12|119=>197|0=>0|46=>178|139=>200|138=>199|53=>78|n=>n,fun|3=>0|4=>1|n=>n⟩
theorem Tryz.lays196:Go.Proofs.Lays.n196 Tryz.prog Tryz.lays196_ren:={
 mixed:=by kernel_rfl
 f196:=Tryz.func106.trans (congrArg some (by kernel_rfl))
 f259:=Tryz.func149.trans (congrArg some (by kernel_rfl))
 t0:=Tryz.underlying0
 a0:=Tryz.isAgg0
 z0:=Tryz.sizeOf0
 v0:=Tryz.zeroValue0
 t3:=Tryz.underlying3
 a3:=Tryz.isAgg3
 z3:=Tryz.sizeOf3
 v3:=Tryz.zeroValue3
 t4:=Tryz.underlying4
 a4:=Tryz.isAgg4
 z4:=Tryz.sizeOf4
 v4:=Tryz.zeroValue4
 t5:=Tryz.underlying5
 a5:=Tryz.isAgg5
 z5:=Tryz.sizeOf5
 v5:=Tryz.zeroValue5
 t9:=Tryz.underlying9
 a9:=Tryz.isAgg9
 z9:=Tryz.sizeOf9
 v9:=Tryz.zeroValue9
 t12:=Tryz.underlying12
 a12:=Tryz.isAgg12
 z12:=Tryz.sizeOf12
 v12:=Tryz.zeroValue12
 t46:=Tryz.underlying178
 a46:=Tryz.isAgg178
 z46:=Tryz.sizeOf178
 v46:=Tryz.zeroValue178
 t53:=Tryz.underlying78
 a53:=Tryz.isAgg78
 z53:=Tryz.sizeOf78
 v53:=Tryz.zeroValue78
 t119:=Tryz.underlying197
 a119:=Tryz.isAgg197
 z119:=Tryz.sizeOf197
 t138:=Tryz.underlying199
 a138:=Tryz.isAgg199
 z138:=Tryz.sizeOf199
 v138:=Tryz.zeroValue199
 t139:=Tryz.underlying200
 a139:=Tryz.isAgg200
 z139:=Tryz.sizeOf200
 v139:=Tryz.zeroValue200
 g3:=by kernel_rfl
 g4:=by kernel_rfl }
open Go.RowKit in
theorem Tryz.utf8_ValidString (s:ByteArray) (w:World) (hs:s.size≤9223372036854775807) (hT:Lib.Utf8Tabs (Tryz.lays196_ren.g 3) (Tryz.lays196_ren.g 4) w) :
 Calls Tryz.prog 106 #[.string s] w fun e w'=>e=.returned (.bool (Lib.validD s.data.toList))∧Below w.heap.size w w':=Any.utf8_ValidString Tryz.lays196 s w hs hT
end Go.Proofs
