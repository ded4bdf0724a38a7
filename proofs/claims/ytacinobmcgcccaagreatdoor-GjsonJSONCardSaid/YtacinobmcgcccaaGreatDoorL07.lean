/-
  DERIVED: THE SHELF's CONTRACTS AT THIS DUMP, IN PLAIN WORDS (tools/lay-plain.mjs out of 'TryzShelf.lean', which tools/lay-shelf.mjs wrote): THE SAME DECLARATIONS UNDER THE SAME NAMES: 'import', 'namespace', 'open', 'def', 'theorem' AND NOTHING ELSE: no command of the shelf's: FOR A HAND-IN. Each laying: the table of numbers ('.._ren') and one theorem, a field a fact of the dump's own or the kernel's comparison;each contract: ONE APPLICATION.
-/
import Derived.Test.YtacinobmcgcccaaGreatDoorRows
import Derived.Test.YtacinobmcgcccaaGreatDoorL00
import Derived.Test.YtacinobmcgcccaaGreatDoorL04
import Derived.Test.YtacinobmcgcccaaGreatDoorL06
import Derived.Shelf.Strings.Builder1
import Derived.Shelf.Small.Bits
import Derived.Shelf.Small.Strs
import Derived.Shelf.Small.Wraps
import Derived.Shelf.Strings.BuilderF
import Derived.Shelf.Strings.BuilderK
import Derived.Shelf.Strings.BuilderRune
import Derived.Shelf.Utf8.AppendRune
import Derived.Shelf.Utf8.AppendRunePlain
import Derived.Shelf.Strconv.Atoi
import Derived.Shelf.Strconv.Itoa0
import Derived.Shelf.Strconv.Itoa1
import Derived.Shelf.LaysM
import Derived.Shelf.Strconv.Itoa2
import Derived.Shelf.Strconv.Itoa3
import Derived.Shelf.Strconv.AtoiErrFast
import Derived.Shelf.Strconv.ParseIntEmpty
import Derived.Shelf.Strconv.AtoiFail
import Derived.Shelf.Strconv.Clone
import Derived.Shelf.Strconv.SyntaxError
import Derived.Shelf.LaysC
import Derived.Shelf.Strconv.ToError
import Derived.Shelf.Strconv.Lower
import Derived.Shelf.Strconv.ParseUint10
import Derived.Shelf.Strconv.ParseUint10Empty
import Derived.Shelf.Strconv.ParseUint10Any
import Derived.Shelf.Strconv.ParseInt10
import Derived.Shelf.Strconv.AtoiLong
import Derived.Shelf.Strconv.AtoiInnerAll
import Derived.Shelf.Strconv.RangeError
import Derived.Shelf.Strconv.ToErrorRange
import Derived.Shelf.Strconv.AtoiAll
import Derived.Shelf.Strconv.ErrVarAll
import Derived.Shelf.Strconv.ParseUintEmpty
import Derived.Shelf.Strconv.ParseUint10b64
import Derived.Shelf.Strconv.ParseUint10b32
import Derived.Shelf.Strconv.ParseUint10b16
import Derived.Shelf.Strconv.ParseUint10b8
import Derived.Shelf.Strings.Search1
import Derived.Shelf.Strings.BuilderCap
import Derived.Shelf.Slices.Turned
import Derived.Ground.Names2Prog
import Derived.Shelf.Slices.SearchI
import Derived.IntWalk
import Derived.Shelf.Spec.BitsCarry
import Derived.BigRegion
import Derived.Deep.RegionHeld3
import Derived.Outline
set_option linter.unusedSimpArgs false
set_option linter.unusedVariables false
namespace Go.Proofs
open Go.Shelf
def Tryz.lays169_ren:Go.Shelf.Ren:=⟨fun|169=>125|n=>n,fun|70=>161|9=>9|0=>0|72=>163|37=>29|127=>206|3=>3|5=>5|n=>n,fun|n=>n⟩
theorem Tryz.lays169:Go.Proofs.Lays.n169 Tryz.prog Tryz.lays169_ren:={
 mixed:=by kernel_rfl
 f169:=Tryz.func125.trans (congrArg some (by kernel_rfl))
 t0:=Tryz.underlying0
 a0:=Tryz.isAgg0
 z0:=Tryz.sizeOf0
 v0:=Tryz.zeroValue0
 t3:=Tryz.underlying3
 a3:=Tryz.isAgg3
 z3:=Tryz.sizeOf3
 v3:=Tryz.zeroValue3
 t9:=Tryz.underlying9
 a9:=Tryz.isAgg9
 z9:=Tryz.sizeOf9
 v9:=Tryz.zeroValue9
 t37:=Tryz.underlying29
 a37:=Tryz.isAgg29
 z37:=Tryz.sizeOf29
 v37:=Tryz.zeroValue29
 t70:=Tryz.underlying161
 a70:=Tryz.isAgg161
 z70:=Tryz.sizeOf161
 v70:=Tryz.zeroValue161
 t72:=Tryz.underlying163
 a72:=Tryz.isAgg163
 z72:=Tryz.sizeOf163
 v72:=Tryz.zeroValue163
 t127:=Tryz.underlying206
 a127:=Tryz.isAgg206
 z127:=Tryz.sizeOf206
 v127:=Tryz.zeroValue206 }
theorem Tryz.Builder_Extra_169:Builder.Extra Tryz.prog Tryz.lays169_ren:={
 sizeBuilder:=by kernel_rfl
 liesBuilder:=by kernel_rfl
 t5:=Tryz.underlying5
 a5:=Tryz.isAgg5
 z5:=Tryz.sizeOf5
 v5:=Tryz.zeroValue5
 infoByte:=by kernel_rfl
 cellsByte:=by kernel_rfl
 sizeByte:=by kernel_rfl
 neB5:=by decide }
open Go.RowKit in
theorem Tryz.Builder_String_any (B b:Nat) (l:List UInt8) (w:World) (h:Lib.IsBuilder 163 5 B b (Lib.byteCells l) w) (hBw:B≤w.heap.size) :
 Calls Tryz.prog 125 #[.pointer (some ⟨b,0,none⟩)] w fun e w'=>e=.returned (.string ⟨l.toArray⟩)∧Below B w w':=Any.Builder_String_any Tryz.lays169 Tryz.Builder_Extra_169 B b l w h hBw
def Tryz.lays128_ren:Go.Shelf.Ren:=⟨fun|128=>182|n=>n,fun|51=>137|3=>3|4=>4|46=>178|5=>5|9=>9|n=>n,fun|n=>n⟩
def Tryz.lays125_ren:Go.Shelf.Ren:=⟨fun|125=>153|128=>182|129=>183|n=>n,fun|46=>178|3=>3|51=>137|53=>78|4=>4|5=>5|9=>9|n=>n,fun|n=>n⟩
def Tryz.lays137_ren:Go.Shelf.Ren:=⟨fun|137=>124|217=>156|266=>189|n=>n,fun|9=>9|5=>5|3=>3|n=>n,fun|n=>n⟩
theorem Tryz.lays137:Go.Proofs.Lays.n137 Tryz.prog Tryz.lays137_ren:={
 mixed:=by kernel_rfl
 f137:=Tryz.func124.trans (congrArg some (by kernel_rfl))
 f217:=Tryz.func156.trans (congrArg some (by kernel_rfl))
 f266:=Tryz.func189.trans (congrArg some (by kernel_rfl))
 t3:=Tryz.underlying3
 a3:=Tryz.isAgg3
 z3:=Tryz.sizeOf3
 v3:=Tryz.zeroValue3
 t5:=Tryz.underlying5
 a5:=Tryz.isAgg5
 z5:=Tryz.sizeOf5
 v5:=Tryz.zeroValue5
 t9:=Tryz.underlying9
 a9:=Tryz.isAgg9
 z9:=Tryz.sizeOf9
 v9:=Tryz.zeroValue9 }
open Go.RowKit in
theorem Tryz.strings_IndexByte (s:ByteArray) (c:Int) (w:World) :
 Calls Tryz.prog 124 #[.string s,.int .u8 c] w fun e w'=>e=.returned (.int .i64 (Lib.indexByte s.data.toList c.toNat.toUInt8))∧w'=w:=Any.strings_IndexByte Tryz.lays137 s c w
def Tryz.lays215_ren:Go.Shelf.Ren:=⟨fun|215=>98|n=>n,fun|3=>3|4=>4|n=>n,fun|n=>n⟩
def Tryz.lays122_ren:Go.Shelf.Ren:=⟨fun|122=>50|215=>98|n=>n,fun|3=>3|4=>4|n=>n,fun|n=>n⟩
def Tryz.lays278_ren:Go.Shelf.Ren:=⟨fun|278=>191|n=>n,fun|37=>29|21=>21|51=>137|4=>4|46=>178|5=>5|n=>n,fun|n=>n⟩
def Tryz.lays242_ren:Go.Shelf.Ren:=⟨fun|242=>161|278=>191|n=>n,fun|37=>29|21=>21|51=>137|4=>4|5=>5|46=>178|n=>n,fun|n=>n⟩
theorem Tryz.lays242:Go.Proofs.Lays.n242 Tryz.prog Tryz.lays242_ren:={
 mixed:=by kernel_rfl
 f242:=Tryz.func161.trans (congrArg some (by kernel_rfl))
 f278:=Tryz.func191.trans (congrArg some (by kernel_rfl))
 t4:=Tryz.underlying4
 a4:=Tryz.isAgg4
 z4:=Tryz.sizeOf4
 v4:=Tryz.zeroValue4
 t5:=Tryz.underlying5
 a5:=Tryz.isAgg5
 z5:=Tryz.sizeOf5
 v5:=Tryz.zeroValue5
 t21:=Tryz.underlying21
 a21:=Tryz.isAgg21
 z21:=Tryz.sizeOf21
 v21:=Tryz.zeroValue21
 t37:=Tryz.underlying29
 a37:=Tryz.isAgg29
 z37:=Tryz.sizeOf29
 v37:=Tryz.zeroValue29
 t46:=Tryz.underlying178
 a46:=Tryz.isAgg178
 z46:=Tryz.sizeOf178
 v46:=Tryz.zeroValue178
 t51:=Tryz.underlying137
 a51:=Tryz.isAgg137
 z51:=Tryz.sizeOf137
 v51:=Tryz.zeroValue137 }
open Go.RowKit in
theorem Tryz.utf8_AppendRune_plain (B:Nat) (v:Value) (n:Nat) (xs:List Value) (r:Int) (hr0:-2147483648≤r) (hr1:r≤2147483647) (w:World) (hown:w.ownsRow B 5 1 v n xs) (hlen:n+4≤140737488355328) (hBw:B≤w.heap.size) :
 Calls Tryz.prog 161 #[v,.int .i32 r] w fun e w'=>∃ v',e=.returned v'∧w'.ownsRow B 5 1 v' (n+(Lib.runeCells r).length) (xs++Lib.runeCells r) ∧ ∃ o,(w.alloc o).grownBy w' v.ownBlock:=Any.utf8_AppendRune_plain Tryz.lays242 (by kernel_rfl) B v n xs r hr0 hr1 w hown hlen hBw
def Tryz.lays244_ren:Go.Shelf.Ren:=⟨fun|244=>162|247=>192|287=>210|321=>224|322=>225|n=>n,fun|9=>9|3=>3|75=>169|4=>4|5=>5|167=>232|37=>29|0=>0|85=>233|2=>2|53=>78|175=>251|46=>178|21=>21|80=>164|n=>n,fun|n=>n⟩
def Tryz.lays172_ren:Go.Shelf.Ren:=⟨fun|172=>135|244=>162|245=>163|247=>192|279=>193|280=>194|281=>195|282=>196|287=>210|316=>211|171=>72|205=>212|321=>224|322=>225|243=>122|246=>155|283=>185|284=>186|285=>187|286=>188|129=>183|317=>206|318=>207|319=>208|320=>209|337=>222|338=>223|n=>n,fun|9=>9|3=>3|75=>169|76=>170|4=>4|5=>5|167=>232|37=>29|0=>0|85=>233|2=>2|168=>235|53=>78|175=>251|46=>178|210=>255|127=>206|145=>268|143=>266|21=>21|171=>226|173=>228|212=>249|51=>137|20=>20|213=>250|232=>271|233=>272|80=>164|n=>n,fun|15=>4|16=>5|17=>2|18=>6|19=>7|n=>n⟩
def Tryz.lays129_ren:Go.Shelf.Ren:=⟨fun|129=>183|n=>n,fun|53=>78|3=>3|4=>4|46=>178|5=>5|9=>9|n=>n,fun|n=>n⟩
def Tryz.lays317_ren:Go.Shelf.Ren:=⟨fun|317=>206|n=>n,fun|3=>3|46=>178|n=>n,fun|n=>n⟩
def Tryz.lays318_ren:Go.Shelf.Ren:=⟨fun|318=>207|n=>n,fun|3=>3|4=>4|n=>n,fun|n=>n⟩
def Tryz.lays283_ren:Go.Shelf.Ren:=⟨fun|283=>185|n=>n,fun|3=>3|9=>9|4=>4|n=>n,fun|n=>n⟩
def Tryz.laysM284_ren:Go.Shelf.Ren:=⟨fun|284=>186|129=>183|317=>206|318=>207|n=>n,fun|53=>78|3=>3|212=>249|0=>0|4=>4|46=>178|5=>5|9=>9|n=>n,fun|17=>2|n=>n⟩
def Tryz.lays285_ren:Go.Shelf.Ren:=⟨fun|285=>187|n=>n,fun|37=>29|53=>78|3=>3|4=>4|51=>137|9=>9|5=>5|0=>0|n=>n,fun|n=>n⟩
def Tryz.laysM246_ren:Go.Shelf.Ren:=⟨fun|246=>155|283=>185|284=>186|285=>187|286=>188|129=>183|317=>206|318=>207|319=>208|320=>209|337=>222|338=>223|n=>n,fun|2=>2|3=>3|9=>9|4=>4|171=>226|0=>0|53=>78|37=>29|5=>5|173=>228|212=>249|51=>137|20=>20|213=>250|46=>178|232=>271|233=>272|n=>n,fun|17=>2|18=>6|19=>7|n=>n⟩
def Tryz.lays246_ren:Go.Shelf.Ren:=⟨fun|246=>155|283=>185|284=>186|285=>187|286=>188|129=>183|317=>206|318=>207|319=>208|320=>209|337=>222|338=>223|n=>n,fun|2=>2|3=>3|9=>9|4=>4|171=>226|0=>0|53=>78|37=>29|5=>5|173=>228|212=>249|51=>137|20=>20|213=>250|46=>178|232=>271|233=>272|n=>n,fun|17=>2|18=>6|19=>7|n=>n⟩
def Tryz.laysM243_ren:Go.Shelf.Ren:=⟨fun|243=>122|246=>155|283=>185|284=>186|285=>187|286=>188|129=>183|317=>206|318=>207|319=>208|320=>209|337=>222|338=>223|n=>n,fun|3=>3|9=>9|2=>2|4=>4|171=>226|0=>0|53=>78|37=>29|5=>5|173=>228|212=>249|51=>137|20=>20|213=>250|46=>178|232=>271|233=>272|n=>n,fun|17=>2|18=>6|19=>7|n=>n⟩
def Tryz.lays243_ren:Go.Shelf.Ren:=⟨fun|243=>122|246=>155|283=>185|284=>186|285=>187|286=>188|129=>183|317=>206|318=>207|319=>208|320=>209|337=>222|338=>223|n=>n,fun|3=>3|9=>9|2=>2|4=>4|171=>226|0=>0|53=>78|37=>29|5=>5|173=>228|212=>249|51=>137|20=>20|213=>250|46=>178|232=>271|233=>272|n=>n,fun|17=>2|18=>6|19=>7|n=>n⟩
def Tryz.laysM171_ren:Go.Shelf.Ren:=⟨fun|171=>72|243=>122|246=>155|283=>185|284=>186|285=>187|286=>188|129=>183|317=>206|318=>207|319=>208|320=>209|337=>222|338=>223|n=>n,fun|3=>3|9=>9|2=>2|4=>4|171=>226|0=>0|53=>78|37=>29|5=>5|173=>228|212=>249|51=>137|20=>20|213=>250|46=>178|232=>271|233=>272|n=>n,fun|17=>2|18=>6|19=>7|n=>n⟩
theorem Tryz.laysM171:Go.Proofs.LaysM.n171 Tryz.prog Tryz.laysM171_ren:={
 mixed:=by kernel_rfl
 f129:=Tryz.func183.trans (congrArg some (by kernel_rfl))
 f171:=Tryz.func72.trans (congrArg some (by kernel_rfl))
 f243:=Tryz.func122.trans (congrArg some (by kernel_rfl))
 f246:=Tryz.func155.trans (congrArg some (by kernel_rfl))
 f283:=Tryz.func185.trans (congrArg some (by kernel_rfl))
 f284:=Tryz.func186.trans (congrArg some (by kernel_rfl))
 f285:=Tryz.func187.trans (congrArg some (by kernel_rfl))
 f286:=Tryz.func188.trans (congrArg some (by kernel_rfl))
 f317:=Tryz.func206.trans (congrArg some (by kernel_rfl))
 f318:=Tryz.func207.trans (congrArg some (by kernel_rfl))
 f319:=Tryz.func208.trans (congrArg some (by kernel_rfl))
 f320:=Tryz.func209.trans (congrArg some (by kernel_rfl))
 f337:=Tryz.func222.trans (congrArg some (by kernel_rfl))
 f338:=Tryz.func223.trans (congrArg some (by kernel_rfl))
 t0:=Tryz.underlying0
 a0:=Tryz.isAgg0
 z0:=Tryz.sizeOf0
 v0:=Tryz.zeroValue0
 t2:=Tryz.underlying2
 a2:=Tryz.isAgg2
 z2:=Tryz.sizeOf2
 v2:=Tryz.zeroValue2
 t3:=Tryz.underlying3
 a3:=Tryz.isAgg3
 z3:=Tryz.sizeOf3
 v3:=Tryz.zeroValue3
 t4:=Tryz.underlying4
 a4:=Tryz.isAgg4
 z4:=Tryz.sizeOf4
 v4:=Tryz.zeroValue4
 t5:=Tryz.underlying5
 a5:=Tryz.isAgg5
 z5:=Tryz.sizeOf5
 v5:=Tryz.zeroValue5
 t9:=Tryz.underlying9
 a9:=Tryz.isAgg9
 z9:=Tryz.sizeOf9
 v9:=Tryz.zeroValue9
 t20:=Tryz.underlying20
 a20:=Tryz.isAgg20
 z20:=Tryz.sizeOf20
 v20:=Tryz.zeroValue20
 t37:=Tryz.underlying29
 a37:=Tryz.isAgg29
 z37:=Tryz.sizeOf29
 v37:=Tryz.zeroValue29
 t46:=Tryz.underlying178
 a46:=Tryz.isAgg178
 z46:=Tryz.sizeOf178
 v46:=Tryz.zeroValue178
 t51:=Tryz.underlying137
 a51:=Tryz.isAgg137
 z51:=Tryz.sizeOf137
 v51:=Tryz.zeroValue137
 t53:=Tryz.underlying78
 a53:=Tryz.isAgg78
 z53:=Tryz.sizeOf78
 v53:=Tryz.zeroValue78
 t171:=Tryz.underlying226
 a171:=Tryz.isAgg226
 z171:=Tryz.sizeOf226
 v171:=Tryz.zeroValue226
 t173:=Tryz.underlying228
 a173:=Tryz.isAgg228
 z173:=Tryz.sizeOf228
 v173:=Tryz.zeroValue228
 t212:=Tryz.underlying249
 a212:=Tryz.isAgg249
 z212:=Tryz.sizeOf249
 v212:=Tryz.zeroValue249
 t213:=Tryz.underlying250
 a213:=Tryz.isAgg250
 z213:=Tryz.sizeOf250
 t232:=Tryz.underlying271
 a232:=Tryz.isAgg271
 z232:=Tryz.sizeOf271
 v232:=Tryz.zeroValue271
 t233:=Tryz.underlying272
 a233:=Tryz.isAgg272
 z233:=Tryz.sizeOf272
 v233:=Tryz.zeroValue272
 g17:=by kernel_rfl
 g18:=by kernel_rfl
 g19:=by kernel_rfl
 i0:=by kernel_rfl
 i2:=by kernel_rfl
 i3:=by kernel_rfl
 i4:=by kernel_rfl
 i5:=by kernel_rfl
 i9:=by kernel_rfl
 i20:=by kernel_rfl
 i37:=by kernel_rfl
 i46:=by kernel_rfl
 i51:=by kernel_rfl
 i53:=by kernel_rfl
 i171:=by kernel_rfl
 i173:=by kernel_rfl
 i212:=by kernel_rfl
 i232:=by kernel_rfl
 i233:=by kernel_rfl
 m17:=by kernel_rfl
 m18:=by kernel_rfl
 m19:=by kernel_rfl }
open Go.RowKit Go.Sort Go.Lib in
theorem Tryz.strconv_Itoa (n : Int) (h0 : -9223372036854775808 ≤ n) (h1 : n ≤ 9223372036854775807) (w : World) (htab : Lib.TabIs Tryz.prog w "internal/strconv.uint64pow10" .u64 Lib.pow10Tab) :
 Calls Tryz.prog 72 #[.int .i64 n] w fun e w'=>e=.returned (.string ⟨(Lib.itoa n).toArray⟩) ∧ ∃ k os,w'=grow (w.drewN k) os:=Any.strconv_Itoa Tryz.laysM171 n h0 h1 w htab
def Tryz.lays171_ren:Go.Shelf.Ren:=⟨fun|171=>72|243=>122|246=>155|283=>185|284=>186|285=>187|286=>188|129=>183|317=>206|318=>207|319=>208|320=>209|337=>222|338=>223|n=>n,fun|3=>3|9=>9|2=>2|4=>4|171=>226|0=>0|53=>78|37=>29|5=>5|173=>228|212=>249|51=>137|20=>20|213=>250|46=>178|232=>271|233=>272|n=>n,fun|17=>2|18=>6|19=>7|n=>n⟩
def Tryz.lays247_ren:Go.Shelf.Ren:=⟨fun|247=>192|287=>210|321=>224|322=>225|n=>n,fun|9=>9|3=>3|2=>2|75=>169|4=>4|167=>232|5=>5|53=>78|175=>251|46=>178|37=>29|0=>0|21=>21|80=>164|n=>n,fun|n=>n⟩
def Tryz.laysM316_ren:Go.Shelf.Ren:=⟨fun|316=>211|n=>n,fun|9=>9|3=>3|4=>4|37=>29|0=>0|127=>206|5=>5|n=>n,fun|n=>n⟩
def Tryz.laysM279_ren:Go.Shelf.Ren:=⟨fun|279=>193|316=>211|n=>n,fun|9=>9|168=>235|75=>169|210=>255|3=>3|4=>4|37=>29|0=>0|127=>206|80=>164|5=>5|n=>n,fun|15=>4|n=>n⟩
def Tryz.laysC245_ren:Go.Shelf.Ren:=⟨fun|245=>163|279=>193|280=>194|281=>195|282=>196|316=>211|171=>72|205=>212|243=>122|246=>155|283=>185|284=>186|285=>187|286=>188|129=>183|317=>206|318=>207|319=>208|320=>209|337=>222|338=>223|n=>n,fun|9=>9|3=>3|75=>169|167=>232|4=>4|168=>235|210=>255|37=>29|0=>0|127=>206|145=>268|143=>266|2=>2|171=>226|53=>78|5=>5|173=>228|212=>249|51=>137|20=>20|213=>250|46=>178|232=>271|233=>272|80=>164|n=>n,fun|15=>4|16=>5|17=>2|18=>6|19=>7|n=>n⟩
def Tryz.lays321_ren:Go.Shelf.Ren:=⟨fun|321=>224|n=>n,fun|5=>5|n=>n,fun|n=>n⟩
def Tryz.lays287_ren:Go.Shelf.Ren:=⟨fun|287=>210|321=>224|322=>225|n=>n,fun|9=>9|3=>3|53=>78|75=>169|4=>4|167=>232|5=>5|46=>178|37=>29|0=>0|21=>21|80=>164|n=>n,fun|n=>n⟩
def Tryz.laysC247_ren:Go.Shelf.Ren:=⟨fun|247=>192|287=>210|321=>224|322=>225|n=>n,fun|9=>9|3=>3|2=>2|75=>169|4=>4|167=>232|5=>5|53=>78|175=>251|46=>178|37=>29|0=>0|21=>21|80=>164|n=>n,fun|n=>n⟩
def Tryz.laysC244_ren:Go.Shelf.Ren:=⟨fun|244=>162|247=>192|287=>210|321=>224|322=>225|n=>n,fun|9=>9|3=>3|75=>169|4=>4|5=>5|167=>232|37=>29|0=>0|85=>233|2=>2|53=>78|175=>251|46=>178|21=>21|80=>164|n=>n,fun|n=>n⟩
def Tryz.laysM280_ren:Go.Shelf.Ren:=⟨fun|280=>194|316=>211|n=>n,fun|9=>9|168=>235|75=>169|210=>255|3=>3|4=>4|37=>29|0=>0|127=>206|80=>164|5=>5|n=>n,fun|16=>5|n=>n⟩
def Tryz.laysC172_ren:Go.Shelf.Ren:=⟨fun|172=>135|244=>162|245=>163|247=>192|279=>193|280=>194|281=>195|282=>196|287=>210|316=>211|171=>72|205=>212|321=>224|322=>225|243=>122|246=>155|283=>185|284=>186|285=>187|286=>188|129=>183|317=>206|318=>207|319=>208|320=>209|337=>222|338=>223|n=>n,fun|9=>9|3=>3|75=>169|76=>170|4=>4|5=>5|167=>232|37=>29|0=>0|85=>233|2=>2|168=>235|53=>78|175=>251|46=>178|210=>255|127=>206|145=>268|143=>266|21=>21|171=>226|173=>228|212=>249|51=>137|20=>20|213=>250|232=>271|233=>272|80=>164|n=>n,fun|15=>4|16=>5|17=>2|18=>6|19=>7|n=>n⟩
def Tryz.lays217_ren:Go.Shelf.Ren:=⟨fun|217=>156|266=>189|n=>n,fun|9=>9|5=>5|3=>3|n=>n,fun|n=>n⟩
def Tryz.lays109_ren:Go.Shelf.Ren:=⟨fun|109=>86|n=>n,fun|31=>36|9=>9|3=>3|0=>0|4=>4|n=>n,fun|n=>n⟩
def Tryz.laysNm237_ren:Go.Shelf.Ren:=⟨fun|37=>98|n=>n,fun|3=>3|4=>4|n=>n,fun|n=>n⟩
end Go.Proofs
/- Whole numbers of 128 bits: math/bits laid; Of, Add. -/
namespace Go.Proofs.YtacinobmcgcccaaGreatDoor
open Go.RowKit Go.Shelf
theorem add64 (x y c:Int) (hx:0≤x) (hy:0≤y) (hc0:0≤c) (hc:c≤1) (w:World):(callFunc 184 #[.int .u64 x,.int .u64 y,.int .u64 c]).run Tryz.prog w =
 .ok (.value (.tuple #[.int .u64 ((x+y+c) % 18446744073709551616),.int .u64 ((x+y+c) / 18446744073709551616)])) w:=by
 rw [run_callFunc_extern Tryz.func184 (by kernel_rfl) (by kernel_rfl) (by kernel_rfl) (e:=add64Entry) (by kernel_rfl),run_add64 x y c hx hy hc0 hc];rfl
def bor (x y:Int):Int:=if x<y then 1 else 0
theorem add64_0 (x y:Int) (hx:0≤x) (hy:0≤y) (w:World):(callFunc 184 #[.int .u64 x,.int .u64 y,.int .u64 0]).run Tryz.prog w =
 .ok (.value (.tuple #[.int .u64 ((x+y) % 18446744073709551616),.int .u64 ((x+y) / 18446744073709551616)])) w:=by
 simpa using add64 x y 0 hx hy (Int.le_refl 0) (by decide) w
structure I2 where
 hi:Int
 lo:Int
def I2.ok (x:I2):Prop:=(-9223372036854775808≤x.hi∧x.hi<9223372036854775808)∧0≤x.lo∧x.lo<18446744073709551616
def I2.num (x:I2):Int:=x.hi * 18446744073709551616+x.lo
def two (n:Int):I2:=⟨n / 18446744073709551616,n % 18446744073709551616⟩
def inr (n:Int):Prop:=-170141183460469231731687303715884105728≤n∧n<170141183460469231731687303715884105728
instance (n:Int):Decidable (inr n):=inferInstanceAs (Decidable (_∧_))
theorem two_ok {n:Int} (h:inr n):(two n).ok:=by unfold inr at h;unfold I2.ok two;simp only;omega
theorem two_num (n:Int):(two n).num=n:=by unfold two I2.num;simp only;omega
theorem num_in {x:I2} (h:x.ok):inr x.num:=by unfold I2.ok at h;unfold inr I2.num;omega
abbrev iblk (x:I2):Obj:=Obj.cells #[Value.int IntKind.i64 x.hi,Value.int IntKind.u64 x.lo] 80
theorem of_dec {p:Prop} [Decidable p] {b:Bool} (h:decide p=b):if b=true then p else ¬ p:=by
 cases b
 ·simpa using h
 ·simpa using h
theorem ret_i2 {a b c d:Int} (h1:c=a) (h2:d=b):Ending.returned (Value.agg #[Value.int IntKind.i64 a,Value.int IntKind.u64 b])=Ending.returned (Value.agg #[Value.int IntKind.i64 c,Value.int IntKind.u64 d]):=by rw [h1,h2]
set_option maxHeartbeats 400000 in
theorem wof_any (n:Int) (w:World) (h:-9223372036854775808≤n∧n<9223372036854775808) :
 Calls Tryz.prog 165 #[.int .i64 n] w fun e w'=>e=.returned (.agg #[.int .i64 (two n).hi,.int .u64 (two n).lo])∧Below w.heap.size w w':=by
 have HB0:=hide (bal (Below.refl w.heap.size w) (iblk ⟨0,0⟩));obtain ⟨h1,h2⟩:=h
 go_enter Tryz.func165,Tryz.ntmps165
 go_wp2_with fail
 refine bodyPost_ret (v:=.agg #[.int .i64 (n / 9223372036854775808),.int .u64 (IntKind.u64.wrap n)]) (by simp [results,Tryz.results165,go_sem]) rfl ⟨ret_i2 ?_ ?_,bal bR _⟩
 ·unfold two;simp only;omega
 ·unfold two;simp only;rw [IntKind.wrap_u64]
/-! Sums and differences -/
def clampI (n:Int):I2:=if inr n then two n else ⟨0,0⟩
def clampE (n:Int):Int:=if inr n then 0 else 3
theorem clamp_yes {n:Int} (h:inr n):clampI n=two n∧clampE n=0:=by unfold clampI clampE;rw [if_pos h,if_pos h];exact ⟨rfl,rfl⟩
theorem clamp_no {n:Int} (h:¬ inr n):clampI n=⟨0,0⟩∧clampE n=3:=by unfold clampI clampE;rw [if_neg h,if_neg h];exact ⟨rfl,rfl⟩
theorem add_law {x y:I2} (hx:x.ok) (hy:y.ok) {p q t:Int} (hp:IntKind.u64.wrap x.hi=p) (hq:IntKind.u64.wrap y.hi=q) (ht:IntKind.i64.wrap ((p+q+(x.lo+y.lo) / 18446744073709551616) % 18446744073709551616)=t) :
 (((x.hi<0 ↔ y.hi<0)∧¬ (t<0 ↔ x.hi<0))∧¬ inr (x.num+y.num))∨(¬ ((x.hi<0 ↔ y.hi<0)∧¬ (t<0 ↔ x.hi<0))∧inr (x.num+y.num)∧(two (x.num+y.num)).hi=t∧(two (x.num+y.num)).lo=(x.lo+y.lo) % 18446744073709551616):=by
 rw [IntKind.wrap_u64] at hp hq;rw [IntKind.wrap_i64] at ht;unfold I2.ok at hx hy;unfold two inr I2.num;simp only;omega
def IB2 (W:World) (g:Nat) (a b:I2):Prop:=Blk W g 80 #[Value.int IntKind.i64 a.hi,Value.int IntKind.u64 a.lo]∧Blk W (g+1) 80 #[Value.int IntKind.i64 b.hi,Value.int IntKind.u64 b.lo]
set_option maxRecDepth 100000 in
set_option maxHeartbeats 1000000 in
theorem wadd_any (x y:I2) (w:World) (hx:x.ok) (hy:y.ok) :
 Calls Tryz.prog 154 #[.agg #[.int .i64 x.hi,.int .u64 x.lo],.agg #[.int .i64 y.hi,.int .u64 y.lo]] w fun e w'=>
  e=.returned (.tuple #[.agg #[.int .i64 (clampI (x.num+y.num)).hi,.int .u64 (clampI (x.num+y.num)).lo],.int .i64 (clampE (x.num+y.num))])∧Below w.heap.size w w':=by
 obtain ⟨p,hp⟩:∃ p,IntKind.u64.wrap x.hi=p:=⟨_,rfl⟩;obtain ⟨q,hq⟩:∃ q,IntKind.u64.wrap y.hi=q:=⟨_,rfl⟩;obtain ⟨t,ht⟩:∃ t,IntKind.i64.wrap ((p+q+(x.lo+y.lo) / 18446744073709551616) % 18446744073709551616)=t:=⟨_,rfl⟩;have HL:=hide (add_law hx hy hp hq ht);have p0:0≤p:=by rw [IntKind.wrap_u64] at hp;omega
 have q0:0≤q:=by rw [IntKind.wrap_u64] at hq;omega
 have x0:0≤x.lo:=hx.2.1;have y0:0≤y.lo:=hy.2.1;have k0:0≤(x.lo+y.lo) / 18446744073709551616:=by omega
 have k1:(x.lo+y.lo) / 18446744073709551616≤1:=by have:=hx.2.2;have:=hy.2.2;omega
 cases d1:decide (x.hi<0) <;> cases d2:decide (y.hi<0) <;> cases d3:decide (t<0)
 all_goals
  have E1:=hide (of_dec d1);have E2:=hide (of_dec d2);have E3:=hide (of_dec d3)
  go_enter Tryz.func154,Tryz.ntmps154
  go_wp2_with (first|simp only [add64_0 x.lo y.lo x0 y0]|simp only [add64 p q _ p0 q0 k0 k1])
  have e1:=E1.out;have e2:=E2.out;have e3:=E3.out;simp only [if_true,if_false,Bool.false_eq_true] at e1 e2 e3
  first
   | refine bodyPost_ret (v:=.tuple #[.agg #[.int .i64 0,.int .u64 0],.int .i64 3]) (by simp [results,Tryz.results154,go_sem];done) rfl ⟨?_,by (repeat (first|exact Below.refl _ _|refine Below.drew ?_|refine Below.setCell ?_ (by simp;try omega) _|refine bal ?_ _))⟩
     have hn:¬ inr (x.num+y.num):=by
      rcases HL.out with h|h
      ·exact h.2
      ·exact absurd (by omega) h.1
     rw [(clamp_no hn).1,(clamp_no hn).2]
   | refine bodyPost_ret (v:=.tuple #[.agg #[.int .i64 t,.int .u64 ((x.lo+y.lo) % 18446744073709551616)],.int .i64 0]) (by simp [results,Tryz.results154,go_sem];done) rfl ⟨?_,by (repeat (first|exact Below.refl _ _|refine Below.drew ?_|refine Below.setCell ?_ (by simp;try omega) _|refine bal ?_ _))⟩
     have hn:inr (x.num+y.num)∧(two (x.num+y.num)).hi=t∧(two (x.num+y.num)).lo=(x.lo+y.lo) % 18446744073709551616:=by
      rcases HL.out with h|h
      ·exfalso;have:=h.1;omega
      ·exact h.2
     rw [(clamp_yes hn.1).1,(clamp_yes hn.1).2,hn.2.1,hn.2.2]
def i64ok (n:Int):Prop:=-9223372036854775808≤n∧n<9223372036854775808
def negW (n:Int):Int:=if n = -170141183460469231731687303715884105728 then n else -n
theorem abs_bound {a b:Int} (ha:i64ok a) (hb:i64ok b):a.natAbs * b.natAbs≤85070591730234615865843651857942052864:=by
 unfold i64ok at ha hb;exact Nat.le_trans (Nat.mul_le_mul (show a.natAbs≤9223372036854775808 by omega) (show b.natAbs≤9223372036854775808 by omega)) (by decide)
theorem Blk.one (w:World) (cs ds:Array Value) (t u:TypeId):Blk ((w.alloc (Obj.cells cs t)).alloc (Obj.cells ds u)) w.heap.size t cs:=(Blk.new w t cs).alloc _
theorem Blk.two (w:World) (cs ds:Array Value) (t u:TypeId):Blk ((w.alloc (Obj.cells cs t)).alloc (Obj.cells ds u)) (w.heap.size+1) u ds:=by
 have:=Blk.new (w.alloc (Obj.cells cs t)) u ds;simpa using this
end Go.Proofs.YtacinobmcgcccaaGreatDoor
/- wide.Total. -/
namespace Go.Proofs.YtacinobmcgcccaaGreatDoor
open Go.RowKit
def I2.enc (x:I2):List Value:=[.int .i64 x.hi,.int .u64 x.lo]
theorem I2.enc_len (x:I2):x.enc.length=2:=rfl
abbrev IR (w:World) (B:Nat) (A:Option Addr) (n:Nat) (l:List I2):Prop:=Sl 2 I2.enc w B A n l
theorem IR.at {w:World} {B:Nat} {A:Option Addr} {n:Nat} {l:List I2} (h:IR w B A n l) (hn:0<n) :
 ∃ b o,A=some ⟨b,o,none⟩∧b<B ∧ ∀ j (hj:j<l.length),w.cell? ⟨b,o+j * 2,none⟩=some (.int .i64 l[j].hi)∧w.cell? ⟨b,o+j * 2+1,none⟩=some (.int .u64 l[j].lo):=by
 obtain ⟨b,o,hA,hB,hc⟩:=Sl.at h I2.enc_len (by omega) hn;exact ⟨b,o,hA,hB,fun j hj=>⟨hc j hj 0 _ rfl,hc j hj 1 _ rfl⟩⟩
def tot:Int→List I2→Option Int
 | s,[]=>some s
 | s,x :: l=>if inr (s+x.num) then tot (s+x.num) l else none
def optI:Option Int→I2
 | some s=>two s
 | none=>⟨0,0⟩
def optE:Option Int→Int
 | some _=>0
 | none=>3
def okAll (l:List I2):Prop:=∀ i (hi:i<l.length),l[i].ok
structure TotI (w W:World) (l:List I2) (k:Nat) (s:Int):Prop where
 rng:inr s
 same:tot s (l.drop k)=tot 0 l
 bel:Below w.heap.size w W
 blk:Blk W w.heap.size 80 #[.int .i64 (two s).hi,.int .u64 (two s).lo]
theorem TotI.first (w:World) (l:List I2):TotI w (w.alloc (Obj.cells #[Value.int IntKind.i64 0,Value.int IntKind.u64 0] 80)) l 0 0:=
 ⟨by unfold inr;omega,rfl,bal bR _,Blk.new _ _ _⟩
theorem tot_drop {l:List I2} {k:Nat} (hk:k<l.length) (s:Int):tot s (l.drop k)=if inr (s+l[k].num) then tot (s+l[k].num) (l.drop (k+1)) else none:=by
 rw [List.drop_eq_getElem_cons hk];rfl
set_option maxRecDepth 100000 in
set_option maxHeartbeats 1000000 in
theorem total_any (l:List I2) (A:Option Addr) (n c:Nat) (w:World) (hr:IR w w.heap.size A n l) (hok:okAll l) (hn:n≤4611686018427387904) :
 Calls Tryz.prog 121 #[.slice A n c] w fun e w'=>e=.returned (.tuple #[.agg #[.int .i64 (optI (tot 0 l)).hi,.int .u64 (optI (tot 0 l)).lo],.int .i64 (optE (tot 0 l))])∧Below w.heap.size w w':=by
 have HI0:=hide (TotI.first w l);have HR:=hide hr;have HOK:=hide hok;have HL:=hide hr.len;clear hr hok
 go_enter Tryz.func121,Tryz.ntmps121
 go_wp2
 go_loopw [3,8] (fun e i wr=>∃ (k:Nat) (s:Int),k≤n∧i=.int .i64 k∧e=.int .i64 0∧Hid (TotI w wr l k s)) (fun e i _=>n - (intOf i).toNat)
 case atStart=>exact ⟨0,0,Nat.zero_le _,rfl,rfl,HI0⟩
 case round=>
  obtain ⟨k,s,hk,rfl,rfl,HI⟩:=hrel;by_cases hlt:k<n
  ·obtain ⟨b,o,rfl,hbl,hc⟩:=IR.at (HR.out.below HI.out.bel) (by omega);have hkl:k<l.length:=by have:=HL.out;omega
   obtain ⟨c0,c1⟩:=hc k hkl;have HX:=hide (HOK.out k hkl);have HT:=hide (tot_drop hkl s);have hbl2:b<wr.heap.size:=by have:=HI.out.bel.size;omega
   obtain ⟨x,hx⟩:∃ x,l[k]=x:=⟨_,rfl⟩;rw [hx] at c0 c1 HX HT;have k1:=HI.out.blk.cell;have q1:=HI.out.blk.frozen;have z1:=HI.out.blk.lt;clear hc hx;go_wp2_with fail
   refine (wadd_any (two s) x _ (two_ok HI.out.rng) HX.out).mono ?_;rintro e w1 ⟨rfl,hb1⟩;rw [two_num];have HB1:Hid (Below w.heap.size w w1):=hide (btr (bal HI.out.bel _) hb1);have HK1:=hide ((HI.out.blk.alloc _).below hb1 (by simp;omega));clear hb1 k1 q1 z1 c0 c1;have k1:=HK1.out.cell;have q1:=HK1.out.frozen;have z1:=HK1.out.lt;by_cases hin:inr (s+x.num)
   ·have HIN:=hide hin;rw [(clamp_yes hin).1,(clamp_yes hin).2];clear hin;go_wp2_with fail
    go_roundw
    case rel=>
     refine ⟨k+1,s+x.num,by omega,by go_num,rfl,hide ⟨HIN.out,?_,?_,?_⟩⟩
     ·rw [← HI.out.same,HT.out,if_pos HIN.out]
     ·exact (HB1.out.setCell (by simp) _).setCell (by simp) _
     ·exact (HK1.out.set_ 0 _).set_ 1 _
    case measure=>simp [intOf];omega
   ·have HIN:=hide hin;rw [(clamp_no hin).1,(clamp_no hin).2];have k10:w1.cell? ⟨w.heap.size,0,none⟩=some (.int .i64 (two s).hi):=k1 0;have k11:w1.cell? ⟨w.heap.size,1,none⟩=some (.int .u64 (two s).lo):=k1 1;have HF:Hid (tot 0 l=none):=hide (by rw [← HI.out.same,HT.out,if_neg HIN.out]);clear hin;go_wp2_with fail
    refine bodyPost_ret (v:=.tuple #[.agg #[.int .i64 0,.int .u64 0],.int .i64 3]) (by simp (maxDischargeDepth:=9) [results,Tryz.results121,go_sem,k10,k11];done) rfl ⟨?_,?_⟩
    ·rw [HF.out];rfl
    ·exact (((HB1.out.setCell (by simp) _).setCell (by simp) _).setCell (by simp) _).setCell (by simp) _
  ·have k1:=HI.out.blk.cell;have q1:=HI.out.blk.frozen;have z1:=HI.out.blk.lt;have HF:Hid (tot 0 l=some s):=hide (by rw [← HI.out.same,List.drop_of_length_le (by have:=HL.out;omega)];rfl);go_wp2_with fail
   refine bodyPost_ret (v:=.tuple #[.agg #[.int .i64 (two s).hi,.int .u64 (two s).lo],.int .i64 0]) (by simp [results,Tryz.results121,go_sem,k1];done) rfl ⟨?_,?_⟩
   ·rw [HF.out];rfl
   ·exact (HI.out.bel.setCell (by simp) _).setCell (by simp) _
theorem sign_num (x:I2) (hx:x.ok):cmpOf x.num 0=if x.hi<0 then -1 else if x.hi=0∧x.lo=0 then 0 else 1:=by
 unfold I2.ok at hx;unfold cmpOf I2.num;by_cases h1:x.hi<0
 ·rw [if_pos h1,if_pos (by omega)]
 ·rw [if_neg h1,if_neg (by omega)];by_cases h2:x.hi=0∧x.lo=0
  ·rw [if_pos h2,if_neg (by omega)]
  ·rw [if_neg h2,if_pos (by omega)]
theorem zero_ways (x:I2):((x.hi == 0)=true∧(x.lo == 0)=true)∨((x.hi == 0)=false)∨((x.hi == 0)=true∧(x.lo == 0)=false):=by
 cases h1:(x.hi == 0) <;> cases h2:(x.lo == 0) <;> simp
set_option maxHeartbeats 400000 in
theorem sign_any (x:I2) (w:World) (hx:x.ok) :
 Calls Tryz.prog 91 #[.agg #[.int .i64 x.hi,.int .u64 x.lo]] w fun e w'=>e=.returned (.int .i64 (cmpOf x.num 0))∧Below w.heap.size w w':=by
 have HS:=hide (sign_num x hx);clear hx;cases d0:decide (x.hi<0)
 ·rcases zero_ways x with ⟨z1,z2⟩|z1|⟨z1,z2⟩
  ·have HV:Hid (cmpOf x.num 0=0):=hide (by rw [HS.out,if_neg (by simpa using d0),if_pos (by simp at z1 z2;exact ⟨z1,z2⟩)])
   go_enter Tryz.func91,Tryz.ntmps91
   go_wp2
   go_ret;exact ⟨ret_int HV.out.symm,by (repeat (first|exact Below.refl _ _|refine Below.drew ?_|refine Below.setCell ?_ (by simp;try omega) _|refine bal ?_ _))⟩
  ·have HV:Hid (cmpOf x.num 0=1):=hide (by rw [HS.out,if_neg (by simpa using d0),if_neg (by simp at z1;omega)])
   go_enter Tryz.func91,Tryz.ntmps91
   go_wp2
   go_ret;exact ⟨ret_int HV.out.symm,by (repeat (first|exact Below.refl _ _|refine Below.drew ?_|refine Below.setCell ?_ (by simp;try omega) _|refine bal ?_ _))⟩
  ·have HV:Hid (cmpOf x.num 0=1):=hide (by rw [HS.out,if_neg (by simpa using d0),if_neg (by simp at z2;omega)])
   go_enter Tryz.func91,Tryz.ntmps91
   go_wp2
   go_ret;exact ⟨ret_int HV.out.symm,by (repeat (first|exact Below.refl _ _|refine Below.drew ?_|refine Below.setCell ?_ (by simp;try omega) _|refine bal ?_ _))⟩
 ·have HV:Hid (cmpOf x.num 0 = -1):=hide (by rw [HS.out,if_pos (by simpa using d0)])
  go_enter Tryz.func91,Tryz.ntmps91
  go_wp2
  go_ret;exact ⟨ret_int HV.out.symm,by (repeat (first|exact Below.refl _ _|refine Below.drew ?_|refine Below.setCell ?_ (by simp;try omega) _|refine bal ?_ _))⟩
def crossA (a b c:Pt):I2:=if goodAll [a,b,c] then two (crossV a b c) else ⟨0,0⟩
theorem cross_i64 {a b c:Pt} (ha:a.good) (hb:b.good) (hc:c.good):i64ok (crossV a b c):=by
 have:=cross_bound ha hb hc;unfold i64ok;omega
abbrev pcells (a:Pt):Array Value:=#[Value.int IntKind.i64 a.x,Value.int IntKind.i64 a.y]
abbrev icells (x:I2):Array Value:=#[Value.int IntKind.i64 x.hi,Value.int IntKind.u64 x.lo]
set_option maxRecDepth 100000 in
set_option maxHeartbeats 1000000 in
theorem gcross_any (a b c:Pt) (w:World) :
 Calls Tryz.prog 140 #[.agg #[.int .i64 a.x,.int .i64 a.y],.agg #[.int .i64 b.x,.int .i64 b.y],.agg #[.int .i64 c.x,.int .i64 c.y]] w fun e w'=>e=.returned (.tuple #[.agg #[.int .i64 (crossA a b c).hi,.int .u64 (crossA a b c).lo],.int .i64 (errA [a,b,c])])∧Below w.heap.size w w':=by
 have HB0:Hid (Below w.heap.size w ((((w.alloc (pblk a.x a.y)).alloc (pblk b.x b.y)).alloc (pblk c.x c.y)).alloc (iblk ⟨0,0⟩))):=hide (by (repeat (first|exact Below.refl _ _|refine Below.drew ?_|refine Below.setCell ?_ (by simp;try omega) _|refine bal ?_ _)));have HI0:=hide (((((Bs.nil w).al (pcells a) 56).al (pcells b) 56).al (pcells c) 56).al (icells ⟨0,0⟩) 80);have HN0:=hide (HI0.out.al (cs6 a b c) 56 (_,_,_) (List.mem_cons_self));simp only [heap_al] at HI0 HN0;unfold crossA errA;cases h:goodAll [a,b,c]
 ·have HG:=hide h;clear h
  go_enter Tryz.func140,Tryz.ntmps140
  go_wp2_with fail
  refine (good_any [a,b,c] _ 3 3 _ (pr3 HN0.out) (by omega)).mono ?_;rintro e w1 ⟨rfl,hb1⟩;rw [HG.out];have HB1:=hide (btr (bal HB0.out _) hb1);have HI1:=hide ((HI0.out.keep _).later hb1);clear hb1;obtain ⟨k1,q1,z1⟩:=HI1.out.get (w.heap.size+1+1+1) 80 (icells ⟨0,0⟩) (by simp);go_wp2_with fail
  refine bodyPost_ret (v:=.tuple #[.agg #[.int .i64 0,.int .u64 0],.int .i64 3]) (by simp (maxDischargeDepth:=9) [results,Tryz.results140,go_sem,k1]) rfl ⟨rfl,?_⟩;exact (by repeat (first|exact HB1.out|refine Below.drew ?_|refine Below.setCell ?_ (by simp;try omega) _|refine bal ?_ _))
 ·obtain ⟨ga,gb,gc⟩:=good3_iff.1 h;have HG:=hide h;have HC:=hide (cross_i64 ga gb gc);clear h
  go_enter Tryz.func140,Tryz.ntmps140
  go_wp2_with fail
  refine (good_any [a,b,c] _ 3 3 _ (pr3 HN0.out) (by omega)).mono ?_;rintro e w1 ⟨rfl,hb1⟩;rw [HG.out];have HB1:=hide (btr (bal HB0.out _) hb1);have HI1:=hide ((HI0.out.keep _).later hb1);clear hb1;obtain ⟨k1,q1,z1⟩:=HI1.out.get w.heap.size 56 (pcells a) (by simp);obtain ⟨k2,q2,z2⟩:=HI1.out.get (w.heap.size+1) 56 (pcells b) (by simp);obtain ⟨k3,q3,z3⟩:=HI1.out.get (w.heap.size+1+1) 56 (pcells c) (by simp);go_wp2_with fail
  refine (cross_any a b c _ ga gb gc).mono ?_;rintro e w2 ⟨rfl,hb2⟩;have HB2:=hide (btr HB1.out hb2);have HI2:=hide (HI1.out.later hb2);clear hb2 k1 q1 z1 k2 q2 z2 k3 q3 z3;go_wp2_with fail
  refine (wof_any (crossV a b c) _ HC.out).mono ?_;rintro e w3 ⟨rfl,hb3⟩;have HB3:=hide (btr HB2.out hb3);have HI3:=hide (HI2.out.later hb3);clear hb3;obtain ⟨k1,q1,z1⟩:=HI3.out.get (w.heap.size+1+1+1) 80 (icells ⟨0,0⟩) (by simp);go_wp2_with fail
  refine bodyPost_ret (v:=.tuple #[.agg #[.int .i64 (two (crossV a b c)).hi,.int .u64 (two (crossV a b c)).lo],.int .i64 0]) (by simp (maxDischargeDepth:=9) [results,Tryz.results140,go_sem,k1]) rfl ⟨rfl,?_⟩;exact (by repeat (first|exact HB3.out|refine Below.drew ?_|refine Below.setCell ?_ (by simp;try omega) _|refine bal ?_ _))
abbrev SqS (w:World) (a b:Pt) (w':World):Prop:=w'.cell? ⟨w.heap.size,0,none⟩=some (.int .i64 a.x)∧w'.cell? ⟨w.heap.size,1,none⟩=some (.int .i64 a.y)∧w'.cell? ⟨w.heap.size+1,0,none⟩=some (.int .i64 b.x)∧w'.cell? ⟨w.heap.size+1,1,none⟩=some (.int .i64 b.y)
theorem SqS.set {w W:World} {a b:Pt} (h:SqS w a b W) (u v:Value):SqS w a b ((W.setCell ⟨w.heap.size+1+1,0,none⟩ u).setCell ⟨w.heap.size+1+1,1,none⟩ v):=by
 obtain ⟨h1,h2,h3,h4⟩:=h;refine ⟨?_,?_,?_,?_⟩
 all_goals
  rw [World.cell?_setCell_other _ _ _ _ (fun e=>by injection e;omega),World.cell?_setCell_other _ _ _ _ (fun e=>by injection e;omega)]
  assumption
structure SqE (w:World) (a b:Pt) (W:World):Prop where
 s:SqS w a b W
 z:w.heap.size+1+1<W.heap.size
 bel:Below w.heap.size w W
 blk:Blk W (w.heap.size+1+1) 80 (icells ⟨0,0⟩)
theorem SqE.later {w W W':World} {a b:Pt} (h:SqE w a b W) (hb:Below W.heap.size W W'):SqE w a b W':=
 have hz:=h.z
 ⟨⟨(hb.cell (p:=⟨w.heap.size,0,none⟩) (show w.heap.size<_ by omega)).trans h.s.1,(hb.cell (p:=⟨w.heap.size,1,none⟩) (show w.heap.size<_ by omega)).trans h.s.2.1,
  (hb.cell (p:=⟨w.heap.size+1,0,none⟩) (show w.heap.size+1<_ by omega)).trans h.s.2.2.1,(hb.cell (p:=⟨w.heap.size+1,1,none⟩) (show w.heap.size+1<_ by omega)).trans h.s.2.2.2⟩,nLl hz hb.size,btr h.bel hb,h.blk.below hb hz⟩
theorem SqE.drew {w W:World} {a b:Pt} (h:SqE w a b W):SqE w a b W.drew:=h.later (bR.drew)
def sqV (a b:Pt):Int:=(b.x - a.x) * (b.x - a.x)+(b.y - a.y) * (b.y - a.y)
def squareA (a b:Pt):I2:=if goodAll [a,b] then two (sqV a b) else ⟨0,0⟩
def cs4 (a b:Pt):Array Value:=#[Value.int IntKind.i64 a.x,Value.int IntKind.i64 a.y,Value.int IntKind.i64 b.x,Value.int IntKind.i64 b.y]
def ds4 (x y:I2):Array Value:=#[Value.int IntKind.i64 x.hi,Value.int IntKind.u64 x.lo,Value.int IntKind.i64 y.hi,Value.int IntKind.u64 y.lo]
end Go.Proofs.YtacinobmcgcccaaGreatDoor
