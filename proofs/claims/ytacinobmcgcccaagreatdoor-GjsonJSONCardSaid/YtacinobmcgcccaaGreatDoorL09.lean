/- geo.Order, the world grown. -/
import Derived.Test.YtacinobmcgcccaaGreatDoorL08
import Derived.Test.YtacinobmcgcccaaGreatDoorRows
import Derived.Shelf.SlSortCmp.WholeK
import Derived.Shelf.Spec.DecodeRune
import Derived.Shelf.SlGeneric
import Derived.Shelf.SlicesQ.Equal
import Derived.Shelf.SlicesQ.Index
import Derived.Shelf.SlicesQ.IndexFunc
import Derived.Ground.Names7Prog
import Derived.Ground.SlsfProg
import Derived.Ground.SlgqProg
import Derived.Ground.SlgfProg
import Derived.Laws.StructEq
set_option linter.unusedSimpArgs false
set_option linter.unusedVariables false
namespace Go.Proofs.YtacinobmcgcccaaGreatDoor
open Go.RowKit Go.Shelf Go.Sort
def Gro (w w':World):Prop:=∃ q os,w'=grow (w.drewN q) os
theorem Gro.refl (w:World):Gro w w:=⟨0,#[],by rw [grow_empty];rfl⟩
theorem drewN_grow (w:World) (os:Array Obj) (q:Nat):(grow w os).drewN q=grow (w.drewN q) os:=rfl
theorem Gro.trans {a b c:World} (h:Gro a b) (k:Gro b c):Gro a c:=by
 obtain ⟨q,os,rfl⟩:=h;obtain ⟨q2,os2,rfl⟩:=k;exact ⟨q+q2,os++os2,by rw [drewN_grow,World.drewN_drewN,grow_grow]⟩
theorem Gro.alloc (w:World) (o:Obj):Gro w (w.alloc o):=⟨0,#[o],by rw [alloc_eq_grow];rfl⟩
theorem Gro.drew (w:World):Gro w w.drew:=⟨1,#[],by rw [grow_empty];rfl⟩
set_option maxRecDepth 100000 in
set_option maxHeartbeats 4000000 in
theorem order_gro (a b:Pt) (w:World) :
 Calls Tryz.prog 115 #[.agg #[.int .i64 a.x,.int .i64 a.y],.agg #[.int .i64 b.x,.int .i64 b.y]] w fun e w'=>e=.returned (.int .i64 (orderV a b))∧Gro w w':=by
 have K2:Blk ((w.alloc (pblk a.x a.y)).alloc (pblk b.x b.y)) w.heap.size 56 #[Value.int IntKind.i64 a.x,Value.int IntKind.i64 a.y]:=(Blk.new w _ _).alloc _;have K3:Blk ((w.alloc (pblk a.x a.y)).alloc (pblk b.x b.y)) (w.heap.size+1) 56 #[Value.int IntKind.i64 b.x,Value.int IntKind.i64 b.y]:=by
  have:=Blk.new (w.alloc (pblk a.x a.y)) 56 #[Value.int IntKind.i64 b.x,Value.int IntKind.i64 b.y];simpa using this
 have HB:=hide ((Gro.alloc w (pblk a.x a.y)).trans (Gro.alloc _ (pblk b.x b.y)))
 go_enter Tryz.func115,Tryz.ntmps115
 go_wp2_with fail
 obtain ⟨W,hW,HBW,HK2,HK3⟩:∃ W,(w.alloc (Obj.cells #[Value.int IntKind.i64 a.x,Value.int IntKind.i64 a.y] 56)).alloc (Obj.cells #[Value.int IntKind.i64 b.x,Value.int IntKind.i64 b.y] 56)=W∧Hid (Gro w W)∧Hid (Blk W w.heap.size 56 #[Value.int IntKind.i64 a.x,Value.int IntKind.i64 a.y])∧Hid (Blk W (w.heap.size+1) 56 #[Value.int IntKind.i64 b.x,Value.int IntKind.i64 b.y]):=⟨_,rfl,HB,hide K2,hide K3⟩;rw [hW];clear hW K2 K3 HB;obtain ⟨W2,hW2⟩:∃ q,W.drew=q:=⟨_,rfl⟩;have hk2:∀ i,W2.cell? ⟨w.heap.size,i,none⟩=#[Value.int IntKind.i64 a.x,Value.int IntKind.i64 a.y][i]?:=hW2 ▸ HK2.out.cell;have hk3:∀ i,W2.cell? ⟨w.heap.size+1,i,none⟩=#[Value.int IntKind.i64 b.x,Value.int IntKind.i64 b.y][i]?:=hW2 ▸ HK3.out.cell;have HW2:=hide hW2;clear hW2;refine wp_region_dag (by kernel_rfl) (by kernel_rfl) 17 1
  [⟨some 5,[0],[],[],[],[],fun _ _ v _=>v=.pointer (some ⟨w.heap.size,0,none⟩)⟩,
   ⟨some 6,[0],[],[],[0],[],fun _ _ v _=>v=.int .i64 a.x⟩,
   ⟨some 7,[0],[],[],[],[],fun _ _ v _=>v=.pointer (some ⟨w.heap.size+1,0,none⟩)⟩,
   ⟨some 8,[0],[],[],[2],[],fun _ _ v _=>v=.int .i64 b.x⟩,
   ⟨some 9,[0],[],[],[1,3],[],fun _ _ v _=>v=.int .i64 (cmpOf a.x b.x)⟩,
   ⟨some 10,[0],[],[],[],[],fun _ _ v _=>v=.pointer (some ⟨w.heap.size,1,none⟩)⟩,
   ⟨some 11,[0],[],[],[5],[],fun _ _ v _=>v=.int .i64 a.y⟩,
   ⟨some 12,[0],[],[],[],[],fun _ _ v _=>v=.pointer (some ⟨w.heap.size+1,1,none⟩)⟩,
   ⟨some 13,[0],[],[],[7],[],fun _ _ v _=>v=.int .i64 b.y⟩,
   ⟨some 14,[0],[],[],[6,8],[],fun _ _ v _=>v=.int .i64 (cmpOf a.y b.y)⟩,
   ⟨some 15,[0],[(0,1)],[1],[4,9],[],fun st a v w'=>st=1→v=.slice (some ⟨W2.heap.size,0,none⟩) 2 2⟩,
   ⟨some 16,[1],[],[],[10],[],fun _ _ v _=>v=.int .i64 (orderV a b)⟩,
   ⟨some 4,[1],[],[],[11],[],fun _ _ v _=>v=.int .i64 (orderV a b)⟩] (fun st w'=>(st=0→w'=W2)∧(st=1→w'=W2.alloc (.cells #[.int .i64 (cmpOf a.x b.x),.int .i64 (cmpOf a.y b.y)] 3))) (fun s s' _ _ _=>s=0∧s'=1) (fun _ w w'=>w'=w) ?gu ?ru ?put [5,6,7,8,9,10,11,12,13,14,15,16,4] rfl (by kernel_rfl) rfl ?g0 ?keep ?steps ?fin
 case ru=>
  intro e he s a v w w' hu hv;simp only [List.mem_cons,List.not_mem_nil,or_false] at he;rcases he with rfl|rfl|rfl|rfl|rfl|rfl|rfl|rfl|rfl|rfl|rfl|rfl|rfl
  all_goals first|exact hv|(subst hu;exact hv)
 case put=>
  intro e he s a d u v w hnd hv;simp only [List.mem_cons,List.not_mem_nil,or_false] at he;rcases he with rfl|rfl|rfl|rfl|rfl|rfl|rfl|rfl|rfl|rfl|rfl|rfl|rfl
  all_goals first|exact hv
 case keep=>
  intro e he s s' a v w w' hsl hm ht hv;simp only [List.mem_cons,List.not_mem_nil,or_false] at he;rcases he with rfl|rfl|rfl|rfl|rfl|rfl|rfl|rfl|rfl|rfl|rfl|rfl|rfl
  all_goals first|exact hv|(exfalso;have h9:=hm rfl;simp at h9;have:=ht.1;omega)|(intro _;exact hv (by omega))
 case steps=>
  refine ⟨?_,?_,?_,?_,?_,?_,?_,?_,?_,?_,?_,?_,?_,trivial⟩
  ·intro st hst ac w3 hg hG hd K hK;dsimp only at hst hG hK;have k2:=hg.kp 2 (by simp);(try simp [Act.eval] at k2);go_simp;exact hK _ _ rfl rfl
  ·intro st hst ac w3 hg hG hd K hK;dsimp only at hst hG hK;simp only [List.mem_cons,List.not_mem_nil,or_false] at hst;subst hst;obtain rfl:=hG.1 rfl;clear hG;have f0:=hd 0 (by simp) _ rfl _ rfl;(try simp [Act.eval] at f0);go_simp;exact hK _ _ rfl rfl
  ·intro st hst ac w3 hg hG hd K hK;dsimp only at hst hG hK;have k3:=hg.kp 3 (by simp);(try simp [Act.eval] at k3);go_simp;exact hK _ _ rfl rfl
  ·intro st hst ac w3 hg hG hd K hK;dsimp only at hst hG hK;simp only [List.mem_cons,List.not_mem_nil,or_false] at hst;subst hst;obtain rfl:=hG.1 rfl;clear hG;have f2:=hd 2 (by simp) _ rfl _ rfl;(try simp [Act.eval] at f2);go_simp;exact hK _ _ rfl rfl
  ·intro st hst ac w3 hg hG hd K hK;dsimp only at hst hG hK;have f1:=hd 1 (by simp) _ rfl _ rfl;have f3:=hd 3 (by simp) _ rfl _ rfl;clear hG;simp [Act.eval] at f1 f3;go_simp;refine (cmpc_any _ _ _).mono ?_;rintro e w4 ⟨rfl,rfl⟩;exact hK (.int .i64 (cmpOf a.x b.x)) _ rfl rfl
  ·intro st hst ac w3 hg hG hd K hK;dsimp only at hst hG hK;have k2:=hg.kp 2 (by simp);(try simp [Act.eval] at k2);go_simp;exact hK _ _ rfl rfl
  ·intro st hst ac w3 hg hG hd K hK;dsimp only at hst hG hK;simp only [List.mem_cons,List.not_mem_nil,or_false] at hst;subst hst;obtain rfl:=hG.1 rfl;clear hG;have f5:=hd 5 (by simp) _ rfl _ rfl;(try simp [Act.eval] at f5);go_simp;exact hK _ _ rfl rfl
  ·intro st hst ac w3 hg hG hd K hK;dsimp only at hst hG hK;have k3:=hg.kp 3 (by simp);(try simp [Act.eval] at k3);go_simp;exact hK _ _ rfl rfl
  ·intro st hst ac w3 hg hG hd K hK;dsimp only at hst hG hK;simp only [List.mem_cons,List.not_mem_nil,or_false] at hst;subst hst;obtain rfl:=hG.1 rfl;clear hG;have f7:=hd 7 (by simp) _ rfl _ rfl;(try simp [Act.eval] at f7);go_simp;exact hK _ _ rfl rfl
  ·intro st hst ac w3 hg hG hd K hK;dsimp only at hst hG hK;have f1:=hd 6 (by simp) _ rfl _ rfl;have f3:=hd 8 (by simp) _ rfl _ rfl;clear hG;simp [Act.eval] at f1 f3;go_simp;refine (cmpc_any _ _ _).mono ?_;rintro e w4 ⟨rfl,rfl⟩;exact hK (.int .i64 (cmpOf a.y b.y)) _ rfl rfl
  ·intro st st' hmv ac w3 hg hG hd K hK;simp only [List.mem_cons,Prod.mk.injEq,List.not_mem_nil,or_false] at hmv;obtain ⟨rfl,rfl⟩:=hmv;dsimp only at hG hK;have f1:=hd 4 (by simp) _ rfl _ rfl;have f3:=hd 9 (by simp) _ rfl _ rfl;obtain rfl:=hG.1 rfl;clear hG;simp [Act.eval] at f1 f3;go_simp;exact hK _ _ ⟨rfl,rfl⟩ ⟨fun h=>by omega,fun _=>rfl⟩ (fun _=>rfl)
  ·intro st hst ac w3 hg hG hd K hK;dsimp only at hst hG hK;simp only [List.mem_cons,List.not_mem_nil,or_false] at hst;subst hst;have f1:=hd 10 (by simp) _ rfl _ rfl rfl;have hGG:=hG.2 rfl;clear hG;subst hGG;simp [Act.eval] at f1;go_simp;refine (or_any (cmpOf a.x b.x) (cmpOf a.y b.y) W2.heap.size _ (cell_at_new W2 #[.int .i64 (cmpOf a.x b.x),.int .i64 (cmpOf a.y b.y)] 3 0) (cell_at_new W2 #[.int .i64 (cmpOf a.x b.x),.int .i64 (cmpOf a.y b.y)] 3 1)).mono ?_;rintro e w4 ⟨rfl,rfl⟩;exact hK (.int .i64 (orderV a b)) _ rfl rfl
  ·intro st hst ac w3 hg hG hd K hK;dsimp only at hst hG hK;exact op_assign _ rfl (hK _ _ rfl (hd 11 (by simp) _ rfl _ rfl))
 case gu=>intro s x y hG hu;rw [hu];exact hG
 case g0=>exact ⟨fun _=>HW2.out,fun h=>by cases h⟩
 case fin=>
  intro f9 w9 hG hall;have h4:=hall _ (List.mem_of_getElem? (i:=12) rfl) 4 rfl;simp only [fillF,List.map_cons,List.map_nil,List.foldl_cons,List.foldl_nil,Act.put,List.setIfInBounds_toArray,List.set_cons_zero,List.set_cons_succ];rw [h4];have HG:=hide (show Gro w w9 from by rw [hG.2 rfl,← HW2.out];exact (HBW.out.trans (Gro.drew _)).trans (Gro.alloc _ _));clear h4 hall hG
  go_wp2
  go_ret;exact ⟨rfl,HG.out⟩
end Go.Proofs.YtacinobmcgcccaaGreatDoor
/-
  DERIVED: THE SHELF's CONTRACTS AT THIS DUMP, IN PLAIN WORDS (tools/lay-plain.mjs out of 'TryzShelfC.lean', which tools/lay-shelf.mjs wrote): THE SAME DECLARATIONS UNDER THE SAME NAMES: 'import', 'namespace', 'open', 'def', 'theorem' AND NOTHING ELSE: no command of the shelf's: FOR A HAND-IN. Each laying: the table of numbers ('.._ren') and one theorem, a field a fact of the dump's own or the kernel's comparison;each contract: ONE APPLICATION.
-/
namespace Go.Proofs
open Go.Shelf
def Tryz.sortP_ren:Go.Shelf.Ren:=⟨fun|6=>168|15=>153|14=>198|28=>182|29=>183|20=>213|21=>214|22=>215|23=>216|24=>217|25=>218|26=>219|27=>220|46=>226|47=>202|48=>203|49=>227|50=>228|57=>229|n=>n,fun|22=>22|24=>56|25=>150|3=>3|39=>178|0=>0|53=>137|55=>78|4=>4|46=>217|45=>216|50=>149|5=>5|9=>9|66=>242|70=>246|76=>262|77=>263|n=>n,fun|n=>n⟩
theorem Tryz.sortP:Go.Proofs.SlLaysF0.n6 Tryz.prog Tryz.sortP_ren:={
 mixed:=by kernel_rfl
 f6:=⟨Tryz.f168.name,by decide,Tryz.func168.trans (congrArg some (by kernel_rfl))⟩
 f14:=⟨Tryz.f198.name,by decide,Tryz.func198.trans (congrArg some (by kernel_rfl))⟩
 f15:=Tryz.func153.trans (congrArg some (by kernel_rfl))
 f20:=⟨Tryz.f213.name,by decide,Tryz.func213.trans (congrArg some (by kernel_rfl))⟩
 f21:=⟨Tryz.f214.name,by decide,Tryz.func214.trans (congrArg some (by kernel_rfl))⟩
 f22:=⟨Tryz.f215.name,by decide,Tryz.func215.trans (congrArg some (by kernel_rfl))⟩
 f23:=⟨Tryz.f216.name,by decide,Tryz.func216.trans (congrArg some (by kernel_rfl))⟩
 f24:=⟨Tryz.f217.name,by decide,Tryz.func217.trans (congrArg some (by kernel_rfl))⟩
 f25:=⟨Tryz.f218.name,by decide,Tryz.func218.trans (congrArg some (by kernel_rfl))⟩
 f26:=⟨Tryz.f219.name,by decide,Tryz.func219.trans (congrArg some (by kernel_rfl))⟩
 f27:=⟨Tryz.f220.name,by decide,Tryz.func220.trans (congrArg some (by kernel_rfl))⟩
 f28:=Tryz.func182.trans (congrArg some (by kernel_rfl))
 f29:=Tryz.func183.trans (congrArg some (by kernel_rfl))
 f46:=⟨Tryz.f226.name,by decide,Tryz.func226.trans (congrArg some (by kernel_rfl))⟩
 f47:=Tryz.func202.trans (congrArg some (by kernel_rfl))
 f48:=Tryz.func203.trans (congrArg some (by kernel_rfl))
 f49:=⟨Tryz.f227.name,by decide,Tryz.func227.trans (congrArg some (by kernel_rfl))⟩
 f50:=⟨Tryz.f228.name,by decide,Tryz.func228.trans (congrArg some (by kernel_rfl))⟩
 f57:=⟨Tryz.f229.name,by decide,Tryz.func229.trans (congrArg some (by kernel_rfl))⟩
 t0:=Tryz.underlying0
 a0:=Tryz.isAgg0
 z0:=Tryz.sizeOf0
 v0:=Tryz.zeroValue0
 t3:=Tryz.underlying3
 a3:=Tryz.isAgg3
 z3:=Tryz.sizeOf3
 v3:=Tryz.zeroValue3
 t4:=Tryz.underlying4
 a4:=Tryz.isAgg4
 z4:=Tryz.sizeOf4
 v4:=Tryz.zeroValue4
 t5:=Tryz.underlying5
 a5:=Tryz.isAgg5
 z5:=Tryz.sizeOf5
 v5:=Tryz.zeroValue5
 t9:=Tryz.underlying9
 a9:=Tryz.isAgg9
 z9:=Tryz.sizeOf9
 v9:=Tryz.zeroValue9
 t22:=Tryz.underlying22
 a22:=Tryz.isAgg22
 z22:=Tryz.sizeOf22
 v22:=Tryz.zeroValue22
 t25:=Tryz.underlying150
 a25:=Tryz.isAgg150
 z25:=Tryz.sizeOf150
 v25:=Tryz.zeroValue150
 t39:=Tryz.underlying178
 a39:=Tryz.isAgg178
 z39:=Tryz.sizeOf178
 v39:=Tryz.zeroValue178
 t45:=Tryz.underlying216
 a45:=Tryz.isAgg216
 z45:=Tryz.sizeOf216
 v45:=Tryz.zeroValue216
 t46:=Tryz.underlying217
 a46:=Tryz.isAgg217
 z46:=Tryz.sizeOf217
 v46:=Tryz.zeroValue217
 t50:=Tryz.underlying149
 a50:=Tryz.isAgg149
 z50:=Tryz.sizeOf149
 v50:=Tryz.zeroValue149
 t53:=Tryz.underlying137
 a53:=Tryz.isAgg137
 z53:=Tryz.sizeOf137
 v53:=Tryz.zeroValue137
 t55:=Tryz.underlying78
 a55:=Tryz.isAgg78
 z55:=Tryz.sizeOf78
 v55:=Tryz.zeroValue78
 t66:=Tryz.underlying242
 a66:=Tryz.isAgg242
 z66:=Tryz.sizeOf242
 v66:=Tryz.zeroValue242
 t70:=Tryz.underlying246
 a70:=Tryz.isAgg246
 z70:=Tryz.sizeOf246
 v70:=Tryz.zeroValue246
 t76:=Tryz.underlying262
 a76:=Tryz.isAgg262
 z76:=Tryz.sizeOf262
 v76:=Tryz.zeroValue262
 t77:=Tryz.underlying263
 a77:=Tryz.isAgg263
 z77:=Tryz.sizeOf263
 v77:=Tryz.zeroValue263 }
def Tryz.sortE_ren:Go.Shelf.Ren:=⟨fun|6=>116|15=>153|14=>152|28=>182|29=>183|20=>174|21=>175|22=>176|23=>177|24=>178|25=>179|26=>180|27=>181|46=>201|47=>202|48=>203|49=>204|50=>205|57=>221|n=>n,fun|22=>104|24=>109|25=>153|3=>3|39=>178|0=>0|53=>137|55=>78|4=>4|46=>217|45=>216|50=>149|5=>5|9=>9|66=>242|70=>246|76=>262|77=>263|n=>n,fun|n=>n⟩
theorem Tryz.sortE:Go.Proofs.SlLaysF0.n6 Tryz.prog Tryz.sortE_ren:={
 mixed:=by kernel_rfl
 f6:=⟨Tryz.f116.name,by decide,Tryz.func116.trans (congrArg some (by kernel_rfl))⟩
 f14:=⟨Tryz.f152.name,by decide,Tryz.func152.trans (congrArg some (by kernel_rfl))⟩
 f15:=Tryz.func153.trans (congrArg some (by kernel_rfl))
 f20:=⟨Tryz.f174.name,by decide,Tryz.func174.trans (congrArg some (by kernel_rfl))⟩
 f21:=⟨Tryz.f175.name,by decide,Tryz.func175.trans (congrArg some (by kernel_rfl))⟩
 f22:=⟨Tryz.f176.name,by decide,Tryz.func176.trans (congrArg some (by kernel_rfl))⟩
 f23:=⟨Tryz.f177.name,by decide,Tryz.func177.trans (congrArg some (by kernel_rfl))⟩
 f24:=⟨Tryz.f178.name,by decide,Tryz.func178.trans (congrArg some (by kernel_rfl))⟩
 f25:=⟨Tryz.f179.name,by decide,Tryz.func179.trans (congrArg some (by kernel_rfl))⟩
 f26:=⟨Tryz.f180.name,by decide,Tryz.func180.trans (congrArg some (by kernel_rfl))⟩
 f27:=⟨Tryz.f181.name,by decide,Tryz.func181.trans (congrArg some (by kernel_rfl))⟩
 f28:=Tryz.func182.trans (congrArg some (by kernel_rfl))
 f29:=Tryz.func183.trans (congrArg some (by kernel_rfl))
 f46:=⟨Tryz.f201.name,by decide,Tryz.func201.trans (congrArg some (by kernel_rfl))⟩
 f47:=Tryz.func202.trans (congrArg some (by kernel_rfl))
 f48:=Tryz.func203.trans (congrArg some (by kernel_rfl))
 f49:=⟨Tryz.f204.name,by decide,Tryz.func204.trans (congrArg some (by kernel_rfl))⟩
 f50:=⟨Tryz.f205.name,by decide,Tryz.func205.trans (congrArg some (by kernel_rfl))⟩
 f57:=⟨Tryz.f221.name,by decide,Tryz.func221.trans (congrArg some (by kernel_rfl))⟩
 t0:=Tryz.underlying0
 a0:=Tryz.isAgg0
 z0:=Tryz.sizeOf0
 v0:=Tryz.zeroValue0
 t3:=Tryz.underlying3
 a3:=Tryz.isAgg3
 z3:=Tryz.sizeOf3
 v3:=Tryz.zeroValue3
 t4:=Tryz.underlying4
 a4:=Tryz.isAgg4
 z4:=Tryz.sizeOf4
 v4:=Tryz.zeroValue4
 t5:=Tryz.underlying5
 a5:=Tryz.isAgg5
 z5:=Tryz.sizeOf5
 v5:=Tryz.zeroValue5
 t9:=Tryz.underlying9
 a9:=Tryz.isAgg9
 z9:=Tryz.sizeOf9
 v9:=Tryz.zeroValue9
 t22:=Tryz.underlying104
 a22:=Tryz.isAgg104
 z22:=Tryz.sizeOf104
 v22:=Tryz.zeroValue104
 t25:=Tryz.underlying153
 a25:=Tryz.isAgg153
 z25:=Tryz.sizeOf153
 v25:=Tryz.zeroValue153
 t39:=Tryz.underlying178
 a39:=Tryz.isAgg178
 z39:=Tryz.sizeOf178
 v39:=Tryz.zeroValue178
 t45:=Tryz.underlying216
 a45:=Tryz.isAgg216
 z45:=Tryz.sizeOf216
 v45:=Tryz.zeroValue216
 t46:=Tryz.underlying217
 a46:=Tryz.isAgg217
 z46:=Tryz.sizeOf217
 v46:=Tryz.zeroValue217
 t50:=Tryz.underlying149
 a50:=Tryz.isAgg149
 z50:=Tryz.sizeOf149
 v50:=Tryz.zeroValue149
 t53:=Tryz.underlying137
 a53:=Tryz.isAgg137
 z53:=Tryz.sizeOf137
 v53:=Tryz.zeroValue137
 t55:=Tryz.underlying78
 a55:=Tryz.isAgg78
 z55:=Tryz.sizeOf78
 v55:=Tryz.zeroValue78
 t66:=Tryz.underlying242
 a66:=Tryz.isAgg242
 z66:=Tryz.sizeOf242
 v66:=Tryz.zeroValue242
 t70:=Tryz.underlying246
 a70:=Tryz.isAgg246
 z70:=Tryz.sizeOf246
 v70:=Tryz.zeroValue246
 t76:=Tryz.underlying262
 a76:=Tryz.isAgg262
 z76:=Tryz.sizeOf262
 v76:=Tryz.zeroValue262
 t77:=Tryz.underlying263
 a77:=Tryz.isAgg263
 z77:=Tryz.sizeOf263
 v77:=Tryz.zeroValue263 }
def Tryz.idxP_ren:Go.Shelf.Ren:=⟨fun|6=>146|n=>n,fun|22=>23|24=>56|3=>3|0=>0|4=>4|n=>n,fun|n=>n⟩
theorem Tryz.idxP:Go.Proofs.SlLaysQ.n6 Tryz.prog Tryz.idxP_ren:={
 mixed:=by kernel_rfl
 f6:=⟨Tryz.f146.name,by decide,Tryz.func146.trans (congrArg some (by kernel_rfl))⟩
 t0:=Tryz.underlying0
 a0:=Tryz.isAgg0
 z0:=Tryz.sizeOf0
 v0:=Tryz.zeroValue0
 t3:=Tryz.underlying3
 a3:=Tryz.isAgg3
 z3:=Tryz.sizeOf3
 v3:=Tryz.zeroValue3
 t4:=Tryz.underlying4
 a4:=Tryz.isAgg4
 z4:=Tryz.sizeOf4
 v4:=Tryz.zeroValue4
 t22:=Tryz.underlying23
 a22:=Tryz.isAgg23
 z22:=Tryz.sizeOf23
 v22:=Tryz.zeroValue23 }
def Tryz.eqP_ren:Go.Shelf.Ren:=⟨fun|8=>111|n=>n,fun|22=>23|24=>56|4=>4|3=>3|0=>0|n=>n,fun|n=>n⟩
theorem Tryz.eqP:Go.Proofs.SlLaysQ.n8 Tryz.prog Tryz.eqP_ren:={
 mixed:=by kernel_rfl
 f8:=⟨Tryz.f111.name,by decide,Tryz.func111.trans (congrArg some (by kernel_rfl))⟩
 t0:=Tryz.underlying0
 a0:=Tryz.isAgg0
 z0:=Tryz.sizeOf0
 v0:=Tryz.zeroValue0
 t3:=Tryz.underlying3
 a3:=Tryz.isAgg3
 z3:=Tryz.sizeOf3
 v3:=Tryz.zeroValue3
 t4:=Tryz.underlying4
 a4:=Tryz.isAgg4
 z4:=Tryz.sizeOf4
 v4:=Tryz.zeroValue4
 t22:=Tryz.underlying23
 a22:=Tryz.isAgg23
 z22:=Tryz.sizeOf23
 v22:=Tryz.zeroValue23 }
def Tryz.cfP_ren:Go.Shelf.Ren:=⟨fun|8=>47|6=>96|n=>n,fun|22=>24|23=>43|25=>93|4=>4|3=>3|0=>0|n=>n,fun|n=>n⟩
theorem Tryz.cfP:Go.Proofs.SlLaysH0.n8 Tryz.prog Tryz.cfP_ren:={
 mixed:=by kernel_rfl
 f6:=⟨Tryz.f96.name,by decide,Tryz.func96.trans (congrArg some (by kernel_rfl))⟩
 f8:=⟨Tryz.f47.name,by decide,Tryz.func47.trans (congrArg some (by kernel_rfl))⟩
 t0:=Tryz.underlying0
 a0:=Tryz.isAgg0
 z0:=Tryz.sizeOf0
 v0:=Tryz.zeroValue0
 t3:=Tryz.underlying3
 a3:=Tryz.isAgg3
 z3:=Tryz.sizeOf3
 v3:=Tryz.zeroValue3
 t4:=Tryz.underlying4
 a4:=Tryz.isAgg4
 z4:=Tryz.sizeOf4
 v4:=Tryz.zeroValue4
 t22:=Tryz.underlying24
 a22:=Tryz.isAgg24
 z22:=Tryz.sizeOf24
 v22:=Tryz.zeroValue24
 t25:=Tryz.underlying93
 a25:=Tryz.isAgg93
 z25:=Tryz.sizeOf93
 v25:=Tryz.zeroValue93 }
def Tryz.ifP_ren:Go.Shelf.Ren:=⟨fun|6=>96|n=>n,fun|22=>24|23=>43|25=>93|3=>3|0=>0|4=>4|n=>n,fun|n=>n⟩
def Tryz.lays732_ren:Go.Shelf.Ren:=⟨fun|32=>127|49=>159|n=>n,fun|30=>29|21=>21|3=>3|0=>0|5=>5|4=>4|33=>166|66=>197|25=>178|69=>200|68=>199|n=>n,fun|2=>0|3=>1|n=>n⟩
theorem Tryz.lays732:Go.Proofs.Lays7.n32 Tryz.prog Tryz.lays732_ren:={
 mixed:=by kernel_rfl
 f32:=Tryz.func127.trans (congrArg some (by kernel_rfl))
 f49:=Tryz.func159.trans (congrArg some (by kernel_rfl))
 t0:=Tryz.underlying0
 a0:=Tryz.isAgg0
 z0:=Tryz.sizeOf0
 v0:=Tryz.zeroValue0
 i0:=by kernel_rfl
 t3:=Tryz.underlying3
 a3:=Tryz.isAgg3
 z3:=Tryz.sizeOf3
 v3:=Tryz.zeroValue3
 i3:=by kernel_rfl
 t4:=Tryz.underlying4
 a4:=Tryz.isAgg4
 z4:=Tryz.sizeOf4
 v4:=Tryz.zeroValue4
 i4:=by kernel_rfl
 t5:=Tryz.underlying5
 a5:=Tryz.isAgg5
 z5:=Tryz.sizeOf5
 v5:=Tryz.zeroValue5
 i5:=by kernel_rfl
 t21:=Tryz.underlying21
 a21:=Tryz.isAgg21
 z21:=Tryz.sizeOf21
 v21:=Tryz.zeroValue21
 i21:=by kernel_rfl
 t25:=Tryz.underlying178
 a25:=Tryz.isAgg178
 z25:=Tryz.sizeOf178
 v25:=Tryz.zeroValue178
 i25:=by kernel_rfl
 t30:=Tryz.underlying29
 a30:=Tryz.isAgg29
 z30:=Tryz.sizeOf29
 v30:=Tryz.zeroValue29
 i30:=by kernel_rfl
 t33:=Tryz.underlying166
 a33:=Tryz.isAgg166
 z33:=Tryz.sizeOf166
 v33:=Tryz.zeroValue166
 i33:=by kernel_rfl
 t66:=Tryz.underlying197
 a66:=Tryz.isAgg197
 z66:=Tryz.sizeOf197
 t68:=Tryz.underlying199
 a68:=Tryz.isAgg199
 z68:=Tryz.sizeOf199
 v68:=Tryz.zeroValue199
 i68:=by kernel_rfl
 t69:=Tryz.underlying200
 a69:=Tryz.isAgg200
 z69:=Tryz.sizeOf200
 v69:=Tryz.zeroValue200
 i69:=by kernel_rfl
 g2:=by kernel_rfl
 g3:=by kernel_rfl }
open Go.RowKit in
theorem Tryz.utf8_DecodeRune (s:ByteArray) (b off cap:Nat) (w:World) (hT:Lib.Utf8Tabs (Tryz.lays732_ren.g 2) (Tryz.lays732_ren.g 3) w)
 (hp:∀ j,j<s.size→w.cell? ⟨b,off+j,none⟩=some (.int .u8 (s.get! j).toNat)) :
 Calls Tryz.prog 127 #[.slice (some ⟨b,off,none⟩) s.size cap] w fun e w'=>e=.returned (.tuple #[.int .i32 (Lib.decodeGo s).1,.int .i64 (Lib.decodeGo s).2])∧Below w.heap.size w w':=Any7.utf8_DecodeRune Tryz.lays732 s b off cap w hT hp
end Go.Proofs
/- slices.SortFunc over points by geo.Order. -/
namespace Go.Proofs.YtacinobmcgcccaaGreatDoor
open Go.RowKit Go.Shelf Go.Sort
instance:Inhabited Pt:=⟨⟨0,0⟩⟩
def encPt (p:Pt):List Value:=[.int .i64 p.x,.int .i64 p.y]
theorem cmpLaysP (w:World) (blk off size:Nat):CmpLays Tryz.prog 115 #[] encPt 2 orderV blk off size w:=by
 intro m os dk hdk x y;exact order_gro x y _
theorem orderV_neg (a b:Pt):orderV a b<0 ↔ a.x<b.x∨(a.x=b.x∧a.y<b.y):=by
 unfold orderV orOf cmpOf
 repeat' split
 all_goals omega
theorem orderV_pos (a b:Pt):0<orderV a b ↔ b.x<a.x∨(b.x=a.x∧b.y<a.y):=by
 unfold orderV orOf cmpOf
 repeat' split
 all_goals omega
theorem orderV_eq (a b:Pt):orderV a b=0 ↔ a=b:=by
 obtain ⟨ax,ay⟩:=a;obtain ⟨bx,b_y⟩:=b;unfold orderV orOf cmpOf;simp only [Pt.mk.injEq]
 repeat' split
 all_goals omega
theorem swoP:SWO (ltOf orderV) where
 irrefl x:=by unfold ltOf;have:=orderV_neg x x;simp;omega
 trans x y z h1 h2:=by
  unfold ltOf at *;simp [orderV_neg] at *;omega
 ntrans x y z h1 h2:=by
  unfold ltOf at *;simp only [decide_eq_false_iff_not,orderV_neg] at *;omega
theorem sortWorldK_heap {α:Type} [Inhabited α] (enc:α→List Value) (k:Nat) (w:World) (blk off m:Nat) (dk:Array α) (os:Array Obj) {j:Nat} (hj:j<w.heap.size) (hne:j≠blk):(sortWorldK enc k w blk off m dk os).heap[j]? = w.heap[j]?:=by
 unfold sortWorldK putRowK putRow mapBlock grow Sort.ahead;simp [Array.getElem?_append,Array.getElem?_modify,hj,Ne.symm hne];rw [Array.getElem_modify,if_neg (Ne.symm hne)]
theorem perm_list {α:Type} [Inhabited α] {d d':Array α} (h:PermIn 0 d.size d d'):d'.toList.Perm d.toList:=by
 obtain ⟨hs,_,hp⟩:=h;have h1:d'.extract 0 d.size=d':=by rw [← hs];simp
 have h2:d.extract 0 d.size=d:=by simp
 rwa [h1,h2] at hp
theorem flatM_len {α:Type} {enc:α→List Value} {k:Nat} (hk:∀ x,(enc x).length=k) (l:List α):(l.flatMap enc).length=l.length * k:=by
 induction l with
 | nil=>simp
 | cons a l ih=>rw [List.flatMap_cons,List.length_append,ih,hk,List.length_cons,Nat.succ_mul];omega
theorem flatM_at {α:Type} {enc:α→List Value} {k:Nat} (hk:∀ x,(enc x).length=k):∀ (l:List α) (i:Nat) (hi:i<l.length) (t:Nat),t<k→(l.flatMap enc)[k * i+t]? = (enc l[i])[t]?
 | [],i,hi,_,_=>by simp at hi
 | a :: l,0,_,t,ht=>by
   rw [List.flatMap_cons,List.getElem?_append_left (by rw [hk];omega)];simp
 | a :: l,i+1,hi,t,ht=>by
   rw [List.flatMap_cons,List.getElem?_append_right (by rw [hk,Nat.mul_succ];omega),hk,show k * (i+1)+t - k=k * i+t by rw [Nat.mul_succ];omega];exact flatM_at hk l i (by simpa using hi) t ht
theorem flatK_list {α:Type} [Inhabited α] (enc:α→List Value) {k:Nat} (hk:∀ x,(enc x).length=k) (h0:0<k) (d:Array α):(flatK enc k d).toList=d.toList.flatMap enc:=by
 have hlen:(d.toList.flatMap enc).length=d.size * k:=by
  have:=flatM_len (k:=k) hk d.toList;simpa using this
 refine List.ext_getElem? fun t=>?_
 rcases Nat.lt_or_ge t (d.size * k) with ht|ht
 ·have hi:t / k<d.size:=Nat.div_lt_of_lt_mul (by rw [Nat.mul_comm];exact ht);have h1:=flatM_at hk d.toList (t / k) (by rw [Array.length_toList];exact hi) (t % k) (Nat.mod_lt _ h0);rw [Nat.div_add_mod] at h1;rw [h1];have h2:(flatK enc k d)[t]? = some (flatK enc k d)[t]!:=by
   rw [Array.getElem?_eq_getElem (by rw [size_flatK];exact ht)];simp [Array.getElem!_eq_getD,Array.getD,ht]
  rw [Array.getElem?_toList,h2,get_flatK _ _ _ _ ht];have h3:t % k<(enc d[t / k]!).length:=by rw [hk];exact Nat.mod_lt _ h0
  have h4:d[t / k]! = d.toList[t / k]'(by rw [Array.length_toList];exact hi):=by simp [Array.getElem!_eq_getD,Array.getD,hi]
  rw [← h4,List.getElem?_eq_getElem h3];simp [h3]
 ·exact (List.getElem?_eq_none (by rw [Array.length_toList,size_flatK];exact ht)).trans (List.getElem?_eq_none (by rw [hlen];exact ht)).symm
def SortP (l:List Pt):Prop:=l.Pairwise fun a b=>orderV a b≤0
theorem orderV_swap (a b:Pt):orderV b a<0 ↔ 0<orderV a b:=by rw [orderV_neg,orderV_pos]
set_option maxRecDepth 100000 in
theorem sortp_any {w:World} {g cap n B:Nat} {l:List Pt} (h:w.ownsRow B 56 2 (.slice (some ⟨g,0,none⟩) n cap) n (l.flatMap Pt.enc)) (hsz:n≤1000000000) :
 Calls Tryz.prog 168 #[.slice (some ⟨g,0,none⟩) n cap,.func (.func 115) #[] #[]] w fun e w'=>e=.returned (.tuple #[]) ∧
  ∃ l',l'.Perm l∧SortP l'∧w'.ownsRow B 56 2 (.slice (some ⟨g,0,none⟩) n cap) n (l'.flatMap Pt.enc)∧w.grownBy w' (some g):=by
 have hk:∀ x:Pt,(encPt x).length=2:=fun _=>rfl
 have hn:l.length=n:=by
  have h1:=h.1;rw [flatM_len (k:=2) Pt.enc_len] at h1;omega
 have hf:(flatK encPt 2 l.toArray).toList=l.flatMap encPt:=flatK_list encPt hk (by decide) l.toArray;have hH:HoldsK encPt 2 w g 0 l.toArray:=fun j hj=>by
  have hj2:j<n * 2:=by rw [size_flatK] at hj;simpa [hn] using hj
  refine ⟨?_,by rw [Nat.zero_add];exact h.frozenAt j⟩;rw [Nat.zero_add,h.cellAt j hj2,show l.flatMap Pt.enc=l.flatMap encPt from rfl,← hf,Array.getElem?_toList,Array.getElem?_eq_getElem hj,getElem!_pos _ j hj];rfl
 have hglt:=(h.lt g rfl).2;have h1:∀ x:Pt,∀ v∈encPt x,v.oneCell'=true:=fun x v hv=>by
  simp only [encPt,List.mem_cons,List.not_mem_nil,or_false] at hv;rcases hv with rfl|rfl <;> rfl
 have eg:∀ args w,(callFunc 115 args).run Tryz.prog w=.ok (.enter 115 args) w:=enters_of Tryz.func115 (by kernel_rfl) rfl;have hcon:=AnyQ.slices_SortFunc Tryz.sortP 2 Tryz.isAgg56 Tryz.sizeOf56 encPt hk h1 orderV swoP 115 #[] g 0 cap l.toArray w eg (cmpLaysP w g 0 l.toArray.size) hH hglt (by simp;omega);change Calls Tryz.prog 168 _ _ _ at hcon;rw [show l.toArray.size=n from by simpa using hn] at hcon;refine hcon.mono ?_;rintro e w' ⟨rfl,d',q,os,hp,hs,rfl⟩;have hp':=perm_list (d:=l.toArray) (by rw [show l.toArray.size=n from by simpa using hn];exact hp);have hd':d'.size=n:=by have:=hp.1;simp at this;omega
 refine ⟨rfl,d'.toList,(by simpa using hp'),?_,?_,?_⟩
 ·unfold SortP;rw [List.pairwise_iff_getElem];intro i j hi hj hij;simp at hi hj;have:=hs i j (Nat.zero_le _) hij (by omega);unfold ltOf at this;simp [Array.getElem!_eq_getD,Array.getD,hi,hj] at this;simp only [Array.getElem_toList];have h2:=orderV_swap d'[i] d'[j];omega
 ·obtain ⟨hl1,h2⟩:=h;rcases h2 with ⟨e,_⟩|⟨g',cap',cur,e,hb,hh,hnc,hcm,hcs,ht⟩
  ·cases e
  ·injection e with e1 e2 e3;injection e1 with e1;injection e1 with e1;subst e1 e3;have hlen:(d'.toList.flatMap Pt.enc).length=n * 2:=by rw [flatM_len (k:=2) Pt.enc_len,Array.length_toList,hd']
   refine ⟨hlen,.inr ⟨g,cap,putCells id 0 (flatK encPt 2 d') cur,rfl,hb,?_,hnc,hcm,by simp [putCells,hcs],?_⟩⟩
   ·unfold sortWorldK putRowK putRow mapBlock grow Sort.ahead;simp [Array.getElem?_append,Array.getElem?_modify,hglt];have:=(Array.getElem?_eq_some_iff.1 hh).2;rw [Array.getElem_modify,if_pos rfl,this];rfl
   ·rw [show d'.toList.flatMap Pt.enc=d'.toList.flatMap encPt from rfl,← flatK_list encPt hk (by decide) d'];have hfs:(flatK encPt 2 d').size=n * 2:=by rw [size_flatK,hd']
    have hcn:n * 2≤cur.size:=by rw [hcs];exact Nat.mul_le_mul_right 2 hnc
    refine List.ext_getElem? fun t=>?_
    rw [List.getElem?_take];split
    ·next ht2=>
     rw [Array.getElem?_toList,Array.getElem?_toList];unfold putCells;rw [Array.getElem?_mapIdx,Array.getElem?_eq_getElem (by omega),Array.getElem?_eq_getElem (by omega)];simp [hfs,ht2,Array.getElem!_eq_getD,Array.getD]
    ·next ht2=>exact (List.getElem?_eq_none (by rw [Array.length_toList,hfs];omega)).symm
 ·exact ⟨rfl,rfl,rfl,size_sortWorldK_c _ _ _ _ _ _ _ _,fun j hj hne=>sortWorldK_heap _ _ _ _ _ _ _ _ hj (fun e=>hne (by rw [e]))⟩
theorem own_at {w:World} {base k n:Nat} {e:TypeId} {v:Value} {xs:List Value} (h0:0<n) (hk:0<k) (h:w.ownsRow base e k v n xs):∃ g c,v=.slice (some ⟨g,0,none⟩) n c∧base≤g:=by
 rcases h.2 with q|⟨g,cap,cur,e1,hb1,_⟩
 ·exact absurd q.2 (by omega)
 ·exact ⟨g,cap,e1,hb1⟩
set_option maxRecDepth 100000 in
theorem sorted_any (r:List Pt) (A:Option Addr) (n c Bs:Nat) (w:World) (hBs:Bs<w.heap.size) (hc:w.cell? ⟨Bs,0,none⟩=some (.slice A n c)) (hr:PR w w.heap.size A n r) (hn:n≤1000000000) (h0:0<n) :
 Calls Tryz.prog 141 #[.func (.func 169) #[] #[.pointer (some ⟨Bs,0,none⟩)],.func (.func 115) #[] #[]] w fun e w'=>∃ v l',e=.returned v∧l'.Perm r∧SortP l'∧w'.ownsRow w.heap.size 56 2 v n (l'.flatMap Pt.enc) ∧ ∃ w1,Below w.heap.size w w1 ∧ ∃ g,w.heap.size≤g∧w1.grownBy w' (some g):=by
 have H:=hide (collect_any r A n c Bs w hBs hc hr hn)
 go_enter Tryz.func141,Tryz.ntmps141
 go_wp2_with (first
  | (go_at_call 167;(refine H.out.mono ?_);rintro e w2 ⟨v,rfl,h1,h2⟩;(obtain ⟨g,c9,rfl,hg⟩:=own_at h0 (by decide) h1);have H1:=hide h1;have H2:=hide h2;clear h1 h2)
  | (go_at_call 168;(refine (sortp_any H1.out hn).mono ?_);rintro e w3 ⟨rfl,l',h3,h4,h5,h6⟩;have H3:=hide (And.intro h3 (And.intro h4 (And.intro h5 h6)));clear h3 h4 h5 h6))
 skip
 go_ret;obtain ⟨h3,h4,h5,h6⟩:=H3.out;exact ⟨_,l',rfl,h3,h4,h5,_,H2.out,g,hg,h6⟩
theorem bdn (w:World) (n:Nat):Below w.heap.size w (w.drewN n):=⟨rfl,rfl,rfl,Nat.le_refl _,fun _ _=>rfl⟩
theorem eq_pt (a b c d:Int) (w:World):(Op.equalIn 10000 56 (.agg #[.int .i64 a,.int .i64 b]) (.agg #[.int .i64 c,.int .i64 d])).run Tryz.prog w=.ok (a == c&&b == d) w:=by
 have hS:Tryz.prog.underlying 56=some (.struct (Tryz.prog.fieldsOf 56)):=by kernel_rfl
 rw [show (10000:Nat)=9999+1 from rfl,run_equalIn_agg w 9999 56 _ _ hS (by kernel_rfl)];simp only [Program.fieldsOf,Tryz.underlying56];go_simp;by_cases h1:a=c <;> by_cases h2:b=d <;> simp [h1,h2]
theorem eqb_pt (p q:Pt):(p.x == q.x&&p.y == q.y)=decide (p=q):=by
 obtain ⟨a,b⟩:=p;obtain ⟨c,d⟩:=q;by_cases h1:a=c <;> by_cases h2:b=d <;> simp [h1,h2]
theorem twice_iff {r l:List Pt} (hp:l.Perm r) (hs:SortP l):(∀ i (h:i+1<l.length),l[i+1]≠l[i]) ↔ r.Nodup:=by
 rw [← hp.nodup_iff];constructor
 ·intro h;unfold SortP at hs;unfold List.Nodup;rw [List.pairwise_iff_getElem] at hs ⊢;intro i j hi hj hij e;have h1:=h i (by omega);rcases Nat.lt_or_ge (i+1) j with q|q
  ·have h2:=hs i (i+1) hi (by omega) (by omega);have h3:=hs (i+1) j (by omega) hj q;rw [← e] at h3;have h4:=orderV_swap l[i+1] l[i];have h5:orderV l[i] l[i+1]=0:=by omega
   exact h1 ((orderV_eq _ _).1 h5).symm
  ·obtain rfl:j=i+1:=by omega
   exact h1 e.symm
 ·intro h i hi e;unfold List.Nodup at h;rw [List.pairwise_iff_getElem] at h;exact h i (i+1) (by omega) hi (by omega) e.symm
def twiceB (r:List Pt):Bool:=!decide r.Nodup
set_option maxRecDepth 100000 in
set_option maxHeartbeats 2000000 in
theorem twice_any (r:List Pt) (A:Option Addr) (n c:Nat) (w:World) (hr:PR w w.heap.size A n r) (hn:n≤1000000000) (h0:0<n) :
 Calls Tryz.prog 90 #[.slice A n c] w fun e w'=>e=.returned (.bool (twiceB r))∧Below w.heap.size w w':=by
 obtain ⟨w1,hw1⟩:∃ q,w.alloc (.cells #[.slice A n c] 23)=q:=⟨_,rfl⟩;have hb1:Below w.heap.size w w1:=hw1 ▸ bal bR _;have hc1:w1.cell? ⟨w.heap.size,0,none⟩=some (.slice A n c):=hw1 ▸ (Blk.new _ _ _).cell 0;have hs1:w.heap.size<w1.heap.size:=by rw [← hw1];simp
 have H:=hide (sorted_any r A n c w.heap.size w1 hs1 hc1 (hr.later hb1) hn h0);have HR:=hide hr;have HW1:=hide hw1;have HB1:=hide hb1;clear hr hw1 hb1 hc1
 go_enter Tryz.func90,Tryz.ntmps90
 go_wp2_with (first
  | (go_at_call 142;(refine (values_any _ _ _ _).mono ?_);rintro e w2 ⟨rfl,e2⟩;rw [e2,HW1.out];clear e2)
  | (go_at_call 141;(refine H.out.mono ?_);rintro e w3 ⟨v,l,rfl,h1,h2,h3,h4⟩;(obtain ⟨g,c9,rfl,hg⟩:=own_at h0 (by decide) h3);have H1:=hide h1;have H2:=hide h2;have H3:=hide h3;have H4:=hide h4;clear h1 h2 h3 h4))
 have hlen:l.length=n:=by rw [H1.out.length_eq];exact HR.out.1
 have hbw:Below w.heap.size w w3:=by
  obtain ⟨wa,ha,gg,hgg,hgr⟩:=H4.out;exact (HB1.out.trans (ha.mono HB1.out.size)).grown hgr (Nat.le_trans HB1.out.size ha.size) (fun k e=>by cases e;exact Nat.le_trans HB1.out.size hgg)
 have hpr:PR w3 w3.heap.size (some ⟨g,0,none⟩) n l:=Sl.own hlen rfl rfl H3.out;obtain ⟨b,o,hA,hb,hcs⟩:=hpr.at h0;cases hA;have HCS:=hide hcs;have HBW:=hide hbw;have HLEN:=hide hlen;clear hlen hbw hpr hcs;have hgt:Tryz.prog.eqGuardType Tryz.prog.depth 56=false:=by kernel_rfl
 go_wp2_with fail
 go_loopw [4] (fun i wr=>∃ m:Nat,i=.int .i64 ((m:Int)+1)∧m+1≤n∧Hid (Below w3.heap.size w3 wr ∧ ∀ j (h:j+1<l.length),j<m→l[j+1]≠l[j])) (fun i _=>n - (intOf i).toNat)
 case atStart=>exact ⟨0,rfl,by omega,hide ⟨Below.refl _ _,fun j _ h=>absurd h (Nat.not_lt_zero _)⟩⟩
 case round=>
  obtain ⟨m,rfl,hm,HI⟩:=hrel;by_cases hlt:m+1<n
  ·have hltI:(m:Int)+1<n:=by omega
   have h1:m+1<l.length:=by rw [HLEN.out];exact hlt
   obtain ⟨r0,r1⟩:=HCS.out (m+1) h1;obtain ⟨s0,s1⟩:=HCS.out m (by omega);obtain ⟨p,hp⟩:∃ q,l[m+1]=q:=⟨_,rfl⟩;obtain ⟨q,hq⟩:∃ q,l[m]=q:=⟨_,rfl⟩;rw [hp] at r0 r1;rw [hq] at s0 s1;have r0:=(HI.out.1.cell (p:=⟨g,0+(m+1) * 2,none⟩) hb).trans r0;have r1:=(HI.out.1.cell (p:=⟨g,0+(m+1) * 2+1,none⟩) hb).trans r1;have s0:=(HI.out.1.cell (p:=⟨g,0+m * 2,none⟩) hb).trans s0;have s1:=(HI.out.1.cell (p:=⟨g,0+m * 2+1,none⟩) hb).trans s1;have hbr:g<wr.heap.size:=nLl hb HI.out.1.size;have hw1:(m:Int)+1≤9223372036854775807:=by omega
   have HE:=hide (show decide (l[m+1]=l[m])=(p.x == q.x&&p.y == q.y) from by rw [hp,hq,eqb_pt]);clear hp hq;simp only [Nat.zero_add] at r0 r1 s0 s1;have heq:=fun w1=>eq_pt p.x p.y q.x q.y w1
   obtain ⟨t,ht⟩:∃ t,(p.x == q.x&&p.y == q.y)=t:=⟨_,rfl⟩;rw [ht] at heq;have HT:=hide ht;clear ht;go_upto_region 5 with fail
   go_quiet (fail)
   cases t
   ·have HN:=hide (show ∀ j (h:j+1<l.length),j<m+1→l[j+1]≠l[j] from fun j h hj e=>by
     rcases Nat.lt_or_ge j m with h2|h2
     ·exact HI.out.2 j h h2 e
     ·obtain rfl:j=m:=by omega
      have h3:=HE.out;rw [HT.out] at h3;simp at h3;exact h3 e)
    have HBB:=hide (HI.out.1.trans ((bdn wr nq).mono HI.out.1.size));go_wp2_with fail
    go_roundw
    case rel=>exact ⟨m+1,by go_num,by omega,hide ⟨HBB.out,HN.out⟩⟩
    case measure=>simp [intOf];omega
   ·have HBB:=hide (HBW.out.trans ((HI.out.1.trans ((bdn wr nq).mono HI.out.1.size)).mono HBW.out.size));have HF:=hide (show twiceB r=true from by
     have h3:=HE.out;rw [HT.out] at h3;simp at h3;unfold twiceB;simp only [Bool.not_eq_true',decide_eq_false_iff_not];intro hnd;exact (twice_iff H1.out H2.out).2 hnd m h1 h3)
    go_wp2_with fail
    go_ret;exact ⟨by rw [HF.out];rfl,HBB.out⟩
  ·have hltI:¬ (m:Int)+1<n:=by omega
   have HBB:=hide (HBW.out.trans (HI.out.1.mono HBW.out.size));have HF:=hide (show twiceB r=false from by
    unfold twiceB;simp only [Bool.not_eq_false',decide_eq_true_iff];exact (twice_iff H1.out H2.out).1 (fun j h=>HI.out.2 j h (by have:=HLEN.out;omega)))
   go_wp2_with fail
   go_ret;exact ⟨by rw [HF.out];rfl,HBB.out⟩
end Go.Proofs.YtacinobmcgcccaaGreatDoor
