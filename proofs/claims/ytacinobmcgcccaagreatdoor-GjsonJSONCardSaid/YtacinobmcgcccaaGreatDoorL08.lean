/- ring.Area. -/
import Derived.Test.YtacinobmcgcccaaGreatDoorL06
import Derived.Test.YtacinobmcgcccaaGreatDoorL07
import Derived.Maps.AppendAt
import Derived.Lib.AppendZerosOnto
set_option linter.unusedSimpArgs false
set_option linter.unusedVariables false
namespace Go.Proofs.YtacinobmcgcccaaGreatDoor
open Go.RowKit Go.Shelf
attribute [local go_sem] Oper.semAt_some
theorem retM0 {F:Fence} {n:Nat} {P:Program} {fn:Func} {R:Ending→World→Prop} {a:Act} {w:World} {v:Value} (hr:(results fn a.tmps).run P w=.ok v w) (hd:a.defers=[]) (hR:R (.returned v) w):bodyPostM F n P fn R .ret a w:=by
 show LeavesInM F n P fn a.tmps R a.defers .returning w;rw [hd];exact ⟨v,hr,hR⟩
theorem retM1 {F:Fence} {n:Nat} {P:Program} {fn:Func} {R:Ending→World→Prop} {a:Act} {w:World} {v:Value} {D:Nat} (hK:w.heap[D]? = some (.deferred (some []))) (hr:(results fn a.tmps).run P (w.putObj D (.deferred none))=.ok v (w.putObj D (.deferred none))) (hd:a.defers=[{ target:=.collected D,args:=#[] }]) (hR:R (.returned v) (w.putObj D (.deferred none))):bodyPostM F n P fn R .ret a w:=by
 show LeavesInM F n P fn a.tmps R a.defers .returning w;rw [hd];exact ⟨by simp,.inl ⟨_,_,rfl,run_takeDeferred hK,⟨v,hr,hR⟩⟩⟩
theorem int_info2:(Tryz.prog.info? 80).map (fun i=>(i.zero,i.size,i.bytes))=some (some (.agg #[.int .i64 0,.int .u64 0]),2,16):=by kernel_rfl
def areaV (r:List Pt):Int:=((edgesL r).map fun e=>crossV ⟨0,0⟩ e.a e.b).sum
def areaE (r:List Pt):Int:=if 128<r.length then 12 else if goodAll r then 0 else 3
def areaI (r:List Pt):I2:=if areaE r=0 then two (areaV r) else ⟨0,0⟩
theorem cells_ne {W:World} {r:Nat} {cs:Array Value} {t:TypeId} (h:W.heap[r]? = some (.cells cs t)) (h2:∃ o:Obj,W.heap[r]? = some o∧o.isCells=false):False:=by
 obtain ⟨o,h3,h4⟩:=h2;rw [h] at h3;injection h3 with h3;subst h3;cases h4
theorem blk_grown {W W':World} {row:Option Nat} {g:Nat} {t:TypeId} {cs:Array Value} (h:Blk W g t cs) (hg:W.grownBy W' row) (hr:∀ r,row=some r → ∃ o:Obj,W.heap[r]? = some o∧o.isCells=false):Blk W' g t cs:=
 (hg.block g h.lt (fun e=>cells_ne h (hr g e.symm))).trans h
theorem row_grown {W W':World} {row:Option Nat} {base k n:Nat} {e:TypeId} {v:Value} {xs:List Value} (h:W.ownsRow base e k v n xs) (hg:W.grownBy W' row) (hr:∀ r,row=some r → ∃ o:Obj,W.heap[r]? = some o∧o.isCells=false):W'.ownsRow base e k v n xs:=by
 refine h.kept hg ?_;rcases h.2 with ⟨e1,_⟩|⟨g,cap,cur,e1,_,hh,_⟩
 ·rw [e1];exact .inl rfl
 ·rw [e1];exact .inr (fun e2=>cells_ne hh (hr g e2.symm))
theorem own_sl {W:World} {base k n:Nat} {e:TypeId} {v:Value} {xs:List Value} (h:W.ownsRow base e k v n xs):∃ A c,v=.slice A n c∧(∀ q,v.ownBlock=some q→base≤q):=by
 rcases h.2 with ⟨e1,e2⟩|⟨g,cap,cur,e1,hb,_⟩
 ·subst e1;subst e2;exact ⟨_,_,rfl,fun q hq=>by cases hq⟩
 ·subst e1;exact ⟨_,_,rfl,fun q hq=>by have:g=q:=Option.some.inj hq;omega⟩
theorem keeps_below {B:Nat} {W W':World} (h:Below W.heap.size W W'):KeepsFrom B W W':=⟨h.size,fun k o _ hk _=>(h.block k (Array.getElem?_eq_some_iff.1 hk).1).trans hk⟩
theorem keeps_grown {B:Nat} {W W':World} {base k n:Nat} {e:TypeId} {v:Value} {xs:List Value} (h:W.ownsRow base e k v n xs) (hg:W.grownBy W' v.ownBlock):KeepsFrom B W W':=
 ⟨hg.size,fun q o _ hk ho=>(hg.block q (Array.getElem?_eq_some_iff.1 hk).1 (fun e2=>by
  rcases h.2 with ⟨e1,_⟩|⟨g,cap,cur,e1,_,hh,_⟩
  ·rw [e1] at e2;cases e2
  ·rw [e1] at e2;injection e2 with e2;rw [e2] at hk;exact cells_ne hh ⟨o,hk,ho⟩)).trans hk⟩
theorem cell_at_new (w:World) (cs:Array Value) (t:TypeId) (j:Nat):(w.alloc (.cells cs t)).cell? ⟨w.heap.size,j,none⟩=cs[j]?:=(Blk.new w t cs).cell j
theorem add_off (b j:Nat):(⟨b,0,none⟩:Addr).add j=⟨b,j,none⟩:=by
 unfold Addr.add;split
 ·rename_i h;subst h;rfl
 ·simp
theorem two_new (w4:World) (t t':TypeId) (cs:Array Value) (a b:Value):∀ j u,[a,b][j]? = some u→((w4.alloc (.cells cs t)).alloc (.cells #[a,b] t')).cell? ((⟨w4.heap.size+1,0,none⟩:Addr).add j)=some u:=fun j u hu=>by
 rw [add_off];have:=cell_at_new (w4.alloc (.cells cs t)) #[a,b] t' j;rw [show (w4.alloc (.cells cs t)).heap.size=w4.heap.size+1 from by simp] at this;exact this.trans (by simpa using hu)
theorem kpE_b {n₀ Bs:Nat} {w:World} (hn:n₀≤w.heap.size) (hb:Bs<w.heap.size) (W:World) (l:Nat) (o o':Obj) (hl:w.heap.size≤l) (h:W.heap[l]? = some o) (h1:o.isCells=false) (h2:o.isWalk=false):KpE n₀ Bs W (W.putObj l o'):=
 ⟨belowK_b hn W l o o' hl h h1 h2,(grownBy_putObj' W l o').block Bs (by have:=(Array.getElem?_eq_some_iff.1 h).1;omega) (fun e=>by injection e with e;omega)⟩
theorem crossA_ok (a b c:Pt):(crossA a b c).ok:=by
 unfold crossA;split
 ·rename_i h
  obtain ⟨h1,h2,h3⟩:=good3_iff.1 h;have:=cross_i64 h1 h2 h3;unfold i64ok at this;exact two_ok (by unfold inr;omega)
 ·exact ⟨by decide,by decide⟩
set_option maxRecDepth 100000 in
theorem tot_sum {α:Type} (c:α→Int) (L:Int) (hL:0≤L∧L≤9223372036854775808):∀ (l:List α) (s b:Int),(∀ x∈l,-L≤c x∧c x≤L) → -b≤s→s≤b→b+(l.length:Int) * 9223372036854775808≤170141183460469231731687303715884105727→tot s (l.map fun x=>two (c x))=some (s+(l.map c).sum)
 | [],s,b,_,_,_,_=>by simp [tot]
 | x :: l,s,b,h,h1,h2,h3=>by
   have hx:=h x (by simp);rw [List.length_cons] at h3
   push_cast at h3
   have h0:(0:Int)≤(l.length:Int):=by omega
   obtain ⟨q,hq⟩:∃ q:Int,(l.length:Int)=q:=⟨_,rfl⟩;rw [hq] at h3 h0;have hs:-(b+L)≤s+c x∧s+c x≤b+L:=by omega
   rw [List.map_cons,tot,two_num];rw [if_pos (by unfold inr;omega),tot_sum c L hL l (s+c x) (b+L) (fun y hy=>h y (by simp [hy])) hs.1 hs.2 (by rw [hq];omega)];simp;omega
theorem edge_good {r:List Pt} (h:goodAll r=true) {e:Eg} (he:e∈edgesL r):e.a∈r∧e.b∈r:=by
 obtain ⟨i,hi,rfl⟩:=mem_edges.1 he;have h2:(i+1) % r.length<r.length:=Nat.mod_lt _ (by omega);unfold edgeAt;simp only [List.getD,List.getElem?_eq_getElem hi,List.getElem?_eq_getElem h2,Option.getD_some];exact ⟨List.getElem_mem hi,List.getElem_mem h2⟩
theorem good_mem {r:List Pt} (h:goodAll r=true) {p:Pt} (hp:p∈r):p.good:=by
 unfold goodAll at h;have:=List.all_eq_true.1 h p hp;simpa using this
theorem tot_area {r:List Pt} (hg:goodAll r=true) (hn:r.length≤128):tot 0 ((upTo (fun j=>(j,edgeAt r j)) r.length).map fun x=>crossA ⟨0,0⟩ x.2.a x.2.b)=some (areaV r):=by
 have h0:(⟨0,0⟩:Pt).good:=by decide
 have h1:((upTo (fun j=>(j,edgeAt r j)) r.length).map fun x=>crossA ⟨0,0⟩ x.2.a x.2.b)=(edgesL r).map fun e=>two (crossV ⟨0,0⟩ e.a e.b):=by
  unfold upTo edgesL;rw [List.map_map,List.map_map];refine List.map_congr_left fun j hj=>?_
  have he:edgeAt r j∈edgesL r:=mem_edges.2 ⟨j,List.mem_range.1 hj,rfl⟩;have:=edge_good hg he;simp only [Function.comp];unfold crossA;rw [if_pos (good3_iff.2 ⟨h0,good_mem hg this.1,good_mem hg this.2⟩)]
 rw [h1,tot_sum (fun e:Eg=>crossV ⟨0,0⟩ e.a e.b) 4611686018427387904 (by decide) (edgesL r) 0 0 (fun e he=>cross_bound h0 (good_mem hg (edge_good hg he).1) (good_mem hg (edge_good hg he).2)) (by omega) (by omega) (by rw [edges_len];omega)];unfold areaV;simp
set_option maxRecDepth 100000 in
set_option maxHeartbeats 4000000 in
theorem area_any (r:List Pt) (A:Option Addr) (n c:Nat) (w:World) (hr:PR w w.heap.size A n r) (hn:n≤8796093022208) :
 Calls Tryz.prog 89 #[.slice A n c] w fun e w'=>e=.returned (.tuple #[.agg #[.int .i64 (areaI r).hi,.int .u64 (areaI r).lo],.int .i64 (areaE r)])∧Below w.heap.size w w':=by
 have HR:=hide hr;have hlen:=hr.1;have HLEN:=hide hlen;obtain ⟨w1,hw1⟩:∃ q,w.alloc (.cells #[.int .i64 0,.int .u64 0] 80)=q:=⟨_,rfl⟩;have hb1:Below w.heap.size w w1:=hw1 ▸ bal bR _;have HB1:=hide hb1;have HBK:=hide (show Blk w1 w.heap.size 80 #[.int .i64 0,.int .u64 0] from hw1 ▸ Blk.new _ _ _);have HW1:=hide hw1;have hgd:=good_any r A n c w1 (hr.later hb1) (by omega);have HGD:=hide hgd;clear hr hlen hw1 hb1 hgd;refine (callsIn_wide (n:=10)).1 ?_;refine callsIn_of_wp_marks Tryz.func89 rfl trivial ?_ rfl;simp only [Tryz.ntmps89,List.size_toArray,List.length_cons,List.length_nil,Nat.reduceAdd,Nat.reduceSub,Array.replicate_succ,Array.replicate_zero,List.push_toArray,List.append_toArray,List.nil_append,List.cons_append];refine wpIn_wide.2 ?_;go_upto_region 1 with fail
 rw [HW1.out];have kb:=HBK.out.cell;have fz:=HBK.out.frozen;have zb:=HBK.out.lt;by_cases h128:128<n
 ·have hE:areaE r=12:=by unfold areaE;rw [if_pos (by rw [HLEN.out];exact h128)]
  have hI:areaI r=⟨0,0⟩:=by unfold areaI;rw [hE];rfl
  have HE:=hide hE;have HI:=hide hI;clear hE hI;go_wp2_with fail
  have hb:=((HBK.out.set_ 0 (.int .i64 0)).set_ 1 (.int .u64 0));refine retM0 (v:=.tuple #[.agg #[.int .i64 0,.int .u64 0],.int .i64 12]) (by simp [results,Tryz.results89,go_sem,hb.cell 0,hb.cell 1]) rfl ⟨by rw [HE.out,HI.out],((HB1.out.setCell (p:=⟨w.heap.size,0,none⟩) (Nat.le_refl _) _).setCell (p:=⟨w.heap.size,1,none⟩) (Nat.le_refl _) _)⟩
 ·cases hg:goodAll r with
  | false=>
    rw [hg] at HGD;go_wp2_with (go_at_call 93;(refine HGD.out.mono ?_);rintro e w2 ⟨rfl,hb⟩;have hbk2:=HBK.out.below hb HBK.out.lt;have HBK2:=hide hbk2;have kb:=hbk2.cell;have fz:=hbk2.frozen;have zb:=hbk2.lt;have HB2:=hide hb;clear hb hbk2)
    have hE:areaE r=3:=by unfold areaE;rw [if_neg (by rw [HLEN.out];exact h128),hg];rfl
    have hI:areaI r=⟨0,0⟩:=by unfold areaI;rw [hE];rfl
    have hb:=((HBK2.out.set_ 0 (.int .i64 0)).set_ 1 (.int .u64 0));refine retM0 (v:=.tuple #[.agg #[.int .i64 0,.int .u64 0],.int .i64 3]) (by simp [results,Tryz.results89,go_sem,hb.cell 0,hb.cell 1]) rfl ⟨by rw [hE,hI],(((HB1.out.trans (HB2.out.mono HB1.out.size)).setCell (p:=⟨w.heap.size,0,none⟩) (Nat.le_refl _) _).setCell (p:=⟨w.heap.size,1,none⟩) (Nat.le_refl _) _)⟩
  | true=>
    rw [hg] at HGD;go_wp2_with (first|(go_at_call 93;(refine HGD.out.mono ?_);rintro e w2 ⟨rfl,hb⟩;have HB2:=hide hb;clear hb)|(go_at_call 113;(refine (edges_any _ _ _ _).mono ?_);rintro e w3 ⟨rfl,rfl⟩))
    obtain ⟨w3,hw3⟩:∃ q,(w2.alloc (.cells #[.slice none 0 0] 156)).alloc (.cells #[.slice A n c] 23)=q:=⟨_,rfl⟩;have hs3:w3.heap.size=w2.heap.size+2:=by rw [← hw3];simp
    have hb3:Below w2.heap.size w2 w3:=hw3 ▸ bal (bal bR _) _;have hbl:=hw3 ▸ Blk.one w2 #[.slice none 0 0] #[.slice A n c] 156 23;have hbr:=hw3 ▸ Blk.two w2 #[.slice none 0 0] #[.slice A n c] 156 23;have hb12:=HB1.out.trans (HB2.out.mono HB1.out.size);rw [hw3];clear hw3 HGD;refine (wpIn_wide (n:=9)).1 ?_;refine wpIn_rangeFunc_ownH (F:=Fence.wide) rfl (by omega) (gf:=151) (lb:=#[.pointer (some ⟨w2.heap.size+1,0,none⟩)]) rfl trivial (enters_of Tryz.func151 (by kernel_rfl) rfl)
     (edges_stops 8 (w2.heap.size+1) w2.heap.size A n c r hn w3 (by omega) (by omega) (hbr.cell 0) ((HR.out.below (hb12.trans (hb3.mono hb12.size))).more hb12.size))
     (fun h k=>h.trans k) (kpE_b (by omega) (by omega)) bR (fun _=>rfl)
     (fun pre W=>(∃ v,Blk W w2.heap.size 156 #[v]∧W.ownsRow (w2.heap.size+2) 80 2 v pre.length (pre.flatMap fun x=>(crossA ⟨0,0⟩ x.2.a x.2.b).enc))∧Below w2.heap.size w2 W∧w2.heap.size+2≤W.heap.size)
     (fun _ _ _=>False)
     (fun pre W W' row hs hg hr=>⟨by obtain ⟨v,h1,h2⟩:=hs.1;exact ⟨v,blk_grown h1 hg (fun r e=>(hr r e).2),row_grown h2 hg (fun r e=>(hr r e).2)⟩,hs.2.1.grown hg hs.2.1.size (fun r e=>by have:=(hr r e).1;omega),Nat.le_trans hs.2.2 hg.size⟩)
     (fun _ _ _ _ _ hs _ _=>hs)
     ⟨⟨_,hbl,World.ownsRow_nil _ _ _ _⟩,hb3,by omega⟩
     (fun x a' W=>∃ Bx,w2.heap.size+2≤Bx∧Blk W Bx 109 #[.int .i64 x.2.a.x,.int .i64 x.2.a.y,.int .i64 x.2.b.x,.int .i64 x.2.b.y]∧a'={ tmps:=#[.slice A n c,undef,.pointer (some ⟨w.heap.size,0,none⟩),.int .i64 0,.pointer (some ⟨w2.heap.size,0,none⟩),undef,.pointer (some ⟨Bx,0,none⟩),undef,undef,.bool (decide (128<(n:Int))),.slice A n c,.int .i64 (n:Int),.bool (decide (128<(n:Int))),undef,.bool false,.slice A n c,.bool true,.bool false,undef,.slice A n c,.func (.func 151) #[] #[.pointer (some ⟨w2.heap.size+1,0,none⟩)],.int .i64 (x.1:Int),.agg #[.int .i64 x.2.a.x,.int .i64 x.2.a.y,.int .i64 x.2.b.x,.int .i64 x.2.b.y],undef,undef,undef,undef,undef,undef,undef,undef,undef,undef,undef,undef,undef,undef,undef,undef,undef],defers:=[] })
     (fun x a' _ W W' row hs hg hr=>by obtain ⟨Bx,h1,h2,h3⟩:=hs;exact ⟨Bx,h1,blk_grown h2 hg (fun r e=>(hr r e).2),h3⟩) ?assign ?body ?done ?stop
    case assign=>
     rintro l pre x W K hi hK;dsimp only [encIE];obtain ⟨⟨v,h1,h2⟩,h3,h4⟩:=hi
     gi_wp2
     exact hK _ _ ((KeepsOthers.alloc _ _).from _) (KpE.of_below (bal bR _) h3.size (by omega)) ⟨⟨v,h1.alloc _,own_later h2 (bal bR _)⟩,h3.trans ((bal bR _).mono h3.size),by simp;omega⟩ ⟨W.heap.size,h4,Blk.new _ _ _,rfl⟩
    case body=>
     rintro l pre x a' W hl - ⟨⟨v,hbl,hrow⟩,hbw,hsw⟩ ⟨Bx,hx1,hx2,rfl⟩ hpre;obtain ⟨i0,hi0,hz0,hz1,hz2⟩:=info_parts int_info2;obtain ⟨A9,c9,rfl,hob⟩:=own_sl hrow;have kx:=hx2.cell;have fx:=hx2.frozen;have zx:=hx2.lt;obtain ⟨X,hX⟩:∃ X,crossA ⟨0,0⟩ x.2.a x.2.b=X:=⟨_,rfl⟩;have hcr:=gcross_any ⟨0,0⟩ x.2.a x.2.b W;rw [hX] at hcr;have HCR:=hide hcr;clear hcr;have h128':pre.length+1≤200:=by omega
     gi_wp2_with (first|(refine ⟨trivial,?_⟩;gi_at_call 140;refine (CallsIn.inRound l (callsIn_wide.2 HCR.out)).mono ?_;rintro e w4 ⟨rfl,hb4⟩;have hbl4:=hbl.below hb4 hbl.lt;have kl:=hbl4.cell;have fl:=hbl4.frozen;have zl:=hbl4.lt;have hb5:Below W.heap.size W ((w4.alloc (.cells #[.int .i64 X.hi,.int .u64 X.lo] 80)).alloc (.cells #[.int .i64 X.hi,.int .u64 X.lo] 80)):=bal (bal hb4 _) _;have hrow5:=own_later hrow hb5;have HB4:=hide hb4;have HB5:=hide hb5;have hs4:=hb4.size;clear hb4 hb5)|(gi_at_builtin;go_loud (refine wpListIn_append_own _ rfl (.tmp 32) (.tmp 34) _ rfl (w2.heap.size+2) 80 i0 _ 2 16 Tryz.underlying156 hi0 hz0 hz1 hz2 rfl (by decide) (.slice A9 pre.length c9) pre.length _ rfl hrow5 ⟨w4.heap.size+1,0,none⟩ 1 1 [.int .i64 X.hi,.int .u64 X.lo] rfl rfl (two_new w4 _ _ _ _ _) (by intro u hu;simp at hu;rcases hu with rfl|rfl <;> rfl) (by unfold maxLen;omega) (by omega) (by simp;omega) ?_);intro v' w6 hown hgrow _;(obtain ⟨A7,c7,rfl,hob7⟩:=own_sl hown);have HOWN:=hide hown;have HGR:=hide hgrow;have hbl5:=(hbl4.alloc (.cells #[.int .i64 X.hi,.int .u64 X.lo] 80)).alloc (.cells #[.int .i64 X.hi,.int .u64 X.lo] 80);have hbl6:Blk w6 w2.heap.size 156 #[.slice A9 pre.length c9]:=(hgrow.block _ hbl5.lt (fun e=>by have:=hob _ e.symm;omega)).trans hbl5;have HBL6:=hide hbl6;have kl6:=hbl6.cell;have fl6:=hbl6.frozen;have zl6:=hbl6.lt;clear hown hgrow kl fl zl))
     have hw5:=HB5.out.size;have hw6:=HGR.out.size;have hbw5:Below w2.heap.size W w6:=(HB5.out.mono hbw.size).grown HGR.out (by omega) (fun k e=>by have:=hob k e;omega);have hset:Below w2.heap.size W (w6.setCell ⟨w2.heap.size,0,none⟩ (.slice A7 (pre.length+1) c7)):=hbw5.setCell (p:=⟨w2.heap.size,0,none⟩) (Nat.le_refl _) _;refine ⟨((keeps_below HB5.out).trans (keeps_grown hrow5 HGR.out)).trans ((KeepsOthers.setCell _ _ _).from _),⟨hset,?_⟩,⟨_,HBL6.out.set_ 0 _,?_⟩,hbw.trans hset,by simp;omega⟩
     ·refine (Below.heap_setCell _ _ _ _ (show ¬ (w2.heap.size+1=w2.heap.size) from by omega)).trans ?_;exact (HGR.out.block _ (by omega) (fun e=>by have:=hob _ e.symm;omega)).trans (HB5.out.block _ (by omega))
     ·have h9:=HOWN.out.kept (grownBy_setCell' w6 w2.heap.size (.slice A7 (pre.length+1) c7)) (.inr (fun e=>by have:=hob7 _ e;omega));rw [List.length_append,List.length_singleton,List.flatMap_append,List.flatMap_singleton,hX];exact h9
    case done=>
     rintro D xs W hD rfl ⟨⟨v,hbl,hrow⟩,hbw,hsw⟩ hK;obtain ⟨A9,c9,rfl,-⟩:=own_sl hrow;rw [upTo_length] at hbl hrow;have htot:=total_any ((upTo (fun j=>(j,edgeAt r j)) n).map fun x=>crossA ⟨0,0⟩ x.2.a x.2.b) A9 n c9 W (Sl.own (by simp [upTo_length]) rfl (by rw [List.flatMap_map]) hrow) (fun i hi=>by rw [List.getElem_map];exact crossA_ok _ _ _) (by omega);have htt:=tot_area hg (by rw [HLEN.out];omega);rw [HLEN.out] at htt;rw [htt] at htot;simp only [optI,optE] at htot;have HTOT:=hide htot;have hrb:Blk W w.heap.size 80 #[.int .i64 0,.int .u64 0]:=(HBK.out.below HB2.out zb).below hbw (nLl zb HB2.out.size);have hK0:=hide hK;have HBW:=hide hbw;have kl:=hbl.cell;have fl:=hbl.frozen;have zl:=hbl.lt;clear hbl htot htt hrow hbw hK;dsimp only;go_wp2_with (go_at_call 121;(refine HTOT.out.mono ?_);rintro e w5 ⟨rfl,hb5⟩;have hrb5:=hrb.below hb5 hrb.lt;have HRB5:=hide hrb5;have kr:=hrb5.cell;have fr:=hrb5.frozen;have zr:=hrb5.lt;have HB5:=hide hb5;clear hb5 hrb5)
     have hE:areaE r=0:=by unfold areaE;rw [if_neg (by rw [HLEN.out];exact h128),hg];rfl
     have hI:areaI r=two (areaV r):=by unfold areaI;rw [hE];rfl
     have hb:=((HRB5.out.set_ 0 (.int .i64 (two (areaV r)).hi)).set_ 1 (.int .u64 (two (areaV r)).lo));have hDW:D<W.heap.size:=(Array.getElem?_eq_some_iff.1 hK0.out).1;have hK5:((w5.setCell ⟨w.heap.size,0,none⟩ (.int .i64 (two (areaV r)).hi)).setCell ⟨w.heap.size,1,none⟩ (.int .u64 (two (areaV r)).lo)).heap[D]? = some (.deferred (some [])):=by
      have hs12:=hb12.size;have hne:¬ D=w.heap.size:=by have:=HB2.out.size;omega
      rw [Below.heap_setCell _ _ _ _ hne,Below.heap_setCell _ _ _ _ hne,HB5.out.block D hDW];exact hK0.out
     have hg5:=grownBy_putObj' ((w5.setCell ⟨w.heap.size,0,none⟩ (.int .i64 (two (areaV r)).hi)).setCell ⟨w.heap.size,1,none⟩ (.int .u64 (two (areaV r)).lo)) D (.deferred none);have hb6:=blk_grown hb hg5 (fun r e=>by injection e with e;subst e;exact ⟨_,hK5,rfl⟩);have hbw2:Below w.heap.size w W:=hb12.trans (HBW.out.mono hb12.size);refine retM1 (v:=.tuple #[.agg #[.int .i64 (two (areaV r)).hi,.int .u64 (two (areaV r)).lo],.int .i64 0]) hK5 (by simp [results,Tryz.results89,go_sem,hb6.cell 0,hb6.cell 1]) rfl ⟨by rw [hE,hI],?_⟩;refine Below.grown (((hbw2.trans (HB5.out.mono hbw2.size)).setCell (p:=⟨w.heap.size,0,none⟩) (Nat.le_refl _) _).setCell (p:=⟨w.heap.size,1,none⟩) (Nat.le_refl _) _) hg5 (by simp;have:=hbw2.size;have:=HB5.out.size;omega) (fun k e=>by injection e with e;have:=hb12.size;omega)
    case stop=>
     rintro D c pre W _ _ h _;exact h.elim
end Go.Proofs.YtacinobmcgcccaaGreatDoor
/- slices.Grow of nothing, slices.Concat: of points. -/
namespace Go.Proofs.YtacinobmcgcccaaGreatDoor
open Go.RowKit
theorem pt_inf:∃ i0,Tryz.prog.info? 56=some i0∧i0.zero=some (.agg #[.int .i64 0,.int .i64 0])∧i0.size=2∧i0.bytes=16:=by
 obtain ⟨i0,h1,h2,h3,h4⟩:=info_parts pt_info;exact ⟨i0,h1,h2,h3,h4⟩
set_option maxHeartbeats 1000000 in
theorem grow_pts {w:World} (n:Nat) (hn:n≤1000000000):Calls Tryz.prog 123 #[.slice none 0 0,.int .i64 (n:Int)] w fun e w'=>∃ v,e=.returned v∧w'.ownsRow w.heap.size 56 2 v 0 []∧Below w.heap.size w w':=by
 obtain ⟨i0,hi0,hz0,hz1,hz2⟩:=pt_inf;have d1:decide ((n:Int)<0)=false:=by simp
 rcases Nat.eq_zero_or_pos n with h0|h0
 ·subst h0
  go_enter Tryz.func123,Tryz.ntmps123
  go_wp2_with fail
  go_ret;exact ⟨_,rfl,World.ownsRow_nil _ _ _ _,Below.refl _ _⟩
 ·have d2:decide (0<(n:Int))=true:=by simp;omega
  obtain ⟨gc,hgc⟩:∃ gc,grownCap w n 0 56=gc:=⟨_,rfl⟩;have hge:=grownCap_ge w n 0 56;have hgm:=grownCap_le_maxLen w n 0 56 (by unfold maxLen;omega);have hold:(Builtin.firstCells i0.size 0 (.slice none 0 0)).run Tryz.prog w.drew=.ok ([]:List Value).toArray w.drew:=by simp [Builtin.firstCells]
  have hr:=Go.Lib.run_append_grow_zeros (P:=Tryz.prog) w 23 3 23 56 i0 _ .i64 .i64 Tryz.underlying23 Tryz.underlying3 hi0 hz0 none 0 0 [] hold n h0 (by omega) (by omega) (by omega) (by rw [hz2];omega) (growslice_fits (by omega) (by rw [hz2];omega));rw [Nat.zero_add,hgc] at hr;rw [hgc] at hge hgm;obtain ⟨w3,hw3⟩:∃ w3,(w.drew.alloc (.cells ((([]:List Value).toArray)++Builtin.zeroCells (Value.cells (.agg #[.int .i64 0,.int .i64 0])) n++Builtin.zeroCells (Value.cells (.agg #[.int .i64 0,.int .i64 0])) (gc - n)) 56))=w3:=⟨_,rfl⟩;rw [hw3] at hr;have HOW:=hide (show w3.ownsRow w.heap.size 56 2 (.slice (some ⟨w.heap.size,0,none⟩) 0 gc) 0 [] from ⟨rfl,.inr ⟨w.heap.size,gc,_,rfl,Nat.le_refl _,hw3 ▸ heap_alloc_new w.drew _,Nat.zero_le _,hgm,by
   simp only [Array.size_append,List.size_toArray,size_zeroCells,Value.cells];simp;omega,rfl⟩⟩)
  have HB:=hide (show Below w.heap.size w w3 from hw3 ▸ ((Below.refl w.heap.size w).drew).alloc (Nat.le_refl _) _);have HR:=hide hr;clear hw3 hr hold hgc
  go_enter Tryz.func123,Tryz.ntmps123
  go_wp2_with (at_builtin;go_loud (refine Go.Lib.wpList_append_run _ rfl (.tmp 20) (.tmp 21) _ _ rfl _ _ rfl rfl _ _ HR.out ?_))
  go_ret;exact ⟨_,rfl,HOW.out,HB.out⟩
structure Sq where
 A:Option Addr
 n:Nat
 c:Nat
 l:List Pt
def Sq.val (s:Sq):Value:=.slice s.A s.n s.c
def totL (L:List Sq):Nat:=(L.map Sq.n).sum
def totP (L:List Sq):List Pt:=L.flatMap Sq.l
theorem totL_take {L:List Sq} {j:Nat} (h:j<L.length):totL (L.take (j+1))=totL (L.take j)+L[j].n:=by
 unfold totL;rw [List.take_succ_eq_append_getElem h];rw [List.map_append,List.sum_append];simp only [List.map_cons,List.map_nil,List.sum_cons,List.sum_nil,Nat.add_zero]
theorem totL_le (L:List Sq) (j:Nat):totL (L.take j)≤totL L:=by
 unfold totL
 conv=>rhs;rw [← List.take_append_drop j L,List.map_append,List.sum_append]
 omega
theorem totP_take {L:List Sq} {j:Nat} (h:j<L.length):totP (L.take (j+1))=totP (L.take j)++L[j].l:=by
 unfold totP;rw [List.take_succ_eq_append_getElem h,List.flatMap_append];simp only [List.flatMap_cons,List.flatMap_nil,List.append_nil]
set_option maxRecDepth 100000 in
set_option maxHeartbeats 4000000 in
theorem concat_pts {w:World} {g m c0:Nat} {L:List Sq} {t:TypeId} (hg:Blk w g t (L.map Sq.val).toArray) (hp:∀ s∈L,PR w w.heap.size s.A s.n s.l) (hm:L.length=m) (hm6:m≤1000000) (hlen:totL L≤100000000) :
 Calls Tryz.prog 73 #[.slice (some ⟨g,0,none⟩) m c0] w fun e w'=>∃ v,e=.returned v∧w'.ownsRow w.heap.size 56 2 v (totL L) ((totP L).flatMap Pt.enc)∧Below w.heap.size w w':=by
 obtain ⟨i0,hi0,hz0,hz1,hz2⟩:=pt_inf;have HI0:=hide hi0;have HZ0:=hide hz0;have HG:=hide hg;have HP:=hide hp;have HM:=hide hm;have HLEN:=hide hlen;clear hi0 hz0 hg hp hm hlen
 go_enter Tryz.func73,Tryz.ntmps73
 go_wp2_with fail
 go_loopw [3,11] (fun vz vi wr=>∃ j z:Nat,vi=.int .i64 (j:Int)∧vz=.int .i64 (z:Int)∧j≤m∧Hid (z=totL (L.take j))∧Hid (Below w.heap.size w wr)) (fun _ vi _=>m - (intOf vi).toNat)
 case atStart=>exact ⟨0,0,rfl,rfl,by omega,hide rfl,hide bR⟩
 case round=>
  obtain ⟨j,z,rfl,rfl,hj,HZ,HB⟩:=hrel;by_cases hlt:j<m
  ·have hjl:j<L.length:=by rw [HM.out];exact hlt
   have hgr:=HG.out.below HB.out HG.out.lt;have k0:wr.cell? ⟨g,j,none⟩=some (.slice L[j].A L[j].n L[j].c):=by rw [hgr.cell];simp [Sq.val,hjl]
   have zz:=hgr.lt;obtain ⟨A',n',c',l',hs⟩:∃ A' n' c' l',L[j]=⟨A',n',c',l'⟩:=⟨_,_,_,_,rfl⟩;rw [hs] at k0;have hz2':z+n'≤100000000:=by
    have h1:=totL_le L (j+1);rw [totL_take hjl,hs,← HZ.out] at h1;have:=HLEN.out;simp only at h1;omega
   have HZ2:=hide (show z+n'=totL (L.take (j+1)) from by rw [totL_take hjl,hs,← HZ.out]);have d1:decide ((z:Int)+(n':Int)<0)=false:=by simp;omega
   clear hgr hs;simp only at k0;go_wp2_with fail
   refine ⟨⟨j+1,z+n',by push_cast;rfl,by push_cast;rfl,by omega,HZ2,HB⟩,?_⟩;simp [intOf];omega
  ·obtain rfl:m=j:=by omega
   have HZ3:=hide (show z=totL L from by rw [HZ.out,List.take_of_length_le (by rw [HM.out];exact Nat.le_refl _)]);have hz9:z≤1000000000:=by have:=HZ3.out;have:=HLEN.out;omega
   clear HZ;go_wp2_with (go_at_call 123;(refine (grow_pts z hz9).mono ?_);rintro e w2 ⟨v2,rfl,ho,hb⟩;(obtain ⟨A2,c2,rfl,_⟩:=own_sl ho);have HO2:=hide (own_base ho HB.out.size);have HB2:=hide (show Below w.heap.size w w2 from HB.out.trans (hb.mono HB.out.size));clear ho hb HB)
   go_loopw [6,27] (fun v6 vi wr=>∃ (j:Nat) (A5:Option Addr) (n5 c5:Nat),vi=.int .i64 (j:Int)∧j≤m∧v6=.slice A5 n5 c5∧Hid (n5=totL (L.take j))∧Hid (wr.ownsRow w.heap.size 56 2 (.slice A5 n5 c5) n5 ((totP (L.take j)).flatMap Pt.enc))∧Hid (Below w.heap.size w wr)) (fun _ vi _=>m - (intOf vi).toNat)
   case atStart=>exact ⟨0,A2,0,c2,rfl,by omega,rfl,hide rfl,hide HO2.out,HB2⟩
   case round=>
    clear HO2 HB2;obtain ⟨j,A5,n5,c5,rfl,hj,rfl,HN5,HX,HB⟩:=hrel;by_cases hlt:j<m
    ·have hjl:j<L.length:=by rw [HM.out];exact hlt
     have hgr:=HG.out.below HB.out HG.out.lt;have k0:wr.cell? ⟨g,j,none⟩=some (.slice L[j].A L[j].n L[j].c):=by rw [hgr.cell];simp [Sq.val,hjl]
     have zz:=hgr.lt;have hpr:=HP.out _ (List.getElem_mem hjl);have HT:=hide (totP_take hjl);have HTL:=hide (totL_take hjl);have hle:=totL_le L (j+1);rw [HTL.out,← HN5.out] at hle;have hlen:=HLEN.out;obtain ⟨A',n',c',l',hs⟩:∃ A' n' c' l',L[j]=⟨A',n',c',l'⟩:=⟨_,_,_,_,rfl⟩;rw [hs] at k0 hpr HT HTL hle;simp only at k0 hpr hle;have HPR:=hide ((hpr.below HB.out).more HB.out.size);have hnn:n5+n'≤100000000:=by omega
     have HL2:=hide (show n5+n'=totL (L.take (j+1)) from by rw [HTL.out,HN5.out]);have HD2:=hide (show (totP (L.take j)).flatMap Pt.enc++l'.flatMap Pt.enc=(totP (L.take (j+1))).flatMap Pt.enc from by rw [HT.out,List.flatMap_append]);clear hgr hs hpr hle hlen;go_wp2_with (at_builtin;refine wpList_append_any _ rfl (.tmp 31) (.tmp 32) _ rfl w.heap.size 56 i0 _ 2 16 Tryz.underlying23 HI0.out HZ0.out hz1 hz2 rfl (by omega) (.slice A5 n5 c5) n5 _ rfl HX.out _ A' n' c' _ rfl HPR.out.2 (pt_one l') (by unfold maxLen;omega) (by omega) HB.out.size ?_;intro v' w7 ho hgb hoo;(obtain ⟨A6,c6,rfl,hc6⟩:=own_sl ho);have HO6:=hide ho;have HB6:=hide (show Below w.heap.size w w7 from HB.out.grown hgb HB.out.size (fun k hk=>(HX.out.lt k hk).1));clear ho hgb hoo)
     refine ⟨⟨j+1,A6,n5+n',c6,by push_cast;rfl,by omega,rfl,HL2,hide (by rw [← HD2.out];exact HO6.out),HB6⟩,?_⟩;simp [intOf];omega
    ·obtain rfl:m=j:=by omega
     have HZ4:=hide (show n5=totL L from by rw [HN5.out,List.take_of_length_le (by rw [HM.out];exact Nat.le_refl _)]);go_wp2_with fail
     go_ret;have h2:=HX.out;rw [List.take_of_length_le (by rw [HM.out];exact Nat.le_refl _)] at h2;rw [← HZ4.out];exact ⟨_,rfl,h2,HB.out⟩
end Go.Proofs.YtacinobmcgcccaaGreatDoor
/- slices.Values over a ring's points; AppendSeq, Collect of it. -/
namespace Go.Proofs.YtacinobmcgcccaaGreatDoor
open Go.RowKit Go.Shelf
attribute [local go_sem] Oper.semAt_some
theorem row_base {w:World} {base base' k n:Nat} {e:TypeId} {v:Value} {xs:List Value} (h:w.ownsRow base e k v n xs) (hb:base'≤base):w.ownsRow base' e k v n xs:=by
 refine ⟨h.1,?_⟩;rcases h.2 with q|⟨g,cap,cur,e1,hb1,rest⟩
 ·exact .inl q
 ·exact .inr ⟨g,cap,cur,e1,Nat.le_trans hb hb1,rest⟩
def encP (p:Pt):Array Value:=#[.agg #[.int .i64 p.x,.int .i64 p.y]]
set_option maxRecDepth 100000 in
set_option maxHeartbeats 2000000 in
theorem values1_in (n:Nat) (l Bs n₀ b off len cap:Nat) (r:List Pt) (hlen:r.length=len) (hreach:len≤8796093022208) (hb:b<n₀) (J Jx:List Pt→World→Prop)
 (hY:∀ pre x W,J pre W→pre.length<len→YieldAt Fence.wide (n - 1) Tryz.prog l (encP x) W fun e W'=>
   (e=.returned (.bool true)∧J (pre++[x]) W'∧Below n₀ W W')∨(e=.returned (.bool false)∧Jx (pre++[x]) W'))
 (hJ:∀ pre W o,J pre W→J pre (W.alloc o))
 (W:World) (hW:n₀≤W.heap.size) (hBs:W.cell? ⟨Bs,0,none⟩=some (.slice (some ⟨b,off,none⟩) len cap)) (hc:∀ j,j<len→W.cell? ⟨b,off+j * 2,none⟩=some (.int .i64 (r.getD j default).x)∧W.cell? ⟨b,off+j * 2+1,none⟩=some (.int .i64 (r.getD j default).y)) (h0:J [] W) :
 CallsIn Fence.wide n Tryz.prog 169 #[.func (.yield l) #[] #[],.pointer (some ⟨Bs,0,none⟩)] W fun e W'=>(∃ v,e=.returned v) ∧
  ((∃ ys,ys=upTo (fun j=>r.getD j default) len∧J ys W')∨(∃ pre,(∃ k,k≤len∧pre=upTo (fun j=>r.getD j default) k)∧Jx pre W')):=by
 refine callsIn_of_wp Tryz.func169 rfl trivial ?_ rfl;simp only [Tryz.ntmps169,List.size_toArray,List.length_cons,List.length_nil,Nat.reduceAdd,Nat.reduceSub,Array.replicate_succ,Array.replicate_zero,List.push_toArray,List.append_toArray,List.nil_append,List.cons_append]
 gi_wp2
 gi_loopw [4,7] (fun _ i wr=>∃ k:Nat,k≤len∧i=.int .i64 k∧J (upTo (fun j=>r.getD j default) k) wr∧Below n₀ W wr) (fun _ i _=>len - (intOf i).toNat)
 case atStart=>exact ⟨0,Nat.zero_le _,rfl,h0,Below.refl _ _⟩
 case round=>
  obtain ⟨k,hk,rfl,hJs,hnx⟩:=hrel;by_cases hlt:k<len
  ·obtain ⟨c0,c1⟩:=hc k hlt;have c0:=(hnx.cell (p:=⟨b,off+k * 2,none⟩) hb).trans c0;have c1:=(hnx.cell (p:=⟨b,off+k * 2+1,none⟩) hb).trans c1;obtain ⟨p,hp⟩:∃ p,r.getD k default=p:=⟨_,rfl⟩;have HE:=hide hp;rw [hp] at c0 c1;have hJ3:=hJ _ _ (Obj.cells #[.int .i64 p.x,.int .i64 p.y] 56) hJs;have hb3:Below n₀ wr (wr.alloc (Obj.cells #[.int .i64 p.x,.int .i64 p.y] 56)):=(Below.refl n₀ wr).alloc (Nat.le_trans hW hnx.size) _;obtain ⟨fn,tmps,assign,body,hy,hR⟩:=hY _ p _ hJ3 (by rw [upTo_length];exact hlt);dsimp only [encP] at hy;clear hp
   gi_wp2
   refine ⟨fun hd=>by simp [Fence.wide] at hd,hR.mono ?_⟩;rintro e W3 (⟨rfl,hJ4,hk3⟩|⟨rfl,hJx3⟩)
   ·gi_wp2
    go_roundw
    case rel=>exact ⟨k+1,by omega,by simp,by rw [upTo_succ,HE.out];exact hJ4,(hnx.trans hb3).trans hk3⟩
    case measure=>simp [intOf];omega
   ·gi_wp2
    refine bodyPost_ret (results_none rfl _ _ _) rfl ?_;exact ⟨⟨_,rfl⟩,.inr ⟨_,⟨k+1,by omega,rfl⟩,by rw [upTo_succ,HE.out];exact hJx3⟩⟩
  ·obtain rfl:k=len:=by omega
   gi_wp2
   go_end0
   exact ⟨⟨_,rfl⟩,.inl ⟨_,rfl,hJs⟩⟩
set_option maxRecDepth 100000 in
set_option maxHeartbeats 1000000 in
theorem values1_none (n:Nat) (l Bs cap:Nat) (A:Option Addr) (J:List Pt→World→Prop) (W:World) (hBs:W.cell? ⟨Bs,0,none⟩=some (.slice A 0 cap)) (h0:J [] W) :
 CallsIn Fence.wide n Tryz.prog 169 #[.func (.yield l) #[] #[],.pointer (some ⟨Bs,0,none⟩)] W fun e W'=>(∃ v,e=.returned v)∧J [] W':=by
 refine callsIn_of_wp Tryz.func169 rfl trivial ?_ rfl;simp only [Tryz.ntmps169,List.size_toArray,List.length_cons,List.length_nil,Nat.reduceAdd,Nat.reduceSub,Array.replicate_succ,Array.replicate_zero,List.push_toArray,List.append_toArray,List.nil_append,List.cons_append]
 gi_wp2
 gi_loopw [4,7] (fun _ i wr=>i=.int .i64 0∧J [] wr) (fun _ _ _=>0)
 case atStart=>exact ⟨rfl,h0⟩
 case round=>
  obtain ⟨rfl,hJs⟩:=hrel
  gi_wp2
  go_end0
  exact ⟨⟨_,rfl⟩,hJs⟩
theorem values_any (A:Option Addr) (len cap:Nat) (w:World) :
 Calls Tryz.prog 142 #[.slice A len cap] w fun e w'=>e=.returned (.func (.func 169) #[] #[.pointer (some ⟨w.heap.size,0,none⟩)])∧w'=w.alloc (.cells #[.slice A len cap] 23):=by
 go_enter Tryz.func142,Tryz.ntmps142
 go_wp2_with fail
 go_ret;exact ⟨rfl,rfl⟩
theorem upTo_ring (r:List Pt):upTo (fun j=>r.getD j default) r.length=r:=by
 apply List.ext_getElem
 ·simp [upTo]
 ·intro i h1 h2;simp [upTo,h2]
theorem values_stops (n:Nat) (Bs n₀:Nat) (A:Option Addr) (len cap:Nat) (r:List Pt) (hreach:len≤8796093022208) (w:World) (hBs:Bs<w.heap.size) (hn₀:n₀≤w.heap.size) (hc:w.cell? ⟨Bs,0,none⟩=some (.slice A len cap)) (hr:PR w n₀ A len r) :
 SeqStopsK Fence.wide n Tryz.prog 169 #[.pointer (some ⟨Bs,0,none⟩)] encP (Below n₀) (fun ys=>ys=r) (fun pre=>∃ k,k≤len∧pre=upTo (fun j=>r.getD j default) k) len w:=fun l J Jx W hW hJ _ hY h0=>by
 have hc':=(hW.cell (p:=⟨Bs,0,none⟩) hBs).trans hc;rcases Nat.eq_zero_or_pos len with rfl|hpos
 ·have hr0:r=[]:=List.eq_nil_of_length_eq_zero hr.1;exact (values1_none n l Bs cap A J W hc' h0).mono fun e W' ⟨he,hj⟩=>⟨he,.inl ⟨_,hr0.symm,hj⟩⟩
 ·obtain ⟨b,o,rfl,hb,hcs⟩:=hr.at hpos;refine (values1_in n l Bs n₀ b o len cap r hr.1 hreach hb J Jx hY (fun pre W o h=>hJ pre W _ none h (World.grownBy_alloc W o none) (fun r e=>by cases e)) W (Nat.le_trans hn₀ hW.size) hc' (fun j hj=>?_) h0).mono ?_
  ·have hj':j<r.length:=by rw [hr.1];exact hj
   have h1:=hcs j hj';have e:r.getD j default=r[j]:=by simp [List.getD,hj']
   rw [e];exact ⟨((hW.mono hn₀).cell (p:=⟨b,o+j * 2,none⟩) hb).trans h1.1,((hW.mono hn₀).cell (p:=⟨b,o+j * 2+1,none⟩) hb).trans h1.2⟩
  ·rintro e W' ⟨he,⟨ys,rfl,hj⟩|h⟩
   ·exact ⟨he,.inl ⟨r,rfl,by rw [← upTo_ring r,hr.1];exact hj⟩⟩
   ·exact ⟨he,.inr h⟩
theorem pt_info2:(Tryz.prog.info? 56).map (fun i=>(i.zero,i.size,i.bytes))=some (some (.agg #[.int .i64 0,.int .i64 0]),2,16):=by kernel_rfl
set_option maxRecDepth 100000 in
set_option maxHeartbeats 4000000 in
theorem appendseq_any (r:List Pt) (A:Option Addr) (n c Bs:Nat) (w:World) (hBs:Bs<w.heap.size) (hc:w.cell? ⟨Bs,0,none⟩=some (.slice A n c)) (hr:PR w w.heap.size A n r) (hn:n≤1000000000) :
 Calls Tryz.prog 197 #[.slice none 0 0,.func (.func 169) #[] #[.pointer (some ⟨Bs,0,none⟩)]] w fun e w'=>∃ v,e=.returned v∧w'.ownsRow w.heap.size 56 2 v n (r.flatMap Pt.enc)∧Below w.heap.size w w':=by
 refine (callsIn_wide (n:=10)).1 ?_;refine callsIn_of_wp_marks Tryz.func197 rfl trivial ?_ rfl;simp only [Tryz.ntmps197,List.size_toArray,List.length_cons,List.length_nil,Nat.reduceAdd,Nat.reduceSub,Array.replicate_succ,Array.replicate_zero,List.push_toArray,List.append_toArray,List.nil_append,List.cons_append];refine wpIn_wide.2 ?_;go_wp2_with fail
 obtain ⟨w3,hw3⟩:∃ q,w.alloc (.cells #[.slice none 0 0] 22)=q:=⟨_,rfl⟩;have hs3:w3.heap.size=w.heap.size+1:=by rw [← hw3];simp
 have hb3:Below w.heap.size w w3:=hw3 ▸ bal bR _;have hbl:Blk w3 w.heap.size 22 #[.slice none 0 0]:=hw3 ▸ Blk.new _ _ _;rw [hw3];refine (wpIn_wide (n:=9)).1 ?_;refine wpIn_rangeFunc_ownH (F:=Fence.wide) rfl (by omega) (gf:=169) (lb:=#[.pointer (some ⟨Bs,0,none⟩)]) rfl trivial (enters_of Tryz.func169 (by kernel_rfl) rfl)
  (values_stops 8 Bs w.heap.size A n c r (by omega) w3 (by omega) (by omega) ((hb3.cell (p:=⟨Bs,0,none⟩) hBs).trans hc) (hr.below hb3))
  (fun h k=>h.trans k) (belowK_b (by omega)) bR (fun _=>rfl)
  (fun pre W=>(∃ v,Blk W w.heap.size 22 #[v]∧W.ownsRow (w.heap.size+1) 56 2 v pre.length (pre.flatMap Pt.enc))∧Below w.heap.size w W∧w.heap.size+1≤W.heap.size)
  (fun _ _ _=>False)
  (fun pre W W' row hs hg hr=>⟨by obtain ⟨v,h1,h2⟩:=hs.1;exact ⟨v,blk_grown h1 hg (fun r e=>(hr r e).2),row_grown h2 hg (fun r e=>(hr r e).2)⟩,hs.2.1.grown hg hs.2.1.size (fun r e=>by have:=(hr r e).1;omega),Nat.le_trans hs.2.2 hg.size⟩)
  (fun _ _ _ _ _ hs _ _=>hs)
  ⟨⟨_,hbl,World.ownsRow_nil _ _ _ _⟩,hb3,by omega⟩
  (fun x a' W=>∃ Bx,w.heap.size+1≤Bx∧Blk W Bx 56 #[.int .i64 x.x,.int .i64 x.y]∧a'={ tmps:=#[.slice none 0 0,.func (.func 169) #[] #[.pointer (some ⟨Bs,0,none⟩)],.pointer (some ⟨w.heap.size,0,none⟩),undef,.slice none 0 0,.pointer (some ⟨Bx,0,none⟩),.func (.func 169) #[] #[.pointer (some ⟨Bs,0,none⟩)],.agg #[.int .i64 x.x,.int .i64 x.y],undef,undef,undef,undef,undef],defers:=[] })
  (fun x a' _ W W' row hs hg hr=>by obtain ⟨Bx,h1,h2,h3⟩:=hs;exact ⟨Bx,h1,blk_grown h2 hg (fun r e=>(hr r e).2),h3⟩) ?assign ?body ?done ?stop
 case assign=>
  rintro l pre x W K hi hK;dsimp only [encP];obtain ⟨⟨v,h1,h2⟩,h3,h4⟩:=hi
  gi_wp2
  exact hK _ _ ((KeepsOthers.alloc _ _).from _) ((bal bR _).mono h3.size) ⟨⟨v,h1.alloc _,own_later h2 (bal bR _)⟩,h3.trans ((bal bR _).mono h3.size),by simp;omega⟩ ⟨W.heap.size,h4,Blk.new _ _ _,rfl⟩
 case body=>
  rintro l pre x a' W hl - ⟨⟨v,hbl,hrow⟩,hbw,hsw⟩ ⟨Bx,hx1,hx2,rfl⟩ hpre;obtain ⟨i0,hi0,hz0,hz1,hz2⟩:=info_parts pt_info2;obtain ⟨A9,c9,rfl,hob⟩:=own_sl hrow;have kx:=hx2.cell;have fx:=hx2.frozen;have zx:=hx2.lt;have kl:=hbl.cell;have fl:=hbl.frozen;have zl:=hbl.lt;have hb5:Below W.heap.size W (W.alloc (.cells #[.int .i64 x.x,.int .i64 x.y] 56)):=bal bR _;have hrow5:=own_later hrow hb5;have HB5:=hide hb5;have hlp:pre.length+1≤1000000000:=by omega
  clear hb5
  gi_wp2_with (gi_at_builtin;go_loud (refine wpListIn_append_own _ rfl (.tmp 8) (.tmp 10) _ rfl (w.heap.size+1) 56 i0 _ 2 16 Tryz.underlying22 hi0 hz0 hz1 hz2 rfl (by decide) (.slice A9 pre.length c9) pre.length _ rfl hrow5 ⟨W.heap.size,0,none⟩ 1 1 [.int .i64 x.x,.int .i64 x.y] rfl rfl (fun j u hu=>by rw [add_off];exact (cell_at_new _ _ _ j).trans (by simpa using hu)) (by intro u hu;simp at hu;rcases hu with rfl|rfl <;> rfl) (by unfold maxLen;omega) (by omega) (by simp;omega) ?_);intro v' w6 hown hgrow _;(obtain ⟨A7,c7,rfl,hob7⟩:=own_sl hown);have HOWN:=hide hown;have HGR:=hide hgrow;have hbl5:=hbl.alloc (.cells #[.int .i64 x.x,.int .i64 x.y] 56);have hbl6:Blk w6 w.heap.size 22 #[.slice A9 pre.length c9]:=(hgrow.block _ hbl5.lt (fun e=>by have:=hob _ e.symm;omega)).trans hbl5;have HBL6:=hide hbl6;have kl6:=hbl6.cell;have fl6:=hbl6.frozen;have zl6:=hbl6.lt;clear hown hgrow kl fl zl)
  have hw5:=HB5.out.size;have hw6:=HGR.out.size;have hbw5:Below w.heap.size W w6:=(HB5.out.mono hbw.size).grown HGR.out (by omega) (fun k e=>by have:=hob k e;omega);have hset:Below w.heap.size W (w6.setCell ⟨w.heap.size,0,none⟩ (.slice A7 (pre.length+1) c7)):=hbw5.setCell (p:=⟨w.heap.size,0,none⟩) (Nat.le_refl _) _;refine ⟨((keeps_below HB5.out).trans (keeps_grown hrow5 HGR.out)).trans ((KeepsOthers.setCell _ _ _).from _),hset,⟨_,HBL6.out.set_ 0 _,?_⟩,hbw.trans hset,by simp;omega⟩;have h9:=HOWN.out.kept (grownBy_setCell' w6 w.heap.size (.slice A7 (pre.length+1) c7)) (.inr (fun e=>by have:=hob7 _ e;omega));rw [List.length_append,List.length_singleton,List.flatMap_append,List.flatMap_singleton];exact h9
 case done=>
  rintro D xs W hD rfl ⟨⟨v,hbl,hrow⟩,hbw,hsw⟩ hK;obtain ⟨A9,c9,rfl,hob⟩:=own_sl hrow;have hK0:=hide hK;have HROW:=hide hrow;have HBW:=hide hbw;have kl:=hbl.cell;have fl:=hbl.frozen;have zl:=hbl.lt;clear hbl hrow hbw hK;dsimp only;go_wp2_with fail
  have hDW:D<W.heap.size:=(Array.getElem?_eq_some_iff.1 hK0.out).1;have hg5:=grownBy_putObj' W D (.deferred none);refine retM1 (v:=.slice A9 xs.length c9) hK0.out (by simp [results,Tryz.results197,go_sem]) rfl ⟨_,rfl,?_,HBW.out.grown hg5 (by have:=HBW.out.size;omega) (fun k e=>by injection e with e;omega)⟩;have h6:=row_grown HROW.out hg5 (fun r e=>by injection e with e;subst e;exact ⟨_,hK0.out,rfl⟩);rw [hr.1] at h6 ⊢;exact row_base h6 (by omega)
 case stop=>
  rintro D c pre W _ _ h _;exact h.elim
theorem collect_any (r:List Pt) (A:Option Addr) (n c Bs:Nat) (w:World) (hBs:Bs<w.heap.size) (hc:w.cell? ⟨Bs,0,none⟩=some (.slice A n c)) (hr:PR w w.heap.size A n r) (hn:n≤1000000000) :
 Calls Tryz.prog 167 #[.func (.func 169) #[] #[.pointer (some ⟨Bs,0,none⟩)]] w fun e w'=>∃ v,e=.returned v∧w'.ownsRow w.heap.size 56 2 v n (r.flatMap Pt.enc)∧Below w.heap.size w w':=by
 have H:=hide (appendseq_any r A n c Bs w hBs hc hr hn)
 go_enter Tryz.func167,Tryz.ntmps167
 go_wp2_with (go_at_call 197;(refine H.out.mono ?_);rintro e w2 ⟨v,rfl,h1,h2⟩;(obtain ⟨A9,c9,rfl,-⟩:=own_sl h1);have H1:=hide h1;have H2:=hide h2;clear h1 h2)
 go_ret;exact ⟨_,rfl,H1.out,H2.out⟩
end Go.Proofs.YtacinobmcgcccaaGreatDoor
