/- The reference's numbers: Add, Sub. -/
import Derived.Test.YtacinobmcgcccaaGreatDoorL33
set_option linter.unusedSimpArgs false
set_option linter.unusedVariables false
namespace Go.Proofs.YtacinobmcgcccaaGreatDoor
open Go.RowKit Go.Shelf
theorem heap_drew (w:World):w.drew.heap=w.heap:=rfl
theorem plus_dg (x y:Int) (w:World) :
 Calls Tryz.prog 104 #[.agg (cs5 (dg x)),.agg (cs5 (dg y))] w fun e w'=>e=.returned (.agg (cs5 (dg (x+y))))∧Below w.heap.size w w':=by
 have h:=plus_any (dg x) (dg y) w (dg_part x) (dg_part y);rw [cs5_congr (f:=sumP (dg x) (dg y)) (g:=dg (x+y)) (fun i _=>sum_dg x y i)] at h;exact h
abbrev TwS (w:World) (a b:I2) (w':World):Prop:=w'.cell? ⟨w.heap.size,0,none⟩=some (.int .i64 a.hi)∧w'.cell? ⟨w.heap.size,1,none⟩=some (.int .u64 a.lo)∧w'.cell? ⟨w.heap.size+1,0,none⟩=some (.int .i64 b.hi)∧w'.cell? ⟨w.heap.size+1,1,none⟩=some (.int .u64 b.lo)
theorem TwS.set {w W:World} {a b:I2} (h:TwS w a b W) {g:Nat} (hg:w.heap.size+1<g) (u v:Value):TwS w a b ((W.setCell ⟨g,0,none⟩ u).setCell ⟨g,1,none⟩ v):=by
 obtain ⟨h1,h2,h3,h4⟩:=h;refine ⟨?_,?_,?_,?_⟩
 all_goals
  rw [World.cell?_setCell_other _ _ _ _ (fun e=>by injection e;omega),World.cell?_setCell_other _ _ _ _ (fun e=>by injection e;omega)]
  assumption
structure TwE (w:World) (a b:I2) (W:World):Prop where
 s:TwS w a b W
 z:w.heap.size+1+1<W.heap.size
 bel:Below w.heap.size w W
 blk:Blk W (w.heap.size+1+1) 80 #[Value.int IntKind.i64 0,Value.int IntKind.u64 0]
theorem TwE.later {w W W':World} {a b:I2} (h:TwE w a b W) (hb:Below W.heap.size W W'):TwE w a b W':=
 have hz:=h.z
 ⟨⟨(hb.cell (p:=⟨w.heap.size,0,none⟩) (show w.heap.size<_ by omega)).trans h.s.1,(hb.cell (p:=⟨w.heap.size,1,none⟩) (show w.heap.size<_ by omega)).trans h.s.2.1,
  (hb.cell (p:=⟨w.heap.size+1,0,none⟩) (show w.heap.size+1<_ by omega)).trans h.s.2.2.1,(hb.cell (p:=⟨w.heap.size+1,1,none⟩) (show w.heap.size+1<_ by omega)).trans h.s.2.2.2⟩,nLl hz hb.size,btr h.bel hb,h.blk.below hb hz⟩
theorem TwE.drew {w W:World} {a b:I2} (h:TwE w a b W):TwE w a b W.drew:=h.later (bR.drew)
theorem TwE.al {w W:World} {a b:I2} (h:TwE w a b W) (o:Obj):TwS w a b (W.alloc o):=(h.later (bal bR o)).s
theorem TwE.first (w:World) (a b:I2):TwE w a b (((w.alloc (iblk a)).alloc (iblk b)).alloc (Obj.cells #[Value.int IntKind.i64 0,Value.int IntKind.u64 0] 80)):=by
 have HI:=(((Bs.nil w).al #[Value.int IntKind.i64 a.hi,Value.int IntKind.u64 a.lo] 80).al #[Value.int IntKind.i64 b.hi,Value.int IntKind.u64 b.lo] 80).al #[Value.int IntKind.i64 0,Value.int IntKind.u64 0] 80;simp only [heap_al] at HI;have k1:=HI (w.heap.size,80,#[Value.int IntKind.i64 a.hi,Value.int IntKind.u64 a.lo]) (by simp);have k2:=HI (w.heap.size+1,80,#[Value.int IntKind.i64 b.hi,Value.int IntKind.u64 b.lo]) (by simp);have k3:=HI (w.heap.size+1+1,80,#[Value.int IntKind.i64 0,Value.int IntKind.u64 0]) (by simp);exact ⟨⟨k1.cell 0,k1.cell 1,k2.cell 0,k2.cell 1⟩,k3.lt,by (repeat (first|exact Below.refl _ _|refine Below.drew ?_|refine Below.setCell ?_ (by simp;try omega) _|refine bal ?_ _)),k3⟩
theorem add_lim {x y:I2} (hx:x.ok) (hy:y.ok):-730750818665451459101842416358141509827966271488≤x.num+y.num∧x.num+y.num<730750818665451459101842416358141509827966271488:=by
 have:=num_in hx;have:=num_in hy;unfold inr at *;omega
theorem sub_lim {x y:I2} (hx:x.ok) (hy:y.ok):-730750818665451459101842416358141509827966271488≤x.num + -y.num∧x.num + -y.num<730750818665451459101842416358141509827966271488:=by
 have:=num_in hx;have:=num_in hy;unfold inr at *;omega
set_option maxRecDepth 100000 in
set_option maxHeartbeats 2000000 in
theorem radd_any (x y:I2) (w:World) (hx:x.ok) (hy:y.ok) :
 Calls Tryz.prog 57 #[.agg #[.int .i64 x.hi,.int .u64 x.lo],.agg #[.int .i64 y.hi,.int .u64 y.lo]] w fun e w'=>
  e=.returned (.tuple #[.agg #[.int .i64 (clampI (x.num+y.num)).hi,.int .u64 (clampI (x.num+y.num)).lo],.int .i64 (clampE (x.num+y.num))])∧Below w.heap.size w w':=by
 have HX:=hide hx;have HY:=hide hy;have HL:=hide (add_lim hx hy);have hE:=TwE.first w x y;clear hx hy
 go_enter Tryz.func57,Tryz.ntmps57
 go_wp2_with fail
 obtain ⟨W,hW,hE,⟨c1,c2,c3,c4⟩⟩:∃ W,(((w.alloc (iblk x)).alloc (iblk y)).alloc (Obj.cells #[Value.int IntKind.i64 0,Value.int IntKind.u64 0] 80))=W∧TwE w x y W∧TwS w x y W:=⟨_,rfl,hE,hE.s⟩;rw [hW];clear hW;have zW:=hE.z
 go_region_held3 (fun w'=>w'.cell? ⟨w.heap.size,0,none⟩=some (.int .i64 x.hi)∧w'.cell? ⟨w.heap.size,1,none⟩=some (.int .u64 x.lo)∧w'.cell? ⟨w.heap.size+1,0,none⟩=some (.int .i64 y.hi)∧w'.cell? ⟨w.heap.size+1,1,none⟩=some (.int .u64 y.lo))
  (first|(with_reducible exact hE.s)|(with_reducible exact hE.drew.s)|(with_reducible exact hE.al _)|(with_reducible exact (hE.later (bal bR _)).drew.s)|((with_reducible refine TwS.set hE.s ?_ _ _);omega)|go_keep)
  (first
    | (go_at_call 105;(with_reducible refine (limbs_any x _ HX.out).mono ?_);rintro e w2 ⟨rfl,hb2⟩;(first|have hE:=hE.later hb2|have hE:=hE.drew.later hb2|have hE:=(hE.later (bal bR _)).later hb2|have hE:=(hE.later (bal bR _)).drew.later hb2);(first|have hN:=hN.below hb2 hN.lt|have hN:=(Blk.new _ _ _).below hb2 (by simp)|have hN:=(Blk.new _ _ _).drew.below hb2 (by simp)|skip);(first|(have kN:=hN.cell;have qN:=hN.frozen;have zN:=hN.lt;try simp only [heap_drew] at kN qN zN)|skip);have zE:=hE.z;have nA:¬ w.heap.size=w2.heap.size:=(by omega);have nB:¬ w.heap.size+1=w2.heap.size:=(by omega);have nC:¬ w.heap.size+1+1=w2.heap.size:=(by omega))
    | (go_at_call 105;(with_reducible refine (limbs_any y _ HY.out).mono ?_);rintro e w2 ⟨rfl,hb2⟩;(first|have hE:=hE.later hb2|have hE:=hE.drew.later hb2|have hE:=(hE.later (bal bR _)).later hb2|have hE:=(hE.later (bal bR _)).drew.later hb2);(first|have hN:=hN.below hb2 hN.lt|have hN:=(Blk.new _ _ _).below hb2 (by simp)|have hN:=(Blk.new _ _ _).drew.below hb2 (by simp)|skip);(first|(have kN:=hN.cell;have qN:=hN.frozen;have zN:=hN.lt;try simp only [heap_drew] at kN qN zN)|skip);have zE:=hE.z;have nA:¬ w.heap.size=w2.heap.size:=(by omega);have nB:¬ w.heap.size+1=w2.heap.size:=(by omega);have nC:¬ w.heap.size+1+1=w2.heap.size:=(by omega))
    | (go_at_call 132;(with_reducible refine (minus_any y.num _).mono ?_);rintro e w2 ⟨rfl,hb2⟩;(first|have hE:=hE.later hb2|have hE:=hE.drew.later hb2|have hE:=(hE.later (bal bR _)).later hb2|have hE:=(hE.later (bal bR _)).drew.later hb2);(first|have hN:=hN.below hb2 hN.lt|have hN:=(Blk.new _ _ _).below hb2 (by simp)|have hN:=(Blk.new _ _ _).drew.below hb2 (by simp)|skip);(first|(have kN:=hN.cell;have qN:=hN.frozen;have zN:=hN.lt;try simp only [heap_drew] at kN qN zN)|skip);have zE:=hE.z;have nA:¬ w.heap.size=w2.heap.size:=(by omega);have nB:¬ w.heap.size+1=w2.heap.size:=(by omega);have nC:¬ w.heap.size+1+1=w2.heap.size:=(by omega))
    | (go_at_call 104;(with_reducible refine (plus_dg x.num y.num _).mono ?_);rintro e w2 ⟨rfl,hb2⟩;(first|have hE:=hE.later hb2|have hE:=hE.drew.later hb2|have hE:=(hE.later (bal bR _)).later hb2|have hE:=(hE.later (bal bR _)).drew.later hb2);(first|have hN:=hN.below hb2 hN.lt|have hN:=(Blk.new _ _ _).below hb2 (by simp)|have hN:=(Blk.new _ _ _).drew.below hb2 (by simp)|skip);(first|(have kN:=hN.cell;have qN:=hN.frozen;have zN:=hN.lt;try simp only [heap_drew] at kN qN zN)|skip);have zE:=hE.z;have nA:¬ w.heap.size=w2.heap.size:=(by omega);have nB:¬ w.heap.size+1=w2.heap.size:=(by omega);have nC:¬ w.heap.size+1+1=w2.heap.size:=(by omega))
    | (go_at_call 103;(with_reducible refine (whole_any (x.num+y.num) _ HL.out).mono ?_);rintro e w2 ⟨rfl,hb2⟩;(first|have hE:=hE.later hb2|have hE:=hE.drew.later hb2|have hE:=(hE.later (bal bR _)).later hb2|have hE:=(hE.later (bal bR _)).drew.later hb2);(first|have hN:=hN.below hb2 hN.lt|have hN:=(Blk.new _ _ _).below hb2 (by simp)|have hN:=(Blk.new _ _ _).drew.below hb2 (by simp)|skip);(first|(have kN:=hN.cell;have qN:=hN.frozen;have zN:=hN.lt;try simp only [heap_drew] at kN qN zN)|skip);have zE:=hE.z;have nA:¬ w.heap.size=w2.heap.size:=(by omega);have nB:¬ w.heap.size+1=w2.heap.size:=(by omega);have nC:¬ w.heap.size+1+1=w2.heap.size:=(by omega)))
 all_goals
  have k5:=hE.blk.cell;have q5:=hE.blk.frozen;have z5:=hE.z;have nW1:¬ w.heap.size+1+1=W.heap.size:=by omega
  have nW2:¬ W.heap.size=w.heap.size+1+1:=by omega
  have nV1:¬ w2.heap.size=w.heap.size+1+1:=by omega
  have nV2:¬ w.heap.size+1+1=w2.heap.size:=by omega
  cases hd:decide (inr (x.num+y.num))
  ·have HF:=hide (clamp_no (of_decide_eq_false hd));go_wp2_with fail
   refine bodyPost_ret (v:=.tuple #[.agg #[.int .i64 0,.int .u64 0],.int .i64 3]) (by simp (maxDischargeDepth:=9) [results,Tryz.results57,go_sem,k5,z5];done) rfl ⟨?_,(by repeat (first|exact hE.bel|refine Below.drew ?_|refine Below.setCell ?_ (by simp;try omega) _|refine bal ?_ _))⟩;rw [HF.out.1,HF.out.2]
  ·have HF:=hide (clamp_yes (of_decide_eq_true hd));have HV:=hide (wv_two (of_decide_eq_true hd));go_wp2_with fail
   refine bodyPost_ret (v:=.tuple #[.agg #[.int .i64 (wv (x.num+y.num)).hi,.int .u64 (wv (x.num+y.num)).lo],.int .i64 0]) (by simp (maxDischargeDepth:=9) [results,Tryz.results57,go_sem,k5,z5];done) rfl ⟨?_,(by repeat (first|exact hE.bel|refine Below.drew ?_|refine Below.setCell ?_ (by simp;try omega) _|refine bal ?_ _))⟩;rw [HF.out.1,HF.out.2,HV.out]
set_option maxRecDepth 100000 in
set_option maxHeartbeats 2000000 in
theorem rsub_neg (x y:I2) (w:World) (hx:x.ok) (hy:y.ok) :
 Calls Tryz.prog 81 #[.agg #[.int .i64 x.hi,.int .u64 x.lo],.agg #[.int .i64 y.hi,.int .u64 y.lo]] w fun e w'=>
  e=.returned (.tuple #[.agg #[.int .i64 (clampI (x.num + -y.num)).hi,.int .u64 (clampI (x.num + -y.num)).lo],.int .i64 (clampE (x.num + -y.num))])∧Below w.heap.size w w':=by
 have HX:=hide hx;have HY:=hide hy;have HL:=hide (sub_lim hx hy);have hE:=TwE.first w x y;clear hx hy
 go_enter Tryz.func81,Tryz.ntmps81
 go_wp2_with fail
 obtain ⟨W,hW,hE,⟨c1,c2,c3,c4⟩⟩:∃ W,(((w.alloc (iblk x)).alloc (iblk y)).alloc (Obj.cells #[Value.int IntKind.i64 0,Value.int IntKind.u64 0] 80))=W∧TwE w x y W∧TwS w x y W:=⟨_,rfl,hE,hE.s⟩;rw [hW];clear hW;have zW:=hE.z
 go_region_held3 (fun w'=>w'.cell? ⟨w.heap.size,0,none⟩=some (.int .i64 x.hi)∧w'.cell? ⟨w.heap.size,1,none⟩=some (.int .u64 x.lo)∧w'.cell? ⟨w.heap.size+1,0,none⟩=some (.int .i64 y.hi)∧w'.cell? ⟨w.heap.size+1,1,none⟩=some (.int .u64 y.lo))
  (first|(with_reducible exact hE.s)|(with_reducible exact hE.drew.s)|(with_reducible exact hE.al _)|(with_reducible exact (hE.later (bal bR _)).drew.s)|((with_reducible refine TwS.set hE.s ?_ _ _);omega)|go_keep)
  (first
    | (go_at_call 105;(with_reducible refine (limbs_any x _ HX.out).mono ?_);rintro e w2 ⟨rfl,hb2⟩;(first|have hE:=hE.later hb2|have hE:=hE.drew.later hb2|have hE:=(hE.later (bal bR _)).later hb2|have hE:=(hE.later (bal bR _)).drew.later hb2);(first|have hN:=hN.below hb2 hN.lt|have hN:=(Blk.new _ _ _).below hb2 (by simp)|have hN:=(Blk.new _ _ _).drew.below hb2 (by simp)|skip);(first|(have kN:=hN.cell;have qN:=hN.frozen;have zN:=hN.lt;try simp only [heap_drew] at kN qN zN)|skip);have zE:=hE.z;have nA:¬ w.heap.size=w2.heap.size:=(by omega);have nB:¬ w.heap.size+1=w2.heap.size:=(by omega);have nC:¬ w.heap.size+1+1=w2.heap.size:=(by omega))
    | (go_at_call 105;(with_reducible refine (limbs_any y _ HY.out).mono ?_);rintro e w2 ⟨rfl,hb2⟩;(first|have hE:=hE.later hb2|have hE:=hE.drew.later hb2|have hE:=(hE.later (bal bR _)).later hb2|have hE:=(hE.later (bal bR _)).drew.later hb2);(first|have hN:=hN.below hb2 hN.lt|have hN:=(Blk.new _ _ _).below hb2 (by simp)|have hN:=(Blk.new _ _ _).drew.below hb2 (by simp)|skip);(first|(have kN:=hN.cell;have qN:=hN.frozen;have zN:=hN.lt;try simp only [heap_drew] at kN qN zN)|skip);have zE:=hE.z;have nA:¬ w.heap.size=w2.heap.size:=(by omega);have nB:¬ w.heap.size+1=w2.heap.size:=(by omega);have nC:¬ w.heap.size+1+1=w2.heap.size:=(by omega))
    | (go_at_call 132;(with_reducible refine (minus_any y.num _).mono ?_);rintro e w2 ⟨rfl,hb2⟩;(first|have hE:=hE.later hb2|have hE:=hE.drew.later hb2|have hE:=(hE.later (bal bR _)).later hb2|have hE:=(hE.later (bal bR _)).drew.later hb2);(first|have hN:=hN.below hb2 hN.lt|have hN:=(Blk.new _ _ _).below hb2 (by simp)|have hN:=(Blk.new _ _ _).drew.below hb2 (by simp)|skip);(first|(have kN:=hN.cell;have qN:=hN.frozen;have zN:=hN.lt;try simp only [heap_drew] at kN qN zN)|skip);have zE:=hE.z;have nA:¬ w.heap.size=w2.heap.size:=(by omega);have nB:¬ w.heap.size+1=w2.heap.size:=(by omega);have nC:¬ w.heap.size+1+1=w2.heap.size:=(by omega))
    | (go_at_call 104;(with_reducible refine (plus_dg x.num (-y.num) _).mono ?_);rintro e w2 ⟨rfl,hb2⟩;(first|have hE:=hE.later hb2|have hE:=hE.drew.later hb2|have hE:=(hE.later (bal bR _)).later hb2|have hE:=(hE.later (bal bR _)).drew.later hb2);(first|have hN:=hN.below hb2 hN.lt|have hN:=(Blk.new _ _ _).below hb2 (by simp)|have hN:=(Blk.new _ _ _).drew.below hb2 (by simp)|skip);(first|(have kN:=hN.cell;have qN:=hN.frozen;have zN:=hN.lt;try simp only [heap_drew] at kN qN zN)|skip);have zE:=hE.z;have nA:¬ w.heap.size=w2.heap.size:=(by omega);have nB:¬ w.heap.size+1=w2.heap.size:=(by omega);have nC:¬ w.heap.size+1+1=w2.heap.size:=(by omega))
    | (go_at_call 103;(with_reducible refine (whole_any (x.num + -y.num) _ HL.out).mono ?_);rintro e w2 ⟨rfl,hb2⟩;(first|have hE:=hE.later hb2|have hE:=hE.drew.later hb2|have hE:=(hE.later (bal bR _)).later hb2|have hE:=(hE.later (bal bR _)).drew.later hb2);(first|have hN:=hN.below hb2 hN.lt|have hN:=(Blk.new _ _ _).below hb2 (by simp)|have hN:=(Blk.new _ _ _).drew.below hb2 (by simp)|skip);(first|(have kN:=hN.cell;have qN:=hN.frozen;have zN:=hN.lt;try simp only [heap_drew] at kN qN zN)|skip);have zE:=hE.z;have nA:¬ w.heap.size=w2.heap.size:=(by omega);have nB:¬ w.heap.size+1=w2.heap.size:=(by omega);have nC:¬ w.heap.size+1+1=w2.heap.size:=(by omega)))
 all_goals
  have k5:=hE.blk.cell;have q5:=hE.blk.frozen;have z5:=hE.z;have nW1:¬ w.heap.size+1+1=W.heap.size:=by omega
  have nW2:¬ W.heap.size=w.heap.size+1+1:=by omega
  have nV1:¬ w2.heap.size=w.heap.size+1+1:=by omega
  have nV2:¬ w.heap.size+1+1=w2.heap.size:=by omega
  cases hd:decide (inr (x.num + -y.num))
  ·have HF:=hide (clamp_no (of_decide_eq_false hd));go_wp2_with fail
   refine bodyPost_ret (v:=.tuple #[.agg #[.int .i64 0,.int .u64 0],.int .i64 3]) (by simp (maxDischargeDepth:=9) [results,Tryz.results81,go_sem,k5,z5];done) rfl ⟨?_,(by repeat (first|exact hE.bel|refine Below.drew ?_|refine Below.setCell ?_ (by simp;try omega) _|refine bal ?_ _))⟩;rw [HF.out.1,HF.out.2]
  ·have HF:=hide (clamp_yes (of_decide_eq_true hd));have HV:=hide (wv_two (of_decide_eq_true hd));go_wp2_with fail
   refine bodyPost_ret (v:=.tuple #[.agg #[.int .i64 (wv (x.num + -y.num)).hi,.int .u64 (wv (x.num + -y.num)).lo],.int .i64 0]) (by simp (maxDischargeDepth:=9) [results,Tryz.results81,go_sem,k5,z5];done) rfl ⟨?_,(by repeat (first|exact hE.bel|refine Below.drew ?_|refine Below.setCell ?_ (by simp;try omega) _|refine bal ?_ _))⟩;rw [HF.out.1,HF.out.2,HV.out]
theorem rsub_any (x y:I2) (w:World) (hx:x.ok) (hy:y.ok) :
 Calls Tryz.prog 81 #[.agg #[.int .i64 x.hi,.int .u64 x.lo],.agg #[.int .i64 y.hi,.int .u64 y.lo]] w fun e w'=>
  e=.returned (.tuple #[.agg #[.int .i64 (clampI (x.num - y.num)).hi,.int .u64 (clampI (x.num - y.num)).lo],.int .i64 (clampE (x.num - y.num))])∧Below w.heap.size w w':=by
 rw [Int.sub_eq_add_neg];exact rsub_neg x y w hx hy
end Go.Proofs.YtacinobmcgcccaaGreatDoor
