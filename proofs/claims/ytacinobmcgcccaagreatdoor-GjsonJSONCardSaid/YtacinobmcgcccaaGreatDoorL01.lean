/- Points: the program's cross, turn, Order, ends, on, Good. -/
import Derived.Test.YtacinobmcgcccaaGreatDoorL00
import Derived.IntWalk
set_option linter.unusedSimpArgs false
set_option linter.unusedVariables false
namespace Go.Proofs.YtacinobmcgcccaaGreatDoor
open Go.RowKit
structure Pt where
 x:Int
 y:Int
def Pt.val (p:Pt):Value:=.agg #[.int .i64 p.x,.int .i64 p.y]
def Pt.enc (p:Pt):List Value:=[.int .i64 p.x,.int .i64 p.y]
theorem Pt.enc_len (p:Pt):p.enc.length=2:=rfl
def Pt.good (p:Pt):Prop:=(-1073741824≤p.x∧p.x≤1073741824) ∧ -1073741824≤p.y∧p.y≤1073741824
instance (p:Pt):Decidable p.good:=inferInstanceAs (Decidable (_∧_))
abbrev pblk (x y:Int):Obj:=Obj.cells #[Value.int IntKind.i64 x,Value.int IntKind.i64 y] 56
def crossV (a b c:Pt):Int:=(b.x - a.x) * (c.y - a.y) - (b.y - a.y) * (c.x - a.x)
theorem mul_le_sq {u v L:Int} (hu:-L≤u) (hu':u≤L) (hv:-L≤v) (hv':v≤L):-(L * L)≤u * v∧u * v≤L * L:=by
 have h:(u * v).natAbs≤(L * L).natAbs:=by
  rw [Int.natAbs_mul,Int.natAbs_mul];exact Nat.mul_le_mul (by omega) (by omega)
 have hL:0≤L * L:=Int.mul_nonneg (by omega) (by omega);omega
theorem cross_le {u v s t L:Int} (hu:-L≤u) (hu':u≤L) (hv:-L≤v) (hv':v≤L) (hs:-L≤s) (hs':s≤L) (ht:-L≤t) (ht':t≤L)
 (h1:-L≤u - t) (h1':u - t≤L) (h2:-L≤s - v) (h2':s - v≤L):u * v - s * t≤L * L:=by
 have hL:0≤L:=by omega
 have huv:=(mul_le_sq hu hu' hv hv').2;rcases Int.le_total 0 s with s0|s0 <;> rcases Int.le_total 0 t with t0|t0
 ·have:=Int.mul_nonneg s0 t0;omega
 ·-- s≥0,t≤0: -s t=s * (-t)
  rcases Int.le_total 0 u with u0|u0
  ·-- u≤L+t
   have a1:u * v≤u * L:=Int.mul_le_mul_of_nonneg_left hv' u0;have a2:u * L≤(L+t) * L:=Int.mul_le_mul_of_nonneg_right (by omega) hL;have a3:s * (-t)≤L * (-t):=Int.mul_le_mul_of_nonneg_right hs' (by omega);have e1:(L+t) * L=L * L+t * L:=by rw [Int.add_mul]
   have e2:s * (-t) = -(s * t):=by rw [Int.mul_neg]
   have e3:L * (-t) = -(t * L):=by rw [Int.mul_neg,Int.mul_comm]
   omega
  ·rcases Int.le_total 0 v with v0|v0
   ·have a0:u * v≤0:=by have:=Int.mul_nonneg (show 0 ≤ -u by omega) v0;rw [Int.neg_mul] at this;omega
    have a3:=(mul_le_sq (L:=L) hs hs' (show -L ≤ -t by omega) (by omega)).2;have e2:s * (-t) = -(s * t):=by rw [Int.mul_neg]
    omega
   ·-- v≤0: -v≤L - s
    have a1:(-u) * (-v)≤L * (-v):=Int.mul_le_mul_of_nonneg_right (by omega) (by omega);have a2:L * (-v)≤L * (L - s):=Int.mul_le_mul_of_nonneg_left (by omega) hL;have a3:s * (-t)≤s * L:=Int.mul_le_mul_of_nonneg_left (by omega) s0;have e0:(-u) * (-v)=u * v:=by rw [Int.neg_mul_neg]
    have e1:L * (L - s)=L * L - L * s:=by rw [Int.mul_sub]
    have e2:s * (-t) = -(s * t):=by rw [Int.mul_neg]
    have e3:s * L=L * s:=Int.mul_comm _ _;omega
 ·-- s≤0,t≥0
  rcases Int.le_total 0 v with v0|v0
  ·rcases Int.le_total 0 u with u0|u0
   ·-- v≤L+s
    have a1:u * v≤L * v:=Int.mul_le_mul_of_nonneg_right hu' v0;have a2:L * v≤L * (L+s):=Int.mul_le_mul_of_nonneg_left (by omega) hL;have a3:(-s) * t≤(-s) * L:=Int.mul_le_mul_of_nonneg_left ht' (by omega);have e1:L * (L+s)=L * L+L * s:=by rw [Int.mul_add]
    have e2:(-s) * t = -(s * t):=by rw [Int.neg_mul]
    have e3:(-s) * L = -(L * s):=by rw [Int.neg_mul,Int.mul_comm]
    omega
   ·have a0:u * v≤0:=by have:=Int.mul_nonneg (show 0 ≤ -u by omega) v0;rw [Int.neg_mul] at this;omega
    have a3:=(mul_le_sq (L:=L) (show -L ≤ -s by omega) (by omega) ht ht').2;have e2:(-s) * t = -(s * t):=by rw [Int.neg_mul]
    omega
  ·rcases Int.le_total 0 u with u0|u0
   ·have a0:u * v≤0:=by have:=Int.mul_nonneg u0 (show 0 ≤ -v by omega);rw [Int.mul_neg] at this;omega
    have a3:=(mul_le_sq (L:=L) (show -L ≤ -s by omega) (by omega) ht ht').2;have e2:(-s) * t = -(s * t):=by rw [Int.neg_mul]
    omega
   ·-- u≤0: t≤L+u
    have a1:(-u) * (-v)≤(-u) * L:=Int.mul_le_mul_of_nonneg_left (by omega) (by omega);have a3:(-s) * t≤L * t:=Int.mul_le_mul_of_nonneg_right (by omega) t0;have a4:L * t≤L * (L+u):=Int.mul_le_mul_of_nonneg_left (by omega) hL;have e0:(-u) * (-v)=u * v:=by rw [Int.neg_mul_neg]
    have e1:L * (L+u)=L * L+L * u:=by rw [Int.mul_add]
    have e2:(-s) * t = -(s * t):=by rw [Int.neg_mul]
    have e3:(-u) * L = -(L * u):=by rw [Int.neg_mul,Int.mul_comm]
    omega
 ·have:=Int.mul_nonneg (show 0 ≤ -s by omega) (show 0 ≤ -t by omega);rw [Int.neg_mul_neg] at this;omega
theorem cross_bound {a b c:Pt} (ha:a.good) (hb:b.good) (hc:c.good):-4611686018427387904≤crossV a b c∧crossV a b c≤4611686018427387904:=by
 obtain ⟨⟨a1,a2⟩,a3,a4⟩:=ha;obtain ⟨⟨b1,b2⟩,b3,b4⟩:=hb;obtain ⟨⟨c1,c2⟩,c3,c4⟩:=hc;unfold crossV;have h1:=cross_le (u:=b.x - a.x) (v:=c.y - a.y) (s:=b.y - a.y) (t:=c.x - a.x) (L:=2147483648) (by omega) (by omega) (by omega) (by omega) (by omega) (by omega) (by omega) (by omega) (by omega) (by omega) (by omega) (by omega);have h2:=cross_le (u:=b.y - a.y) (v:=c.x - a.x) (s:=b.x - a.x) (t:=c.y - a.y) (L:=2147483648) (by omega) (by omega) (by omega) (by omega) (by omega) (by omega) (by omega) (by omega) (by omega) (by omega) (by omega) (by omega);omega
theorem prod_bound {a b c:Pt} (ha:a.good) (hb:b.good) (hc:c.good):(-4611686018427387904≤(b.x - a.x) * (c.y - a.y)∧(b.x - a.x) * (c.y - a.y)≤4611686018427387904) ∧ -4611686018427387904≤(b.y - a.y) * (c.x - a.x)∧(b.y - a.y) * (c.x - a.x)≤4611686018427387904:=by
 obtain ⟨⟨a1,a2⟩,a3,a4⟩:=ha;obtain ⟨⟨b1,b2⟩,b3,b4⟩:=hb;obtain ⟨⟨c1,c2⟩,c3,c4⟩:=hc;have h1:=mul_le_sq (u:=b.x - a.x) (v:=c.y - a.y) (L:=2147483648) (by omega) (by omega) (by omega) (by omega);have h2:=mul_le_sq (u:=b.y - a.y) (v:=c.x - a.x) (L:=2147483648) (by omega) (by omega) (by omega) (by omega);omega

set_option maxHeartbeats 400000 in
theorem cross_any (a b c:Pt) (w:World) (ha:a.good) (hb:b.good) (hc:c.good) :
 Calls Tryz.prog 166 #[.agg #[.int .i64 a.x,.int .i64 a.y],.agg #[.int .i64 b.x,.int .i64 b.y],.agg #[.int .i64 c.x,.int .i64 c.y]] w fun e w'=>e=.returned (.int .i64 (crossV a b c))∧Below w.heap.size w w':=by
 have h1:=cross_bound ha hb hc;obtain ⟨⟨p1,p2⟩,p3,p4⟩:=prod_bound ha hb hc;unfold crossV at h1;obtain ⟨⟨a1,a2⟩,a3,a4⟩:=ha;obtain ⟨⟨b1,b2⟩,b3,b4⟩:=hb;obtain ⟨⟨c1,c2⟩,c3,c4⟩:=hc;obtain ⟨q1,q2⟩:=h1
 go_enter Tryz.func166,Tryz.ntmps166
 go_wp2
 go_ret;exact ⟨rfl,bal (bal (bal bR _) _) _⟩

def turnV (a b c:Pt):Int:=cmpOf (crossV a b c) 0
set_option maxHeartbeats 400000 in
theorem turn_any (a b c:Pt) (w:World) (ha:a.good) (hb:b.good) (hc:c.good) :
 Calls Tryz.prog 170 #[.agg #[.int .i64 a.x,.int .i64 a.y],.agg #[.int .i64 b.x,.int .i64 b.y],.agg #[.int .i64 c.x,.int .i64 c.y]] w fun e w'=>e=.returned (.int .i64 (turnV a b c))∧Below w.heap.size w w':=by
 go_enter Tryz.func170,Tryz.ntmps170
 go_wp2_with fail
 refine (cross_any a b c _ ha hb hc).mono ?_;rintro e w1 ⟨rfl,hb1⟩;have HB1:=hide (btr (bal (bal (bal (Below.refl w.heap.size w) (pblk a.x a.y)) (pblk b.x b.y)) (pblk c.x c.y)) hb1);clear hb1;go_wp2_with fail
 refine (cmpc_any _ _ _).mono ?_;rintro e w2 ⟨rfl,rfl⟩
 go_wp2
 go_ret;exact ⟨rfl,HB1.out⟩

def orderV (a b:Pt):Int:=orOf (cmpOf a.x b.x) (cmpOf a.y b.y)
def isTwo (x y:Int) (v:Value) (w:World):Prop:=∃ g,v=.slice (some ⟨g,0,none⟩) 2 2∧g<w.heap.size∧w.cell? ⟨g,0,none⟩=some (.int .i64 x)∧w.cell? ⟨g,1,none⟩=some (.int .i64 y)
theorem isTwo.mono {x y:Int} {v:Value} {w w':World} (h:isTwo x y v w) (hb:Below w.heap.size w w'):isTwo x y v w':=by
 obtain ⟨g,h1,h2,h3,h4⟩:=h;exact ⟨g,h1,nLl h2 hb.size,(hb.cell (p:=⟨g,0,none⟩) h2).trans h3,(hb.cell (p:=⟨g,1,none⟩) h2).trans h4⟩
set_option maxRecDepth 100000 in
set_option maxHeartbeats 400000 in
theorem order_any (a b:Pt) (w:World) :
 Calls Tryz.prog 115 #[.agg #[.int .i64 a.x,.int .i64 a.y],.agg #[.int .i64 b.x,.int .i64 b.y]] w fun e w'=>e=.returned (.int .i64 (orderV a b))∧Below w.heap.size w w':=by
 have K2:Blk ((w.alloc (pblk a.x a.y)).alloc (pblk b.x b.y)) w.heap.size 56 #[Value.int IntKind.i64 a.x,Value.int IntKind.i64 a.y]:=(Blk.new w _ _).alloc _;have K3:Blk ((w.alloc (pblk a.x a.y)).alloc (pblk b.x b.y)) (w.heap.size+1) 56 #[Value.int IntKind.i64 b.x,Value.int IntKind.i64 b.y]:=by
  have:=Blk.new (w.alloc (pblk a.x a.y)) 56 #[Value.int IntKind.i64 b.x,Value.int IntKind.i64 b.y];simpa using this
 have HB:=hide (bal (bal (Below.refl w.heap.size w) (pblk a.x a.y)) (pblk b.x b.y))
 go_enter Tryz.func115,Tryz.ntmps115
 go_wp2_with fail
 obtain ⟨W,hW,HBW,HK2,HK3⟩:∃ W,(w.alloc (Obj.cells #[Value.int IntKind.i64 a.x,Value.int IntKind.i64 a.y] 56)).alloc (Obj.cells #[Value.int IntKind.i64 b.x,Value.int IntKind.i64 b.y] 56)=W∧Hid (Below w.heap.size w W)∧Hid (Blk W w.heap.size 56 #[Value.int IntKind.i64 a.x,Value.int IntKind.i64 a.y])∧Hid (Blk W (w.heap.size+1) 56 #[Value.int IntKind.i64 b.x,Value.int IntKind.i64 b.y]):=⟨_,rfl,HB,K2,K3⟩;rw [hW];clear hW K2 K3 HB;refine wp_region_facts (by kernel_rfl) (by kernel_rfl) 17
  [⟨5,fun v _=>v=.pointer (some ⟨w.heap.size,0,none⟩)⟩,
   ⟨6,fun v _=>v=.int .i64 a.x⟩,
   ⟨7,fun v _=>v=.pointer (some ⟨w.heap.size+1,0,none⟩)⟩,
   ⟨8,fun v _=>v=.int .i64 b.x⟩,
   ⟨9,fun v _=>v=.int .i64 (cmpOf a.x b.x)⟩,
   ⟨10,fun v _=>v=.pointer (some ⟨w.heap.size,1,none⟩)⟩,
   ⟨11,fun v _=>v=.int .i64 a.y⟩,
   ⟨12,fun v _=>v=.pointer (some ⟨w.heap.size+1,1,none⟩)⟩,
   ⟨13,fun v _=>v=.int .i64 b.y⟩,
   ⟨14,fun v _=>v=.int .i64 (cmpOf a.y b.y)⟩,
   ⟨15,isTwo (cmpOf a.x b.x) (cmpOf a.y b.y)⟩,
   ⟨16,fun v _=>v=.int .i64 (orderV a b)⟩,
   ⟨4,fun v _=>v=.int .i64 (orderV a b)⟩] (by kernel_rfl) rfl rfl ?_ ?_ ?_
 ·intro e he v w w' _ hb hv;simp only [List.mem_cons,List.not_mem_nil,or_false] at he;rcases he with rfl|rfl|rfl|rfl|rfl|rfl|rfl|rfl|rfl|rfl|rfl|rfl|rfl
  all_goals first|exact hv|exact isTwo.mono hv hb
 ·refine ⟨?_,?_,?_,?_,?_,?_,?_,?_,?_,?_,?_,?_,?_,trivial⟩
  ·intro ac w3 hg hd K hK;have k2:=hg.kp 2 (by simp);(try simp [Act.eval] at k2);go_simp;exact hK _ _ bR rfl
  ·intro ac w3 hg hd K hK;have kc:=(HK2.out.below hg.hb HK2.out.lt).cell;have f0:=hd ⟨0,.data⟩ (by simp) rfl _ rfl;(try simp [Act.eval] at f0);go_simp;exact hK _ _ bR rfl
  ·intro ac w3 hg hd K hK;have k3:=hg.kp 3 (by simp);(try simp [Act.eval] at k3);go_simp;exact hK _ _ bR rfl
  ·intro ac w3 hg hd K hK;have kc:=(HK3.out.below hg.hb HK3.out.lt).cell;have f2:=hd ⟨2,.data⟩ (by simp) rfl _ rfl;(try simp [Act.eval] at f2);go_simp;exact hK _ _ bR rfl
  ·intro ac w3 hg hd K hK;have f1:=hd ⟨1,.data⟩ (by simp) rfl _ rfl;have f3:=hd ⟨3,.data⟩ (by simp) rfl _ rfl;simp [Act.eval] at f1 f3;go_simp;refine (cmpc_any _ _ _).mono ?_;rintro e w4 ⟨rfl,rfl⟩;exact hK (.int .i64 (cmpOf a.x b.x)) _ bR rfl
  ·intro ac w3 hg hd K hK;have k2:=hg.kp 2 (by simp);(try simp [Act.eval] at k2);go_simp;exact hK _ _ bR rfl
  ·intro ac w3 hg hd K hK;have kc:=(HK2.out.below hg.hb HK2.out.lt).cell;have f5:=hd ⟨5,.data⟩ (by simp) rfl _ rfl;(try simp [Act.eval] at f5);go_simp;exact hK _ _ bR rfl
  ·intro ac w3 hg hd K hK;have k3:=hg.kp 3 (by simp);(try simp [Act.eval] at k3);go_simp;exact hK _ _ bR rfl
  ·intro ac w3 hg hd K hK;have kc:=(HK3.out.below hg.hb HK3.out.lt).cell;have f7:=hd ⟨7,.data⟩ (by simp) rfl _ rfl;(try simp [Act.eval] at f7);go_simp;exact hK _ _ bR rfl
  ·intro ac w3 hg hd K hK;have f1:=hd ⟨6,.data⟩ (by simp) rfl _ rfl;have f3:=hd ⟨8,.data⟩ (by simp) rfl _ rfl;simp [Act.eval] at f1 f3;go_simp;refine (cmpc_any _ _ _).mono ?_;rintro e w4 ⟨rfl,rfl⟩;exact hK (.int .i64 (cmpOf a.y b.y)) _ bR rfl
  ·intro ac w3 hg hd K hK;have f1:=hd ⟨4,.data⟩ (by simp) rfl _ rfl;have f3:=hd ⟨9,.data⟩ (by simp) rfl _ rfl;simp [Act.eval] at f1 f3;go_simp;exact hK (.slice (some ⟨w3.heap.size,0,none⟩) 2 2) _ (bal bR _) ⟨_,rfl,by simp,by simp,by simp⟩
  ·intro ac w3 hg hd K hK;obtain ⟨g,f1,f2,f3,f4⟩:=hd ⟨10,.data⟩ (by simp) rfl _ rfl;simp [Act.eval] at f1;go_simp;refine (or_any _ _ g _ f3 f4).mono ?_;rintro e w4 ⟨rfl,rfl⟩;exact hK (.int .i64 (orderV a b)) _ bR rfl
  ·intro ac w3 hg hd K hK;exact op_assign _ rfl (hK _ _ bR (hd ⟨11,.data⟩ (by simp) rfl _ rfl))
 ·intro f w3 hb3 hall;have h4:f 4=.int .i64 (orderV a b):=hall ⟨4,fun v _=>v=.int .i64 (orderV a b)⟩ (by simp);simp only [fillF,List.map_cons,List.map_nil,List.foldl_cons,List.foldl_nil,Act.put,List.setIfInBounds_toArray,List.set_cons_zero,List.set_cons_succ];rw [h4];have HB3:=hide (btr HBW.out hb3);clear h4 hall hb3
  go_wp2
  go_ret;exact ⟨rfl,HB3.out⟩

def endsV (a b:Pt):Pt × Pt:=if 0<orderV a b then (b,a) else (a,b)
set_option maxRecDepth 100000 in
set_option maxHeartbeats 400000 in
theorem ends_any (a b:Pt) (w:World) :
 Calls Tryz.prog 199 #[.agg #[.int .i64 a.x,.int .i64 a.y],.agg #[.int .i64 b.x,.int .i64 b.y]] w fun e w'=>e=.returned (.tuple #[.agg #[.int .i64 (endsV a b).1.x,.int .i64 (endsV a b).1.y],.agg #[.int .i64 (endsV a b).2.x,.int .i64 (endsV a b).2.y]])∧Below w.heap.size w w':=by
 have HB0:=hide (bal (bal (bal (bal (Below.refl w.heap.size w) (pblk a.x a.y)) (pblk b.x b.y)) (pblk 0 0)) (pblk 0 0));have K2:Blk ((((w.alloc (pblk a.x a.y)).alloc (pblk b.x b.y)).alloc (pblk 0 0)).alloc (pblk 0 0)) w.heap.size 56 #[Value.int IntKind.i64 a.x,Value.int IntKind.i64 a.y]:=(((Blk.new w _ _).alloc _).alloc _).alloc _;have K3:Blk ((((w.alloc (pblk a.x a.y)).alloc (pblk b.x b.y)).alloc (pblk 0 0)).alloc (pblk 0 0)) (w.heap.size+1) 56 #[Value.int IntKind.i64 b.x,Value.int IntKind.i64 b.y]:=by
  have:=((Blk.new (w.alloc (pblk a.x a.y)) 56 #[Value.int IntKind.i64 b.x,Value.int IntKind.i64 b.y]).alloc (pblk 0 0)).alloc (pblk 0 0);simpa using this
 have K4:Blk ((((w.alloc (pblk a.x a.y)).alloc (pblk b.x b.y)).alloc (pblk 0 0)).alloc (pblk 0 0)) (w.heap.size+1+1) 56 #[Value.int IntKind.i64 0,Value.int IntKind.i64 0]:=by
  have:=(Blk.new ((w.alloc (pblk a.x a.y)).alloc (pblk b.x b.y)) 56 #[Value.int IntKind.i64 0,Value.int IntKind.i64 0]).alloc (pblk 0 0);simpa using this
 have K5:Blk ((((w.alloc (pblk a.x a.y)).alloc (pblk b.x b.y)).alloc (pblk 0 0)).alloc (pblk 0 0)) (w.heap.size+1+1+1) 56 #[Value.int IntKind.i64 0,Value.int IntKind.i64 0]:=by
  have:=Blk.new (((w.alloc (pblk a.x a.y)).alloc (pblk b.x b.y)).alloc (pblk 0 0)) 56 #[Value.int IntKind.i64 0,Value.int IntKind.i64 0];simpa using this
 by_cases ho:0<orderV a b
 ·have ho1:decide (0<orderV a b)=true:=by simp [ho]
  have he:endsV a b=(b,a):=by unfold endsV;rw [if_pos ho]
  rw [he];clear ho he
  go_enter Tryz.func199,Tryz.ntmps199
  go_wp2_with fail
  refine (order_any a b _).mono ?_;rintro e w1 ⟨rfl,hb1⟩;have HB1:=hide (btr HB0.out hb1);have k2:=(K2.below hb1 K2.lt).cell;have k3:=(K3.below hb1 K3.lt).cell;have k4:=(K4.below hb1 K4.lt).cell;have k5:=(K5.below hb1 K5.lt).cell;have q4:=(K4.below hb1 K4.lt).frozen;have q5:=(K5.below hb1 K5.lt).frozen;have z5:=(K5.below hb1 K5.lt).lt;clear hb1 K2 K3 K4 K5;go_wp2_with fail
  go_region
  all_goals
   go_wp2
   refine bodyPost_ret (v:=.tuple #[.agg #[.int .i64 b.x,.int .i64 b.y],.agg #[.int .i64 a.x,.int .i64 a.y]]) (by simp [results,Tryz.results199,go_sem,k4,k5]) rfl ⟨rfl,?_⟩;exact ((((HB1.out.setCell (by simp;omega) _).setCell (by simp;omega) _).setCell (by simp;omega) _).setCell (by simp;omega) _).drew
 ·have ho1:decide (0<orderV a b)=false:=by simp [ho]
  have he:endsV a b=(a,b):=by unfold endsV;rw [if_neg ho]
  rw [he];clear ho he
  go_enter Tryz.func199,Tryz.ntmps199
  go_wp2_with fail
  refine (order_any a b _).mono ?_;rintro e w1 ⟨rfl,hb1⟩;have HB1:=hide (btr HB0.out hb1);have k2:=(K2.below hb1 K2.lt).cell;have k3:=(K3.below hb1 K3.lt).cell;have k4:=(K4.below hb1 K4.lt).cell;have k5:=(K5.below hb1 K5.lt).cell;have q4:=(K4.below hb1 K4.lt).frozen;have q5:=(K5.below hb1 K5.lt).frozen;have z5:=(K5.below hb1 K5.lt).lt;clear hb1 K2 K3 K4 K5;go_wp2_with fail
  go_region
  all_goals
   go_wp2
   refine bodyPost_ret (v:=.tuple #[.agg #[.int .i64 a.x,.int .i64 a.y],.agg #[.int .i64 b.x,.int .i64 b.y]]) (by simp [results,Tryz.results199,go_sem,k4,k5]) rfl ⟨rfl,?_⟩;exact ((((HB1.out.setCell (by simp;omega) _).setCell (by simp;omega) _).setCell (by simp;omega) _).setCell (by simp;omega) _).drew

/-! Boxes: the parameters' own variables -/
def pcs (a:Pt):Array Value:=#[Value.int IntKind.i64 a.x,Value.int IntKind.i64 a.y]
abbrev PB (W:World) (g:Nat) (a:Pt):Prop:=Blk W g 56 #[Value.int IntKind.i64 a.x,Value.int IntKind.i64 a.y]
def Box2 (W:World) (g:Nat) (a b:Pt):Prop:=PB W g a∧PB W (g+1) b
def Box3 (W:World) (g:Nat) (a b c:Pt):Prop:=PB W g a∧PB W (g+1) b∧PB W (g+1+1) c
def Box4 (W:World) (g:Nat) (a b c d:Pt):Prop:=PB W g a∧PB W (g+1) b∧PB W (g+1+1) c∧PB W (g+1+1+1) d
theorem PB.later {W W':World} {g:Nat} {a:Pt} (h:PB W g a) (hb:Below W.heap.size W W'):PB W' g a:=Blk.below h hb (Blk.lt h)
theorem Box2.later {W W':World} {g:Nat} {a b:Pt} (h:Box2 W g a b) (hb:Below W.heap.size W W'):Box2 W' g a b:=⟨h.1.later hb,h.2.later hb⟩
theorem Box3.later {W W':World} {g:Nat} {a b c:Pt} (h:Box3 W g a b c) (hb:Below W.heap.size W W'):Box3 W' g a b c:=⟨h.1.later hb,h.2.1.later hb,h.2.2.later hb⟩
theorem Box4.later {W W':World} {g:Nat} {a b c d:Pt} (h:Box4 W g a b c d) (hb:Below W.heap.size W W'):Box4 W' g a b c d:=⟨h.1.later hb,h.2.1.later hb,h.2.2.1.later hb,h.2.2.2.later hb⟩
theorem PB.new (w:World) (a:Pt):PB (w.alloc (pblk a.x a.y)) w.heap.size a:=Blk.new _ _ _
theorem PB.al {W:World} {g:Nat} {a:Pt} (h:PB W g a) (o:Obj):PB (W.alloc o) g a:=Blk.alloc h o
theorem Box2.new (w:World) (a b:Pt):Box2 ((w.alloc (pblk a.x a.y)).alloc (pblk b.x b.y)) w.heap.size a b:=
 ⟨(PB.new w a).al _,by have:=PB.new (w.alloc (pblk a.x a.y)) b;simpa using this⟩
theorem Box3.new (w:World) (a b c:Pt):Box3 (((w.alloc (pblk a.x a.y)).alloc (pblk b.x b.y)).alloc (pblk c.x c.y)) w.heap.size a b c:=
 ⟨(Box2.new w a b).1.al _,(Box2.new w a b).2.al _,by have:=PB.new ((w.alloc (pblk a.x a.y)).alloc (pblk b.x b.y)) c;simpa using this⟩
theorem Box4.new (w:World) (a b c d:Pt):Box4 ((((w.alloc (pblk a.x a.y)).alloc (pblk b.x b.y)).alloc (pblk c.x c.y)).alloc (pblk d.x d.y)) w.heap.size a b c d:=
 ⟨(Box3.new w a b c).1.al _,(Box3.new w a b c).2.1.al _,(Box3.new w a b c).2.2.al _,by have:=PB.new (((w.alloc (pblk a.x a.y)).alloc (pblk b.x b.y)).alloc (pblk c.x c.y)) d;simpa using this⟩
theorem bel2 (w:World) (a b:Pt):Below w.heap.size w ((w.alloc (pblk a.x a.y)).alloc (pblk b.x b.y)):=bal (bal bR _) _
theorem bel3 (w:World) (a b c:Pt):Below w.heap.size w (((w.alloc (pblk a.x a.y)).alloc (pblk b.x b.y)).alloc (pblk c.x c.y)):=bal (bel2 _ _ _) _
theorem bel4 (w:World) (a b c d:Pt):Below w.heap.size w ((((w.alloc (pblk a.x a.y)).alloc (pblk b.x b.y)).alloc (pblk c.x c.y)).alloc (pblk d.x d.y)):=bal (bel3 _ _ _ _) _

theorem Box3.lts {W:World} {g:Nat} {a b c:Pt} (h:Box3 W g a b c):(g<W.heap.size∧g+1<W.heap.size∧g+1+1<W.heap.size)∧g<W.heap.size+1∧g+1<W.heap.size+1∧g+1+1<W.heap.size+1:=by
 have:=Blk.lt h.2.2;omega
theorem Box4.lts {W:World} {g:Nat} {a b c d:Pt} (h:Box4 W g a b c d):(g<W.heap.size∧g+1<W.heap.size∧g+1+1<W.heap.size∧g+1+1+1<W.heap.size)∧g<W.heap.size+1∧g+1<W.heap.size+1∧g+1+1<W.heap.size+1∧g+1+1+1<W.heap.size+1:=by
 have:=Blk.lt h.2.2.2;omega
def onV (a b p:Pt):Bool:=(turnV a b p == 0)&&(decide (orderV (endsV a b).1 p≤0)&&decide (orderV p (endsV a b).2≤0))
set_option maxRecDepth 100000 in
set_option maxHeartbeats 1000000 in
theorem on_any (a b p:Pt) (w:World) (ha:a.good) (hb:b.good) (hp:p.good) :
 Calls Tryz.prog 172 #[.agg #[.int .i64 a.x,.int .i64 a.y],.agg #[.int .i64 b.x,.int .i64 b.y],.agg #[.int .i64 p.x,.int .i64 p.y]] w fun e w'=>e=.returned (.bool (onV a b p))∧Below w.heap.size w w':=by
 have HB0:=hide (bel3 w a b p);have HX0:=hide (Box3.new w a b p);generalize hlh:endsV a b=lh;obtain ⟨lo,hi⟩:=lh;have HV:Hid (∀ t1 t2 t3:Bool,(turnV a b p == 0)=t1→decide (orderV lo p≤0)=t2→decide (orderV p hi≤0)=t3→onV a b p=(t1&&(t2&&t3))):=fun t1 t2 t3 h1 h2 h3=>by unfold onV;rw [hlh,h1,h2,h3]
 go_enter Tryz.func172,Tryz.ntmps172
 go_wp2_with fail
 refine (ends_any a b _).mono ?_;rintro e w1 ⟨rfl,hb1⟩;rw [hlh];simp only;have HB1:=hide (btr HB0.out hb1);have HX1:=hide (HX0.out.later hb1);have HB2:=hide (btr HB1.out (bel2 w1 lo hi));have HX2:=hide (HX1.out.later (bel2 w1 lo hi));have HL2:=hide (Box2.new w1 lo hi);clear hb1 hlh;obtain ⟨x3,x4,x5⟩:=HX1.out;have k3:=x3.cell;have k4:=x4.cell;have k5:=x5.cell;obtain ⟨⟨z1,z2,z3⟩,z4,z5,z6⟩:=HX1.out.lts;clear x3 x4 x5;go_wp2_with fail
 refine (turn_any a b p _ ha hb hp).mono ?_;rintro e w3 ⟨rfl,hb3⟩;have HB3:=hide (btr HB2.out hb3);have HX3:=hide (HX2.out.later hb3);have HL3:=hide (HL2.out.later hb3);clear hb3 k3 k4 k5 z1 z2 z3 z4 z5 z6;cases h1:(turnV a b p == 0)
 ·have HQ:=hide (HV.out _ (decide (orderV lo p≤0)) (decide (orderV p hi≤0)) h1 rfl rfl)
  go_wp2
  go_ret;exact ⟨ret_bool (by rw [HQ.out];rfl),HB3.out⟩
 ·have H1:=hide h1;obtain ⟨x3,x4,x5⟩:=HX3.out;obtain ⟨y6,y7⟩:=HL3.out;have k5:=x5.cell;have k6:=y6.cell;clear x3 x4 x5 y6 y7;go_wp2_with fail
  refine (order_any lo p _).mono ?_;rintro e w4 ⟨rfl,hb4⟩;have HB4:=hide (btr HB3.out hb4);have HX4:=hide (HX3.out.later hb4);have HL4:=hide (HL3.out.later hb4);clear hb4 k5 k6;cases h2:decide (orderV lo p≤0)
  ·have HQ:=hide (HV.out _ _ (decide (orderV p hi≤0)) H1.out h2 rfl)
   go_wp2
   go_ret;exact ⟨ret_bool (by rw [HQ.out];rfl),HB4.out⟩
  ·have H2:=hide h2;obtain ⟨x3,x4,x5⟩:=HX4.out;obtain ⟨y6,y7⟩:=HL4.out;have k5:=x5.cell;have k7:=y7.cell;clear x3 x4 x5 y6 y7;go_wp2_with fail
   refine (order_any p hi _).mono ?_;rintro e w5 ⟨rfl,hb5⟩;have HB5:=hide (btr HB4.out hb5);have HQ:=hide (HV.out _ _ _ H1.out H2.out rfl);clear hb5 k5 k7
   go_wp2
   go_ret;exact ⟨ret_bool (by rw [HQ.out];rfl),HB5.out⟩
abbrev PR (w:World) (B:Nat) (A:Option Addr) (n:Nat) (l:List Pt):Prop:=Sl 2 Pt.enc w B A n l
theorem PR.at {w:World} {B:Nat} {A:Option Addr} {n:Nat} {l:List Pt} (h:PR w B A n l) (hn:0<n) :
 ∃ b o,A=some ⟨b,o,none⟩∧b<B ∧ ∀ j (hj:j<l.length),w.cell? ⟨b,o+j * 2,none⟩=some (.int .i64 l[j].x)∧w.cell? ⟨b,o+j * 2+1,none⟩=some (.int .i64 l[j].y):=by
 obtain ⟨b,o,hA,hB,hc⟩:=Sl.at h Pt.enc_len (by omega) hn;exact ⟨b,o,hA,hB,fun j hj=>⟨hc j hj 0 _ rfl,hc j hj 1 _ rfl⟩⟩
def goodAll (l:List Pt):Bool:=l.all fun p=>decide p.good
theorem goodAll_no {l:List Pt} {k:Nat} (hk:k<l.length) (h:¬ l[k].good):goodAll l=false:=by
 unfold goodAll;rw [List.all_eq_false];exact ⟨l[k],List.getElem_mem hk,by simpa using h⟩
theorem goodAll_yes {l:List Pt} (h:∀ i (hi:i<l.length),l[i].good):goodAll l=true:=by
 unfold goodAll;rw [List.all_eq_true];intro p hp;obtain ⟨i,hi,rfl⟩:=List.getElem_of_mem hp;simpa using h i hi

set_option maxRecDepth 100000 in
set_option maxHeartbeats 1000000 in
theorem good_any (l:List Pt) (A:Option Addr) (n c:Nat) (w:World) (hr:PR w w.heap.size A n l) (hn:n≤4611686018427387904) :
 Calls Tryz.prog 93 #[.slice A n c] w fun e w'=>e=.returned (.bool (goodAll l))∧Below w.heap.size w w':=by
 go_enter Tryz.func93,Tryz.ntmps93
 go_wp2
 go_loopw [7] (fun i wr=>∃ k:Nat,k≤n∧i=.int .i64 k∧(∀ i (hi:i<l.length),i<k→l[i].good)∧Below w.heap.size w wr) (fun i _=>n - (intOf i).toNat)
 case atStart=>exact ⟨0,Nat.zero_le _,rfl,fun i h=>by omega,Below.refl _ _⟩
 case round=>
  obtain ⟨k,hk,rfl,hok,hb⟩:=hrel;have HB:=hide hb;have HOK:=hide hok;have hl:=hr.len;by_cases hlt:k<n
  ·obtain ⟨b,o,rfl,hbl,hc⟩:=PR.at (hr.below hb) (by omega);have hkl:k<l.length:=by omega
   obtain ⟨c0,c1⟩:=hc k hkl;have hbl2:b<wr.heap.size:=by have:=hb.size;omega
   have HBE:=hide (btr hb (bal (Below.refl wr.heap.size wr) (pblk l[k].x l[k].y)));have HST:Hid (l[k].good → ∀ i (hi:i<l.length),i<k+1→l[i].good):=fun h i hi h1=>by
    rcases Nat.lt_succ_iff_lt_or_eq.1 h1 with h2|rfl
    ·exact hok i hi h2
    ·exact h
   have HNO:=hide (goodAll_no hkl);have HL:=hide hl;clear hc hb hok hl
   go_wp2
   all_goals first
    | (go_ret;exact ⟨ret_bool (by rw [HNO.out (by unfold Pt.good;omega)]),HBE.out⟩)
    | (go_roundw
       case rel=>exact ⟨k+1,by omega,by go_num,HST.out (by unfold Pt.good;omega),HBE.out⟩
       case measure=>simp [intOf];omega)
  ·clear hb hok
   go_wp2
   go_ret;exact ⟨ret_bool (by rw [goodAll_yes (fun i hi=>HOK.out i hi (by omega))]),HB.out⟩

set_option maxRecDepth 100000 in
set_option maxHeartbeats 1000000 in
theorem rgood_any (l:List Pt) (A:Option Addr) (n c:Nat) (w:World) (hr:PR w w.heap.size A n l) (hn:n≤4611686018427387904) :
 Calls Tryz.prog 80 #[.slice A n c] w fun e w'=>e=.returned (.bool (goodAll l))∧Below w.heap.size w w':=by
 go_enter Tryz.func80,Tryz.ntmps80
 go_wp2
 go_loopw [3] (fun i wr=>∃ k:Nat,k≤n∧i=.int .i64 k∧(∀ i (hi:i<l.length),i<k→l[i].good)∧Below w.heap.size w wr) (fun i _=>n - (intOf i).toNat)
 case atStart=>exact ⟨0,Nat.zero_le _,rfl,fun i h=>by omega,Below.refl _ _⟩
 case round=>
  obtain ⟨k,hk,rfl,hok,hb⟩:=hrel;have HB:=hide hb;have HOK:=hide hok;have hl:=hr.len;by_cases hlt:k<n
  ·obtain ⟨b,o,rfl,hbl,hc⟩:=PR.at (hr.below hb) (by omega);have hkl:k<l.length:=by omega
   obtain ⟨c0,c1⟩:=hc k hkl;have hbl2:b<wr.heap.size:=by have:=hb.size;omega
   have HBE:=hide (btr hb (bal (Below.refl wr.heap.size wr) (pblk l[k].x l[k].y)));have HST:Hid (l[k].good → ∀ i (hi:i<l.length),i<k+1→l[i].good):=fun h i hi h1=>by
    rcases Nat.lt_succ_iff_lt_or_eq.1 h1 with h2|rfl
    ·exact hok i hi h2
    ·exact h
   have HNO:=hide (goodAll_no hkl);have HL:=hide hl;clear hc hb hok hl
   go_wp2
   all_goals first
    | (go_ret;exact ⟨ret_bool (by rw [HNO.out (by unfold Pt.good;omega)]),HBE.out⟩)
    | (go_roundw
       case rel=>exact ⟨k+1,by omega,by go_num,HST.out (by unfold Pt.good;omega),HBE.out⟩
       case measure=>simp [intOf];omega)
  ·clear hb hok
   go_wp2
   go_ret;exact ⟨ret_bool (by rw [goodAll_yes (fun i hi=>HOK.out i hi (by omega))]),HB.out⟩

set_option maxHeartbeats 400000 in
theorem rturn_any (a b c:Pt) (w:World) (ha:a.good) (hb:b.good) (hc:c.good) :
 Calls Tryz.prog 84 #[.agg #[.int .i64 a.x,.int .i64 a.y],.agg #[.int .i64 b.x,.int .i64 b.y],.agg #[.int .i64 c.x,.int .i64 c.y]] w fun e w'=>e=.returned (.int .i64 (turnV a b c))∧Below w.heap.size w w':=by
 have h1:=cross_bound ha hb hc;obtain ⟨⟨p1,p2⟩,p3,p4⟩:=prod_bound ha hb hc;have HT:Hid (∀ n:Int,crossV a b c=n→turnV a b c=if n<0 then -1 else if 0<n then 1 else 0):=fun n h=>by unfold turnV cmpOf;rw [h]
 unfold crossV at h1 HT;obtain ⟨⟨a1,a2⟩,a3,a4⟩:=ha;obtain ⟨⟨b1,b2⟩,b3,b4⟩:=hb;obtain ⟨⟨c1,c2⟩,c3,c4⟩:=hc;obtain ⟨q1,q2⟩:=h1
 go_enter Tryz.func84,Tryz.ntmps84
 go_wp2
 all_goals go_ret
 all_goals exact ⟨ret_int (by rw [HT.out _ rfl];(repeat' split) <;> omega),bel3 _ _ _ _⟩
def betweenV (a b n:Int):Bool:=(decide (a≤n)&&decide (n≤b))||(decide (b≤n)&&decide (n≤a))
set_option maxHeartbeats 400000 in
theorem between_any (a b n:Int) (w:World) :
 Calls Tryz.prog 134 #[.int .i64 a,.int .i64 b,.int .i64 n] w fun e w'=>e=.returned (.bool (betweenV a b n))∧w=w':=by
 go_enter Tryz.func134,Tryz.ntmps134
 go_wp2
 all_goals go_ret
 all_goals exact ⟨ret_bool (by rw [Bool.eq_iff_iff];simp [betweenV];omega),rfl⟩
def ronV (a b p:Pt):Bool:=(turnV a b p == 0)&&(betweenV a.x b.x p.x&&betweenV a.y b.y p.y)
set_option maxRecDepth 100000 in
set_option maxHeartbeats 1000000 in
theorem ron_any (a b p:Pt) (w:World) (ha:a.good) (hb:b.good) (hp:p.good) :
 Calls Tryz.prog 83 #[.agg #[.int .i64 a.x,.int .i64 a.y],.agg #[.int .i64 b.x,.int .i64 b.y],.agg #[.int .i64 p.x,.int .i64 p.y]] w fun e w'=>e=.returned (.bool (ronV a b p))∧Below w.heap.size w w':=by
 have HB0:=hide (bel3 w a b p);have HX0:=hide (Box3.new w a b p);have HV:Hid (∀ t1 t2 t3:Bool,(turnV a b p == 0)=t1→betweenV a.x b.x p.x=t2→betweenV a.y b.y p.y=t3→ronV a b p=(t1&&(t2&&t3))):=fun t1 t2 t3 h1 h2 h3=>by unfold ronV;rw [h1,h2,h3]
 go_enter Tryz.func83,Tryz.ntmps83
 go_wp2_with fail
 refine (rturn_any a b p _ ha hb hp).mono ?_;rintro e w1 ⟨rfl,hb1⟩;have HB1:=hide (btr HB0.out hb1);have HX1:=hide (HX0.out.later hb1);clear hb1;cases h1:(turnV a b p == 0)
 ·have HQ:=hide (HV.out _ _ _ h1 rfl rfl)
  go_wp2
  go_ret;exact ⟨ret_bool (by rw [HQ.out];rfl),HB1.out⟩
 ·have H1:=hide h1;obtain ⟨x3,x4,x5⟩:=HX1.out;have k3:=x3.cell;have k4:=x4.cell;have k5:=x5.cell;clear x3 x4 x5;go_wp2_with fail
  refine (between_any _ _ _ _).mono ?_;rintro e w4 ⟨rfl,rfl⟩;cases h2:betweenV a.x b.x p.x
  ·have HQ:=hide (HV.out _ _ _ H1.out h2 rfl)
   go_wp2
   go_ret;exact ⟨ret_bool (by rw [HQ.out];rfl),HB1.out⟩
  ·have H2:=hide h2;clear h2;go_wp2_with fail
   refine (between_any _ _ _ _).mono ?_;rintro e w5 ⟨rfl,rfl⟩;have HQ:=hide (HV.out _ _ _ H1.out H2.out rfl)
   go_wp2
   go_ret;exact ⟨ret_bool (by rw [HQ.out];rfl),HB1.out⟩

/-! Boxes that are written -/
theorem PB.set {W:World} {g:Nat} {a:Pt} (h:PB W g a) (x y:Int):PB ((W.setCell ⟨g,0,none⟩ (.int .i64 x)).setCell ⟨g,1,none⟩ (.int .i64 y)) g ⟨x,y⟩:=by
 have:=Blk.set_ (Blk.set_ h 0 (.int .i64 x)) 1 (.int .i64 y);simpa [PB] using this
theorem PB.far {W:World} {g k:Nat} {a:Pt} (h:PB W g a) (hk:g≠k) (x y:Value):PB ((W.setCell ⟨k,0,none⟩ x).setCell ⟨k,1,none⟩ y) g a:=Blk.far (Blk.far h (p:=⟨k,0,none⟩) hk x) (p:=⟨k,1,none⟩) hk y
theorem bset {w W:World} {k:Nat} (h:Below w.heap.size w W) (hk:w.heap.size≤k) (x y:Value):Below w.heap.size w ((W.setCell ⟨k,0,none⟩ x).setCell ⟨k,1,none⟩ y):=(h.setCell (p:=⟨k,0,none⟩) hk x).setCell (p:=⟨k,1,none⟩) hk y
theorem Box4.set12 {W:World} {g:Nat} {a b c d:Pt} (h:Box4 W g a b c d) (p q:Pt) :
 Box4 ((((W.setCell ⟨g,0,none⟩ (.int .i64 p.x)).setCell ⟨g,1,none⟩ (.int .i64 p.y)).setCell ⟨g+1,0,none⟩ (.int .i64 q.x)).setCell ⟨g+1,1,none⟩ (.int .i64 q.y)) g p q c d:=
 ⟨(h.1.set p.x p.y).far (by omega) _ _,(h.2.1.far (by omega) _ _).set q.x q.y,(h.2.2.1.far (by omega) _ _).far (by omega) _ _,(h.2.2.2.far (by omega) _ _).far (by omega) _ _⟩
theorem Box4.set34 {W:World} {g:Nat} {a b c d:Pt} (h:Box4 W g a b c d) (p q:Pt) :
 Box4 ((((W.setCell ⟨g+1+1,0,none⟩ (.int .i64 p.x)).setCell ⟨g+1+1,1,none⟩ (.int .i64 p.y)).setCell ⟨g+1+1+1,0,none⟩ (.int .i64 q.x)).setCell ⟨g+1+1+1,1,none⟩ (.int .i64 q.y)) g a b p q:=
 ⟨(h.1.far (by omega) _ _).far (by omega) _ _,(h.2.1.far (by omega) _ _).far (by omega) _ _,(h.2.2.1.set p.x p.y).far (by omega) _ _,(h.2.2.2.far (by omega) _ _).set q.x q.y⟩

def lineQ (a b c d:Pt):Int:=
 let k:=orderV (if 0<orderV a c then a else c) (if orderV d b<0 then d else b)
 if 0<k then 0 else if k=0 then 1 else 3
def lineV (a b c d:Pt):Int:=lineQ (endsV a b).1 (endsV a b).2 (endsV c d).1 (endsV c d).2
theorem Box4.all {W:World} {g:Nat} {a b c d:Pt} (h:Box4 W g a b c d) :
 ((∀ i,W.cell? ⟨g,i,none⟩=#[Value.int IntKind.i64 a.x,Value.int IntKind.i64 a.y][i]?)∧(∀ i,W.cell? ⟨g+1,i,none⟩=#[Value.int IntKind.i64 b.x,Value.int IntKind.i64 b.y][i]?) ∧
   (∀ i,W.cell? ⟨g+1+1,i,none⟩=#[Value.int IntKind.i64 c.x,Value.int IntKind.i64 c.y][i]?) ∧ ∀ i,W.cell? ⟨g+1+1+1,i,none⟩=#[Value.int IntKind.i64 d.x,Value.int IntKind.i64 d.y][i]?) ∧
 (∀ i,W.frozen? ⟨g,i,none⟩=false)∧(∀ i,W.frozen? ⟨g+1,i,none⟩=false)∧(∀ i,W.frozen? ⟨g+1+1,i,none⟩=false) ∧ ∀ i,W.frozen? ⟨g+1+1+1,i,none⟩=false:=
 ⟨⟨Blk.cell h.1,Blk.cell h.2.1,Blk.cell h.2.2.1,Blk.cell h.2.2.2⟩,Blk.frozen h.1,Blk.frozen h.2.1,Blk.frozen h.2.2.1,Blk.frozen h.2.2.2⟩
/-! The stretch in common: its two ends' boxes, whichever was made first -/
def Two (w W:World) (g f t:Nat) (a b c d p q:Pt):Prop:=Below w.heap.size w W∧Box4 W g a b c d∧PB W f p∧PB W t q∧f≠t∧w.heap.size≤f∧w.heap.size≤t∧g+1+1+1<f∧g+1+1+1<t
theorem Two.later {w W W':World} {g f t:Nat} {a b c d p q:Pt} (h:Two w W g f t a b c d p q) (hb:Below W.heap.size W W'):Two w W' g f t a b c d p q:=
 ⟨btr h.1 hb,h.2.1.later hb,h.2.2.1.later hb,h.2.2.2.1.later hb,h.2.2.2.2⟩
theorem Two.setF {w W:World} {g f t:Nat} {a b c d p q:Pt} (h:Two w W g f t a b c d p q) (r:Pt) :
 Two w ((W.setCell ⟨f,0,none⟩ (.int .i64 r.x)).setCell ⟨f,1,none⟩ (.int .i64 r.y)) g f t a b c d r q:=by
 obtain ⟨h1,⟨b1,b2,b3,b4⟩,h3,h4,h5,h6,h7,h8,h9⟩:=h;exact ⟨bset h1 h6 _ _,⟨b1.far (by omega) _ _,b2.far (by omega) _ _,b3.far (by omega) _ _,b4.far (by omega) _ _⟩,h3.set _ _,h4.far (fun e=>h5 e.symm) _ _,h5,h6,h7,h8,h9⟩
theorem Two.setT {w W:World} {g f t:Nat} {a b c d p q:Pt} (h:Two w W g f t a b c d p q) (r:Pt) :
 Two w ((W.setCell ⟨t,0,none⟩ (.int .i64 r.x)).setCell ⟨t,1,none⟩ (.int .i64 r.y)) g f t a b c d p r:=by
 obtain ⟨h1,⟨b1,b2,b3,b4⟩,h3,h4,h5,h6,h7,h8,h9⟩:=h;exact ⟨bset h1 h7 _ _,⟨b1.far (by omega) _ _,b2.far (by omega) _ _,b3.far (by omega) _ _,b4.far (by omega) _ _⟩,h3.far h5 _ _,h4.set _ _,h5,h6,h7,h8,h9⟩
theorem Two.mk1 {w W:World} {a b c d:Pt} (h:Below w.heap.size w W) (hX:Box4 W w.heap.size a b c d) (p q:Pt) :
 ∃ W',(((W.alloc (Obj.cells #[Value.int IntKind.i64 p.x,Value.int IntKind.i64 p.y] 56)).alloc (Obj.cells #[Value.int IntKind.i64 q.x,Value.int IntKind.i64 q.y] 56)).drew)=W' ∧
  Two w W' w.heap.size W.heap.size (W.heap.size+1) a b c d p q∧Two w W' w.heap.size (W.heap.size+1) W.heap.size a b c d q p:=by
 have hl:=hX.lts.1.2.2.2;have h1:PB ((W.alloc (pblk p.x p.y)).alloc (pblk q.x q.y)) W.heap.size p:=(PB.new W p).al _;have h2:PB ((W.alloc (pblk p.x p.y)).alloc (pblk q.x q.y)) (W.heap.size+1) q:=by have:=PB.new (W.alloc (pblk p.x p.y)) q;simpa using this
 have hb:Below W.heap.size W ((W.alloc (pblk p.x p.y)).alloc (pblk q.x q.y)).drew:=(bel2 W p q).drew;have hX':=hX.later hb;have hB':=btr h hb;exact ⟨_,rfl,⟨hB',hX',h1.drew,h2.drew,by omega,by omega,by omega,by omega,by omega⟩,⟨hB',hX',h2.drew,h1.drew,by omega,by omega,by omega,by omega,by omega⟩⟩
theorem Two.facts {w W:World} {g f t:Nat} {a b c d p q:Pt} (h:Two w W g f t a b c d p q) :
 ((∀ i,W.cell? ⟨g,i,none⟩=#[Value.int IntKind.i64 a.x,Value.int IntKind.i64 a.y][i]?)∧(∀ i,W.cell? ⟨g+1,i,none⟩=#[Value.int IntKind.i64 b.x,Value.int IntKind.i64 b.y][i]?) ∧
   (∀ i,W.cell? ⟨g+1+1,i,none⟩=#[Value.int IntKind.i64 c.x,Value.int IntKind.i64 c.y][i]?) ∧ ∀ i,W.cell? ⟨g+1+1+1,i,none⟩=#[Value.int IntKind.i64 d.x,Value.int IntKind.i64 d.y][i]?) ∧
 (∀ i,W.cell? ⟨f,i,none⟩=#[Value.int IntKind.i64 p.x,Value.int IntKind.i64 p.y][i]?)∧(∀ i,W.cell? ⟨t,i,none⟩=#[Value.int IntKind.i64 q.x,Value.int IntKind.i64 q.y][i]?) ∧
 (∀ i,W.frozen? ⟨f,i,none⟩=false) ∧ ∀ i,W.frozen? ⟨t,i,none⟩=false:=
 ⟨h.2.1.all.1,Blk.cell h.2.2.1,Blk.cell h.2.2.2.1,Blk.frozen h.2.2.1,Blk.frozen h.2.2.2.1⟩
theorem Two.nes {w W:World} {g f t:Nat} {a b c d p q:Pt} (h:Two w W g f t a b c d p q):g≠f∧f≠g∧g+1≠f∧f≠g+1∧g+1+1≠f∧f≠g+1+1∧g+1+1+1≠f∧f≠g+1+1+1∧g≠t∧t≠g∧g+1≠t∧t≠g+1∧g+1+1≠t∧t≠g+1+1∧g+1+1+1≠t∧t≠g+1+1+1:=by
 have:=h.2.2.2.2;omega
theorem lineQ_of {a b c d p q:Pt} (h1:(if 0<orderV a c then a else c)=p) (h2:(if orderV d b<0 then d else b)=q) :
 lineQ a b c d=if 0<orderV p q then 0 else if orderV p q=0 then 1 else 3:=by
 unfold lineQ;rw [h1,h2]
set_option maxRecDepth 100000 in
set_option maxHeartbeats 1000000 in
theorem line_any (a b c d:Pt) (w:World) :
 Calls Tryz.prog 171 #[.agg #[.int .i64 a.x,.int .i64 a.y],.agg #[.int .i64 b.x,.int .i64 b.y],.agg #[.int .i64 c.x,.int .i64 c.y],.agg #[.int .i64 d.x,.int .i64 d.y]] w fun e w'=>e=.returned (.int .i64 (lineV a b c d))∧Below w.heap.size w w':=by
 have HB0:=hide (bel4 w a b c d);have HX0:=hide (Box4.new w a b c d);unfold lineV;generalize hab:endsV a b=ab;generalize hcd:endsV c d=cd;obtain ⟨a1,b1⟩:=ab;obtain ⟨c1,d1⟩:=cd;have HAB:=hide hab;have HCD:=hide hcd;clear hab hcd
 go_enter Tryz.func171,Tryz.ntmps171
 go_wp2_with fail
 refine (ends_any a b _).mono ?_;rintro e w1 ⟨rfl,hb1⟩;rw [HAB.out];simp only;have HB1:=hide (btr HB0.out hb1);have HX1:=hide (HX0.out.later hb1);clear hb1;obtain ⟨⟨k1,k2,k3,k4⟩,q1,q2,q3,q4⟩:=HX1.out.all;obtain ⟨⟨z1,z2,z3,z4⟩,_⟩:=HX1.out.lts;go_wp2_with fail
 refine (ends_any c d _).mono ?_;rintro e w2 ⟨rfl,hb2⟩;rw [HCD.out];simp only;have HX2:=hide (((HX1.out.set12 a1 b1).later hb2).set34 c1 d1);have HB2:=hide (bset (k:=w.heap.size+1+1+1) (bset (k:=w.heap.size+1+1) (btr (bset (bset HB1.out (Nat.le_refl _) _ _) (Nat.le_succ _) _ _) hb2) (by omega) (.int .i64 c1.x) (.int .i64 c1.y)) (by omega) (.int .i64 d1.x) (.int .i64 d1.y));have HY:=hide ((HX1.out.set12 a1 b1).later hb2);clear hb2 k1 k2 k3 k4 q1 q2 q3 q4 z1 z2 z3 z4 HX1 HB1 HX0 HB0;obtain ⟨⟨k1,k2,k3,k4⟩,q1,q2,q3,q4⟩:=HY.out.all;obtain ⟨⟨z1,z2,z3,z4⟩,z5,z6,z7,z8⟩:=HY.out.lts;clear HY;go_wp2_with fail
 obtain ⟨W,hW,HB3,HX3⟩:∃ W,((((w2.setCell ⟨w.heap.size+1+1,0,none⟩ (.int .i64 c1.x)).setCell ⟨w.heap.size+1+1,1,none⟩ (.int .i64 c1.y)).setCell ⟨w.heap.size+1+1+1,0,none⟩ (.int .i64 d1.x)).setCell ⟨w.heap.size+1+1+1,1,none⟩ (.int .i64 d1.y))=W∧Hid (Below w.heap.size w W)∧Hid (Box4 W w.heap.size a1 b1 c1 d1):=⟨_,rfl,HB2,HX2⟩;rw [hW];clear hW HB2 HX2 k1 k2 k3 k4 q1 q2 q3 q4 z1 z2 z3 z4 z5 z6 z7 z8;obtain ⟨⟨k1,k2,k3,k4⟩,q1,q2,q3,q4⟩:=HX3.out.all;obtain ⟨⟨z1,z2,z3,z4⟩,z5,z6,z7,z8⟩:=HX3.out.lts
 go_region
 all_goals clear k1 k2 k3 k4 q1 q2 q3 q4 z1 z2 z3 z4 z5 z6 z7 z8
 all_goals first
  | (obtain ⟨W',hW,hT,_⟩:=Two.mk1 HB3.out HX3.out c1 b1
     rw [hW];have HT:=hide hT;clear hW hT;have HG:Hid (w.heap.size≤w.heap.size):=hide (Nat.le_refl _);clear HB3 HX3;generalize W.heap.size+1=t at *;generalize W.heap.size=f at *)
  | (obtain ⟨W',hW,_,hT⟩:=Two.mk1 HB3.out HX3.out b1 c1
     rw [hW];have HT:=hide hT;clear hW hT;have HG:Hid (w.heap.size≤w.heap.size):=hide (Nat.le_refl _);clear HB3 HX3;generalize W.heap.size+1=f at *;generalize W.heap.size=t at *)
 all_goals cases h1:decide (0<orderV a1 c1)
 all_goals cases h2:decide (orderV d1 b1<0)
 all_goals
  first
   | (have HQ:=hide (lineQ_of (a:=a1) (b:=b1) (c:=c1) (d:=d1) (p:=a1) (q:=d1) (if_pos (of_decide_eq_true h1)) (if_pos (of_decide_eq_true h2)))
      generalize hr:lineQ a1 b1 c1 d1=r at HQ;cases h3:decide (0<orderV a1 d1)
      all_goals cases h4:(orderV a1 d1 == 0))
   | (have HQ:=hide (lineQ_of (a:=a1) (b:=b1) (c:=c1) (d:=d1) (p:=a1) (q:=b1) (if_pos (of_decide_eq_true h1)) (if_neg (of_decide_eq_false h2)))
      generalize hr:lineQ a1 b1 c1 d1=r at HQ;cases h3:decide (0<orderV a1 b1)
      all_goals cases h4:(orderV a1 b1 == 0))
   | (have HQ:=hide (lineQ_of (a:=a1) (b:=b1) (c:=c1) (d:=d1) (p:=c1) (q:=d1) (if_neg (of_decide_eq_false h1)) (if_pos (of_decide_eq_true h2)))
      generalize hr:lineQ a1 b1 c1 d1=r at HQ;cases h3:decide (0<orderV c1 d1)
      all_goals cases h4:(orderV c1 d1 == 0))
   | (have HQ:=hide (lineQ_of (a:=a1) (b:=b1) (c:=c1) (d:=d1) (p:=c1) (q:=b1) (if_neg (of_decide_eq_false h1)) (if_neg (of_decide_eq_false h2)))
      generalize hr:lineQ a1 b1 c1 d1=r at HQ;cases h3:decide (0<orderV c1 b1)
      all_goals cases h4:(orderV c1 b1 == 0))
 all_goals
  have HR:=hide hr;have HR2:Hid (r=if (true:Bool)=true then r else r):=hide (by simp);clear hr HR2;have HH3:=hide h3;have HH4:=hide h4;clear h3 h4;obtain ⟨⟨k1,k2,k3,k4⟩,k5,k6,q5,q6⟩:=HT.out.facts;obtain ⟨n1,n2,n3,n4,n5,n6,n7,n8,n9,n10,n11,n12,n13,n14,n15,n16⟩:=HT.out.nes;have nft:f≠t:=HT.out.2.2.2.2.1;have ntf:t≠f:=fun e=>nft e.symm
  go_wp2_with fail
  refine (order_any _ _ _).mono ?_;rintro e w3 ⟨rfl,hb3⟩;have HT3:=hide (HT.out.later hb3);clear hb3 HT k1 k2 k3 k4 k5 k6 q5 q6;obtain ⟨⟨k1,k2,k3,k4⟩,k5,k6,q5,q6⟩:=HT3.out.facts;have z5:f<w3.heap.size:=HT3.out.2.2.1.lt;have z6:t<w3.heap.size:=HT3.out.2.2.2.1.lt;go_wp2_with fail
  refine (order_any _ _ _).mono ?_;rintro e w4 ⟨rfl,hb4⟩
  first
   | have HT4:=hide (HT3.out.later hb4)
   | have HT4:=hide ((HT3.out.setF a1).later hb4)
  clear hb4 HT3 k1 k2 k3 k4 k5 k6 q5 q6 z5 z6;obtain ⟨⟨k1,k2,k3,k4⟩,k5,k6,q5,q6⟩:=HT4.out.facts;have z5:f<w4.heap.size:=HT4.out.2.2.1.lt;have z6:t<w4.heap.size:=HT4.out.2.2.2.1.lt;go_wp2_with fail
  refine (order_any _ _ _).mono ?_;rintro e w5 ⟨rfl,hb5⟩
  first
   | have HT5:=hide (HT4.out.later hb5)
   | have HT5:=hide ((HT4.out.setT d1).later hb5)
  clear hb5 HT4 k1 k2 k3 k4 k5 k6 q5 q6 z5 z6 h1 h2;have h3:=HH3.out;have h4:=HH4.out
  go_wp2
  go_ret;refine ⟨ret_int ?_,HT5.out.1⟩;rw [HR.out,HQ.out];simp at h3 h4
  first
   | (simp [h3,h4];done)
   | (exfalso;omega)
end Go.Proofs.YtacinobmcgcccaaGreatDoor
