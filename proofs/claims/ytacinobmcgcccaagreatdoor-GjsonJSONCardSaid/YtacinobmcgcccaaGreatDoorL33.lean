/- The reference's numbers: limbs, Of, minus, whole. -/
import Derived.Test.YtacinobmcgcccaaGreatDoorL32
import Derived.Test.YtacinobmcgcccaaGreatDoorL06
import Derived.Deep.RegionHeld3
import Derived.Outline
import Derived.Laws.Bits64b
set_option linter.unusedSimpArgs false
set_option linter.unusedVariables false
namespace Go.Proofs.YtacinobmcgcccaaGreatDoor
open Go.RowKit Go.Shelf
def quo (n:Int):Nat→Int
 | 0=>n
 | k+1=>quo n k / 4294967296
def dg (n:Int) (k:Nat):Int:=quo n k % 4294967296
theorem dg_part (n:Int):part (dg n):=fun i=>by unfold dg;omega
theorem quo_add (x y:Int):∀ k,quo (x+y) k=quo x k+quo y k+carry (dg x) (dg y) k
 | 0=>by simp [quo,carry]
 | k+1=>by
   have:=quo_add x y k;simp only [quo,carry,dg] at *;rw [this];omega
theorem sum_dg (x y:Int) (k:Nat):sumP (dg x) (dg y) k=dg (x+y) k:=by
 unfold sumP dg;rw [quo_add];unfold dg;omega
theorem quo_not (n:Int):∀ k,quo (-n - 1) k = - quo n k - 1
 | 0=>rfl
 | k+1=>by simp only [quo];rw [quo_not n k];omega
theorem dg_not (n:Int) (k:Nat):dg (-n - 1) k=4294967295 - dg n k:=by unfold dg;rw [quo_not];omega
theorem limbs_law {x:I2} (hx:x.ok) {p:Int} (hp:IntKind.u64.wrap x.hi=p) :
 x.lo % 4294967296=dg x.num 0∧x.lo / 4294967296 % 4294967296=dg x.num 1∧p % 4294967296=dg x.num 2∧p / 4294967296 % 4294967296=dg x.num 3∧(if x.hi<0 then 4294967295 else 0)=dg x.num 4:=by
 rw [IntKind.wrap_u64] at hp;obtain ⟨⟨h1,h2⟩,h3,h4⟩:=hx;have q1:x.num / 4294967296=x.hi * 4294967296+x.lo / 4294967296:=by unfold I2.num;omega
 have q2:x.num / 4294967296 / 4294967296=x.hi:=by rw [q1];omega
 unfold dg;simp only [quo];rw [q2,q1];refine ⟨by unfold I2.num;omega,by omega,by omega,by omega,?_⟩;split <;> omega
set_option maxRecDepth 100000 in
set_option maxHeartbeats 1000000 in
theorem limbs_any (x:I2) (w:World) (hx:x.ok) :
 Calls Tryz.prog 105 #[.agg #[.int .i64 x.hi,.int .u64 x.lo]] w fun e w'=>e=.returned (.agg (cs5 (dg x.num)))∧Below w.heap.size w w':=by
 obtain ⟨p,hp⟩:∃ p,IntKind.u64.wrap x.hi=p:=⟨_,rfl⟩;have HL:=hide (limbs_law hx hp);have HC:Hid (cs5 (dg x.num)=#[.int .u32 (x.lo % 4294967296),.int .u32 (x.lo / 4294967296 % 4294967296),.int .u32 (p % 4294967296),.int .u32 (p / 4294967296 % 4294967296),.int .u32 (if x.hi<0 then 4294967295 else 0)]):=by
  obtain ⟨e0,e1,e2,e3,e4⟩:=HL.out;unfold cs5;rw [e0,e1,e2,e3,e4];exact hide rfl
 clear hx;cases d1:decide (x.hi<0)
 ·have HD:=hide (HC.out.trans (by rw [if_neg (of_decide_eq_false d1)]))
  go_enter Tryz.func105,Tryz.ntmps105
  go_wp2_with fail
  refine bodyPost_ret (v:=.agg (cs5 (dg x.num))) (by rw [HD.out];simp [results,Tryz.results105,go_sem];done) rfl ⟨rfl,by (repeat (first|exact Below.refl _ _|refine Below.drew ?_|refine Below.setCell ?_ (by simp;try omega) _|refine bal ?_ _))⟩
 ·have HD:=hide (HC.out.trans (by rw [if_pos (of_decide_eq_true d1)]))
  go_enter Tryz.func105,Tryz.ntmps105
  go_wp2_with fail
  refine bodyPost_ret (v:=.agg (cs5 (dg x.num))) (by rw [HD.out];simp [results,Tryz.results105,go_sem];done) rfl ⟨rfl,by (repeat (first|exact Below.refl _ _|refine Below.drew ?_|refine Below.setCell ?_ (by simp;try omega) _|refine bal ?_ _))⟩
set_option maxHeartbeats 400000 in
theorem rof_any (n:Int) (w:World) (h:i64ok n) :
 Calls Tryz.prog 133 #[.int .i64 n] w fun e w'=>e=.returned (.agg #[.int .i64 (two n).hi,.int .u64 (two n).lo])∧Below w.heap.size w w':=by
 unfold i64ok at h;obtain ⟨p,hp⟩:∃ p,IntKind.u64.wrap n=p:=⟨_,rfl⟩;have HP:=hide (hp.symm.trans (IntKind.wrap_u64 n));have H:=hide h;clear h;cases d1:decide (n<0)
 ·have E1:=hide (of_decide_eq_false d1)
  go_enter Tryz.func133,Tryz.ntmps133
  go_wp2_with fail
  refine bodyPost_ret (v:=.agg #[.int .i64 0,.int .u64 p]) (by simp [results,Tryz.results133,go_sem];done) rfl ⟨ret_i2 ?_ ?_,by (repeat (first|exact Below.refl _ _|refine Below.drew ?_|refine Below.setCell ?_ (by simp;try omega) _|refine bal ?_ _))⟩
  ·have:=E1.out;have:=H.out;unfold two;simp only;omega
  ·have:=HP.out;unfold two;simp only;omega
 ·have E1:=hide (of_decide_eq_true d1)
  go_enter Tryz.func133,Tryz.ntmps133
  go_wp2_with fail
  refine bodyPost_ret (v:=.agg #[.int .i64 (-1),.int .u64 p]) (by simp [results,Tryz.results133,go_sem];done) rfl ⟨ret_i2 ?_ ?_,by (repeat (first|exact Below.refl _ _|refine Below.drew ?_|refine Below.setCell ?_ (by simp;try omega) _|refine bal ?_ _))⟩
  ·have:=E1.out;have:=H.out;unfold two;simp only;omega
  ·have:=HP.out;unfold two;simp only;omega
theorem not_nat {a:Nat} (ha:a<4294967296):4294967295 ^^^ a=4294967295 - a:=by
 apply Nat.eq_of_testBit_eq;intro i;rw [Nat.testBit_xor,show 4294967295 - a=2 ^ 32 - (a+1) by omega,Nat.testBit_two_pow_sub_succ (show a<2 ^ 32 by omega),show 4294967295=2 ^ 32 - 1 by rfl,Nat.testBit_two_pow_sub_one];by_cases h:i<32
 ·simp [h]
 ·have:a.testBit i=false:=Nat.testBit_lt_two_pow (nLl ha (by rw [show 4294967296=2 ^ 32 by rfl];exact Nat.pow_le_pow_right (by omega) (by omega)));simp [h,this]
theorem not_u32 {a:Int} (h0:0≤a) (h1:a<4294967296):bits BinOp.xor IntKind.u32 (if IntKind.u32.signed=true then -1 else IntKind.u32.max) a=4294967295 - a:=by
 obtain ⟨n,rfl⟩:=Int.eq_ofNat_of_zero_le h0;have hn:n<4294967296:=by omega
 have e:=not_nat hn;have h1:(BitVec.ofInt 32 (4294967295:Int)).toNat=4294967295:=by decide
 have h2:(BitVec.ofInt 32 (n:Int)).toNat=n:=by rw [BitVec.ofInt_natCast,BitVec.toNat_ofNat];exact Nat.mod_eq_of_lt (by omega)
 show IntKind.u32.wrap ((BitVec.ofInt 32 (4294967295:Int) ^^^ BitVec.ofInt 32 (n:Int)).toNat:Int)=_;rw [BitVec.toNat_xor,h1,h2,e,IntKind.wrap_u32];omega
def notP (A:Nat→Int) (i:Nat):Int:=4294967295 - A i
def oneP (i:Nat):Int:=if i=0 then 1 else 0
def MinI (w W:World) (A:Nat→Int) (k:Nat):Prop:=Below w.heap.size w W∧Blk W w.heap.size 139 (cs5 (fun i=>if i<k then notP A i else A i)) ∧
 Blk W (w.heap.size+1) 139 (cs5 (fun _=>0))
theorem MinI.first (w:World) (A:Nat→Int):MinI w ((w.alloc (lblk A)).alloc (lblk (fun _=>0))) A 0:=by
 refine ⟨by (repeat (first|exact Below.refl _ _|refine Below.drew ?_|refine Below.setCell ?_ (by simp;try omega) _|refine bal ?_ _)),(Blk.new w _ (cs5 A)).alloc _,?_⟩;have:=Blk.new (w.alloc (lblk A)) 139 (cs5 (fun _=>0));simpa using this
theorem MinI.step {w W:World} {A:Nat→Int} {k:Nat} (h:MinI w W A k) (hk:k<5) {v:Int} (hv:v=notP A k):MinI w (W.setCell ⟨w.heap.size,k,none⟩ (.int .u32 v)) A (k+1):=by
 obtain ⟨h1,h2,h3⟩:=h;refine ⟨h1.setCell (by simp) _,?_,h3.far (p:=⟨w.heap.size,k,none⟩) (by simp) _⟩;have:=h2.set_ k (.int .u32 v);rw [cs5_set _ hk] at this;rw [cs5_congr (g:=fun i=>if i<k+1 then notP A i else A i)] at this
 ·exact this
 ·intro i _;by_cases e:i=k
  ·subst e;simp [hv]
  ·by_cases l:i<k
   ·simp [e,l,show i<k+1 by omega]
   ·simp [e,l,show ¬ i<k+1 by omega]
set_option maxRecDepth 100000 in
set_option maxHeartbeats 1000000 in
theorem minus_any (n:Int) (w:World) :
 Calls Tryz.prog 132 #[.agg (cs5 (dg n))] w fun e w'=>e=.returned (.agg (cs5 (dg (-n))))∧Below w.heap.size w w':=by
 have HI0:=hide (MinI.first w (dg n));have HE:=hide (show cs5 (sumP (dg (-n - 1)) (dg 1))=cs5 (dg (-n)) from cs5_congr fun i _=>by rw [sum_dg];congr 1;omega);have HA:=hide (dg_part n);unfold cs5
 go_enter Tryz.func132,Tryz.ntmps132
 go_wp2
 go_loopw [3] (fun i wr=>∃ k:Nat,k≤5∧i=.int .i64 k∧Hid (MinI w wr (dg n) k)) (fun i _=>5 - (intOf i).toNat)
 case atStart=>exact ⟨0,by omega,rfl,HI0⟩
 case round=>
  obtain ⟨k,hk,rfl,HI⟩:=hrel;by_cases hlt:k<5
  ·have c0:=(HI.out.2.1).at5 hlt;simp only [Nat.lt_irrefl,if_false] at c0;have z1:=HI.out.2.1.lt;have q1:=HI.out.2.1.frozen;obtain ⟨a,ha⟩:∃ a,dg n k=a:=⟨_,rfl⟩;have a1:=HA.out k;have HN:=hide (show notP (dg n) k=4294967295 - a by rw [← ha];rfl);rw [ha] at c0 a1;obtain ⟨a1,a2⟩:=a1;have HB:=hide (not_u32 a1 a2);clear ha hk
   go_wp2
   go_roundw
   case rel=>exact ⟨k+1,by omega,by go_num,hide (HI.out.step hlt (HB.out.trans HN.out.symm))⟩
   case measure=>simp [intOf];omega
  ·have hk5:k=5:=by omega
   subst hk5;have HF:=hide (show Blk wr w.heap.size 139 (cs5 (dg (-n - 1))) by
    have:=HI.out.2.1;rw [cs5_congr (g:=dg (-n - 1)) (fun i hi=>by simp only [hi,if_true];rw [dg_not];rfl)] at this;exact this)
   have k4:=HF.out.cell;have k3:=HI.out.2.2.cell;have q3:=HI.out.2.2.frozen;have z3:=HI.out.2.2.lt;unfold cs5 at k4 k3;go_wp2_with fail
   refine (plus_any (dg (-n - 1)) (dg 1) _ (dg_part _) (dg_part _)).mono ?_;rintro e w2 ⟨rfl,hb2⟩;rw [HE.out];have KB:=hide (HI.out.2.2.below hb2 HI.out.2.2.lt);have HB2:=hide (btr HI.out.1 hb2);clear hb2 k3 k4 q3 z3;have k3:=KB.out.cell;have q3:=KB.out.frozen;have z3:=KB.out.lt;unfold cs5 at k3 ⊢;go_wp2_with fail
   refine bodyPost_ret (v:=.agg (cs5 (dg (-n)))) (by simp [results,Tryz.results132,go_sem,k3,cs5];done) rfl ⟨rfl,?_⟩;exact ((((HB2.out.setCell (by simp;try omega) _).setCell (by simp;try omega) _).setCell (by simp;try omega) _).setCell (by simp;try omega) _).setCell (by simp;try omega) _
theorem or_add {a b:Nat} (ha:a<4294967296) (hb:b<4294967296):a * 4294967296 ||| b=a * 4294967296+b:=by
 have:=Nat.two_pow_add_eq_or_of_lt (i:=32) (show b<2 ^ 32 by omega) a;rw [show 2 ^ 32 * a=a * 4294967296 by rw [Nat.mul_comm]] at this;exact this.symm
theorem or_u64 {a b:Int} (a0:0≤a) (a1:a<4294967296) (b0:0≤b) (b1:b<4294967296):bits BinOp.or IntKind.u64 (a * 4294967296) b=a * 4294967296+b:=by
 obtain ⟨m,rfl⟩:=Int.eq_ofNat_of_zero_le a0;obtain ⟨n,rfl⟩:=Int.eq_ofNat_of_zero_le b0;have hm:m<4294967296:=by omega
 have hn:n<4294967296:=by omega
 rw [show (m:Int) * 4294967296=((m * 4294967296:Nat):Int) by omega,bits_or_u64_nat _ _ (by omega) (by omega),or_add hm hn];omega
def wv (n:Int):I2:=⟨(n / 18446744073709551616+9223372036854775808) % 18446744073709551616 - 9223372036854775808,n % 18446744073709551616⟩
theorem wv_two {n:Int} (h:inr n):wv n=two n:=by
 unfold inr at h;unfold wv two;rw [I2.mk.injEq];omega
theorem quo_bd {n:Int} (h:-730750818665451459101842416358141509827966271488≤n∧n<730750818665451459101842416358141509827966271488) :
 (-9223372036854775808≤quo n 3∧quo n 3<9223372036854775808)∧(inr n ↔ -2147483648≤quo n 3∧quo n 3<2147483648):=by
 simp only [quo];unfold inr;have e:n / 4294967296 / 4294967296 / 4294967296=n / 79228162514264337593543950336:=by omega
 rw [e];omega
theorem whole_law {n:Int} (h:-730750818665451459101842416358141509827966271488≤n∧n<730750818665451459101842416358141509827966271488) :
 (2147483648≤dg n 3∧(dg n 4=4294967295 ↔ inr n))∨(¬ 2147483648≤dg n 3∧(dg n 4=0 ↔ inr n)):=by
 obtain ⟨h1,h2⟩:=quo_bd h;rw [h2];unfold dg;have e:quo n 4=quo n 3 / 4294967296:=rfl;rw [e];omega
theorem wv_law (n:Int) {H:Int} (hH:IntKind.i64.wrap (dg n 3 * 4294967296+dg n 2)=H):(wv n).hi=H∧(wv n).lo=dg n 1 * 4294967296+dg n 0:=by
 rw [IntKind.wrap_i64] at hH;unfold wv;unfold dg at *;have e0:quo n 0=n:=rfl;have e1:quo n 1=n / 4294967296:=rfl;have e2:quo n 2=n / 4294967296 / 4294967296:=rfl;have e3:quo n 3=n / 4294967296 / 4294967296 / 4294967296:=rfl;rw [e0,e1];rw [e2,e3] at hH;have e4:n / 18446744073709551616=n / 4294967296 / 4294967296:=by omega
 simp only;rw [e4];omega
theorem top_ways {a n:Int} {t:Int} (h:a=t ↔ inr n):(a == t)=decide (inr n):=by rw [Bool.eq_iff_iff,beq_iff_eq,decide_eq_true_iff];exact h
set_option maxRecDepth 100000 in
set_option maxHeartbeats 1000000 in
theorem whole_any (n:Int) (w:World) (h:-730750818665451459101842416358141509827966271488≤n∧n<730750818665451459101842416358141509827966271488) :
 Calls Tryz.prog 103 #[.agg (cs5 (dg n))] w fun e w'=>e=.returned (.tuple #[.agg #[.int .i64 (wv n).hi,.int .u64 (wv n).lo],.bool (decide (inr n))])∧Below w.heap.size w w':=by
 obtain ⟨H,hH⟩:∃ H,IntKind.i64.wrap (dg n 3 * 4294967296+dg n 2)=H:=⟨_,rfl⟩;have HV:=hide (wv_law n hH);have HW:=whole_law h;have r0:=dg_part n 0;have r1:=dg_part n 1;have r2:=dg_part n 2;have r3:=dg_part n 3;have r4:=dg_part n 4;unfold cs5;obtain ⟨a0,h0⟩:∃ a,dg n 0=a:=⟨_,rfl⟩;obtain ⟨a1,h1⟩:∃ a,dg n 1=a:=⟨_,rfl⟩;obtain ⟨a2,h2⟩:∃ a,dg n 2=a:=⟨_,rfl⟩;obtain ⟨a3,h3⟩:∃ a,dg n 3=a:=⟨_,rfl⟩;obtain ⟨a4,h4⟩:∃ a,dg n 4=a:=⟨_,rfl⟩;rw [h0] at r0;rw [h1] at r1;rw [h2] at r2;rw [h3] at r3;rw [h4] at r4;rw [h0,h1,h2,h3,h4];rw [h3,h2] at hH;rw [h1,h0] at HV;rw [h3,h4] at HW;clear h0 h1 h2 h3 h4;have HI0:=hide (((Bs.nil w).al #[.int .u32 a0,.int .u32 a1,.int .u32 a2,.int .u32 a3,.int .u32 a4] 139).al #[Value.int IntKind.i64 0,Value.int IntKind.u64 0] 80);simp only [heap_al] at HI0;have e1:=or_u64 r3.1 r3.2 r2.1 r2.2;have e2:=or_u64 r1.1 r1.2 r0.1 r0.2;obtain ⟨r00,r01⟩:=r0;obtain ⟨r10,r11⟩:=r1;obtain ⟨r20,r21⟩:=r2;obtain ⟨r30,r31⟩:=r3;obtain ⟨r40,r41⟩:=r4;have s1:IntKind.u64.wrap (a3 * 4294967296)=a3 * 4294967296:=by rw [IntKind.wrap_u64];omega
 have s2:IntKind.u64.wrap (a1 * 4294967296)=a1 * 4294967296:=by rw [IntKind.wrap_u64];omega
 have u0:IntKind.u64.wrap a0=a0:=by rw [IntKind.wrap_u64];omega
 have u1:IntKind.u64.wrap a1=a1:=by rw [IntKind.wrap_u64];omega
 have u2:IntKind.u64.wrap a2=a2:=by rw [IntKind.wrap_u64];omega
 have u3:IntKind.u64.wrap a3=a3:=by rw [IntKind.wrap_u64];omega
 rcases HW with ⟨d,hd⟩|⟨d,hd⟩
 ·have HT:=hide (top_ways hd);have d1:decide (2147483648≤a3)=true:=by simpa using d
  clear hd d
  go_enter Tryz.func103,Tryz.ntmps103
  go_wp2_with fail
  obtain ⟨W,hW,HB,HI⟩:∃ W,((w.alloc (Obj.cells #[.int .u32 a0,.int .u32 a1,.int .u32 a2,.int .u32 a3,.int .u32 a4] 139)).alloc (Obj.cells #[Value.int IntKind.i64 0,Value.int IntKind.u64 0] 80))=W∧Hid (Below w.heap.size w W)∧Hid (Bs W [(w.heap.size+1,80,#[Value.int IntKind.i64 0,Value.int IntKind.u64 0]),(w.heap.size,139,#[.int .u32 a0,.int .u32 a1,.int .u32 a2,.int .u32 a3,.int .u32 a4])]):=⟨_,rfl,hide (by (repeat (first|exact Below.refl _ _|refine Below.drew ?_|refine Below.setCell ?_ (by simp;try omega) _|refine bal ?_ _))),HI0⟩;rw [hW];clear hW HI0;obtain ⟨k1,q1,z1⟩:=HI.out.get w.heap.size 139 #[.int .u32 a0,.int .u32 a1,.int .u32 a2,.int .u32 a3,.int .u32 a4] (by simp);obtain ⟨k2,q2,z2⟩:=HI.out.get (w.heap.size+1) 80 #[Value.int IntKind.i64 0,Value.int IntKind.u64 0] (by simp);have c0:=k1 0;have c1:=k1 1;have c2:=k1 2;have c3:=k1 3;have c4:=k1 4;simp at c0 c1 c2 c3 c4;clear k1 q1
  go_region_held3 (fun w'=>w'.cell? ⟨w.heap.size,0,none⟩=some (.int .u32 a0)∧w'.cell? ⟨w.heap.size,1,none⟩=some (.int .u32 a1)∧w'.cell? ⟨w.heap.size,2,none⟩=some (.int .u32 a2)∧w'.cell? ⟨w.heap.size,3,none⟩=some (.int .u32 a3)∧w'.cell? ⟨w.heap.size,4,none⟩=some (.int .u32 a4))
   (first|go_keep)
   (first|fail)
  go_wp2
  refine bodyPost_ret (v:=.tuple #[.agg #[.int .i64 H,.int .u64 (a1 * 4294967296+a0)],.bool (a4 == 4294967295)]) (by simp (maxDischargeDepth:=9) [results,Tryz.results103,go_sem,k2];done) rfl ⟨?_,(by repeat (first|exact HB.out|refine Below.drew ?_|refine Below.setCell ?_ (by simp;try omega) _|refine bal ?_ _))⟩;rw [HV.out.1,HV.out.2,HT.out]
 ·have HT:=hide (top_ways hd);have d1:decide (2147483648≤a3)=false:=by simpa using d
  clear hd d
  go_enter Tryz.func103,Tryz.ntmps103
  go_wp2_with fail
  obtain ⟨W,hW,HB,HI⟩:∃ W,((w.alloc (Obj.cells #[.int .u32 a0,.int .u32 a1,.int .u32 a2,.int .u32 a3,.int .u32 a4] 139)).alloc (Obj.cells #[Value.int IntKind.i64 0,Value.int IntKind.u64 0] 80))=W∧Hid (Below w.heap.size w W)∧Hid (Bs W [(w.heap.size+1,80,#[Value.int IntKind.i64 0,Value.int IntKind.u64 0]),(w.heap.size,139,#[.int .u32 a0,.int .u32 a1,.int .u32 a2,.int .u32 a3,.int .u32 a4])]):=⟨_,rfl,hide (by (repeat (first|exact Below.refl _ _|refine Below.drew ?_|refine Below.setCell ?_ (by simp;try omega) _|refine bal ?_ _))),HI0⟩;rw [hW];clear hW HI0;obtain ⟨k1,q1,z1⟩:=HI.out.get w.heap.size 139 #[.int .u32 a0,.int .u32 a1,.int .u32 a2,.int .u32 a3,.int .u32 a4] (by simp);obtain ⟨k2,q2,z2⟩:=HI.out.get (w.heap.size+1) 80 #[Value.int IntKind.i64 0,Value.int IntKind.u64 0] (by simp);have c0:=k1 0;have c1:=k1 1;have c2:=k1 2;have c3:=k1 3;have c4:=k1 4;simp at c0 c1 c2 c3 c4;clear k1 q1
  go_region_held3 (fun w'=>w'.cell? ⟨w.heap.size,0,none⟩=some (.int .u32 a0)∧w'.cell? ⟨w.heap.size,1,none⟩=some (.int .u32 a1)∧w'.cell? ⟨w.heap.size,2,none⟩=some (.int .u32 a2)∧w'.cell? ⟨w.heap.size,3,none⟩=some (.int .u32 a3)∧w'.cell? ⟨w.heap.size,4,none⟩=some (.int .u32 a4))
   (first|go_keep)
   (first|fail)
  go_wp2
  refine bodyPost_ret (v:=.tuple #[.agg #[.int .i64 H,.int .u64 (a1 * 4294967296+a0)],.bool (a4 == 0)]) (by simp (maxDischargeDepth:=9) [results,Tryz.results103,go_sem,k2];done) rfl ⟨?_,(by repeat (first|exact HB.out|refine Below.drew ?_|refine Below.setCell ?_ (by simp;try omega) _|refine bal ?_ _))⟩;rw [HV.out.1,HV.out.2,HT.out]
end Go.Proofs.YtacinobmcgcccaaGreatDoor
