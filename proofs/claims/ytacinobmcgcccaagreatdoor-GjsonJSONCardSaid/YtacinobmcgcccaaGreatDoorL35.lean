/- The reference's numbers: Mul. -/
import Derived.Test.YtacinobmcgcccaaGreatDoorL33
import Derived.Test.YtacinobmcgcccaaGreatDoorL06
set_option linter.unusedSimpArgs false
set_option linter.unusedVariables false
namespace Go.Proofs.YtacinobmcgcccaaGreatDoor
open Go.RowKit Go.Shelf
theorem plus_dg2 (x y:Int) (w:World) :
 Calls Tryz.prog 104 #[.agg (cs5 (dg x)),.agg (cs5 (dg y))] w fun e w'=>e=.returned (.agg (cs5 (dg (x+y))))∧Below w.heap.size w w':=by
 have h:=plus_any (dg x) (dg y) w (dg_part x) (dg_part y);rw [cs5_congr (f:=sumP (dg x) (dg y)) (g:=dg (x+y)) (fun i _=>sum_dg x y i)] at h;exact h
structure MulI (w w2 W:World) (a:Int) (N k:Nat):Prop where
 le:w.heap.size<w2.heap.size
 bel:Below w.heap.size w W
 b4:Blk W w.heap.size 80 #[.int .i64 0,.int .u64 0]
 b5:Blk W w2.heap.size 139 (cs5 (dg (a * 2 ^ k)))
 b6:Blk W (w2.heap.size+1) 139 (cs5 (dg (a * ((N % 2 ^ k:Nat):Int))))
theorem Blk.put5 {W:World} {g:Nat} {t:TypeId} {f:Nat→Int} (h:Blk W g t (cs5 f)) (f':Nat→Int) :
 Blk (((((W.setCell ⟨g,0,none⟩ (.int .u32 (f' 0))).setCell ⟨g,1,none⟩ (.int .u32 (f' 1))).setCell ⟨g,2,none⟩ (.int .u32 (f' 2))).setCell ⟨g,3,none⟩ (.int .u32 (f' 3))).setCell ⟨g,4,none⟩ (.int .u32 (f' 4))) g t (cs5 f'):=by
 have:=((((h.set_ 0 (.int .u32 (f' 0))).set_ 1 (.int .u32 (f' 1))).set_ 2 (.int .u32 (f' 2))).set_ 3 (.int .u32 (f' 3))).set_ 4 (.int .u32 (f' 4));exact this
theorem Blk.far5 {W:World} {g g':Nat} {t:TypeId} {cs:Array Value} (h:Blk W g t cs) (hg:g≠g') (f':Nat→Int) :
 Blk (((((W.setCell ⟨g',0,none⟩ (.int .u32 (f' 0))).setCell ⟨g',1,none⟩ (.int .u32 (f' 1))).setCell ⟨g',2,none⟩ (.int .u32 (f' 2))).setCell ⟨g',3,none⟩ (.int .u32 (f' 3))).setCell ⟨g',4,none⟩ (.int .u32 (f' 4))) g t cs:=
 ((((h.far (p:=⟨g',0,none⟩) hg _).far (p:=⟨g',1,none⟩) hg _).far (p:=⟨g',2,none⟩) hg _).far (p:=⟨g',3,none⟩) hg _).far (p:=⟨g',4,none⟩) hg _
theorem mul_zero5 (a:Int) (N:Nat):cs5 (dg (a * ((N % 2 ^ 0:Nat):Int)))=cs5 (fun _=>0):=by
 rw [show a * ((N % 2 ^ 0:Nat):Int)=0 by simp [Nat.mod_one]];rfl
theorem mul_step0 {N k:Nat} (h:N / 2 ^ k % 2=0):N % 2 ^ (k+1)=N % 2 ^ k:=by
 rw [Nat.pow_succ,Nat.mod_mul,h];simp
theorem mul_step1 {N k:Nat} (h:N / 2 ^ k % 2=1):N % 2 ^ (k+1)=N % 2 ^ k+2 ^ k:=by
 rw [Nat.pow_succ,Nat.mod_mul,h];simp
theorem lim_in {n:Int} (h:inr n):-730750818665451459101842416358141509827966271488≤n∧n<730750818665451459101842416358141509827966271488:=by unfold inr at h;omega
theorem MulI.later {w w2 W W':World} {a:Int} {N k:Nat} (h:MulI w w2 W a N k) (hb:Below W.heap.size W W'):MulI w w2 W' a N k:=
 ⟨h.le,btr h.bel hb,h.b4.below hb h.b4.lt,h.b5.below hb h.b5.lt,h.b6.below hb h.b6.lt⟩
theorem mul_bit {n:Int} (N k:Nat) (hn:(N:Int)=n) (h:n<18446744073709551616):(bits BinOp.and IntKind.u64 (n / 2 ^ k) 1=0∧N / 2 ^ k % 2=0)∨(bits BinOp.and IntKind.u64 (n / 2 ^ k) 1=1∧N / 2 ^ k % 2=1):=by
 have e:n / 2 ^ k=((N / 2 ^ k:Nat):Int):=by rw [← hn,Int.natCast_ediv,Int.natCast_pow];rfl
 have hlt:N / 2 ^ k<18446744073709551616:=Nat.lt_of_le_of_lt (Nat.div_le_self _ _) (by omega);rw [e];generalize N / 2 ^ k=q at *;have hb:bits BinOp.and IntKind.u64 (q:Int) 1=((q % 2:Nat):Int):=by
  have h1:(BitVec.ofInt 64 (q:Int)).toNat=q:=by rw [BitVec.ofInt_natCast,BitVec.toNat_ofNat];exact Nat.mod_eq_of_lt (by omega)
  have h2:(BitVec.ofInt 64 (1:Int)).toNat=1:=by decide
  show IntKind.u64.wrap ((BitVec.ofInt 64 (q:Int) &&& BitVec.ofInt 64 (1:Int)).toNat:Int)=_;rw [BitVec.toNat_and,h1,h2,Nat.and_one_is_mod,IntKind.wrap_u64];omega
 rw [hb];rcases Nat.mod_two_eq_zero_or_one q with h|h
 ·exact .inl ⟨by rw [h];rfl,h⟩
 ·exact .inr ⟨by rw [h];rfl,h⟩
set_option maxRecDepth 100000 in
set_option maxHeartbeats 10000000 in
theorem rmul_any (a b:Int) (w:World) (ha:i64ok a) (hb:i64ok b) :
 Calls Tryz.prog 82 #[.int .i64 a,.int .i64 b] w fun e w'=>e=.returned (.agg #[.int .i64 (two (a * b)).hi,.int .u64 (two (a * b)).lo])∧Below w.heap.size w w':=by
 have HA:=hide ha;have HB:=hide hb;have HOK:Hid (two a).ok:=hide (two_ok (by unfold i64ok at ha;unfold inr;omega));obtain ⟨N,hN⟩:∃ N,b.natAbs=N:=⟨_,rfl⟩;have HN:=hide hN;obtain ⟨n,hn⟩:∃ n:Int,(N:Int)=n:=⟨_,rfl⟩;have HNn:=hide hn;have N1:n<18446744073709551616:=by unfold i64ok at hb;omega
 have N0:0≤n:=by omega
 obtain ⟨u,hu⟩:∃ u,IntKind.u64.wrap b=u:=⟨_,rfl⟩;obtain ⟨v,hv⟩:∃ v,IntKind.u64.wrap (-u)=v:=⟨_,rfl⟩;have HV:Hid ((b<0→v=n)∧(¬ b<0→u=n)):=hide (by rw [IntKind.wrap_u64] at hu hv;unfold i64ok at hb;omega);have HK0:Hid (Blk (w.alloc (Obj.cells #[Value.int IntKind.i64 0,Value.int IntKind.u64 0] 80)) w.heap.size 80 #[Value.int IntKind.i64 0,Value.int IntKind.u64 0]):=hide (Blk.new _ _ _);clear ha hb hN hn;have HAB:Hid (inr (a * b)):=hide (by have:=abs_bound HA.out HB.out;have h2:=Int.natAbs_mul a b;unfold inr;omega);cases d1:decide (b<0)
 ·have HF:Hid (a * ((N % 2 ^ 64:Nat):Int)=a * b):=hide (by rw [Nat.mod_eq_of_lt (by have:=HNn.out;omega)];congr 1;have:=HN.out;simp at d1;omega)
  go_enter Tryz.func82,Tryz.ntmps82
  go_wp2_with fail
  refine (rof_any a _ HA.out).mono ?_;rintro e w1 ⟨rfl,hb1⟩;have HB1:Hid (Below w.heap.size w w1):=hide (btr (a:=w) (by (repeat (first|exact Below.refl _ _|refine Below.drew ?_|refine Below.setCell ?_ (by simp;try omega) _|refine bal ?_ _))) hb1);have HK1:=hide (HK0.out.below hb1 (by simp));clear hb1;go_wp2_with fail
  refine (limbs_any (two a) _ HOK.out).mono ?_;rintro e w2 ⟨rfl,hb2⟩;have HB2:=hide (btr HB1.out hb2);have HK2:=hide (HK1.out.below hb2 HK1.out.lt);have HI0:=hide ((((Bs.nil w2).al (cs5 (dg (two a).num)) 139).al (cs5 (fun _=>0)) 139));have hle:w.heap.size<w2.heap.size:=HK2.out.lt;clear hb2;rw [two_num] at HI0 ⊢;have HM:Hid (MulI w w2 ((w2.alloc (Obj.cells (cs5 (dg a)) 139)).alloc (Obj.cells (cs5 (fun _=>0)) 139)) a N 0):=hide
   ⟨hle,bal (bal HB2.out _) _,(HK2.out.alloc _).alloc _,by have:=HI0.out (w2.heap.size,139,cs5 (dg a)) (by simp);simpa using this,by
    have:=HI0.out (w2.heap.size+1,139,cs5 (fun _=>0)) (by simp);rw [mul_zero5];exact this⟩
  unfold cs5 at HM ⊢;go_wp2_with fail
  rw [show u=n from HV.out.2 (by simpa using d1)]
  go_loopw [8] (fun i wr=>∃ k:Nat,k≤64∧i=.int .i64 k∧Hid (MulI w w2 wr a N k)) (fun i _=>64 - (intOf i).toNat)
  case atStart=>exact ⟨0,by omega,rfl,HM⟩
  case round=>
   obtain ⟨k,hk,rfl,HI⟩:=hrel;clear HM HI0;by_cases hlt:k<64
   ·obtain ⟨X,hX⟩:∃ X:Int,a * 2 ^ k=X:=⟨_,rfl⟩;obtain ⟨S,hS⟩:∃ S:Int,a * ((N % 2 ^ k:Nat):Int)=S:=⟨_,rfl⟩;have B5:=HI.out.b5;have B6:=HI.out.b6;rw [hX] at B5;rw [hS] at B6;have HX:=hide hX;have HS:=hide hS;clear hX hS;have k5:=B5.cell;have q5:=B5.frozen;have z5:=B5.lt;have k6:=B6.cell;have q6:=B6.frozen;have z6:=B6.lt;replace B5:=hide B5;replace B6:=hide B6;unfold cs5 at k5 k6;have hbk:=mul_bit N k HNn.out N1;have HXX:Hid (X+X=a * 2 ^ (k+1)):=hide (by rw [← HX.out,Int.pow_succ];grind);rcases hbk with ⟨hbit,hd⟩|⟨hbit,hd⟩
    ·have HSS:Hid (S=a * ((N % 2 ^ (k+1):Nat):Int)):=hide (by rw [← HS.out,mul_step0 hd]);clear hd;go_wp2_with fail
     refine (plus_dg2 X X _).mono ?_;rintro e w3 ⟨rfl,hb3⟩;have HI3:=hide (HI.out.later hb3);have C5:=hide (B5.out.below hb3 B5.out.lt);have C6:=hide (B6.out.below hb3 B6.out.lt);clear hb3 k5 q5 z5 k6 q6 z6;have k5:=C5.out.cell;have q5:=C5.out.frozen;have z5:=C5.out.lt;unfold cs5 at k5 ⊢;go_wp2_with fail
     go_roundw
     case rel=>
      refine ⟨k+1,by omega,by go_num,hide ⟨HI.out.le,(by repeat (first|exact HI3.out.bel|refine Below.drew ?_|refine Below.setCell ?_ (by simp;try omega) _|refine bal ?_ _)),HI3.out.b4.far5 (by have:=HI.out.le;omega) _,?_,?_⟩⟩
      ·rw [← HXX.out];exact C5.out.put5 _
      ·rw [← HSS.out];exact C6.out.far5 (by omega) _
     case measure=>simp [intOf];omega
    ·have HSS:Hid (S+X=a * ((N % 2 ^ (k+1):Nat):Int)):=hide (by rw [← HS.out,← HX.out,mul_step1 hd,Int.natCast_add,Int.mul_add,Int.natCast_pow];rfl);clear hd;go_wp2_with fail
     refine (plus_dg2 S X _).mono ?_;rintro e w3 ⟨rfl,hb3⟩;have HI3:=hide (HI.out.later hb3);have C5:=hide (B5.out.below hb3 B5.out.lt);have C6:=hide (B6.out.below hb3 B6.out.lt);clear hb3 k5 q5 z5 k6 q6 z6;have k5:=C5.out.cell;have q5:=C5.out.frozen;have z5:=C5.out.lt;have k6:=C6.out.cell;have q6:=C6.out.frozen;have z6:=C6.out.lt;unfold cs5 at k5 k6 ⊢;go_wp2_with fail
     refine (plus_dg2 X X _).mono ?_;rintro e w4 ⟨rfl,hb4⟩;have D4:=hide ((HI3.out.b4.far5 (g':=w2.heap.size+1) (by have:=HI.out.le;omega) (dg (S+X))).below hb4 (by have:=HI3.out.b4.lt;simpa using this));have D5:=hide ((C5.out.far5 (g':=w2.heap.size+1) (by omega) (dg (S+X))).below hb4 (by have:=C5.out.lt;simpa using this));have D6:=hide ((C6.out.put5 (dg (S+X))).below hb4 (by have:=C6.out.lt;simpa using this));have HB4:Hid (Below w.heap.size w w4):=hide (btr (a:=w) (by repeat (first|exact HI3.out.bel|refine Below.drew ?_|refine Below.setCell ?_ (by simp;try omega) _|refine bal ?_ _)) hb4);clear hb4 k5 q5 z5 k6 q6 z6;have k5:=D5.out.cell;have q5:=D5.out.frozen;have z5:=D5.out.lt;unfold cs5 at k5 ⊢;go_wp2_with fail
     go_roundw
     case rel=>
      refine ⟨k+1,by omega,by go_num,hide ⟨HI.out.le,(by repeat (first|exact HB4.out|refine Below.drew ?_|refine Below.setCell ?_ (by simp;try omega) _|refine bal ?_ _)),D4.out.far5 (by have:=HI.out.le;omega) _,?_,?_⟩⟩
      ·rw [← HXX.out];exact D5.out.put5 _
      ·rw [← HSS.out];exact D6.out.far5 (by omega) _
     case measure=>simp [intOf];omega
   ·obtain rfl:k=64:=by omega
    have B6:=HI.out.b6;rw [HF.out] at B6;have k6:=B6.cell;have q6:=B6.frozen;have z6:=B6.lt;unfold cs5 at k6;go_wp2_with fail
    refine (whole_any (a * b) _ (lim_in HAB.out)).mono ?_;rintro e w3 ⟨rfl,hb3⟩;rw [wv_two HAB.out];have HI3:=hide (HI.out.later hb3);clear hb3 k6 q6 z6;have k4:=HI3.out.b4.cell;have q4:=HI3.out.b4.frozen;have z4:=HI3.out.b4.lt;have n1:¬ w3.heap.size=w.heap.size:=by omega
    go_wp2_with fail
    refine bodyPost_ret (v:=.agg #[.int .i64 (two (a * b)).hi,.int .u64 (two (a * b)).lo]) (by simp (maxDischargeDepth:=9) [results,Tryz.results82,go_sem,k4,z4];done) rfl ⟨rfl,(by repeat (first|exact HI3.out.bel|refine Below.drew ?_|refine Below.setCell ?_ (by simp;try omega) _|refine bal ?_ _))⟩
 ·have HF:Hid (-(a * ((N % 2 ^ 64:Nat):Int))=a * b):=hide (by rw [Nat.mod_eq_of_lt (by have:=HNn.out;omega),← Int.mul_neg];congr 1;have:=HN.out;simp at d1;omega)
  go_enter Tryz.func82,Tryz.ntmps82
  go_wp2_with fail
  refine (rof_any a _ HA.out).mono ?_;rintro e w1 ⟨rfl,hb1⟩;have HB1:Hid (Below w.heap.size w w1):=hide (btr (a:=w) (by (repeat (first|exact Below.refl _ _|refine Below.drew ?_|refine Below.setCell ?_ (by simp;try omega) _|refine bal ?_ _))) hb1);have HK1:=hide (HK0.out.below hb1 (by simp));clear hb1;go_wp2_with fail
  refine (limbs_any (two a) _ HOK.out).mono ?_;rintro e w2 ⟨rfl,hb2⟩;have HB2:=hide (btr HB1.out hb2);have HK2:=hide (HK1.out.below hb2 HK1.out.lt);have HI0:=hide ((((Bs.nil w2).al (cs5 (dg (two a).num)) 139).al (cs5 (fun _=>0)) 139));have hle:w.heap.size<w2.heap.size:=HK2.out.lt;clear hb2;rw [two_num] at HI0 ⊢;have HM:Hid (MulI w w2 ((w2.alloc (Obj.cells (cs5 (dg a)) 139)).alloc (Obj.cells (cs5 (fun _=>0)) 139)) a N 0):=hide
   ⟨hle,bal (bal HB2.out _) _,(HK2.out.alloc _).alloc _,by have:=HI0.out (w2.heap.size,139,cs5 (dg a)) (by simp);simpa using this,by
    have:=HI0.out (w2.heap.size+1,139,cs5 (fun _=>0)) (by simp);rw [mul_zero5];exact this⟩
  unfold cs5 at HM ⊢;go_wp2_with fail
  rw [show v=n from HV.out.1 (by simpa using d1)]
  go_loopw [8] (fun i wr=>∃ k:Nat,k≤64∧i=.int .i64 k∧Hid (MulI w w2 wr a N k)) (fun i _=>64 - (intOf i).toNat)
  case atStart=>exact ⟨0,by omega,rfl,HM⟩
  case round=>
   obtain ⟨k,hk,rfl,HI⟩:=hrel;clear HM HI0;by_cases hlt:k<64
   ·obtain ⟨X,hX⟩:∃ X:Int,a * 2 ^ k=X:=⟨_,rfl⟩;obtain ⟨S,hS⟩:∃ S:Int,a * ((N % 2 ^ k:Nat):Int)=S:=⟨_,rfl⟩;have B5:=HI.out.b5;have B6:=HI.out.b6;rw [hX] at B5;rw [hS] at B6;have HX:=hide hX;have HS:=hide hS;clear hX hS;have k5:=B5.cell;have q5:=B5.frozen;have z5:=B5.lt;have k6:=B6.cell;have q6:=B6.frozen;have z6:=B6.lt;replace B5:=hide B5;replace B6:=hide B6;unfold cs5 at k5 k6;have hbk:=mul_bit N k HNn.out N1;have HXX:Hid (X+X=a * 2 ^ (k+1)):=hide (by rw [← HX.out,Int.pow_succ];grind);rcases hbk with ⟨hbit,hd⟩|⟨hbit,hd⟩
    ·have HSS:Hid (S=a * ((N % 2 ^ (k+1):Nat):Int)):=hide (by rw [← HS.out,mul_step0 hd]);clear hd;go_wp2_with fail
     refine (plus_dg2 X X _).mono ?_;rintro e w3 ⟨rfl,hb3⟩;have HI3:=hide (HI.out.later hb3);have C5:=hide (B5.out.below hb3 B5.out.lt);have C6:=hide (B6.out.below hb3 B6.out.lt);clear hb3 k5 q5 z5 k6 q6 z6;have k5:=C5.out.cell;have q5:=C5.out.frozen;have z5:=C5.out.lt;unfold cs5 at k5 ⊢;go_wp2_with fail
     go_roundw
     case rel=>
      refine ⟨k+1,by omega,by go_num,hide ⟨HI.out.le,(by repeat (first|exact HI3.out.bel|refine Below.drew ?_|refine Below.setCell ?_ (by simp;try omega) _|refine bal ?_ _)),HI3.out.b4.far5 (by have:=HI.out.le;omega) _,?_,?_⟩⟩
      ·rw [← HXX.out];exact C5.out.put5 _
      ·rw [← HSS.out];exact C6.out.far5 (by omega) _
     case measure=>simp [intOf];omega
    ·have HSS:Hid (S+X=a * ((N % 2 ^ (k+1):Nat):Int)):=hide (by rw [← HS.out,← HX.out,mul_step1 hd,Int.natCast_add,Int.mul_add,Int.natCast_pow];rfl);clear hd;go_wp2_with fail
     refine (plus_dg2 S X _).mono ?_;rintro e w3 ⟨rfl,hb3⟩;have HI3:=hide (HI.out.later hb3);have C5:=hide (B5.out.below hb3 B5.out.lt);have C6:=hide (B6.out.below hb3 B6.out.lt);clear hb3 k5 q5 z5 k6 q6 z6;have k5:=C5.out.cell;have q5:=C5.out.frozen;have z5:=C5.out.lt;have k6:=C6.out.cell;have q6:=C6.out.frozen;have z6:=C6.out.lt;unfold cs5 at k5 k6 ⊢;go_wp2_with fail
     refine (plus_dg2 X X _).mono ?_;rintro e w4 ⟨rfl,hb4⟩;have D4:=hide ((HI3.out.b4.far5 (g':=w2.heap.size+1) (by have:=HI.out.le;omega) (dg (S+X))).below hb4 (by have:=HI3.out.b4.lt;simpa using this));have D5:=hide ((C5.out.far5 (g':=w2.heap.size+1) (by omega) (dg (S+X))).below hb4 (by have:=C5.out.lt;simpa using this));have D6:=hide ((C6.out.put5 (dg (S+X))).below hb4 (by have:=C6.out.lt;simpa using this));have HB4:Hid (Below w.heap.size w w4):=hide (btr (a:=w) (by repeat (first|exact HI3.out.bel|refine Below.drew ?_|refine Below.setCell ?_ (by simp;try omega) _|refine bal ?_ _)) hb4);clear hb4 k5 q5 z5 k6 q6 z6;have k5:=D5.out.cell;have q5:=D5.out.frozen;have z5:=D5.out.lt;unfold cs5 at k5 ⊢;go_wp2_with fail
     go_roundw
     case rel=>
      refine ⟨k+1,by omega,by go_num,hide ⟨HI.out.le,(by repeat (first|exact HB4.out|refine Below.drew ?_|refine Below.setCell ?_ (by simp;try omega) _|refine bal ?_ _)),D4.out.far5 (by have:=HI.out.le;omega) _,?_,?_⟩⟩
      ·rw [← HXX.out];exact D5.out.put5 _
      ·rw [← HSS.out];exact D6.out.far5 (by omega) _
     case measure=>simp [intOf];omega
   ·obtain rfl:k=64:=by omega
    obtain ⟨S,hS⟩:∃ S:Int,a * ((N % 2 ^ 64:Nat):Int)=S:=⟨_,rfl⟩;have B6:=HI.out.b6;rw [hS] at B6 HF;clear hS;have k6:=B6.cell;have q6:=B6.frozen;have z6:=B6.lt;unfold cs5 at k6;go_wp2_with fail
    refine (minus_any S _).mono ?_;rintro e w5 ⟨rfl,hb5⟩;rw [HF.out];have HI5:=hide (HI.out.later hb5);have C6:=hide (B6.below hb5 B6.lt);clear hb5 k6 q6 z6;have k6:=C6.out.cell;have q6:=C6.out.frozen;have z6:=C6.out.lt;unfold cs5 at k6 ⊢;go_wp2_with fail
    refine (whole_any (a * b) _ (lim_in HAB.out)).mono ?_;rintro e w3 ⟨rfl,hb3⟩;rw [wv_two HAB.out];have D4:=hide ((HI5.out.b4.far5 (g':=w2.heap.size+1) (by have:=HI.out.le;omega) (dg (a * b))).below hb3 (by have:=HI5.out.b4.lt;simpa using this));have HB3:Hid (Below w.heap.size w w3):=hide (btr (a:=w) (by repeat (first|exact HI5.out.bel|refine Below.drew ?_|refine Below.setCell ?_ (by simp;try omega) _|refine bal ?_ _)) hb3);have hle5:=HI.out.le;clear hb3 k6 q6 z6;have k4:=D4.out.cell;have q4:=D4.out.frozen;have z4:=D4.out.lt;have n1:¬ w3.heap.size=w.heap.size:=by omega
    go_wp2_with fail
    refine bodyPost_ret (v:=.agg #[.int .i64 (two (a * b)).hi,.int .u64 (two (a * b)).lo]) (by simp (maxDischargeDepth:=9) [results,Tryz.results82,go_sem,k4,z4];done) rfl ⟨rfl,(by repeat (first|exact HB3.out|refine Below.drew ?_|refine Below.setCell ?_ (by simp;try omega) _|refine bal ?_ _))⟩
end Go.Proofs.YtacinobmcgcccaaGreatDoor
