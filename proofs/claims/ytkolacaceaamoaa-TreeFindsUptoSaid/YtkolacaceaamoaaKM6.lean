/- The frame's Sum: a number of 32 bits that the bytes alone fix. -/
import Derived.Test.YtkolacaceaamoaaKM5
import Derived.BigRegion
import Derived.Laws.BitsAllLaws
import Derived.Lib.EndianBits
/- The frame's Sum: a number of 32 bits that the bytes alone fix. -/
set_option linter.unusedSimpArgs false
set_option linter.unusedVariables false
namespace Go.Proofs.Ytkolacaceaamoaa
open Go.RowKit
/-- A slice of bytes that can be read. -/
abbrev RB (w:World) (B:Nat) (A:Option Addr) (n:Nat) (l:Cn):Prop:=Reads w B 1 A n (cs8 l)
theorem RB.len {w:World} {B:Nat} {A:Option Addr} {n:Nat} {l:Cn} (h:RB w B A n l):l.length = n:=by have:=h.1; rw [cs8_len] at this; omega
theorem RB.at_ {w:World} {B:Nat} {A:Option Addr} {n:Nat} {l:Cn} (h:RB w B A n l) {k:Nat} (hk:k < n) (hl:k < l.length):∃ ad,A = some ad ∧ ad.block < B ∧ w.cell? (ad.add k) = some (.int .u8 (l[k].toNat:Int)):=by
 obtain ⟨ad,u,e,hb,hu,hc⟩:=Reads.at_ h hk
 rw [cs8_get,List.getElem?_eq_getElem hl] at hu
 injection hu with hu
 exact ⟨ad,e,hb,by rw [hc,← hu]; rfl⟩
def crcT:List Nat:=[0,498536548,997073096,651767980,1994146192,1802195444,1303535960,1342533948,3988292384,4027552580,3604390888,3412177804,2607071920,2262029012,2685067896,3183342108]
theorem crcT_len:crcT.length = 16:=rfl
theorem crcT_lt:∀ x ∈ crcT,x < 4294967296:=by decide
def crcN (c:Nat):Nat:=(c / 16) ^^^ (crcT[c % 16]'(by rw [crcT_len]; omega))
theorem crcN_lt {c:Nat} (h:c < 4294967296):crcN c < 4294967296:=by
 have:=crcT_lt _ (List.getElem_mem (l:=crcT) (n:=c % 16) (by rw [crcT_len]; omega))
 exact Nat.xor_lt_two_pow (n:=32) (by omega) this
def crcB (c:Nat) (x:UInt8):Nat:=crcN (crcN (c ^^^ x.toNat))
theorem crcB_lt {c:Nat} {x:UInt8} (h:c < 4294967296):crcB c x < 4294967296:=
 crcN_lt (crcN_lt (Nat.xor_lt_two_pow (n:=32) h (by have:=x.toNat_lt; omega)))
def crcL (l:Cn):Nat:=l.foldl crcB 4294967295
theorem crcF_lt:∀ (l:Cn) (c:Nat),c < 4294967296 → l.foldl crcB c < 4294967296
 | [],c,h=>h
 | x :: l,c,h=>crcF_lt l _ (crcB_lt h)
theorem crcL_lt (l:Cn):crcL l < 4294967296:=crcF_lt l _ (by omega)
theorem crcL_succ (l:Cn) {k:Nat} (h:k < l.length):crcL (l.take (k + 1)) = crcB (crcL (l.take k)) l[k]:=by
 unfold crcL
 rw [List.take_succ_eq_append_getElem h,List.foldl_append]
 rfl
/-- The sum of bytes. -/
def sumF (l:Cn):Nat:=4294967295 ^^^ crcL l
theorem sumF_lt (l:Cn):sumF l < 4294967296:=Nat.xor_lt_two_pow (n:=32) (by omega) (crcL_lt l)
def crcA:Array Value:=(crcT.map fun (x:Nat)=>Value.int .u32 ((x:Nat):Int)).toArray
theorem crcA_at {k:Nat} (h:k < 16):crcA[k]? = some (.int .u32 ((crcT[k]'(by rw [crcT_len]; exact h):Nat):Int)):=by
 unfold crcA
 rw [List.getElem?_toArray,List.getElem?_map,List.getElem?_eq_getElem (by rw [crcT_len]; exact h)]
 rfl
theorem crc_step {W:World} {B:Nat} {T:TypeId} (hb:Blk W B T crcA) {c1:Nat} (hl:c1 < 4294967296):∃ (c2 m:Nat),∃ t:Nat,∃ _:W.cell? ⟨B,m,none⟩ = some (.int .u32 (t:Int)),bits .xor .u32 ((c1:Int) / 16) (t:Int) = (c2:Int) ∧ bits .and .u32 (c1:Int) 15 = (m:Int) ∧ m < 16 ∧ c2 < 4294967296 ∧ Hid (crcN c1 = c2):=by
 have ht:=crcT_lt _ (List.getElem_mem (l:=crcT) (n:=c1 % 16) (by rw [crcT_len]; omega))
 refine ⟨crcN c1,c1 % 16,crcT[c1 % 16]'(by rw [crcT_len]; omega),?_,?_,?_,by omega,crcN_lt hl,rfl⟩
 ·rw [hb.cell,crcA_at (by omega)]
 ·rw [show (c1:Int) / 16 = ((c1 / 16:Nat):Int) by omega]
  exact u32_xor_nat _ _ (by omega) ht
 ·have:=u32_and_nat c1 15 hl (by omega)
  rw [show (15:Int) = ((15:Nat):Int) by rfl,this,show c1 &&& 15 = c1 % 16 from Nat.and_two_pow_sub_one_eq_mod c1 4]
set_option maxRecDepth 100000 in
set_option maxHeartbeats 1000000 in
theorem sum_any (A:Option Addr) (n c:Nat) (l:Cn) (w:World) (hr:RB w w.heap.size A n l) (hn:n ≤ 9223372036854775807) :
  Calls Try.prog 77 #[.slice A n c] w fun e w'=>e = .returned (.int .u32 (sumF l:Int)) ∧ Below w.heap.size w w':=by
 have HR:=hide hr
 have HN:=hide (RB.len hr)
 clear hr
 go_enter Try.func77,Try.ntmps77
 go_wp2_with fail
 go_loopw [4,10] (fun cv i wr=>∃ k:Nat,k ≤ n ∧ i = .int .i64 k ∧ Hid (cv = .int .u32 (crcL (l.take k):Int)) ∧ Hid (Below w.heap.size w wr ∧ Blk wr w.heap.size 173 crcA)) (fun _ i _=>n - (intOf i).toNat)
 case atStart=>exact ⟨0,by omega,rfl,rfl,hide ⟨by (repeat (first | exact Below.refl _ _ | refine Below.drew ?_ | refine Below.setCell ?_ (by simp; try omega) _ | refine bal ?_ _)),Blk.new w _ _⟩⟩
 case round=>
  obtain ⟨k,hk,rfl,HC,HI⟩:=hrel
  by_cases hlt:k < n
  ·obtain ⟨ad,rfl,hab,hac⟩:=RB.at_ (HR.out.below HI.out.1) hlt (by rw [HN.out]; exact hlt)
   obtain ⟨x,hx⟩:∃ x,l[k]'(by rw [HN.out]; exact hlt) = x:=⟨_,rfl⟩
   rw [hx] at hac
   have HX:=hide hx
   obtain ⟨c0,hc0⟩:∃ c0,crcL (l.take k) = c0:=⟨_,rfl⟩
   rw [hc0] at HC
   have hcl:c0 < 4294967296:=by rw [← hc0]; exact crcL_lt _
   have HC0:=hide hc0
   clear hx hc0
   obtain rfl:=HC.out
   obtain ⟨c1,h1,hl1,HC1⟩:∃ c1:Nat,bits .xor .u32 (c0:Int) ((x.toNat:Int) % 4294967296) = (c1:Int) ∧ c1 < 4294967296 ∧ Hid (c0 ^^^ x.toNat = c1):=by
    have hx:=x.toNat_lt
    refine ⟨_,?_,?_,rfl⟩
    ·rw [show (x.toNat:Int) % 4294967296 = ((x.toNat:Nat):Int) by omega]
     exact u32_xor_nat c0 x.toNat hcl (by omega)
    ·exact Nat.xor_lt_two_pow (n:=32) hcl (by omega)
   obtain ⟨c2,m1,t1,k1,h2,a1,g1,hl2,HC2⟩:=crc_step HI.out.2 hl1
   obtain ⟨c3,m2,t2,k2,h3,a2,g2,hl3,HC3⟩:=crc_step HI.out.2 hl2
   have z1:=HI.out.2.lt
   go_upto_region 9 with fail
   go_wp2
   go_roundw
   case rel=>exact ⟨k + 1,by omega,by go_num,hide (by rw [crcL_succ l (by rw [HN.out]; exact hlt),HC0.out,HX.out]; unfold crcB; rw [HC1.out,HC2.out,HC3.out]),HI⟩
   case measure=>simp [intOf]; omega
  ·have e:k = n:=by omega
   subst e
   obtain rfl:=HC.out
   go_wp2
   refine bodyPost_ret (v:=.int .u32 (sumF l:Int)) ?_ rfl ⟨rfl,HI.out.1⟩
   have h:=u32_xor_nat 4294967295 (crcL l) (by omega) (crcL_lt l)
   simp [results,Try.results77,go_sem]
   rw [List.take_of_length_le (by rw [HN.out]; exact Nat.le_refl _)]
   exact h
end Go.Proofs.Ytkolacaceaamoaa
/- The frame's PutNum: bytes of a number behind bytes. -/
namespace Go.Proofs.Ytkolacaceaamoaa
open Go.RowKit
set_option maxHeartbeats 1000000 in
theorem clone_all (A:Option Addr) (n c:Nat) (l:Cn) (w:World) (hr:RB w w.heap.size A n l) (hn:n ≤ 60000) :
  Calls Try.prog 48 #[.slice A n c] w fun e w'=>∃ v,e = .returned v ∧ w'.ownsRow w.heap.size T8 1 v n (cs8 l) ∧ Below w.heap.size w w':=by
 rcases A with _ | ad
 ·have hn0:n = 0:=by
   rcases Nat.eq_zero_or_pos n with h | h
   ·exact h
   ·obtain ⟨_,h,_⟩:=hr.2 h; cases h
  subst hn0
  have hl:l = []:=List.eq_nil_of_length_eq_zero (RB.len hr)
  subst hl
  have heq:=fun w a l c=>Lib.run_eql_slice_nil (P:=Try.prog) w 38 5 a l c 0 0 Try.underlying38
  go_enter Try.func48,Try.ntmps48
  go_wp2
  go_ret
  exact ⟨_,rfl,World.ownsRow_nil _ _ _ _,Below.refl _ _⟩
 ·exact clone_any ad n c (cs8 l) w hr (cs8_one l) hn
theorem reads_one (w:World) (x:UInt8):Reads (w.alloc (Obj.cells #[.int .u8 (x.toNat:Int)] T8)) (w.heap.size + 1) 1 (some ⟨w.heap.size,0,none⟩) 1 (cs8 [x]):=by
 refine ⟨rfl,fun _=>⟨_,rfl,Nat.lt_succ_self _,fun j u hj=>?_⟩⟩
 match j,hj with
 | 0,hj=>
  rw [show (⟨w.heap.size,0,none⟩:Addr).add 0 = ⟨w.heap.size,0,none⟩ by rfl,World.cell?_alloc_new]
  simpa [cs8,u8v] using hj
/-- A row of the call's own that grows: what stood ahead of the call stays. -/
theorem own_grow {w wr w2:World} {v:Value} {n:Nat} {xs:List Value} {o:Obj} (h:wr.ownsRow w.heap.size T8 1 v n xs) (hb:Below w.heap.size w wr) (hg:(wr.alloc o).grownBy w2 v.ownBlock):Below w.heap.size w w2:=
 (hb.alloc hb.size o).grown hg (by have:=hb.size; simp; omega) (fun k hk=>(h.lt k hk).1)
/-- The first k bytes of a number in so many. -/
def beN (n size k:Nat):Cn:=(List.range k).map fun j=>UInt8.ofNat (n / 2 ^ (8 * (size - 1 - j)))
theorem beN_len (n size k:Nat):(beN n size k).length = k:=by simp [beN]
theorem beN_succ (n size k:Nat):beN n size (k + 1) = beN n size k ++ [UInt8.ofNat (n / 2 ^ (8 * (size - 1 - k)))]:=by simp [beN,List.range_succ]
set_option maxRecDepth 100000 in
set_option maxHeartbeats 1000000 in
theorem put_any (A:Option Addr) (m c:Nat) (l:Cn) (n size:Nat) (w:World) (hr:RB w w.heap.size A m l) (hm:m ≤ 60000) (hs:1 ≤ size ∧ size ≤ 7) (hn:n < 2 ^ (8 * size)) :
  Calls Try.prog 92 #[.slice A m c,.int .i64 n,.int .i64 size] w fun e w'=>∃ v,e = .returned v ∧ w'.ownsRow w.heap.size T8 1 v (m + size) (cs8 (l ++ beN n size size)) ∧ Below w.heap.size w w':=by
 obtain ⟨i0,hi0,hz0,hz1,hz2⟩:=info_parts u8_info
 have HR:=hide hr
 have hdv:n / 2 ^ (8 * size) = 0:=Nat.div_eq_of_lt hn
 have hn63:n < 9223372036854775808:=Nat.lt_of_lt_of_le hn (by have:=Nat.pow_le_pow_right (n:=2) (by omega) (show 8 * size ≤ 63 by omega); simpa using this)
 have HDV:=hide hdv
 clear hr hn hdv
 obtain ⟨s1,s2⟩:=hs
 go_enter Try.func92,Try.ntmps92
 go_upto_region 2 with (go_at_call 48; (refine (clone_all A m c l w HR.out hm).mono ?_); rintro e w1 ⟨v,rfl,ho,hb⟩; have HO:=hide ho; have HB:=hide hb; clear ho hb)
 have d0:(n:Int) / 2 ^ (8 * size) = 0:=by have:=HDV.out; exact_mod_cast this
 have d1:decide ((n:Int) < 0) = false:=by simp
 have d2:decide ((size:Int) < 1) = false:=by simp; omega
 have d3:decide ((8:Int) < (size:Int)) = false:=by simp; omega
 have d4:decide ((size:Int) < 8) = true:=by simp; omega
 go_upto_region 5 with fail
 clear d0 d1 d2 d3 d4
 go_loopw [7,8] (fun vv kk wr=>∃ (j:Nat) (V:Value),V = vv ∧ j ≤ size ∧ kk = .int .i64 ((size:Int) - 1 - j) ∧ Hid (wr.ownsRow w.heap.size T8 1 V (m + j) (cs8 (l ++ beN n size j)) ∧ Below w.heap.size w wr)) (fun _ kk _=>(intOf kk + 1).toNat)
 case atStart=>exact ⟨0,_,rfl,by omega,by go_num,hide ⟨by simpa [beN] using HO.out,HB.out⟩⟩
 case round=>
  obtain ⟨j,vv,rfl,hj,rfl,HI⟩:=hrel
  by_cases hlt:j < size
  ·obtain ⟨q,hq⟩:∃ q:Nat,(size:Int) - 1 - j = (q:Int):=⟨size - 1 - j,by omega⟩
   have hq7:q ≤ 6:=by omega
   obtain ⟨x,hx⟩:∃ x,UInt8.ofNat (n / 2 ^ (8 * q)) = x:=⟨_,rfl⟩
   have HX:=hide (show beN n size (j + 1) = beN n size j ++ [x] by rw [beN_succ,← hx,show size - 1 - j = q by omega])
   have HXV:=hide (show (n:Int) / 2 ^ (8 * q) % 256 = (x.toNat:Int) by rw [← hx]; simp)
   rw [hq]
   have HQ:=hide hq
   clear hq hx
   go_upto_region 6 with (at_builtin; rw [HXV.out]; (refine wpList_append_any _ rfl (.tmp 39) (.tmp 45) _ rfl w.heap.size T8 i0 _ 1 1 Try.underlying38 hi0 hz0 hz1 hz2 rfl (by omega) vv (m + j) (cs8 (l ++ beN n size j)) rfl (own_later HI.out.1 ((Below.refl _ _).alloc (Nat.le_refl _) _)) (wr.heap.size + 1) (some ⟨wr.heap.size,0,none⟩) 1 1 (cs8 [x]) rfl (reads_one wr x) (cs8_one _) (by unfold maxLen; omega) (by omega) (by have:=HI.out.2.size; simp; omega) ?_); intro v' w2 ho hg _; have HO2:=hide ho; have HG2:=hide (own_grow HI.out.1 HI.out.2 hg); clear ho hg)
   go_wp2_with fail
   go_roundw
   case rel=>exact ⟨j + 1,_,rfl,by omega,by have:=HQ.out; go_num,hide ⟨by have:=HO2.out; rw [HX.out,← List.append_assoc]; simpa [cs8,Nat.add_assoc] using this,HG2.out⟩⟩
   case measure=>simp [intOf]
  ·have e:j = size:=by omega
   subst e
   have d1:decide (0 ≤ (j:Int) - 1 - (j:Int)) = false:=by simp; omega
   go_wp2
   go_ret
   exact ⟨_,rfl,HI.out⟩
end Go.Proofs.Ytkolacaceaamoaa
/- The frame's Num: the number at a place. -/
namespace Go.Proofs.Ytkolacaceaamoaa
open Go.RowKit
def evS (n:Nat) (x:UInt8):Nat:=n * 256 + x.toNat
/-- The number that bytes are. -/
def evN (l:Cn):Nat:=l.foldl evS 0
theorem evN_succ (l:Cn) {k:Nat} (h:k < l.length):evN (l.take (k + 1)) = evN (l.take k) * 256 + l[k].toNat:=by
 unfold evN
 rw [List.take_succ_eq_append_getElem h,List.foldl_append]
 rfl
theorem evN_lt (l:Cn):∀ k,k ≤ l.length → evN (l.take k) < 2 ^ (8 * k)
 | 0,_=>by simp [evN]
 | k + 1,h=>by
  rw [evN_succ l (by omega)]
  have h1:=evN_lt l k (by omega)
  have h2:=l[k].toNat_lt
  have h3:2 ^ (8 * (k + 1)) = 2 ^ (8 * k) * 256:=by rw [show 8 * (k + 1) = 8 * k + 8 by omega,Nat.pow_add]
  omega
theorem RB.sub {w:World} {B:Nat} {A:Option Addr} {n:Nat} {l:Cn} (h:RB w B A n l) {i k cap:Nat} (hk:i + k ≤ n) (h0:0 < k) (hc:n ≤ cap):∃ ad,A = some ad ∧ ad.block < B ∧ RB w B (some (ad.add i)) k ((l.drop i).take k):=by
 obtain ⟨ad,e,hb,hcell⟩:=h.2 (by omega)
 have hl:=RB.len h
 refine ⟨ad,e,hb,by rw [cs8_len,List.length_take,List.length_drop]; omega,fun _=>⟨_,rfl,by rw [block_of_add]; exact hb,fun j u hu=>?_⟩⟩
 rw [add_of_add]
 refine hcell _ u ?_
 rw [cs8_get] at hu ⊢
 rw [List.getElem?_take] at hu
 split at hu
 ·rw [List.getElem?_drop] at hu; exact hu
 ·cases hu
set_option maxRecDepth 100000 in
set_option maxHeartbeats 1000000 in
theorem num_any (A:Option Addr) (n c:Nat) (l:Cn) (i k:Nat) (w:World) (hr:RB w w.heap.size A n l) (hc:n ≤ c) (hn:n ≤ 60000) (hk:1 ≤ k ∧ k ≤ 7) (hi:i + k ≤ n) :
  Calls Try.prog 45 #[.slice A n c,.int .i64 i,.int .i64 k] w fun e w'=>e = .returned (.tuple #[.int .i64 (evN ((l.drop i).take k):Int),.int .i64 0]) ∧ Below w.heap.size w w':=by
 obtain ⟨ad,rfl,hab,hs⟩:=RB.sub hr hi hk.1 hc
 obtain ⟨M,hM⟩:∃ M,(l.drop i).take k = M:=⟨_,rfl⟩
 rw [hM] at hs ⊢
 have HS:=hide hs
 have HL:=hide (RB.len hs)
 clear hs hr hM
 obtain ⟨k1,k2⟩:=hk
 have d1:decide ((k:Int) < 1) = false:=by simp; omega
 have d2:decide ((7:Int) < k) = false:=by simp; omega
 have d3:decide ((i:Int) < 0) = false:=by simp
 have d4:decide ((n:Int) < i) = false:=by simp; omega
 have d5:decide ((n:Int) - i < k) = false:=by simp; omega
 have n1:¬ c = i:=by omega
 go_enter Try.func45,Try.ntmps45
 go_upto_region 7 with fail
 have e1:i + k - i = k:=by omega
 simp only [e1]
 clear d1 d2 d3 d4 d5 n1 e1
 go_loopw [8,40] (fun nv kk wr=>∃ j:Nat,j ≤ k ∧ kk = .int .i64 j ∧ Hid (nv = .int .i64 (evN (M.take j):Int)) ∧ wr = w) (fun _ kk _=>k - (intOf kk).toNat)
 case atStart=>exact ⟨0,by omega,rfl,rfl,rfl⟩
 case round=>
  obtain ⟨j,hj,rfl,HV,rfl⟩:=hrel
  by_cases hlt:j < k
  ·obtain ⟨ad',e',hab',hac⟩:=RB.at_ HS.out hlt (by rw [HL.out]; exact hlt)
   injection e' with e'
   subst e'
   obtain ⟨x,hx⟩:∃ x,M[j]'(by rw [HL.out]; exact hlt) = x:=⟨_,rfl⟩
   rw [hx] at hac
   obtain ⟨c0,hc0⟩:∃ c0,evN (M.take j) = c0:=⟨_,rfl⟩
   rw [hc0] at HV
   have hcl:c0 < 281474976710656:=by
    have h1:=evN_lt M j (by rw [HL.out]; exact hj)
    have h2:2 ^ (8 * j) ≤ 2 ^ 48:=Nat.pow_le_pow_right (by omega) (by omega)
    rw [hc0] at h1
    omega
   have HC1:=hide (show evN (M.take (j + 1)) = c0 * 256 + x.toNat by rw [evN_succ M (by rw [HL.out]; exact hlt),hc0,hx])
   have hxl:=x.toNat_lt
   have h1:bits .or .i64 ((c0:Int) * 256) (x.toNat:Int) = (c0:Int) * 256 + (x.toNat:Int):=
    bits_join .i64 63 (by decide) (fun n h0 h1=>by rw [show IntKind.i64.wrap n = n from ?_]; simp [IntKind.wrap,IntKind.bits,IntKind.signed]; omega) 8 _ _ (by omega) (by omega) (by omega) (by omega) (by omega) (by omega)
   clear hx hc0
   obtain rfl:=HV.out
   go_upto_region 10 with fail
   go_wp2
   go_roundw
   case rel=>exact ⟨j + 1,by omega,by go_num,hide (by rw [HC1.out]; go_num),trivial⟩
   case measure=>simp [intOf]; omega
  ·have e:j = k:=by omega
   subst e
   obtain rfl:=HV.out
   go_wp2
   refine bodyPost_ret (v:=.tuple #[.int .i64 (evN M:Int),.int .i64 0]) ?_ rfl ⟨rfl,Below.refl _ _⟩
   simp [results,Try.results45,go_sem]
   rw [List.take_of_length_le (by rw [HL.out]; exact Nat.le_refl _)]
theorem pos_any (x:UInt8) (w:World):Calls Try.prog 79 #[.int .u8 (x.toNat:Int)] w fun e w'=>e = .returned (.bool (decide (0 < x.toNat))) ∧ Below w.heap.size w w':=by
 have h:decide ((0:Int) < (x.toNat:Int)) = decide (0 < x.toNat):=by simp
 go_enter Try.func79,Try.ntmps79
 go_wp2_with fail
 go_ret
 exact ⟨ret_bool (by first | exact h | simp),Below.refl _ _⟩
def anyP (l:Cn):Bool:=l.any fun x=>decide (0 < x.toNat)
set_option maxRecDepth 100000 in
set_option maxHeartbeats 1000000 in
theorem index_any (A:Option Addr) (n c:Nat) (l:Cn) (w:World) (hr:RB w w.heap.size A n l) (hn:n ≤ 60000) :
  Calls Try.prog 97 #[.slice A n c,.func (.func 79) #[] #[]] w fun e w'=>(∃ r:Int,e = .returned (.int .i64 r) ∧ decide (0 ≤ r) = anyP l) ∧ Below w.heap.size w w':=by
 have HR:=hide hr
 have HN:=hide (RB.len hr)
 clear hr
 go_enter Try.func97,Try.ntmps97
 go_wp2_with fail
 go_loopw [8] (fun kk wr=>∃ j:Nat,j ≤ n ∧ kk = .int .i64 j ∧ Hid (anyP (l.take j) = false ∧ Below w.heap.size w wr)) (fun kk _=>n - (intOf kk).toNat)
 case atStart=>exact ⟨0,by omega,rfl,hide ⟨rfl,Below.refl _ _⟩⟩
 case round=>
  obtain ⟨j,hj,rfl,HI⟩:=hrel
  by_cases hlt:j < n
  ·have hjl:j < l.length:=by rw [HN.out]; exact hlt
   obtain ⟨ad,rfl,hab,hac⟩:=RB.at_ (HR.out.below HI.out.2) hlt hjl
   obtain ⟨x,hx⟩:∃ x,l[j]'hjl = x:=⟨_,rfl⟩
   rw [hx] at hac
   have HC:=hide (show anyP (l.take (j + 1)) = decide (0 < x.toNat) by
    have h1:=HI.out.1
    unfold anyP at h1 ⊢
    rw [List.take_succ_eq_append_getElem hjl,List.any_append,h1,hx]; simp)
   clear hx
   cases hd:decide (0 < x.toNat)
   ·rw [hd] at HC
    go_wp2_with (go_at_call 79; (refine (pos_any x _).mono ?_); rintro e w1 ⟨rfl,hb⟩; rw [hd]; have HB:=hide (HI.out.2.trans (hb.mono HI.out.2.size)); clear hb)
    go_roundw
    case rel=>exact ⟨j + 1,by omega,by go_num,hide ⟨HC.out,HB.out⟩⟩
    case measure=>simp [intOf]; omega
   ·rw [hd] at HC
    go_wp2_with (go_at_call 79; (refine (pos_any x _).mono ?_); rintro e w1 ⟨rfl,hb⟩; rw [hd]; have HB:=hide (HI.out.2.trans (hb.mono HI.out.2.size)); clear hb)
    go_ret
    refine ⟨⟨_,rfl,?_⟩,HB.out⟩
    have h1:=HC.out
    have h2:anyP l = true:=by
     unfold anyP at h1 ⊢
     rw [← List.take_append_drop (j + 1) l,List.any_append,h1]; rfl
    rw [h2]; simp
  ·have e:j = n:=by omega
   subst e
   go_wp2
   go_ret
   refine ⟨⟨_,rfl,?_⟩,HI.out.2⟩
   have h1:=HI.out.1
   rw [List.take_of_length_le (by rw [HN.out]; exact Nat.le_refl _)] at h1
   rw [h1]; simp
theorem contains_any (A:Option Addr) (n c:Nat) (l:Cn) (w:World) (hr:RB w w.heap.size A n l) (hn:n ≤ 60000) :
  Calls Try.prog 78 #[.slice A n c,.func (.func 79) #[] #[]] w fun e w'=>e = .returned (.bool (anyP l)) ∧ Below w.heap.size w w':=by
 have HR:=hide hr
 clear hr
 go_enter Try.func78,Try.ntmps78
 go_wp2_with (go_at_call 97; (refine (index_any A n c l w HR.out hn).mono ?_); rintro e w1 ⟨⟨r,rfl,h⟩,hb⟩; have HB:=hide hb; clear hb)
 go_ret
 exact ⟨rfl,HB.out⟩
end Go.Proofs.Ytkolacaceaamoaa
