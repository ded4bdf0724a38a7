/- append of noughts; the frame's Seal. -/
import Derived.Test.YtkolacaceaamoaaKM6
import Derived.Test.YtkolacaceaamoaaKM1
import Derived.Lib.AppendZerosOnto
/- append of noughts; the frame's Seal. -/
set_option linter.unusedSimpArgs false
set_option linter.unusedVariables false
namespace Go.Proofs.Ytkolacaceaamoaa
open Go.RowKit
theorem zeroCells_one (z:Value) (m:Nat):(Builtin.zeroCells #[z] m).toList = List.replicate m z:=by
 simp only [Builtin.zeroCells,Array.toList_map,Array.toList_range]
 rw [List.eq_replicate_iff]
 refine ⟨by simp,fun b hb=>?_⟩
 obtain ⟨i,_,rfl⟩:=List.mem_map.1 hb
 simp [Nat.mod_one]
theorem run_append_zeros {w:World} (base:Nat) (ty:TypeId) (i:TypeInfo) (hi:Try.prog.info? T8 = some i) (hz:i.zero = some (.int .u8 0)) (hs:i.size = 1) (hb:i.bytes = 1)
  (g n cap:Nat) (xs:List Value) (hown:w.ownsRow base T8 1 (.slice (some ⟨g,0,none⟩) n cap) n xs) (m:Nat) (hnm:n + m ≤ 60000) (hbase:base ≤ w.heap.size) :
  ∃ v' w',(Builtin.append_ #[38,3] ty #[.slice (some ⟨g,0,none⟩) n cap,.int .i64 m]).run Try.prog w = .ok v' w' ∧ w'.ownsRow base T8 1 v' (n + m) (xs ++ List.replicate m (.int .u8 0)) ∧ w.grownBy w' (some g):=by
 have hneg:¬ ((m:Int) < 0):=by omega
 have hw:IntKind.i64.wrap (m:Int) = m:=by rw [IntKind.wrap_i64]; omega
 have h48:¬ (281474976710656 < (m:Int)):=by omega
 have hns:m ≠ 0 → ¬ (m * 1 = 0):=fun h=>by omega
 rcases hown.2 with ⟨e,_⟩ | ⟨g',cap',cur,e,hbg,hg,hnc,hcm,hcs,htake⟩
 ·cases e
 injection e with e1 e2 e3
 injection e1 with e1
 injection e1 with e1
 subst e1 e3
 have hnews:(Builtin.zeroCells #[Value.int .u8 0] m).toList = List.replicate m (.int .u8 0):=zeroCells_one _ m
 have hone:∀ u ∈ List.replicate m (Value.int .u8 0),u.oneCell' = true:=fun u hu=>by rw [(List.mem_replicate.1 hu).2]; rfl
 have hlen:(xs ++ List.replicate m (Value.int .u8 0)).length = (n + m) * 1:=by rw [List.length_append,hown.1,List.length_replicate,Nat.add_mul,Nat.mul_one,Nat.mul_one]
 by_cases hroom:n + m ≤ cap
 ·have hfit:n * 1 + (List.replicate m (Value.int .u8 0)).length ≤ cur.size:=by rw [List.length_replicate,hcs]; omega
  have hst:=run_storeCells_at Try.prog g (n * 1) T8 (List.replicate m (.int .u8 0)) 0 cur w hg (by simpa using hfit) hone
  simp only [Nat.add_zero] at hst
  refine ⟨.slice (some ⟨g,0,none⟩) (n + m) cap,w.setRow g (cur.toList.take (n * 1) ++ List.replicate m (Value.int .u8 0) ++ cur.toList.drop (n * 1 + (List.replicate m (Value.int .u8 0)).length)).toArray,?_,⟨hlen,.inr ⟨g,cap,_,rfl,hbg,setRow_heap w g cur _ T8 _ hg,hroom,hcm,?_,?_⟩⟩,⟨rfl,rfl,rfl,by simp,fun k _ hk=>setRow_other w g k _ (fun e=>hk (by rw [e]))⟩⟩
  ·by_cases hm:m = 0
   ·subst hm
    simp [Builtin.append_,run_underlying Try.underlying38,run_underlying Try.underlying3,sizeOf,typeInfo,zeroValue,asInt,asIntOf,hi,hs,hb,hz,hnc,storeCells,show IntKind.i64.wrap 0 = 0 from rfl] at hst ⊢
    exact hst
   ·simp [Builtin.append_,run_underlying Try.underlying38,run_underlying Try.underlying3,sizeOf,typeInfo,zeroValue,asInt,asIntOf,hi,hs,hb,hz,hw,hneg,h48,hroom,hm,Addr.add_lit,hnews] at hst ⊢
    rw [show (Builtin.zeroCells (Value.int IntKind.u8 0).cells m).toList = List.replicate m (Value.int IntKind.u8 0) from hnews,hst]
    rfl
  ·simp only [List.size_toArray,List.length_append,List.length_take,List.length_drop,Array.length_toList,List.length_replicate] at hfit ⊢
   omega
  ·rw [htake,← hlen]
   exact List.take_left
 ·have hm0:0 < m:=by omega
  have holds:∀ j u,xs[j]? = some u → w.cell? ((⟨g,0,none⟩:Addr).add j) = some u:=hown.cells (g:=g) rfl
  have hold:=run_firstCells_some (P:=Try.prog) w.drew 1 n ⟨g,0,none⟩ n cap xs hown.1 (fun j v hv=>holds j v hv)
  have hr:=Go.Lib.run_append_grow_zeros (P:=Try.prog) w 38 3 ty T8 i (.int .u8 0) .i64 .i64 Try.underlying38 Try.underlying3 hi hz (some ⟨g,0,none⟩) n cap xs (by rw [hs]; exact hold) m hm0 (by omega) (by omega) (by omega) (by rw [hb]; omega) (growslice_fits (by omega) (by rw [hb]; omega))
  have hge:=grownCap_ge w (n + m) cap T8
  refine ⟨_,_,hr,⟨hlen,.inr ⟨w.heap.size,_,_,rfl,hbase,heap_alloc_new w.drew _,hge,grownCap_le_maxLen w (n + m) cap T8 (by unfold maxLen; omega),?_,?_⟩⟩,⟨rfl,rfl,rfl,by simp,fun k hk _=>Below.heap_alloc w.drew _ k hk⟩⟩
  ·have:=hown.1
   simp only [Array.size_append,List.size_toArray,size_zeroCells,Value.cells]
   simp
   omega
  ·simp only [Array.toList_append,List.append_assoc]
   rw [← List.append_assoc,← hlen]
   have:(Builtin.zeroCells (Value.cells (Value.int .u8 0)) m).toList = List.replicate m (.int .u8 0):=hnews
   rw [this]
   exact List.take_left
/-- What stands behind the sum. -/
def restC (kind:Nat) (l:Cn):Cn:=[UInt8.ofNat kind] ++ beN l.length 2 2 ++ l ++ List.replicate (505 - l.length) 0
/-- Data in a sector. -/
def sealC (kind:Nat) (l:Cn):Cn:=beN (sumF (restC kind l)) 4 4 ++ restC kind l
theorem restC_len (kind:Nat) {l:Cn} (h:l.length ≤ 505):(restC kind l).length = 508:=by
 unfold restC
 simp [beN_len]
 omega
theorem sealC_len (kind:Nat) {l:Cn} (h:l.length ≤ 505):okC (sealC kind l):=by
 unfold okC sealC
 simp [beN_len,restC_len kind h]
theorem cs8_append (a b:Cn):cs8 (a ++ b) = cs8 a ++ cs8 b:=List.map_append
theorem cs8_zeros (m:Nat):cs8 (List.replicate m 0) = List.replicate m (.int .u8 0):=List.map_replicate
theorem own_reads {w:World} {base:Nat} {v:Value} {n:Nat} {l:Cn} (h:w.ownsRow base T8 1 v n (cs8 l)):∃ A c,v = .slice A n c ∧ RB w w.heap.size A n l:=by
 obtain ⟨A,c,rfl⟩:∃ A c,v = .slice A n c:=by
  rcases h.2 with ⟨e,h0⟩ | ⟨g,cap,cur,e,_⟩
  ·exact ⟨none,0,by rw [e,h0]⟩
  ·exact ⟨_,cap,e⟩
 exact ⟨A,c,rfl,Reads.of_own h⟩
set_option maxRecDepth 100000 in
set_option maxHeartbeats 1000000 in
theorem seal_ok (A:Option Addr) (n c:Nat) (l:Cn) (kind:Nat) (w:World) (hr:RB w w.heap.size A n l) (hn:n ≤ 505) (hk:1 ≤ kind ∧ kind ≤ 255) :
  Calls Try.prog 95 #[.int .i64 kind,.slice A n c] w fun e w'=>∃ v,e = .returned (.tuple #[v,.int .i64 0]) ∧ w'.ownsRow w.heap.size T8 1 v 512 (cs8 (sealC kind l)) ∧ Below w.heap.size w w':=by
 obtain ⟨i0,hi0,hz0,hz1,hz2⟩:=info_parts u8_info
 have d1:decide ((kind:Int) < 1) = false:=by simp; omega
 have d2:decide ((255:Int) < kind) = false:=by simp; omega
 have d3:decide ((505:Int) < n) = false:=by simp; omega
 have HR:=hide hr
 have HN:=hide (RB.len hr)
 obtain ⟨k8,hk8⟩:∃ k8,UInt8.ofNat kind = k8:=⟨_,rfl⟩
 have h8:(kind:Int) % 256 = (k8.toNat:Int):=by rw [← hk8]; simp
 have HK8:=hide hk8
 clear hr hk hk8
 go_enter Try.func95,Try.ntmps95
 go_upto_region 5 with fail
 clear d1 d2 d3
 go_wp2_with fail
 refine (put_any (some ⟨w.heap.size,0,none⟩) 1 1 [k8] n 2 _ (by rw [heap_al]; exact reads_one w k8) (by omega) (by omega) (by omega)).mono ?_
 rintro e w1 ⟨v,rfl,ho,hb⟩
 rw [heap_al] at ho hb
 have hb1:Below w.heap.size w w1:=((Below.refl _ _).alloc (Nat.le_refl _) _).trans (hb.mono (by omega))
 have ho1:=own_base ho (show w.heap.size ≤ w.heap.size + 1 by omega)
 have hs1:=hb1.size
 obtain ⟨g1,c1,rfl,hg1,hl1⟩:=ho1.form (by omega)
 have HB1:=hide hb1
 have HO1:=hide ho1
 clear ho hb hb1 ho1 h8
 go_upto_region 6 with (at_builtin; (refine wpList_append_any _ rfl (.tmp 23) (.tmp 24) _ rfl w.heap.size T8 i0 _ 1 1 Try.underlying38 hi0 hz0 hz1 hz2 rfl (by omega) (.slice (some ⟨g1,0,none⟩) (1 + 2) c1) (1 + 2) _ rfl HO1.out w.heap.size A n c (cs8 l) rfl (HR.out.below HB1.out) (cs8_one _) (by unfold maxLen; omega) (by omega) hs1 ?_); intro v' w2 ho hg _; obtain ⟨g2,c2,rfl,hg2,hl2⟩:=ho.form (by omega); have HO2:=hide ho; have HB2:=hide (HB1.out.grown hg hs1 (fun k hk=>by simp [Value.ownBlock] at hk; omega)); have hs2:=HB2.out.size; clear ho hg)
 obtain ⟨m,hm⟩:∃ m,505 - n = m:=⟨_,rfl⟩
 have e6:(508:Int) - (3 + (n:Int)) = (m:Int):=by omega
 obtain ⟨v3,w3,hrun,ho3,hg3⟩:=run_append_zeros (w:=w2) w.heap.size 38 i0 hi0 hz0 hz1 hz2 g2 (3 + n) c2 _ HO2.out m (by omega) hs2
 obtain ⟨g3,c3,rfl,hg3',hl3⟩:=ho3.form (by omega)
 have e7:3 + n + m = 508:=by omega
 rw [e7] at hrun ho3
 have hx:(3:Int) + (n:Int) + (m:Int) = 508:=by omega
 have HRUN:=hide hrun
 have hb3:=HB2.out.grown hg3 hs2 (fun k hk=>by injection hk with hk; omega)
 have hs3:=hb3.size
 have HB3:=hide hb3
 have hrest:cs8 ([k8] ++ beN n 2 2) ++ cs8 l ++ List.replicate m (Value.int .u8 0) = cs8 (restC kind l):=by
  rw [← cs8_zeros,← cs8_append,← cs8_append]
  unfold restC
  rw [HK8.out,HN.out,hm]
 rw [hrest] at ho3
 obtain ⟨R,hR⟩:∃ R,restC kind l = R:=⟨_,rfl⟩
 rw [hR] at ho3
 have HO3:=hide ho3
 have HRR:=hide hR
 clear hrun ho3 hg3 hb3 hrest hR hm e7 hx
 go_upto_region 7 with (at_builtin; go_loud (refine Go.Lib.wpList_append_run _ rfl (.tmp 26) (.tmp 29) _ _ rfl _ _ rfl rfl _ _ HRUN.out ?_))
 have hsum:=sumF_lt R
 have e8:IntKind.i64.wrap (sumF R:Int) = (sumF R:Int):=by rw [IntKind.wrap_i64]; omega
 have hlt7:=sumF_lt R
 clear hsum
 go_wp2_with (first | (go_at_call 77; (refine (sum_any (some ⟨g3,0,none⟩) 508 c3 R w3 (Reads.of_own HO3.out) (by omega)).mono ?_); rintro e w4 ⟨rfl,hb⟩; have HB4:=hide (HB3.out.trans (hb.mono HB3.out.size)); have HO4:=hide (own_later HO3.out hb); have hs4:=HB4.out.size; clear hb) | (go_at_call 92; (refine (put_any none 0 0 [] (sumF R) 4 w4 Reads.none_ (by omega) (by omega) (by omega)).mono ?_); rintro e w5 ⟨v5,rfl,ho,hb⟩; obtain ⟨g5,c5,rfl,hg5,hl5⟩:=ho.form (by omega); have HO5:=hide (own_base ho hs4); have HB5:=hide (HB4.out.trans (hb.mono HB4.out.size)); have HR5:=hide (own_later HO4.out hb); have hs5:=HB5.out.size; clear ho hb) | (at_builtin; (refine wpList_append_any _ rfl (.tmp 34) (.tmp 35) _ rfl w.heap.size T8 i0 _ 1 1 Try.underlying38 hi0 hz0 hz1 hz2 rfl (by omega) (.slice (some ⟨g5,0,none⟩) (0 + 4) c5) (0 + 4) _ rfl HO5.out w5.heap.size (some ⟨g3,0,none⟩) 508 c3 (cs8 R) rfl (Reads.of_own HR5.out) (cs8_one _) (by unfold maxLen; omega) (by omega) hs5 ?_); intro v' w6 ho hg _; obtain ⟨g6,c6,rfl,hg6,hl6⟩:=ho.form (by omega); have HO6:=hide ho; have HB6:=hide (HB5.out.grown hg hs5 (fun k hk=>by simp [Value.ownBlock] at hk; omega)); clear ho hg))
 refine bodyPost_ret (v:=.tuple #[.slice (some ⟨g6,0,none⟩) 512 c6,.int .i64 0]) (by simp [results,Try.results95,go_sem]) rfl ⟨_,rfl,?_,HB6.out⟩
 have h:=HO6.out
 unfold sealC
 rw [HRR.out,cs8_append]
 exact h
end Go.Proofs.Ytkolacaceaamoaa
/- The frame's Open. -/
namespace Go.Proofs.Ytkolacaceaamoaa
open Go.RowKit
/-- How many bytes of data a sector says it has. -/
def opN (c:Cn):Nat:=evN ((c.drop 5).take 2)
def opS (c:Cn):Bool:=evN ((c.drop 0).take 4) == sumF (c.drop 4)
def opT (c:Cn):Bool:=(c.getD 4 0 == 0) || decide (505 < opN c) || anyP (c.drop (7 + opN c))
/-- What Open answers. -/
def opE (c:Cn):Int:=if opS c then (if opT c then 11 else 0) else 13
def opK (c:Cn):Nat:=(c.getD 4 0).toNat
def opD (c:Cn):Cn:=(c.drop 7).take (opN c)
theorem rb_four {w:World} {B:Nat} {ad:Addr} {c:Cn} (h:RB w B (some ad) 512 c):RB w B (some (ad.add 4)) 508 (c.drop 4):=by
 have hl:=RB.len h
 obtain ⟨ad',e,hb,hr⟩:=RB.sub (i:=4) (k:=508) (cap:=512) h (by omega) (by omega) (by omega)
 injection e with e
 subst e
 rw [List.take_of_length_le (by rw [List.length_drop]; omega)] at hr
 exact hr
theorem rb_tail {w:World} {B:Nat} {ad:Addr} {c:Cn} (h:RB w B (some ad) 512 c) {n:Nat} (hn:n ≤ 505) (A:Option Addr) (hA:n < 505 → A = some (ad.add (7 + n))):RB w B A (512 - (7 + n)) (c.drop (7 + n)):=by
 have hl:=RB.len h
 by_cases h5:n < 505
 ·obtain ⟨ad',e,hb,hr⟩:=RB.sub (i:=7 + n) (k:=512 - (7 + n)) (cap:=512) h (by omega) (by omega) (by omega)
  injection e with e
  subst e
  rw [List.take_of_length_le (by rw [List.length_drop]; omega)] at hr
  rw [hA h5]; exact hr
 ·refine ⟨by rw [cs8_len,List.length_drop]; omega,fun h=>by omega⟩
theorem rb_four' {w:World} {B:Nat} {gb:Nat} {c:Cn} (h:RB w B (some ⟨gb,0,none⟩) 512 c):RB w B (some ⟨gb,4,none⟩) 508 (c.drop 4):=rb_four h
theorem add_z (g j:Nat):(⟨g,0,none⟩:Addr).add j = ⟨g,j,none⟩:=by unfold Addr.add; split <;> simp_all
theorem rb_tail' {w:World} {B:Nat} {gb:Nat} {c:Cn} (h:RB w B (some ⟨gb,0,none⟩) 512 c) {n:Nat} (hn:n ≤ 505) (A:Option Addr) (hA:n < 505 → A = some ⟨gb,7 + n,none⟩):RB w B A (512 - (7 + n)) (c.drop (7 + n)):=
 rb_tail h hn A (fun h5=>by rw [add_z]; exact hA h5)
theorem rb_data {w:World} {B:Nat} {gb:Nat} {c:Cn} (h:RB w B (some ⟨gb,0,none⟩) 512 c) {n:Nat} (hn:n ≤ 505):RB w B (some ⟨gb,7,none⟩) n ((c.drop 7).take n):=by
 have hl:=RB.len h
 by_cases h5:0 < n
 ·obtain ⟨ad',e,hb,hr⟩:=RB.sub (i:=7) (k:=n) (cap:=512) h (by omega) (by omega) (by omega)
  injection e with e
  subst e
  exact hr
 ·refine ⟨by rw [cs8_len,List.length_take,List.length_drop]; omega,fun h=>by omega⟩
set_option maxRecDepth 100000 in
set_option maxHeartbeats 1000000 in
theorem open_sum (gb:Nat) (cap:Nat) (c:Cn) (w:World) (hr:RB w w.heap.size (some ⟨gb,0,none⟩) 512 c) (hcap:512 ≤ cap) (h:opS c = false) :
  Calls Try.prog 64 #[.slice (some ⟨gb,0,none⟩) 512 cap] w fun e w'=>e = .returned (.tuple #[.int .i64 0,.slice none 0 0,.int .i64 13]) ∧ Below w.heap.size w w':=by
 have HR:=hide hr
 clear hr
 have n1:¬ cap = 4:=by omega
 unfold opS at h
 obtain ⟨N4,hN4⟩:∃ N4,evN ((c.drop 0).take 4) = N4:=⟨_,rfl⟩
 obtain ⟨S4,hS4⟩:∃ S4,sumF (c.drop 4) = S4:=⟨_,rfl⟩
 have hl4:=sumF_lt (c.drop 4)
 rw [hN4,hS4] at h
 rw [hS4] at hl4
 have d1:((N4:Int) == (S4:Int)) = false:=by simp at h ⊢; omega
 have e8:IntKind.i64.wrap (S4:Int) = (S4:Int):=by rw [IntKind.wrap_i64]; omega
 have HN4:=hide hN4
 have HS4:=hide hS4
 clear h hN4 hS4
 go_enter Try.func64,Try.ntmps64
 go_wp2_with (first | (go_at_call 45; (refine (num_any (some ⟨gb,0,none⟩) 512 cap c 0 4 w HR.out hcap (by omega) (by omega) (by omega)).mono ?_); rintro e w1 ⟨rfl,hb⟩; rw [HN4.out]; have HB1:=hide hb; clear hb) | (go_at_call 77; (refine (sum_any (some ⟨gb,4,none⟩) 508 _ (c.drop 4) w1 (rb_four' ((HR.out.below HB1.out).more HB1.out.size)) (by omega)).mono ?_); rintro e w2 ⟨rfl,hb⟩; rw [HS4.out]; have HB2:=hide (HB1.out.trans (hb.mono HB1.out.size)); clear hb))
 refine bodyPost_ret (v:=.tuple #[.int .i64 0,.slice none 0 0,.int .i64 13]) (by simp [results,Try.results64,go_sem]) rfl ⟨rfl,HB2.out⟩
set_option maxRecDepth 100000 in
set_option maxHeartbeats 1000000 in
theorem open_text (gb:Nat) (cap:Nat) (c:Cn) (w:World) (hr:RB w w.heap.size (some ⟨gb,0,none⟩) 512 c) (hcap:512 ≤ cap) (h:opS c = true) (ht:opT c = true) :
  Calls Try.prog 64 #[.slice (some ⟨gb,0,none⟩) 512 cap] w fun e w'=>e = .returned (.tuple #[.int .i64 0,.slice none 0 0,.int .i64 11]) ∧ Below w.heap.size w w':=by
 have HR:=hide hr
 have hcl:=RB.len hr
 clear hr
 have n1:¬ cap = 4:=by omega
 have n2:¬ cap = 7:=by omega
 unfold opS at h
 obtain ⟨N4,hN4⟩:∃ N4,evN ((c.drop 0).take 4) = N4:=⟨_,rfl⟩
 obtain ⟨S4,hS4⟩:∃ S4,sumF (c.drop 4) = S4:=⟨_,rfl⟩
 have hl4:=sumF_lt (c.drop 4)
 rw [hN4,hS4] at h
 rw [hS4] at hl4
 have d1:((N4:Int) == (S4:Int)) = true:=by simp at h ⊢; omega
 have e8:IntKind.i64.wrap (S4:Int) = (S4:Int):=by rw [IntKind.wrap_i64]; omega
 have HN4:=hide hN4
 have HS4:=hide hS4
 obtain ⟨NN,hNN⟩:∃ NN,opN c = NN:=⟨_,rfl⟩
 have HNN:=hide (show evN ((c.drop 5).take 2) = NN from hNN)
 obtain ⟨X,hX⟩:∃ X,c.getD 4 0 = X:=⟨_,rfl⟩
 have hX4:c[4]'(by omega) = X:=by rw [← hX,List.getD_eq_getElem?_getD,List.getElem?_eq_getElem (by omega)]; rfl
 have HC4:=hide (show ∀ W,Below w.heap.size w W → W.cell? ⟨gb,4,none⟩ = some (.int .u8 (X.toNat:Int)) from fun W hW=>by
  obtain ⟨ad',e,hb,hc⟩:=RB.at_ (HR.out.below hW) (k:=4) (by omega) (by omega)
  injection e with e
  subst e
  rw [hX4] at hc
  exact hc)
 clear h hN4 hS4
 unfold opT at ht
 rw [hNN,hX] at ht
 clear hNN hX hX4
 by_cases hx:X = 0
 ·subst hx
  clear ht
  go_enter Try.func64,Try.ntmps64
  go_wp2_with (first | (go_at_call 45; (refine (num_any (some ⟨gb,0,none⟩) 512 cap c 5 2 w2 ((HR.out.below HB2.out).more HB2.out.size) hcap (by omega) (by omega) (by omega)).mono ?_); rintro e w3 ⟨rfl,hb⟩; rw [HNN.out]; have HB3:=hide (HB2.out.trans (hb.mono HB2.out.size)); have kc4:=HC4.out w3 HB3.out; clear hb) | (go_at_call 45; (refine (num_any (some ⟨gb,0,none⟩) 512 cap c 0 4 w HR.out hcap (by omega) (by omega) (by omega)).mono ?_); rintro e w1 ⟨rfl,hb⟩; rw [HN4.out]; have HB1:=hide hb; clear hb) | (go_at_call 77; (refine (sum_any (some ⟨gb,4,none⟩) 508 _ (c.drop 4) w1 (rb_four' ((HR.out.below HB1.out).more HB1.out.size)) (by omega)).mono ?_); rintro e w2 ⟨rfl,hb⟩; rw [HS4.out]; have HB2:=hide (HB1.out.trans (hb.mono HB1.out.size)); clear hb) )
  refine bodyPost_ret (v:=.tuple #[.int .i64 0,.slice none 0 0,.int .i64 11]) (by simp [results,Try.results64,go_sem]) rfl ⟨rfl,HB3.out⟩
 ·have hx0:X.toNat ≠ 0:=fun h=>hx (UInt8.toNat_inj.1 (by simpa using h))
  have x0:((X.toNat:Int) == 0) = false:=by simp; omega
  have hxb:(X == 0) = false:=by simpa using hx
  rw [hxb] at ht
  clear hx hxb
  by_cases h5:505 < NN
  ·have d5:decide ((505:Int) < (NN:Int)) = true:=by simp; omega
   clear ht
   go_enter Try.func64,Try.ntmps64
   go_wp2_with (first | (go_at_call 45; (refine (num_any (some ⟨gb,0,none⟩) 512 cap c 5 2 w2 ((HR.out.below HB2.out).more HB2.out.size) hcap (by omega) (by omega) (by omega)).mono ?_); rintro e w3 ⟨rfl,hb⟩; rw [HNN.out]; have HB3:=hide (HB2.out.trans (hb.mono HB2.out.size)); have kc4:=HC4.out w3 HB3.out; clear hb) | (go_at_call 45; (refine (num_any (some ⟨gb,0,none⟩) 512 cap c 0 4 w HR.out hcap (by omega) (by omega) (by omega)).mono ?_); rintro e w1 ⟨rfl,hb⟩; rw [HN4.out]; have HB1:=hide hb; clear hb) | (go_at_call 77; (refine (sum_any (some ⟨gb,4,none⟩) 508 _ (c.drop 4) w1 (rb_four' ((HR.out.below HB1.out).more HB1.out.size)) (by omega)).mono ?_); rintro e w2 ⟨rfl,hb⟩; rw [HS4.out]; have HB2:=hide (HB1.out.trans (hb.mono HB1.out.size)); clear hb) )
   refine bodyPost_ret (v:=.tuple #[.int .i64 0,.slice none 0 0,.int .i64 11]) (by simp [results,Try.results64,go_sem]) rfl ⟨rfl,HB3.out⟩
  ·have d5:decide ((505:Int) < (NN:Int)) = false:=by simp; omega
   have hp:anyP (c.drop (7 + NN)) = true:=by simpa [h5] using ht
   have HP:=hide hp
   have hNle:NN ≤ 505:=by omega
   clear ht hp h5
   go_enter Try.func64,Try.ntmps64
   go_wp2_with (first | (go_at_call 45; (refine (num_any (some ⟨gb,0,none⟩) 512 cap c 5 2 w2 ((HR.out.below HB2.out).more HB2.out.size) hcap (by omega) (by omega) (by omega)).mono ?_); rintro e w3 ⟨rfl,hb⟩; rw [HNN.out]; have HB3:=hide (HB2.out.trans (hb.mono HB2.out.size)); have kc4:=HC4.out w3 HB3.out; clear hb) | (go_at_call 45; (refine (num_any (some ⟨gb,0,none⟩) 512 cap c 0 4 w HR.out hcap (by omega) (by omega) (by omega)).mono ?_); rintro e w1 ⟨rfl,hb⟩; rw [HN4.out]; have HB1:=hide hb; clear hb) | (go_at_call 77; (refine (sum_any (some ⟨gb,4,none⟩) 508 _ (c.drop 4) w1 (rb_four' ((HR.out.below HB1.out).more HB1.out.size)) (by omega)).mono ?_); rintro e w2 ⟨rfl,hb⟩; rw [HS4.out]; have HB2:=hide (HB1.out.trans (hb.mono HB1.out.size)); clear hb) | (go_at_call 78; (refine (contains_any _ (512 - (7 + NN)) _ (c.drop (7 + NN)) w3 (rb_tail' ((HR.out.below HB3.out).more HB3.out.size) hNle _ (fun h=>by first | rfl | omega)) (by omega)).mono ?_); rintro e w4 ⟨rfl,hb⟩; rw [HP.out]; have HB4:=hide (HB3.out.trans (hb.mono HB3.out.size)); clear hb))
   all_goals refine bodyPost_ret (v:=.tuple #[.int .i64 0,.slice none 0 0,.int .i64 11]) (by simp [results,Try.results64,go_sem]) rfl ⟨rfl,HB4.out⟩
set_option maxRecDepth 100000 in
set_option maxHeartbeats 1000000 in
theorem open_ok (gb:Nat) (cap:Nat) (c:Cn) (w:World) (hr:RB w w.heap.size (some ⟨gb,0,none⟩) 512 c) (hcap:512 ≤ cap) (h:opS c = true) (ht:opT c = false) :
  Calls Try.prog 64 #[.slice (some ⟨gb,0,none⟩) 512 cap] w fun e w'=>∃ v,e = .returned (.tuple #[.int .i64 (opK c:Int),v,.int .i64 0]) ∧ w'.ownsRow w.heap.size T8 1 v (opN c) (cs8 (opD c)) ∧ Below w.heap.size w w':=by
 have HR:=hide hr
 have hcl:=RB.len hr
 clear hr
 have n1:¬ cap = 4:=by omega
 have n2:¬ cap = 7:=by omega
 unfold opS at h
 obtain ⟨N4,hN4⟩:∃ N4,evN ((c.drop 0).take 4) = N4:=⟨_,rfl⟩
 obtain ⟨S4,hS4⟩:∃ S4,sumF (c.drop 4) = S4:=⟨_,rfl⟩
 have hl4:=sumF_lt (c.drop 4)
 rw [hN4,hS4] at h
 rw [hS4] at hl4
 have d1:((N4:Int) == (S4:Int)) = true:=by simp at h ⊢; omega
 have e8:IntKind.i64.wrap (S4:Int) = (S4:Int):=by rw [IntKind.wrap_i64]; omega
 have HN4:=hide hN4
 have HS4:=hide hS4
 obtain ⟨NN,hNN⟩:∃ NN,opN c = NN:=⟨_,rfl⟩
 have HNN:=hide (show evN ((c.drop 5).take 2) = NN from hNN)
 obtain ⟨X,hX⟩:∃ X,c.getD 4 0 = X:=⟨_,rfl⟩
 have hX4:c[4]'(by omega) = X:=by rw [← hX,List.getD_eq_getElem?_getD,List.getElem?_eq_getElem (by omega)]; rfl
 have HC4:=hide (show ∀ W,Below w.heap.size w W → W.cell? ⟨gb,4,none⟩ = some (.int .u8 (X.toNat:Int)) from fun W hW=>by
  obtain ⟨ad',e,hb,hc⟩:=RB.at_ (HR.out.below hW) (k:=4) (by omega) (by omega)
  injection e with e
  subst e
  rw [hX4] at hc
  exact hc)
 clear h hN4 hS4
 unfold opT at ht
 unfold opK opD
 rw [hNN,hX] at ht ⊢
 clear hNN hX hX4
 simp only [Bool.or_eq_false_iff] at ht
 obtain ⟨⟨hx,h5⟩,hp⟩:=ht
 have hx0:X.toNat ≠ 0:=fun h=>by simp at hx; exact hx (UInt8.toNat_inj.1 (by simpa using h))
 have x0:((X.toNat:Int) == 0) = false:=by simp; omega
 have hNle:NN ≤ 505:=by simpa using h5
 have d5:decide ((505:Int) < (NN:Int)) = false:=by simp; omega
 have HP:=hide hp
 have hxl:=X.toNat_lt
 clear hx h5 hp
 go_enter Try.func64,Try.ntmps64
 go_wp2_with (first | (go_at_call 45; (refine (num_any (some ⟨gb,0,none⟩) 512 cap c 5 2 w2 ((HR.out.below HB2.out).more HB2.out.size) hcap (by omega) (by omega) (by omega)).mono ?_); rintro e w3 ⟨rfl,hb⟩; rw [HNN.out]; have HB3:=hide (HB2.out.trans (hb.mono HB2.out.size)); have kc4:=HC4.out w3 HB3.out; clear hb) | (go_at_call 45; (refine (num_any (some ⟨gb,0,none⟩) 512 cap c 0 4 w HR.out hcap (by omega) (by omega) (by omega)).mono ?_); rintro e w1 ⟨rfl,hb⟩; rw [HN4.out]; have HB1:=hide hb; clear hb) | (go_at_call 77; (refine (sum_any (some ⟨gb,4,none⟩) 508 _ (c.drop 4) w1 (rb_four' ((HR.out.below HB1.out).more HB1.out.size)) (by omega)).mono ?_); rintro e w2 ⟨rfl,hb⟩; rw [HS4.out]; have HB2:=hide (HB1.out.trans (hb.mono HB1.out.size)); clear hb) | (go_at_call 78; (refine (contains_any _ (512 - (7 + NN)) _ (c.drop (7 + NN)) w3 (rb_tail' ((HR.out.below HB3.out).more HB3.out.size) hNle _ (fun h=>by first | rfl | omega)) (by omega)).mono ?_); rintro e w4 ⟨rfl,hb⟩; rw [HP.out]; have HB4:=hide (HB3.out.trans (hb.mono HB3.out.size)); clear hb))
 ·clear d1 d5 x0 kc4
  have HE9:=hide (show IntKind.i64.wrap (X.toNat:Int) = (X.toNat:Int) by rw [IntKind.wrap_i64]; omega)
  have HE10:=hide (show IntKind.i64.wrap (7 + (NN:Int)) = 7 + (NN:Int) by rw [IntKind.wrap_i64]; omega)
  refine wp_region_facts (by kernel_rfl) (by kernel_rfl) 52
   [⟨43,fun v _=>v = .slice (some ⟨gb,0,none⟩) 512 (7 + NN)⟩,
    ⟨44,fun v _=>v = .pointer (some ⟨gb,4,none⟩)⟩,
    ⟨45,fun v _=>v = .int .u8 (X.toNat:Int)⟩,
    ⟨46,fun v _=>v = .int .i64 (X.toNat:Int)⟩,
    ⟨47,fun v _=>v = .slice (some ⟨gb,0,none⟩) 512 (7 + NN)⟩,
    ⟨48,fun v _=>v = .int .i64 (NN:Int)⟩,
    ⟨49,fun v _=>v = .int .i64 (7 + (NN:Int))⟩,
    ⟨50,fun v _=>v = .slice (some ⟨gb,7,none⟩) NN ((7 + NN) - 7)⟩,
    ⟨51,fun v w'=>w'.ownsRow w4.heap.size T8 1 v NN (cs8 ((c.drop 7).take NN))⟩,
    ⟨2,fun v _=>v = .int .i64 (X.toNat:Int)⟩,
    ⟨3,fun v w'=>w'.ownsRow w4.heap.size T8 1 v NN (cs8 ((c.drop 7).take NN))⟩,
    ⟨4,fun v _=>v = .int .i64 0⟩] (by kernel_rfl) rfl rfl ?_ ?_ ?_
  ·intro e he v w w' _ hb hv
   simp only [List.mem_cons,List.not_mem_nil,or_false] at he
   rcases he with rfl | rfl | rfl | rfl | rfl | rfl | rfl | rfl | rfl | rfl | rfl | rfl
   all_goals first | exact hv | exact own_later hv hb
  ·refine ⟨?_,?_,?_,?_,?_,?_,?_,?_,?_,?_,?_,?_,trivial⟩
   ·intro ac w3 hg hd K hK
    exact op_move _ rfl (hK _ _ (Below.refl _ _) (hg.kp 0 (by simp)))
   ·intro ac w3 hg hd K hK
    have f0:=hd ⟨0,.data⟩ (by simp) rfl _ rfl
    (try simp [Act.eval] at f0)
    go_simp
    exact hK _ _ (Below.refl _ _) rfl
   ·intro ac w3 hg hd K hK
    have kc:=HC4.out w3 (HB4.out.trans (hg.hb.mono HB4.out.size))
    have f1:=hd ⟨1,.data⟩ (by simp) rfl _ rfl
    (try simp [Act.eval] at f1)
    go_simp
    exact hK _ _ (Below.refl _ _) rfl
   ·intro ac w3 hg hd K hK
    have kc:=HE9.out
    have f2:=hd ⟨2,.data⟩ (by simp) rfl _ rfl
    (try simp [Act.eval] at f2)
    go_simp
    exact hK _ _ (Below.refl _ _) rfl
   ·intro ac w3 hg hd K hK
    exact op_move _ rfl (hK _ _ (Below.refl _ _) (hg.kp 0 (by simp)))
   ·intro ac w3 hg hd K hK
    exact op_move _ rfl (hK _ _ (Below.refl _ _) (hg.kp 7 (by simp)))
   ·intro ac w3 hg hd K hK
    have kc:=HE10.out
    have f5:=hd ⟨5,.data⟩ (by simp) rfl _ rfl
    (try simp [Act.eval] at f5)
    go_simp
    exact hK _ _ (Below.refl _ _) rfl
   ·intro ac w3 hg hd K hK
    have f4:=hd ⟨4,.data⟩ (by simp) rfl _ rfl
    have f6:=hd ⟨6,.data⟩ (by simp) rfl _ rfl
    simp [Act.eval] at f4 f6
    go_simp
    rw [if_pos (by omega),if_pos (by omega),show (7 + (NN:Int)).toNat - 7 = NN by omega]
    try rw [if_neg (show ¬ NN = 0 by omega)]
    have e7:7 + NN - 7 = NN:=by omega
    try rw [e7] at hK
    try rw [e7]
    first | exact hK (.slice (some ⟨gb,7,none⟩) NN NN) _ (Below.refl _ _) rfl | exact hK (.slice (some ⟨gb,7,none⟩) NN ((7 + NN) - 7)) _ (Below.refl _ _) rfl
   ·intro ac w3 hg hd K hK
    have f7:=hd ⟨7,.data⟩ (by simp) rfl _ rfl
    simp [Act.eval] at f7
    go_simp
    have hB:=HB4.out.trans (hg.hb.mono HB4.out.size)
    refine (clone_all (some ⟨gb,7,none⟩) NN _ ((c.drop 7).take NN) w3 (rb_data ((HR.out.below hB).more hB.size) hNle) (by omega)).mono ?_
    rintro e w5 ⟨v5,rfl,ho,hb⟩
    exact hK v5 w5 hb (own_base ho hg.hb.size)
   ·intro ac w3 hg hd K hK
    exact op_assign _ rfl (hK _ _ (Below.refl _ _) (hd ⟨3,.data⟩ (by simp) rfl _ rfl))
   ·intro ac w3 hg hd K hK
    exact op_assign _ rfl (hK _ _ (Below.refl _ _) (hd ⟨8,.data⟩ (by simp) rfl _ rfl))
   ·intro ac w3 hg hd K hK
    exact op_assign _ rfl (hK _ _ (Below.refl _ _) rfl)
  ·intro f w5 hb5 hall
   have h2:f 2 = .int .i64 (X.toNat:Int):=hall ⟨2,fun v _=>v = .int .i64 (X.toNat:Int)⟩ (by simp)
   have h3:=hall ⟨3,fun v w'=>w'.ownsRow w4.heap.size T8 1 v NN (cs8 ((c.drop 7).take NN))⟩ (by simp)
   have h4:f 4 = .int .i64 0:=hall ⟨4,fun v _=>v = .int .i64 0⟩ (by simp)
   simp only [fillF,List.map_cons,List.map_nil,List.foldl_cons,List.foldl_nil,Act.put,List.setIfInBounds_toArray,List.set_cons_zero,List.set_cons_succ]
   rw [h2,h4]
   obtain ⟨V,hV⟩:∃ V,f 3 = V:=⟨_,rfl⟩
   rw [hV] at h3 ⊢
   have HB5:=hide (HB4.out.trans (hb5.mono HB4.out.size))
   have HV:=hide (own_base h3 HB4.out.size)
   clear h2 h3 h4 hall hb5 hV
   go_wp2
   refine bodyPost_ret (v:=.tuple #[.int .i64 (X.toNat:Int),V,.int .i64 0]) (by simp [results,Try.results64,go_sem]) rfl ⟨V,rfl,HV.out,HB5.out⟩
 ·clear d1 d5 x0 kc4
  have HE9:=hide (show IntKind.i64.wrap (X.toNat:Int) = (X.toNat:Int) by rw [IntKind.wrap_i64]; omega)
  have HE10:=hide (show IntKind.i64.wrap (7 + (NN:Int)) = 7 + (NN:Int) by rw [IntKind.wrap_i64]; omega)
  refine wp_region_facts (by kernel_rfl) (by kernel_rfl) 52
   [⟨43,fun v _=>v = .slice (some ⟨gb,0,none⟩) 512 cap⟩,
    ⟨44,fun v _=>v = .pointer (some ⟨gb,4,none⟩)⟩,
    ⟨45,fun v _=>v = .int .u8 (X.toNat:Int)⟩,
    ⟨46,fun v _=>v = .int .i64 (X.toNat:Int)⟩,
    ⟨47,fun v _=>v = .slice (some ⟨gb,0,none⟩) 512 cap⟩,
    ⟨48,fun v _=>v = .int .i64 (NN:Int)⟩,
    ⟨49,fun v _=>v = .int .i64 (7 + (NN:Int))⟩,
    ⟨50,fun v _=>v = .slice (some ⟨gb,7,none⟩) NN (cap - 7)⟩,
    ⟨51,fun v w'=>w'.ownsRow w4.heap.size T8 1 v NN (cs8 ((c.drop 7).take NN))⟩,
    ⟨2,fun v _=>v = .int .i64 (X.toNat:Int)⟩,
    ⟨3,fun v w'=>w'.ownsRow w4.heap.size T8 1 v NN (cs8 ((c.drop 7).take NN))⟩,
    ⟨4,fun v _=>v = .int .i64 0⟩] (by kernel_rfl) rfl rfl ?_ ?_ ?_
  ·intro e he v w w' _ hb hv
   simp only [List.mem_cons,List.not_mem_nil,or_false] at he
   rcases he with rfl | rfl | rfl | rfl | rfl | rfl | rfl | rfl | rfl | rfl | rfl | rfl
   all_goals first | exact hv | exact own_later hv hb
  ·refine ⟨?_,?_,?_,?_,?_,?_,?_,?_,?_,?_,?_,?_,trivial⟩
   ·intro ac w3 hg hd K hK
    exact op_move _ rfl (hK _ _ (Below.refl _ _) (hg.kp 0 (by simp)))
   ·intro ac w3 hg hd K hK
    have f0:=hd ⟨0,.data⟩ (by simp) rfl _ rfl
    (try simp [Act.eval] at f0)
    go_simp
    exact hK _ _ (Below.refl _ _) rfl
   ·intro ac w3 hg hd K hK
    have kc:=HC4.out w3 (HB4.out.trans (hg.hb.mono HB4.out.size))
    have f1:=hd ⟨1,.data⟩ (by simp) rfl _ rfl
    (try simp [Act.eval] at f1)
    go_simp
    exact hK _ _ (Below.refl _ _) rfl
   ·intro ac w3 hg hd K hK
    have kc:=HE9.out
    have f2:=hd ⟨2,.data⟩ (by simp) rfl _ rfl
    (try simp [Act.eval] at f2)
    go_simp
    exact hK _ _ (Below.refl _ _) rfl
   ·intro ac w3 hg hd K hK
    exact op_move _ rfl (hK _ _ (Below.refl _ _) (hg.kp 0 (by simp)))
   ·intro ac w3 hg hd K hK
    exact op_move _ rfl (hK _ _ (Below.refl _ _) (hg.kp 7 (by simp)))
   ·intro ac w3 hg hd K hK
    have kc:=HE10.out
    have f5:=hd ⟨5,.data⟩ (by simp) rfl _ rfl
    (try simp [Act.eval] at f5)
    go_simp
    exact hK _ _ (Below.refl _ _) rfl
   ·intro ac w3 hg hd K hK
    have f4:=hd ⟨4,.data⟩ (by simp) rfl _ rfl
    have f6:=hd ⟨6,.data⟩ (by simp) rfl _ rfl
    simp [Act.eval] at f4 f6
    go_simp
    rw [if_pos (by omega),if_pos (by omega),show (7 + (NN:Int)).toNat - 7 = NN by omega]
    try rw [if_neg (show ¬ NN = 0 by omega)]
    have e7:7 + NN - 7 = NN:=by omega
    try rw [e7] at hK
    try rw [e7]
    first | exact hK (.slice (some ⟨gb,7,none⟩) NN NN) _ (Below.refl _ _) rfl | exact hK (.slice (some ⟨gb,7,none⟩) NN (cap - 7)) _ (Below.refl _ _) rfl
   ·intro ac w3 hg hd K hK
    have f7:=hd ⟨7,.data⟩ (by simp) rfl _ rfl
    simp [Act.eval] at f7
    go_simp
    have hB:=HB4.out.trans (hg.hb.mono HB4.out.size)
    refine (clone_all (some ⟨gb,7,none⟩) NN _ ((c.drop 7).take NN) w3 (rb_data ((HR.out.below hB).more hB.size) hNle) (by omega)).mono ?_
    rintro e w5 ⟨v5,rfl,ho,hb⟩
    exact hK v5 w5 hb (own_base ho hg.hb.size)
   ·intro ac w3 hg hd K hK
    exact op_assign _ rfl (hK _ _ (Below.refl _ _) (hd ⟨3,.data⟩ (by simp) rfl _ rfl))
   ·intro ac w3 hg hd K hK
    exact op_assign _ rfl (hK _ _ (Below.refl _ _) (hd ⟨8,.data⟩ (by simp) rfl _ rfl))
   ·intro ac w3 hg hd K hK
    exact op_assign _ rfl (hK _ _ (Below.refl _ _) rfl)
  ·intro f w5 hb5 hall
   have h2:f 2 = .int .i64 (X.toNat:Int):=hall ⟨2,fun v _=>v = .int .i64 (X.toNat:Int)⟩ (by simp)
   have h3:=hall ⟨3,fun v w'=>w'.ownsRow w4.heap.size T8 1 v NN (cs8 ((c.drop 7).take NN))⟩ (by simp)
   have h4:f 4 = .int .i64 0:=hall ⟨4,fun v _=>v = .int .i64 0⟩ (by simp)
   simp only [fillF,List.map_cons,List.map_nil,List.foldl_cons,List.foldl_nil,Act.put,List.setIfInBounds_toArray,List.set_cons_zero,List.set_cons_succ]
   rw [h2,h4]
   obtain ⟨V,hV⟩:∃ V,f 3 = V:=⟨_,rfl⟩
   rw [hV] at h3 ⊢
   have HB5:=hide (HB4.out.trans (hb5.mono HB4.out.size))
   have HV:=hide (own_base h3 HB4.out.size)
   clear h2 h3 h4 hall hb5 hV
   go_wp2
   refine bodyPost_ret (v:=.tuple #[.int .i64 (X.toNat:Int),V,.int .i64 0]) (by simp [results,Try.results64,go_sem]) rfl ⟨V,rfl,HV.out,HB5.out⟩
end Go.Proofs.Ytkolacaceaamoaa
/- The frame's plain laws: what was sealed opens; noughts do not. -/
namespace Go.Proofs.Ytkolacaceaamoaa
open Go.RowKit
theorem evN_append (a:Cn) (x:UInt8):evN (a ++ [x]) = evN a * 256 + x.toNat:=by
 unfold evN; rw [List.foldl_append]; rfl
theorem evN_be (n size:Nat) (hn:n < 2 ^ (8 * size)):∀ k,k ≤ size → evN (beN n size k) = n / 2 ^ (8 * (size - k))
 | 0,_=>by
  rw [show size - 0 = size by omega,Nat.div_eq_of_lt hn]; rfl
 | k + 1,h=>by
  rw [beN_succ,evN_append,evN_be n size hn k (by omega)]
  have e1:2 ^ (8 * (size - k)) = 2 ^ (8 * (size - (k + 1))) * 256:=by
   rw [show 8 * (size - k) = 8 * (size - (k + 1)) + 8 by omega,Nat.pow_add]
  rw [e1,← Nat.div_div_eq_div_mul,show size - 1 - k = size - (k + 1) by omega]
  have e2:(UInt8.ofNat (n / 2 ^ (8 * (size - (k + 1))))).toNat = n / 2 ^ (8 * (size - (k + 1))) % 256:=by simp
  rw [e2]
  omega
theorem evN_beN {n size:Nat} (hn:n < 2 ^ (8 * size)):evN (beN n size size) = n:=by
 rw [evN_be n size hn size (Nat.le_refl _)]; simp
section
variable {kind:Nat} {l:Cn} (hl:l.length ≤ 505)
theorem seal_drop4:(sealC kind l).drop 4 = restC kind l:=by
 unfold sealC
 rw [List.drop_append_of_le_length (by rw [beN_len]; omega),List.drop_of_length_le (by rw [beN_len]; omega)]
 rfl
theorem seal_drop5:(sealC kind l).drop 5 = beN l.length 2 2 ++ l ++ List.replicate (505 - l.length) 0:=by
 rw [show (5:Nat) = 4 + 1 by rfl,← List.drop_drop,seal_drop4]
 rfl
theorem seal_drop7:(sealC kind l).drop 7 = l ++ List.replicate (505 - l.length) 0:=by
 rw [show (7:Nat) = 5 + 2 by rfl,← List.drop_drop,seal_drop5,List.append_assoc,List.drop_append_of_le_length (by rw [beN_len]; omega),List.drop_of_length_le (by rw [beN_len]; omega)]
 rfl
theorem seal_opS:opS (sealC kind l) = true:=by
 unfold opS
 rw [seal_drop4,List.drop_zero]
 unfold sealC
 rw [List.take_append_of_le_length (by rw [beN_len]; omega),List.take_of_length_le (by rw [beN_len]; omega),evN_beN (by have:=sumF_lt (restC kind l); omega)]
 exact BEq.rfl
theorem seal_four:(sealC kind l).getD 4 0 = UInt8.ofNat kind:=by
 have h:(sealC kind l)[4]? = ((sealC kind l).drop 4)[0]?:=by rw [List.getElem?_drop]
 rw [List.getD_eq_getElem?_getD,h,seal_drop4]
 rfl
theorem seal_opK (hk:1 ≤ kind ∧ kind ≤ 255):opK (sealC kind l) = kind:=by
 unfold opK
 rw [seal_four]
 simp; omega
include hl
theorem seal_opN:opN (sealC kind l) = l.length:=by
 unfold opN
 rw [seal_drop5,List.append_assoc,List.take_append_of_le_length (by rw [beN_len]; omega),List.take_of_length_le (by rw [beN_len]; omega)]
 exact evN_beN (by omega)
theorem seal_opT (hk:1 ≤ kind ∧ kind ≤ 255):opT (sealC kind l) = false:=by
 unfold opT
 rw [seal_four,seal_opN hl]
 have h1:(UInt8.ofNat kind == 0) = false:=by
  have:UInt8.ofNat kind ≠ 0:=fun e=>by
   have:=congrArg UInt8.toNat e
   simp at this
   omega
  simpa using this
 have h2:anyP ((sealC kind l).drop (7 + l.length)) = false:=by
  rw [← List.drop_drop,seal_drop7,List.drop_append_of_le_length (Nat.le_refl _),List.drop_of_length_le (Nat.le_refl _)]
  unfold anyP
  rw [List.nil_append,List.any_eq_false]
  intro x hx
  rw [(List.mem_replicate.1 hx).2]
  simp
 rw [h1,h2]
 simp; omega
theorem seal_opD:opD (sealC kind l) = l:=by
 unfold opD
 rw [seal_opN hl,seal_drop7,List.take_append_of_le_length (Nat.le_refl _),List.take_of_length_le (Nat.le_refl _)]
end
theorem zero_opT (h:opS zC = true):opT zC = true:=by
 unfold opT
 have:zC.getD 4 0 = 0:=by decide
 rw [this]
 rfl
end Go.Proofs.Ytkolacaceaamoaa
