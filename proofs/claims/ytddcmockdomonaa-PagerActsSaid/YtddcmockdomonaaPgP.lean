/- append of noughts; the frame's Seal. -/
import Derived.Test.YtddcmockdomonaaPgO
import Derived.Lib.AppendZerosOnto
namespace Go.Proofs.Ytddcmockdomonaa
set_option linter.unusedSimpArgs false
set_option linter.unusedVariables false
open Go.RowKit
theorem zeroCells_one (z : Value) (m : Nat) : (Builtin.zeroCells #[z] m).toList = List.replicate m z := by
  simp only [Builtin.zeroCells, Array.toList_map, Array.toList_range]
  rw [List.eq_replicate_iff]
  refine ⟨by simp, fun b hb => ?_⟩
  obtain ⟨i, _, rfl⟩ := List.mem_map.1 hb
  simp [Nat.mod_one]
theorem run_append_zeros {w : World} (base : Nat) (ty : TypeId) (i : TypeInfo) (hi : Try.prog.info? T8 = some i) (hz : i.zero = some (.int .u8 0)) (hs : i.size = 1) (hb : i.bytes = 1)
    (g n cap : Nat) (xs : List Value) (hown : w.ownsRow base T8 1 (.slice (some ⟨g, 0, none⟩) n cap) n xs) (m : Nat) (hnm : n + m ≤ 600) (hbase : base ≤ w.heap.size) :
    ∃ v' w', (Builtin.append_ #[33, 3] ty #[.slice (some ⟨g, 0, none⟩) n cap, .int .i64 m]).run Try.prog w = .ok v' w' ∧ w'.ownsRow base T8 1 v' (n + m) (xs ++ List.replicate m (.int .u8 0)) ∧ w.grownBy w' (some g) := by
  have hneg : ¬ ((m : Int) < 0) := by omega
  have hw : IntKind.i64.wrap (m : Int) = m := by rw [IntKind.wrap_i64]; omega
  have h48 : ¬ (281474976710656 < (m : Int)) := by omega
  have hns : m ≠ 0 → ¬ (m * 1 = 0) := fun h => by omega
  rcases hown.2 with ⟨e, _⟩ | ⟨g', cap', cur, e, hbg, hg, hnc, hcm, hcs, htake⟩
  · cases e
  injection e with e1 e2 e3
  injection e1 with e1
  injection e1 with e1
  subst e1 e3
  have hnews : (Builtin.zeroCells #[Value.int .u8 0] m).toList = List.replicate m (.int .u8 0) := zeroCells_one _ m
  have hone : ∀ u ∈ List.replicate m (Value.int .u8 0), u.oneCell' = true := fun u hu => by rw [(List.mem_replicate.1 hu).2]; rfl
  have hlen : (xs ++ List.replicate m (Value.int .u8 0)).length = (n + m) * 1 := by rw [List.length_append, hown.1, List.length_replicate, Nat.add_mul, Nat.mul_one, Nat.mul_one]
  by_cases hroom : n + m ≤ cap
  · have hfit : n * 1 + (List.replicate m (Value.int .u8 0)).length ≤ cur.size := by rw [List.length_replicate, hcs]; omega
    have hst := run_storeCells_at Try.prog g (n * 1) T8 (List.replicate m (.int .u8 0)) 0 cur w hg (by simpa using hfit) hone
    simp only [Nat.add_zero] at hst
    refine ⟨.slice (some ⟨g, 0, none⟩) (n + m) cap, w.setRow g (cur.toList.take (n * 1) ++ List.replicate m (Value.int .u8 0) ++ cur.toList.drop (n * 1 + (List.replicate m (Value.int .u8 0)).length)).toArray, ?_, ⟨hlen, .inr ⟨g, cap, _, rfl, hbg, setRow_heap w g cur _ T8 _ hg, hroom, hcm, ?_, ?_⟩⟩, ⟨rfl, rfl, rfl, by simp, fun k _ hk => setRow_other w g k _ (fun e => hk (by rw [e]))⟩⟩
    · by_cases hm : m = 0
      · subst hm
        simp [Builtin.append_, run_underlying Try.underlying33, run_underlying Try.underlying3, sizeOf, typeInfo, zeroValue, asInt, asIntOf, hi, hs, hb, hz, hnc, storeCells, show IntKind.i64.wrap 0 = 0 from rfl] at hst ⊢
        exact hst
      · simp [Builtin.append_, run_underlying Try.underlying33, run_underlying Try.underlying3, sizeOf, typeInfo, zeroValue, asInt, asIntOf, hi, hs, hb, hz, hw, hneg, h48, hroom, hm, Addr.add_lit, hnews] at hst ⊢
        rw [show (Builtin.zeroCells (Value.int IntKind.u8 0).cells m).toList = List.replicate m (Value.int IntKind.u8 0) from hnews, hst]
        rfl
    · simp only [List.size_toArray, List.length_append, List.length_take, List.length_drop, Array.length_toList, List.length_replicate] at hfit ⊢
      omega
    · rw [htake, ← hlen]
      exact List.take_left
  · have hm0 : 0 < m := by omega
    have holds : ∀ j u, xs[j]? = some u → w.cell? ((⟨g, 0, none⟩ : Addr).add j) = some u := hown.cells (g := g) rfl
    have hold := run_firstCells_some (P := Try.prog) w.drew 1 n ⟨g, 0, none⟩ n cap xs hown.1 (fun j v hv => holds j v hv)
    have hr := Go.Lib.run_append_grow_zeros (P := Try.prog) w 33 3 ty T8 i (.int .u8 0) .i64 .i64 Try.underlying33 Try.underlying3 hi hz (some ⟨g, 0, none⟩) n cap xs (by rw [hs]; exact hold) m hm0 (by omega) (by omega) (by omega) (by rw [hb]; omega) (growslice_fits (by omega) (by rw [hb]; omega))
    have hge := grownCap_ge w (n + m) cap T8
    refine ⟨_, _, hr, ⟨hlen, .inr ⟨w.heap.size, _, _, rfl, hbase, heap_alloc_new w.drew _, hge, grownCap_le_maxLen w (n + m) cap T8 (by unfold maxLen; omega), ?_, ?_⟩⟩, ⟨rfl, rfl, rfl, by simp, fun k hk _ => Below.heap_alloc w.drew _ k hk⟩⟩
    · have := hown.1
      simp only [Array.size_append, List.size_toArray, size_zeroCells, Value.cells]
      simp
      omega
    · simp only [Array.toList_append, List.append_assoc]
      rw [← List.append_assoc, ← hlen]
      have : (Builtin.zeroCells (Value.cells (Value.int .u8 0)) m).toList = List.replicate m (.int .u8 0) := hnews
      rw [this]
      exact List.take_left
/-- What stands behind the sum. -/
def restC (kind : Nat) (l : Cn) : Cn := [UInt8.ofNat kind] ++ beN l.length 2 2 ++ l ++ List.replicate (505 - l.length) 0
/-- Data in a sector. -/
def sealC (kind : Nat) (l : Cn) : Cn := beN (sumF (restC kind l)) 4 4 ++ restC kind l
theorem restC_len (kind : Nat) {l : Cn} (h : l.length ≤ 505) : (restC kind l).length = 508 := by
  unfold restC
  simp [beN_len]
  omega
theorem sealC_len (kind : Nat) {l : Cn} (h : l.length ≤ 505) : okC (sealC kind l) := by
  unfold okC sealC
  simp [beN_len, restC_len kind h]
theorem cs8_append (a b : Cn) : cs8 (a ++ b) = cs8 a ++ cs8 b := List.map_append
theorem cs8_zeros (m : Nat) : cs8 (List.replicate m 0) = List.replicate m (.int .u8 0) := List.map_replicate
theorem own_le {w : World} {base e size n : Nat} {v : Value} {xs : List Value} (h : w.ownsRow base e size v n xs) (hn : 0 < n) : base < w.heap.size := by
  obtain ⟨g, c, _, h1, h2⟩ := h.form hn
  omega
theorem own_reads {w : World} {base : Nat} {v : Value} {n : Nat} {l : Cn} (h : w.ownsRow base T8 1 v n (cs8 l)) : ∃ A c, v = .slice A n c ∧ RB w w.heap.size A n l := by
  obtain ⟨A, c, rfl⟩ : ∃ A c, v = .slice A n c := by
    rcases h.2 with ⟨e, h0⟩ | ⟨g, cap, cur, e, _⟩
    · exact ⟨none, 0, by rw [e, h0]⟩
    · exact ⟨_, cap, e⟩
  exact ⟨A, c, rfl, Reads.of_own h⟩
set_option maxRecDepth 100000 in
set_option maxHeartbeats 1000000 in
theorem seal_large (A : Option Addr) (n c : Nat) (kind : Nat) (w : World) (hn : 505 < n) (hk : 1 ≤ kind ∧ kind ≤ 255) :
    Calls Try.prog 29 #[.int .i64 kind, .slice A n c] w fun e w' => e = .returned (.tuple #[.slice none 0 0, .int .i64 12]) ∧ Below w.heap.size w w' := by
  have d1 : decide ((kind : Int) < 1) = false := by simp; omega
  have d2 : decide ((255 : Int) < kind) = false := by simp; omega
  have d3 : decide ((505 : Int) < n) = true := by simp; omega
  clear hn hk
  go_enter Try.func29, Try.ntmps29
  go_wp2_with fail
  refine bodyPost_ret (v := .tuple #[.slice none 0 0, .int .i64 12]) (by simp [results, Try.results29, go_sem]) rfl ⟨rfl, Below.refl _ _⟩
set_option maxRecDepth 100000 in
set_option maxHeartbeats 1000000 in
theorem seal_ok (A : Option Addr) (n c : Nat) (l : Cn) (kind : Nat) (w : World) (hr : RB w w.heap.size A n l) (hn : n ≤ 505) (hk : 1 ≤ kind ∧ kind ≤ 255) :
    Calls Try.prog 29 #[.int .i64 kind, .slice A n c] w fun e w' => ∃ v, e = .returned (.tuple #[v, .int .i64 0]) ∧ w'.ownsRow w.heap.size T8 1 v 512 (cs8 (sealC kind l)) ∧ Below w.heap.size w w' := by
  obtain ⟨i0, hi0, hz0, hz1, hz2⟩ := info_parts u8_info
  have d1 : decide ((kind : Int) < 1) = false := by simp; omega
  have d2 : decide ((255 : Int) < kind) = false := by simp; omega
  have d3 : decide ((505 : Int) < n) = false := by simp; omega
  have HR := hide hr
  have HN := hide (RB.len hr)
  obtain ⟨k8, hk8⟩ : ∃ k8, UInt8.ofNat kind = k8 := ⟨_, rfl⟩
  have h8 : (kind : Int) % 256 = (k8.toNat : Int) := by rw [← hk8]; simp
  have HK8 := hide hk8
  clear hr hk hk8
  go_enter Try.func29, Try.ntmps29
  go_upto_region 5 with fail
  clear d1 d2 d3
  go_wp2_with fail
  refine (put_any (some ⟨w.heap.size, 0, none⟩) 1 1 [k8] n 2 _ (by rw [heap_al]; exact reads_one w k8) (by omega) (by omega) (by omega)).mono ?_
  rintro e w1 ⟨v, rfl, ho, hb⟩
  rw [heap_al] at ho hb
  have hb1 : Below w.heap.size w w1 := ((Below.refl _ _).alloc (Nat.le_refl _) _).trans (hb.mono (by omega))
  have ho1 := own_base ho (show w.heap.size ≤ w.heap.size + 1 by omega)
  have hs1 := hb1.size
  obtain ⟨g1, c1, rfl, hg1, hl1⟩ := ho1.form (by omega)
  have HB1 := hide hb1
  have HO1 := hide ho1
  clear ho hb hb1 ho1 h8
  go_upto_region 6 with (at_builtin; (refine wpList_append_any _ rfl (.tmp 23) (.tmp 24) _ rfl w.heap.size T8 i0 _ 1 1 Try.underlying33 hi0 hz0 hz1 hz2 rfl (by omega) (.slice (some ⟨g1, 0, none⟩) (1 + 2) c1) (1 + 2) _ rfl HO1.out w.heap.size A n c (cs8 l) rfl (HR.out.below HB1.out) (cs8_one _) (by unfold maxLen; omega) (by omega) hs1 ?_); intro v' w2 ho hg _; obtain ⟨g2, c2, rfl, hg2, hl2⟩ := ho.form (by omega); have HO2 := hide ho; have HB2 := hide (HB1.out.grown hg hs1 (fun k hk => by simp [Value.ownBlock] at hk; omega)); have hs2 := HB2.out.size; clear ho hg)
  obtain ⟨m, hm⟩ : ∃ m, 505 - n = m := ⟨_, rfl⟩
  have e6 : (508 : Int) - (3 + (n : Int)) = (m : Int) := by omega
  obtain ⟨v3, w3, hrun, ho3, hg3⟩ := run_append_zeros (w := w2) w.heap.size 33 i0 hi0 hz0 hz1 hz2 g2 (3 + n) c2 _ HO2.out m (by omega) hs2
  obtain ⟨g3, c3, rfl, hg3', hl3⟩ := ho3.form (by omega)
  have e7 : 3 + n + m = 508 := by omega
  rw [e7] at hrun ho3
  have hx : (3 : Int) + (n : Int) + (m : Int) = 508 := by omega
  have HRUN := hide hrun
  have hb3 := HB2.out.grown hg3 hs2 (fun k hk => by injection hk with hk; omega)
  have hs3 := hb3.size
  have HB3 := hide hb3
  have hrest : cs8 ([k8] ++ beN n 2 2) ++ cs8 l ++ List.replicate m (Value.int .u8 0) = cs8 (restC kind l) := by
    rw [← cs8_zeros, ← cs8_append, ← cs8_append]
    unfold restC
    rw [HK8.out, HN.out, hm]
  rw [hrest] at ho3
  obtain ⟨R, hR⟩ : ∃ R, restC kind l = R := ⟨_, rfl⟩
  rw [hR] at ho3
  have HO3 := hide ho3
  have HRR := hide hR
  clear hrun ho3 hg3 hb3 hrest hR hm e7 hx
  go_upto_region 7 with (at_builtin; go_loud (refine Go.Lib.wpList_append_run _ rfl (.tmp 26) (.tmp 29) _ _ rfl _ _ rfl rfl _ _ HRUN.out ?_))
  have hsum := sumF_lt R
  have e8 : IntKind.i64.wrap (sumF R : Int) = (sumF R : Int) := by rw [IntKind.wrap_i64]; omega
  have hlt7 := sumF_lt R
  clear hsum
  go_wp2_with (first | (go_at_call 44; (refine (sum_any (some ⟨g3, 0, none⟩) 508 c3 R w3 (Reads.of_own HO3.out) (by omega)).mono ?_); rintro e w4 ⟨rfl, hb⟩; have HB4 := hide (HB3.out.trans (hb.mono HB3.out.size)); have HO4 := hide (own_later HO3.out hb); have hs4 := HB4.out.size; clear hb) | (go_at_call 32; (refine (put_any none 0 0 [] (sumF R) 4 w4 Reads.none_ (by omega) (by omega) (by omega)).mono ?_); rintro e w5 ⟨v5, rfl, ho, hb⟩; obtain ⟨g5, c5, rfl, hg5, hl5⟩ := ho.form (by omega); have HO5 := hide (own_base ho hs4); have HB5 := hide (HB4.out.trans (hb.mono HB4.out.size)); have HR5 := hide (own_later HO4.out hb); have hs5 := HB5.out.size; clear ho hb) | (at_builtin; (refine wpList_append_any _ rfl (.tmp 34) (.tmp 35) _ rfl w.heap.size T8 i0 _ 1 1 Try.underlying33 hi0 hz0 hz1 hz2 rfl (by omega) (.slice (some ⟨g5, 0, none⟩) (0 + 4) c5) (0 + 4) _ rfl HO5.out w5.heap.size (some ⟨g3, 0, none⟩) 508 c3 (cs8 R) rfl (Reads.of_own HR5.out) (cs8_one _) (by unfold maxLen; omega) (by omega) hs5 ?_); intro v' w6 ho hg _; obtain ⟨g6, c6, rfl, hg6, hl6⟩ := ho.form (by omega); have HO6 := hide ho; have HB6 := hide (HB5.out.grown hg hs5 (fun k hk => by simp [Value.ownBlock] at hk; omega)); clear ho hg))
  refine bodyPost_ret (v := .tuple #[.slice (some ⟨g6, 0, none⟩) 512 c6, .int .i64 0]) (by simp [results, Try.results29, go_sem]) rfl ⟨_, rfl, ?_, HB6.out⟩
  have h := HO6.out
  unfold sealC
  rw [HRR.out, cs8_append]
  exact h
end Go.Proofs.Ytddcmockdomonaa
