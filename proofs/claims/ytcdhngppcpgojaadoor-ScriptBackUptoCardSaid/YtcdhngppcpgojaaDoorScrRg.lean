/- The document's numbers with a sign. -/
import Derived.Test.YtcdhngppcpgojaaDoorScrRf
namespace Go.Proofs.YtcdhngppcpgojaaDoor
set_option linter.unusedSimpArgs false
set_option linter.unusedVariables false
open Go.RowKit
def SigP (o : Option Int) (e : Ending) : Prop := ∃ (N : Int) (ok : Bool), e = .returned (.tuple #[.int .i64 N, .bool ok]) ∧ ok = o.isSome ∧ ∀ n, o = some n → N = n
theorem sgn_neg (r : List UInt8) : sgn (45 :: r) = (numU r).bind fun n => if 0 < n ∧ n ≤ 9223372036854775808 then some (-(n : Int)) else none := by
  unfold sgn
  simp only
  cases numU r <;> rfl
theorem sgn_pos (x : List UInt8) (h : x = [45] ∨ x.head? ≠ some 45) : sgn x = (numU x).bind fun n => if n ≤ 9223372036854775807 then some (n : Int) else none := by
  rcases h with rfl | h
  · rw [sgn_neg, numU_45]; rfl
  · unfold sgn
    split
    · rename_i r; exact absurd rfl h
    · cases numU x <;> rfl
set_option maxRecDepth 100000 in
set_option maxHeartbeats 1000000 in
theorem signed_any (x : List UInt8) (w : World) (hl : x.length ≤ 600000000) :
    Calls Tryd.prog 41 #[str x] w fun e w' => SigP (numI x) e ∧ Below w.heap.size w w' := by
  rw [numI_sgn]
  by_cases hx : ∃ b r, x = 45 :: b :: r
  · obtain ⟨b, r, rfl⟩ := hx
    have HC := hide (num_any (b :: r) w (by simp at hl ⊢; omega))
    have HS := hide (sgn_neg (b :: r))
    have hpos : (1 : Int) < (r.length : Int) + 1 + 1 := by omega
    have hcb : ((⟨(45 :: b :: r).toArray⟩ : ByteArray)[0]'(by rw [str_size]; simp)).toNat = 45 := rfl
    obtain ⟨o, ho⟩ : ∃ o, numU (b :: r) = o := ⟨_, rfl⟩
    rw [ho] at HC HS
    have HO := hide ho
    obtain ⟨o2, ho2⟩ : ∃ o2, sgn (45 :: b :: r) = o2 := ⟨_, rfl⟩
    rw [ho2] at HS ⊢
    clear ho ho2
    go_enter Tryd.func41, Tryd.ntmps41
    go_upto_region 2 with fail
    have hsl : (⟨(45 :: b :: r).toArray⟩ : ByteArray).extract 1 (r.length + 1 + 1) = ⟨(b :: r).toArray⟩ := by
      apply ByteArray.ext
      rw [ByteArray.data_extract]
      apply Array.ext'
      simp
    have HSL := hide hsl
    clear hsl hpos hcb
    go_upto_region 3 with (go_at_call 42; rw [HSL.out]; (refine HC.out.mono ?_); rintro e w1 ⟨⟨N, ok, rfl, hok, hN⟩, hb⟩; have HB := hide hb; have HOK := hide hok; have HN := hide hN; clear hb hok hN)
    cases o with
    | none =>
      have ho : ok = false := HOK.out
      subst ho
      have ho2 : o2 = none := HS.out
      subst ho2
      clear HOK HN HS
      go_wp2_with fail
      refine bodyPost_ret (v := .tuple #[.int .i64 (wrap64 (IntKind.u64.wrap (-N))), .bool false]) (by simp [results, Tryd.results41, go_sem]) rfl ⟨⟨_, false, rfl, rfl, fun n hn => by cases hn⟩, HB.out⟩
    | some m =>
      have ho : ok = true := HOK.out
      subst ho
      have hn : N = (m : Int) := HN.out m rfl
      have hm := (numU_eq HO.out).2
      have hs := HS.out
      rw [Option.bind_some] at hs
      obtain ⟨mi, hmi⟩ : ∃ mi : Int, (m : Int) = mi := ⟨_, rfl⟩
      rw [hmi] at hn hs
      subst hn
      clear HOK HN HS HO
      by_cases h0 : 0 < m
      · by_cases h1 : m ≤ 9223372036854775808
        · have d0 : (0 : Int) < N := by omega
          have d1 : N ≤ 9223372036854775808 := by omega
          have hw : IntKind.i64.wrap (IntKind.u64.wrap (-N)) = -N := by rw [IntKind.wrap_u64, IntKind.wrap_i64]; omega
          rw [if_pos ⟨h0, h1⟩] at hs
          have HS := hide hs
          clear hs h0 h1 hm hmi
          go_wp2_with fail
          refine bodyPost_ret (v := .tuple #[.int .i64 (-N), .bool true]) (by simp [results, Tryd.results41, go_sem]) rfl ⟨⟨_, true, rfl, by rw [HS.out]; rfl, fun n hn => by rw [HS.out] at hn; injection hn⟩, HB.out⟩
        · have d0 : (0 : Int) < N := by omega
          have d1 : ¬ N ≤ 9223372036854775808 := by omega
          rw [if_neg (fun h => h1 h.2)] at hs
          have HS := hide hs
          clear hs h0 h1 hm hmi
          go_wp2_with fail
          refine bodyPost_ret (v := .tuple #[.int .i64 (wrap64 (IntKind.u64.wrap (-N))), .bool false]) (by simp [results, Tryd.results41, go_sem]) rfl ⟨⟨_, false, rfl, by rw [HS.out]; rfl, fun n hn => by rw [HS.out] at hn; cases hn⟩, HB.out⟩
      · have d0 : ¬ (0 : Int) < N := by omega
        rw [if_neg (fun h => h0 h.1)] at hs
        have HS := hide hs
        clear hs h0 hm hmi
        go_wp2_with fail
        refine bodyPost_ret (v := .tuple #[.int .i64 (wrap64 (IntKind.u64.wrap (-N))), .bool false]) (by simp [results, Tryd.results41, go_sem]) rfl ⟨⟨_, false, rfl, by rw [HS.out]; rfl, fun n hn => by rw [HS.out] at hn; cases hn⟩, HB.out⟩
  · have hq : x = [45] ∨ x.head? ≠ some 45 := by
      rcases x with _ | ⟨a, _ | ⟨b, r⟩⟩
      · exact .inr (by simp)
      · by_cases ha : a = 45
        · subst ha; exact .inl rfl
        · exact .inr (by simpa using ha)
      · refine .inr (fun e => hx ⟨b, r, ?_⟩)
        simp at e; rw [e]
    have HC := hide (num_any x w hl)
    have HS := hide (sgn_pos x hq)
    obtain ⟨o, ho⟩ : ∃ o, numU x = o := ⟨_, rfl⟩
    rw [ho] at HC HS
    have HO := hide ho
    obtain ⟨o2, ho2⟩ : ∃ o2, sgn x = o2 := ⟨_, rfl⟩
    rw [ho2] at HS ⊢
    have hcase : x.length ≤ 1 ∨ ∃ a b r, x = a :: b :: r ∧ ¬ (a.toNat : Int) = 45 := by
      rcases x with _ | ⟨a, _ | ⟨b, r⟩⟩
      · exact .inl (by simp)
      · exact .inl (by simp)
      · refine .inr ⟨a, b, r, rfl, fun e => hx ⟨b, r, ?_⟩⟩
        rw [show a = 45 from UInt8.toNat_inj.1 (show a.toNat = 45 by omega)]
    clear ho ho2 hq hx
    go_enter Tryd.func41, Tryd.ntmps41
    rcases hcase with hlen | ⟨a, b, r, rfl, ha⟩
    · have hlI : ¬ (1 : Int) < x.length := by omega
      clear hlen
      go_upto_region 5 with (go_at_call 42; (refine HC.out.mono ?_); rintro e w1 ⟨⟨N, ok, rfl, hok, hN⟩, hb⟩; have HB := hide hb; have HOK := hide hok; have HN := hide hN; clear hb hok hN)
      cases o with
      | none =>
        have ho : ok = false := HOK.out
        subst ho
        have ho2 : o2 = none := HS.out
        subst ho2
        clear HOK HN HS
        go_wp2_with fail
        refine bodyPost_ret (v := .tuple #[.int .i64 (wrap64 N), .bool false]) (by simp [results, Tryd.results41, go_sem]) rfl ⟨⟨_, false, rfl, rfl, fun n hn => by cases hn⟩, HB.out⟩
      | some m =>
        have ho : ok = true := HOK.out
        subst ho
        have hn : N = (m : Int) := HN.out m rfl
        have hm := (numU_eq HO.out).2
        have hs := HS.out
        rw [Option.bind_some] at hs
        obtain ⟨mi, hmi⟩ : ∃ mi : Int, (m : Int) = mi := ⟨_, rfl⟩
        rw [hmi] at hn hs
        subst hn
        clear HOK HN HS HO
        by_cases h1 : m ≤ 9223372036854775807
        · have d1 : N ≤ 9223372036854775807 := by omega
          have hw : wrap64 N = N := by unfold wrap64; omega
          rw [if_pos h1] at hs
          have HS := hide hs
          clear hs h1 hm hmi
          go_wp2_with fail
          refine bodyPost_ret (v := .tuple #[.int .i64 N, .bool true]) (by simp [results, Tryd.results41, go_sem, hw]) rfl ⟨⟨_, true, rfl, by rw [HS.out]; rfl, fun n hn => by rw [HS.out] at hn; injection hn⟩, HB.out⟩
        · have d1 : ¬ N ≤ 9223372036854775807 := by omega
          rw [if_neg h1] at hs
          have HS := hide hs
          clear hs h1 hm hmi
          go_wp2_with fail
          refine bodyPost_ret (v := .tuple #[.int .i64 (wrap64 N), .bool false]) (by simp [results, Tryd.results41, go_sem]) rfl ⟨⟨_, false, rfl, by rw [HS.out]; rfl, fun n hn => by rw [HS.out] at hn; cases hn⟩, HB.out⟩
    · have hpos : (1 : Int) < (r.length : Int) + 1 + 1 := by omega
      have hcb : ((⟨(a :: b :: r).toArray⟩ : ByteArray)[0]'(by rw [str_size]; simp)).toNat = a.toNat := rfl
      go_upto_region 5 with (go_at_call 42; (refine HC.out.mono ?_); rintro e w1 ⟨⟨N, ok, rfl, hok, hN⟩, hb⟩; have HB := hide hb; have HOK := hide hok; have HN := hide hN; clear hb hok hN)
      cases o with
      | none =>
        have ho : ok = false := HOK.out
        subst ho
        have ho2 : o2 = none := HS.out
        subst ho2
        clear HOK HN HS
        go_wp2_with fail
        refine bodyPost_ret (v := .tuple #[.int .i64 (wrap64 N), .bool false]) (by simp [results, Tryd.results41, go_sem]) rfl ⟨⟨_, false, rfl, rfl, fun n hn => by cases hn⟩, HB.out⟩
      | some m =>
        have ho : ok = true := HOK.out
        subst ho
        have hn : N = (m : Int) := HN.out m rfl
        have hm := (numU_eq HO.out).2
        have hs := HS.out
        rw [Option.bind_some] at hs
        obtain ⟨mi, hmi⟩ : ∃ mi : Int, (m : Int) = mi := ⟨_, rfl⟩
        rw [hmi] at hn hs
        subst hn
        clear HOK HN HS HO
        by_cases h1 : m ≤ 9223372036854775807
        · have d1 : N ≤ 9223372036854775807 := by omega
          have hw : wrap64 N = N := by unfold wrap64; omega
          rw [if_pos h1] at hs
          have HS := hide hs
          clear hs h1 hm hmi
          go_wp2_with fail
          refine bodyPost_ret (v := .tuple #[.int .i64 N, .bool true]) (by simp [results, Tryd.results41, go_sem, hw]) rfl ⟨⟨_, true, rfl, by rw [HS.out]; rfl, fun n hn => by rw [HS.out] at hn; injection hn⟩, HB.out⟩
        · have d1 : ¬ N ≤ 9223372036854775807 := by omega
          rw [if_neg h1] at hs
          have HS := hide hs
          clear hs h1 hm hmi
          go_wp2_with fail
          refine bodyPost_ret (v := .tuple #[.int .i64 (wrap64 N), .bool false]) (by simp [results, Tryd.results41, go_sem]) rfl ⟨⟨_, false, rfl, by rw [HS.out]; rfl, fun n hn => by rw [HS.out] at hn; cases hn⟩, HB.out⟩
end Go.Proofs.YtcdhngppcpgojaaDoor
