/- The JSON writer: numeral. -/
import Derived.Test.YtmbjalcphdggnaaDoorJsPb
namespace Go.Proofs.YtmbjalcphdggnaaDoor
set_option linter.unusedSimpArgs false
set_option linter.unusedVariables false
open Go.RowKit
def numIs (t : L8) : JV → Bool
  | .mk k t' _ _ => decide (k = 4) && decide (t' = t)
/-- Is a text a number's? -/
def numOk (t : L8) : Bool := decide (gotE (parseS t) = 0) && numIs t (gotJ (parseS t))
set_option maxRecDepth 100000 in
set_option maxHeartbeats 600000 in
theorem numeral_any (w : World) (t : L8) (hT : Tabs w) : Calls Tryd.prog 36 #[.string ⟨t.toArray⟩] w fun e w' => e = .returned (.bool (numOk t)) ∧ Below w.heap.size w w' := by
  obtain ⟨w1, hw1⟩ : ∃ x, Lib.bytesWorld w T8 ⟨t.toArray⟩ = x := ⟨_, rfl⟩
  have hcx : (convert 9 22 (.string ⟨t.toArray⟩)).run Tryd.prog w = .ok (.slice (some ⟨w.heap.size, 0, none⟩) t.length (grownCap w t.length 0 T8)) w1 := hw1 ▸ conv_run t w
  have HR1 := hide (show RB w1 w1.heap.size (some ⟨w.heap.size, 0, none⟩) t.length t from hw1 ▸ conv_rb t w)
  have HK1 := hide (conv_cap t w)
  have HN1 := hide (show Below w.heap.size w w1 from hw1 ▸ conv_below t w)
  have HA1 := hide (show ∀ ad : Addr, (some (⟨w.heap.size, 0, none⟩ : Addr)) = some ad → ad.block < w1.heap.size from hw1 ▸ conv_lt t w)
  have HT1 := hide (hT.below HN1.out)
  clear hw1 hT
  go_enter Tryd.func36, Tryd.ntmps36
  go_upto_region 2 with (go_at_call 10; (refine (parse_uni HR1.out HK1.out HT1.out HA1.out).mono ?_); rintro e w2 ⟨hb, k, tb, A1, n1, c1, A2, n2, c2, at_, rfl, hv⟩; have HB2 := hide (HN1.out.trans (hb.mono HN1.out.size)); have HV2 := hide hv; clear hb hv)
  obtain ⟨w3, hw3⟩ : ∃ x, w2.alloc (.cells #[.int .i64 k, .string tb, .slice A1 n1 c1, .slice A2 n2 c2] TV) = x := ⟨_, rfl⟩
  have HB3 := hide (show Below w.heap.size w w3 from hw3 ▸ bal HB2.out _)
  have HC := hide (show Blk w3 w2.heap.size TV #[.int .i64 k, .string tb, .slice A1 n1 c1, .slice A2 n2 c2] from hw3 ▸ Blk.new _ _ _)
  rw [hw3]
  clear hw3 hcx
  obtain ⟨J, hJ⟩ : ∃ J, gotJ (parseS t) = J := ⟨_, rfl⟩
  obtain ⟨ge, hge⟩ : ∃ x, gotE (parseS t) = x := ⟨_, rfl⟩
  have HD := hide (show numOk t = (decide (ge = 0) && numIs t J) by unfold numOk; rw [hJ, hge])
  rw [hJ] at HV2
  rw [hge]
  clear hJ hge
  obtain ⟨k', t', ks, vs⟩ := J
  obtain ⟨B1, d1, B2, d2, xs, hcs, _⟩ := HV2.out.mk'
  simp only [List.cons.injEq, Value.int.injEq, Value.string.injEq, Value.slice.injEq, true_and, and_true] at hcs
  obtain ⟨rfl, rfl, _⟩ := hcs
  have kv := HC.out.cell; have fv := HC.out.frozen; have zv := HC.out.lt
  clear HV2
  by_cases h1 : ge = 0
  · subst h1
    by_cases h2 : k = 4
    · subst h2
      by_cases h3 : t' = t
      · subst h3
        go_wp2_with fail
        go_ret
        exact ⟨by rw [HD.out]; simp [numIs], HB3.out⟩
      · have e3 := str_ne h3
        go_wp2_with fail
        go_ret
        exact ⟨by rw [HD.out]; simp [numIs, h3], HB3.out⟩
    · have e2 : (k == 4) = false := by simp; omega
      have HH2 := hide h2
      clear h2
      go_wp2_with fail
      go_ret
      exact ⟨by rw [HD.out]; simp [numIs, HH2.out], HB3.out⟩
  · have e1 : ((ge : Int) == 0) = false := by simp; omega
    have HH1 := hide h1
    clear h1
    go_wp2_with fail
    go_ret
    exact ⟨by rw [HD.out]; simp [HH1.out], HB3.out⟩
end Go.Proofs.YtmbjalcphdggnaaDoor
