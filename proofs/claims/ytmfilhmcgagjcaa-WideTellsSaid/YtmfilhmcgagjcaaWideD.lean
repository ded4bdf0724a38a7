/- The reference's numbers: limbs, Of, minus, whole. -/
import Derived.Test.YtmfilhmcgagjcaaWideC
namespace Go.Proofs.Ytmfilhmcgagjcaa
set_option linter.unusedSimpArgs false
set_option linter.unusedVariables false
open Go.RowKit Go.Shelf
/-- What is left of a number beyond its first k parts; the parts. -/
def quo (n : Int) : Nat → Int
  | 0 => n
  | k + 1 => quo n k / 4294967296
def dg (n : Int) (k : Nat) : Int := quo n k % 4294967296
theorem dg_part (n : Int) : part (dg n) := fun i => by unfold dg; omega
theorem quo_add (x y : Int) : ∀ k, quo (x + y) k = quo x k + quo y k + carry (dg x) (dg y) k
  | 0 => by simp [quo, carry]
  | k + 1 => by
    have := quo_add x y k
    simp only [quo, carry, dg] at *
    rw [this]; omega
theorem sum_dg (x y : Int) (k : Nat) : sumP (dg x) (dg y) k = dg (x + y) k := by
  unfold sumP dg; rw [quo_add]; unfold dg; omega
theorem quo_not (n : Int) : ∀ k, quo (-n - 1) k = - quo n k - 1
  | 0 => rfl
  | k + 1 => by simp only [quo]; rw [quo_not n k]; omega
theorem dg_not (n : Int) (k : Nat) : dg (-n - 1) k = 4294967295 - dg n k := by unfold dg; rw [quo_not]; omega
theorem limbs_law {x : I2} (hx : x.ok) {p : Int} (hp : IntKind.u64.wrap x.hi = p) :
    x.lo % 4294967296 = dg x.num 0 ∧ x.lo / 4294967296 % 4294967296 = dg x.num 1 ∧ p % 4294967296 = dg x.num 2 ∧ p / 4294967296 % 4294967296 = dg x.num 3 ∧ (if x.hi < 0 then 4294967295 else 0) = dg x.num 4 := by
  rw [IntKind.wrap_u64] at hp
  obtain ⟨⟨h1, h2⟩, h3, h4⟩ := hx
  have q1 : x.num / 4294967296 = x.hi * 4294967296 + x.lo / 4294967296 := by unfold I2.num; omega
  have q2 : x.num / 4294967296 / 4294967296 = x.hi := by rw [q1]; omega
  unfold dg
  simp only [quo]
  rw [q2, q1]
  refine ⟨by unfold I2.num; omega, by omega, by omega, by omega, ?_⟩
  split <;> omega
set_option maxRecDepth 100000 in
set_option maxHeartbeats 1000000 in
theorem limbs_any (x : I2) (w : World) (hx : x.ok) :
    Calls Try.prog 30 #[.agg #[.int .i64 x.hi, .int .u64 x.lo]] w fun e w' => e = .returned (.agg (cs5 (dg x.num))) ∧ Below w.heap.size w w' := by
  obtain ⟨p, hp⟩ : ∃ p, IntKind.u64.wrap x.hi = p := ⟨_, rfl⟩
  have HL := hide (limbs_law hx hp)
  have HC : Hid (cs5 (dg x.num) = #[.int .u32 (x.lo % 4294967296), .int .u32 (x.lo / 4294967296 % 4294967296), .int .u32 (p % 4294967296), .int .u32 (p / 4294967296 % 4294967296), .int .u32 (if x.hi < 0 then 4294967295 else 0)]) := by
    obtain ⟨e0, e1, e2, e3, e4⟩ := HL.out
    unfold cs5; rw [e0, e1, e2, e3, e4]; exact hide rfl
  clear hx
  cases d1 : decide (x.hi < 0)
  · have HD := hide (HC.out.trans (by rw [if_neg (of_decide_eq_false d1)]))
    go_enter Try.func30, Try.ntmps30
    go_wp2_with fail
    refine bodyPost_ret (v := .agg (cs5 (dg x.num))) (by rw [HD.out]; simp [results, Try.results30, go_sem]; done) rfl ⟨rfl, by (repeat (first | exact Below.refl _ _ | refine Below.drew ?_ | refine Below.setCell ?_ (by simp; try omega) _ | refine bal ?_ _))⟩
  · have HD := hide (HC.out.trans (by rw [if_pos (of_decide_eq_true d1)]))
    go_enter Try.func30, Try.ntmps30
    go_wp2_with fail
    refine bodyPost_ret (v := .agg (cs5 (dg x.num))) (by rw [HD.out]; simp [results, Try.results30, go_sem]; done) rfl ⟨rfl, by (repeat (first | exact Below.refl _ _ | refine Below.drew ?_ | refine Below.setCell ?_ (by simp; try omega) _ | refine bal ?_ _))⟩
set_option maxHeartbeats 400000 in
theorem rof_any (n : Int) (w : World) (h : i64ok n) :
    Calls Try.prog 12 #[.int .i64 n] w fun e w' => e = .returned (.agg #[.int .i64 (two n).hi, .int .u64 (two n).lo]) ∧ Below w.heap.size w w' := by
  unfold i64ok at h
  obtain ⟨p, hp⟩ : ∃ p, IntKind.u64.wrap n = p := ⟨_, rfl⟩
  have HP := hide (hp.symm.trans (IntKind.wrap_u64 n))
  have H := hide h
  clear h
  cases d1 : decide (n < 0)
  · have E1 := hide (of_decide_eq_false d1)
    go_enter Try.func12, Try.ntmps12
    go_wp2_with fail
    refine bodyPost_ret (v := .agg #[.int .i64 0, .int .u64 p]) (by simp [results, Try.results12, go_sem]; done) rfl ⟨ret_i2 ?_ ?_, by (repeat (first | exact Below.refl _ _ | refine Below.drew ?_ | refine Below.setCell ?_ (by simp; try omega) _ | refine bal ?_ _))⟩
    · have := E1.out; have := H.out; unfold two; simp only; omega
    · have := HP.out; unfold two; simp only; omega
  · have E1 := hide (of_decide_eq_true d1)
    go_enter Try.func12, Try.ntmps12
    go_wp2_with fail
    refine bodyPost_ret (v := .agg #[.int .i64 (-1), .int .u64 p]) (by simp [results, Try.results12, go_sem]; done) rfl ⟨ret_i2 ?_ ?_, by (repeat (first | exact Below.refl _ _ | refine Below.drew ?_ | refine Below.setCell ?_ (by simp; try omega) _ | refine bal ?_ _))⟩
    · have := E1.out; have := H.out; unfold two; simp only; omega
    · have := HP.out; unfold two; simp only; omega
end Go.Proofs.Ytmfilhmcgagjcaa
