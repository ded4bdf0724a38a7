/- The reference's numbers: five parts of 32 bits: plus. -/
import Derived.Test.YtmfilhmcgagjcaaWideB
namespace Go.Proofs.Ytmfilhmcgagjcaa
set_option linter.unusedSimpArgs false
set_option linter.unusedVariables false
open Go.RowKit Go.Shelf
/-- Five parts, as a function of their place. -/
def cs5 (f : Nat → Int) : Array Value := #[.int .u32 (f 0), .int .u32 (f 1), .int .u32 (f 2), .int .u32 (f 3), .int .u32 (f 4)]
def part (f : Nat → Int) : Prop := ∀ i, 0 ≤ f i ∧ f i < 4294967296
theorem cs5_get (f : Nat → Int) {k : Nat} (hk : k < 5) : (cs5 f)[k]? = some (.int .u32 (f k)) := by
  match k, hk with
  | 0, _ => rfl
  | 1, _ => rfl
  | 2, _ => rfl
  | 3, _ => rfl
  | 4, _ => rfl
theorem cs5_set (f : Nat → Int) {k : Nat} (hk : k < 5) (v : Int) : (cs5 f).setIfInBounds k (.int .u32 v) = cs5 (fun i => if i = k then v else f i) := by
  match k, hk with
  | 0, _ => rfl
  | 1, _ => rfl
  | 2, _ => rfl
  | 3, _ => rfl
  | 4, _ => rfl
theorem cs5_congr {f g : Nat → Int} (h : ∀ i, i < 5 → f i = g i) : cs5 f = cs5 g := by
  unfold cs5; rw [h 0 (by omega), h 1 (by omega), h 2 (by omega), h 3 (by omega), h 4 (by omega)]
/-- What is carried to the k-th part. -/
def carry (A B : Nat → Int) : Nat → Int
  | 0 => 0
  | k + 1 => (A k + B k + carry A B k) / 4294967296
def sumP (A B : Nat → Int) (k : Nat) : Int := (A k + B k + carry A B k) % 4294967296
theorem carry_01 {A B : Nat → Int} (hA : part A) (hB : part B) : ∀ k, 0 ≤ carry A B k ∧ carry A B k ≤ 1
  | 0 => by unfold carry; omega
  | k + 1 => by
    have := carry_01 hA hB k; have := hA k; have := hB k
    unfold carry; omega
abbrev lblk (f : Nat → Int) : Obj := Obj.cells (cs5 f) 54
theorem Blk.at5 {W : World} {g : Nat} {t : TypeId} {f : Nat → Int} (h : Blk W g t (cs5 f)) {k : Nat} (hk : k < 5) : W.cell? ⟨g, k, none⟩ = some (.int .u32 (f k)) := by
  rw [Blk.cell h k]; exact cs5_get f hk
def PlusI (w W : World) (A B : Nat → Int) (k : Nat) : Prop := Below w.heap.size w W ∧ Blk W w.heap.size 54 (cs5 A) ∧ Blk W (w.heap.size + 1) 54 (cs5 B) ∧
  Blk W (w.heap.size + 1 + 1) 54 (cs5 (fun _ => 0)) ∧ Blk W (w.heap.size + 1 + 1 + 1) 54 (cs5 (fun i => if i < k then sumP A B i else 0))
theorem PlusI.first (w : World) (A B : Nat → Int) : PlusI w ((((w.alloc (lblk A)).alloc (lblk B)).alloc (lblk (fun _ => 0))).alloc (lblk (fun _ => 0))) A B 0 := by
  refine ⟨by (repeat (first | exact Below.refl _ _ | refine Below.drew ?_ | refine Below.setCell ?_ (by simp; try omega) _ | refine bal ?_ _)), (((Blk.new w _ _).alloc _).alloc _).alloc _, ?_, ?_, ?_⟩
  · have := ((Blk.new (w.alloc (lblk A)) 54 (cs5 B)).alloc (lblk (fun _ => 0))).alloc (lblk (fun _ => 0)); simpa using this
  · have := (Blk.new ((w.alloc (lblk A)).alloc (lblk B)) 54 (cs5 (fun _ => 0))).alloc (lblk (fun _ => 0)); simpa using this
  · have := Blk.new (((w.alloc (lblk A)).alloc (lblk B)).alloc (lblk (fun _ => 0))) 54 (cs5 (fun _ => 0)); simpa using this
theorem PlusI.later {w W W' : World} {A B : Nat → Int} {k : Nat} (h : PlusI w W A B k) (hb : Below W.heap.size W W') : PlusI w W' A B k :=
  ⟨btr h.1 hb, h.2.1.below hb h.2.1.lt, h.2.2.1.below hb h.2.2.1.lt, h.2.2.2.1.below hb h.2.2.2.1.lt, h.2.2.2.2.below hb h.2.2.2.2.lt⟩
theorem PlusI.step {w W : World} {A B : Nat → Int} {k : Nat} (h : PlusI w W A B k) (hk : k < 5) {v : Int} (hv : v = sumP A B k) : PlusI w (W.setCell ⟨w.heap.size + 1 + 1 + 1, k, none⟩ (.int .u32 v)) A B (k + 1) := by
  obtain ⟨h1, h2, h3, h4, h5⟩ := h
  refine ⟨h1.setCell (by simp; try omega) _, h2.far (p := ⟨w.heap.size + 1 + 1 + 1, k, none⟩) (by simp; try omega) _, h3.far (p := ⟨w.heap.size + 1 + 1 + 1, k, none⟩) (by simp; try omega) _, h4.far (p := ⟨w.heap.size + 1 + 1 + 1, k, none⟩) (by simp) _, ?_⟩
  have := h5.set_ k (.int .u32 v)
  rw [cs5_set _ hk] at this
  rw [cs5_congr (g := fun i => if i < k + 1 then sumP A B i else 0)] at this
  · exact this
  · intro i _
    by_cases e : i = k
    · subst e; simp [hv]
    · by_cases l : i < k
      · simp [e, l, show i < k + 1 by omega]
      · simp [e, l, show ¬ i < k + 1 by omega]
set_option maxRecDepth 100000 in
set_option maxHeartbeats 1000000 in
theorem plus_any (A B : Nat → Int) (w : World) (hA : part A) (hB : part B) :
    Calls Try.prog 31 #[.agg (cs5 A), .agg (cs5 B)] w fun e w' => e = .returned (.agg (cs5 (sumP A B))) ∧ Below w.heap.size w w' := by
  have HI0 := hide (PlusI.first w A B)
  have HC := hide (fun k => carry_01 hA hB k)
  have HA := hide hA
  have HB := hide hB
  clear hA hB
  unfold cs5
  go_enter Try.func31, Try.ntmps31
  go_wp2
  go_loopw [6, 7] (fun c i wr => ∃ k : Nat, k ≤ 5 ∧ i = .int .i64 k ∧ c = .int .u64 (carry A B k) ∧ Hid (PlusI w wr A B k)) (fun c i _ => 5 - (intOf i).toNat)
  case atStart => exact ⟨0, by omega, rfl, rfl, HI0⟩
  case round =>
    obtain ⟨k, hk, rfl, rfl, HI⟩ := hrel
    have HK : Hid (k ≤ 5) := hide hk
    by_cases hlt : k < 5
    · have c0 := (HI.out.2.1).at5 hlt
      have d0 := (HI.out.2.2.1).at5 hlt
      have z1 := HI.out.2.1.lt
      have z2 := HI.out.2.2.1.lt
      have z3 := HI.out.2.2.2.2.lt
      obtain ⟨a, ha⟩ : ∃ a, A k = a := ⟨_, rfl⟩
      obtain ⟨b, hb⟩ : ∃ b, B k = b := ⟨_, rfl⟩
      obtain ⟨c, hc⟩ : ∃ c, carry A B k = c := ⟨_, rfl⟩
      have a1 := HA.out k; have b1 := HB.out k; have c1 := HC.out k
      have HN := hide (show carry A B (k + 1) = (a + b + c) / 4294967296 by rw [← ha, ← hb, ← hc]; rfl)
      have HS := hide (show sumP A B k = (a + b + c) % 4294967296 by rw [← ha, ← hb, ← hc]; rfl)
      rw [ha] at c0 a1
      rw [hb] at d0 b1
      rw [hc] at c1 ⊢
      obtain ⟨a1, a2⟩ := a1; obtain ⟨b1, b2⟩ := b1; obtain ⟨c1, c2⟩ := c1
      have e1 : IntKind.u32.wrap (a + b + c) = (a + b + c) % 4294967296 := by rw [IntKind.wrap_u32]
      clear ha hb hc hk
      go_wp2
      refine wp_region_later (by kernel_rfl) (by kernel_rfl) ?_
      repeat (first | go_big_quiet_step (fail) | quiet_step (fail))
      refine wpQuiet_nil ?_; intro _ hw'; obtain ⟨L, hL⟩ := hw'; subst hL
      have HI2 := hide (HI.out.later L.h)
      have z4 := HI2.out.2.2.2.2.lt
      have k4 := HI2.out.2.2.2.2.at5 hlt
      have q4 := HI2.out.2.2.2.2.frozen
      generalize L.v = w2 at *
      go_wp2
      go_roundw
      case rel => exact ⟨k + 1, by omega, by go_num, by rw [HN.out], hide (HI2.out.step hlt HS.out.symm)⟩
      case measure => simp [intOf]; omega
    · have hk5 : k = 5 := by omega
      subst hk5
      have HF := hide (show Blk wr (w.heap.size + 1 + 1 + 1) 54 (cs5 (sumP A B)) by
        have := HI.out.2.2.2.2
        rw [cs5_congr (g := sumP A B) (fun i hi => by simp [hi])] at this
        exact this)
      have k4 := HF.out.cell
      have k3 := HI.out.2.2.2.1.cell
      have q3 := HI.out.2.2.2.1.frozen
      have z3 := HI.out.2.2.2.1.lt
      unfold cs5 at k4 k3
      go_wp2
      refine bodyPost_ret (v := .agg (cs5 (sumP A B))) (by simp [results, Try.results31, go_sem, k3, cs5]; done) rfl ⟨rfl, ?_⟩
      exact ((((HI.out.1.setCell (by simp; try omega) _).setCell (by simp; try omega) _).setCell (by simp; try omega) _).setCell (by simp; try omega) _).setCell (by simp; try omega) _
end Go.Proofs.Ytmfilhmcgagjcaa
