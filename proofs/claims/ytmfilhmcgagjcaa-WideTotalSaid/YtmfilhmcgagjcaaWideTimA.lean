/- The law WideTimes: plain arithmetic. -/
import Derived.Test.YtmfilhmcgagjcaaWideOrder
namespace Go.Proofs.Ytmfilhmcgagjcaa
set_option linter.unusedSimpArgs false
set_option linter.unusedVariables false
open Go.RowKit
theorem tot_rep {x : Int} (hx : i64ok x) : ∀ (n m : Nat), m + n ≤ 255 → tot ((m : Int) * x) (List.replicate n (two x)) = some (((m + n : Nat) : Int) * x)
  | 0, m, _ => rfl
  | n + 1, m, h => by
    have e : (m : Int) * x + (two x).num = ((m + 1 : Nat) : Int) * x := by
      rw [two_num, Int.natCast_add, Int.add_mul]; simp
    have hr : inr (((m + 1 : Nat) : Int) * x) := by
      have h1 : ((((m + 1 : Nat) : Int) * x)).natAbs = (m + 1) * x.natAbs := by rw [Int.natAbs_mul]; rfl
      have h2 : (m + 1) * x.natAbs ≤ 255 * 9223372036854775808 := Nat.mul_le_mul (by omega) (by unfold i64ok at hx; omega)
      unfold inr; omega
    show tot _ (two x :: List.replicate n (two x)) = _
    unfold tot
    rw [e, if_pos hr, tot_rep hx n (m + 1) (by omega)]
    congr 3; omega
/-- The number that digits are. -/
def val (l : List UInt8) : Int := l.foldl (fun n c => n * 10 + (c.toNat : Int) - 48) 0
theorem val_snoc (l : List UInt8) (c : UInt8) : val (l ++ [c]) = val l * 10 + (c.toNat : Int) - 48 := by unfold val; rw [List.foldl_append]; rfl
def isD (c : UInt8) : Prop := 48 ≤ c.toNat ∧ c.toNat ≤ 57
theorem val_rng : ∀ (k : Nat) (l : List UInt8), l.length = k → (∀ c ∈ l, isD c) → 0 ≤ val l ∧ val l < 10 ^ k
  | 0, l, h, _ => by rw [List.eq_nil_of_length_eq_zero h]; decide
  | k + 1, l, h, hd => by
    have hne : l ≠ [] := fun e => by rw [e] at h; cases h
    obtain ⟨m, c, rfl⟩ : ∃ m c, l = m ++ [c] := ⟨l.dropLast, l.getLast hne, (List.dropLast_concat_getLast hne).symm⟩
    have := val_rng k m (by simpa using h) (fun c hc => hd c (by simp [hc]))
    have hc := hd c (by simp)
    unfold isD at hc
    rw [val_snoc, Int.pow_succ]
    omega
theorem val_pos : ∀ (l : List UInt8), (∀ c ∈ l, isD c) → (∃ c, l.head? = some c ∧ c ≠ 48) → 0 < val l := by
  intro l
  obtain ⟨k, hk⟩ : ∃ k, l.length = k := ⟨_, rfl⟩
  induction k generalizing l with
  | zero => intro _ ⟨c, h, _⟩; rw [List.eq_nil_of_length_eq_zero hk] at h; cases h
  | succ k ih =>
    intro hd ⟨c, h, hc⟩
    have hne : l ≠ [] := fun e => by rw [e] at h; cases h
    obtain ⟨m, d, rfl⟩ : ∃ m c, l = m ++ [c] := ⟨l.dropLast, l.getLast hne, (List.dropLast_concat_getLast hne).symm⟩
    have hdd := hd d (by simp)
    unfold isD at hdd
    rw [val_snoc]
    cases m with
    | nil =>
      obtain rfl : d = c := by simpa using h
      have : d.toNat ≠ 48 := fun e => hc (by rw [← UInt8.toNat_inj]; exact e)
      have e0 : val [] = 0 := rfl
      rw [e0]; omega
    | cons a m =>
      have := ih (a :: m) (by simpa using hk) (fun c hc => hd c (by simp at hc ⊢; rcases hc with h | h <;> simp [h])) ⟨c, by simpa using h, hc⟩
      omega
theorem isD_digit {c : UInt8} (h : isD c) : digit (c.toNat - 48) = c := by
  unfold isD at h
  rw [← UInt8.toNat_inj, digit_nat (by omega)]; omega
theorem dec_val (l : List UInt8) (hd : ∀ c ∈ l, isD c) (h0 : l = [48] ∨ ∃ c, l.head? = some c ∧ c ≠ 48) : dec (val l).natAbs = l := by
  rcases h0 with rfl | h0
  · unfold dec; rw [show (val [48]).natAbs = 0 by decide, rd_lo (by omega)]; rfl
  · obtain ⟨k, hk⟩ : ∃ k, l.length = k := ⟨_, rfl⟩
    induction k generalizing l with
    | zero => obtain ⟨c, h, _⟩ := h0; rw [List.eq_nil_of_length_eq_zero hk] at h; cases h
    | succ k ih =>
      obtain ⟨c, h, hc⟩ := h0
      have hne : l ≠ [] := fun e => by rw [e] at h; cases h
      obtain ⟨m, d, rfl⟩ : ∃ m c, l = m ++ [c] := ⟨l.dropLast, l.getLast hne, (List.dropLast_concat_getLast hne).symm⟩
      have hdd := hd d (by simp)
      have hdg := isD_digit hdd
      unfold isD at hdd
      cases m with
      | nil =>
        have e : (val ([] ++ [d])).natAbs = d.toNat - 48 := by rw [val_snoc, show val [] = 0 from rfl]; omega
        rw [e]; unfold dec; rw [rd_lo (by omega), hdg]; rfl
      | cons a m =>
        have hm : ∀ c ∈ a :: m, isD c := fun c hc => hd c (by simp at hc ⊢; rcases hc with h | h <;> simp [h])
        have hh : ∃ c, (a :: m).head? = some c ∧ c ≠ 48 := ⟨c, by simpa using h, hc⟩
        have h1 := ih (a :: m) hm hh (by simpa using hk)
        have h2 := val_pos (a :: m) hm hh
        obtain ⟨v, hv⟩ : ∃ v, val (a :: m) = v := ⟨_, rfl⟩
        rw [hv] at h1 h2
        have e : (val (a :: m ++ [d])).natAbs = v.natAbs * 10 + (d.toNat - 48) := by rw [val_snoc, hv]; omega
        rw [e]; unfold dec at h1 ⊢
        rw [rd_hi (by omega), show (v.natAbs * 10 + (d.toNat - 48)) / 10 = v.natAbs by omega, show (v.natAbs * 10 + (d.toNat - 48)) % 10 = d.toNat - 48 by omega, List.reverse_cons, h1, hdg]
theorem i2_info : (Try.prog.info? 25).map (fun i => (i.zero, i.size, i.bytes)) = some (some (.agg #[.int .i64 0, .int .u64 0]), 2, 16) := by kernel_rfl
theorem i2_one (l : List I2) : ∀ u ∈ l.flatMap I2.enc, u.oneCell' = true := by
  intro u hu
  simp only [List.mem_flatMap, I2.enc] at hu
  obtain ⟨p, _, hp⟩ := hu
  simp at hp
  rcases hp with rfl | rfl <;> rfl
theorem reads_i2 {w : World} {g : Nat} {E : TypeId} {x : I2} (h : Blk w g E #[.int .i64 x.hi, .int .u64 x.lo]) : Reads w w.heap.size 2 (some ⟨g, 0, none⟩) 1 ([x].flatMap I2.enc) := by
  refine ⟨rfl, fun _ => ⟨_, rfl, h.lt, fun j u hu => ?_⟩⟩
  match j, hu with
  | 0, hu => rw [show (⟨g, 0, none⟩ : Addr).add 0 = ⟨g, 0, none⟩ by rfl, h.cell]; simpa [I2.enc] using hu
  | 1, hu => rw [show (⟨g, 0, none⟩ : Addr).add 1 = ⟨g, 1, none⟩ by rfl, h.cell]; simpa [I2.enc] using hu
  | j + 2, hu => simp [I2.enc] at hu
/-- append of one number. -/
theorem wpList_append_i2 {ops : Array Oper} {rest : List Oper} {o : Oper} {a : Act} {w : World} {Q : Exit → Act → World → Prop} (hgd : o.guard = none) (s x : Operand)
    (ho : o.op = .call { callee := .builtin .append, args := #[s, x], argTypes := #[29, 29] })
    (base : Nat) (v : Value) (n : Nat) (l : List I2) (hs : a.eval s = v) (hown : w.ownsRow base 25 2 v n (l.flatMap I2.enc))
    (g c : Nat) (b : I2) (hx : a.eval x = .slice (some ⟨g, 0, none⟩) 1 c) (hb : Blk w g 25 #[.int .i64 b.hi, .int .u64 b.lo])
    (hn : n + 1 ≤ 8796093022208) (hbase : base ≤ w.heap.size)
    (h : ∀ v' w', w'.ownsRow base 25 2 v' (n + 1) ((l ++ [b]).flatMap I2.enc) → w.grownBy w' v.ownBlock → (v'.ownBlock = v.ownBlock ∨ v'.ownBlock = some w.heap.size) → wpList Try.prog ops Q rest (a.put o.dst v') w') : wpList Try.prog ops Q (o :: rest) a w := by
  have hi := i2_info
  cases hi0 : Try.prog.info? 25 with
  | none => rw [hi0] at hi; cases hi
  | some i0 =>
    rw [hi0] at hi
    simp only [Option.map_some, Option.some.injEq, Prod.mk.injEq] at hi
    exact wpList_append_any w hgd s x 29 ho base 25 i0 _ 2 16 Try.underlying29 hi0 hi.1 hi.2.1 hi.2.2 rfl (by omega) v n (l.flatMap I2.enc) hs hown w.heap.size (some ⟨g, 0, none⟩) 1 c ([b].flatMap I2.enc) hx (reads_i2 hb) (i2_one _)
      (by unfold maxLen; omega) (by omega) hbase fun v' w' h1 h2 h3 => h v' w' (by rw [List.flatMap_append]; exact h1) h2 h3
end Go.Proofs.Ytmfilhmcgagjcaa
