/- Points: the program's and the reference's Good, the reference's Turn, between, On. -/
import Derived.Test.YticmoijngfpeeaaGeoA
namespace Go.Proofs.Yticmoijngfpeeaa
set_option linter.unusedSimpArgs false
set_option linter.unusedVariables false
open Go.RowKit
abbrev PR (w : World) (B : Nat) (A : Option Addr) (n : Nat) (l : List Pt) : Prop := Sl 2 Pt.enc w B A n l
theorem PR.at {w : World} {B : Nat} {A : Option Addr} {n : Nat} {l : List Pt} (h : PR w B A n l) (hn : 0 < n) :
    ∃ b o, A = some ⟨b, o, none⟩ ∧ b < B ∧ ∀ j (hj : j < l.length), w.cell? ⟨b, o + j * 2, none⟩ = some (.int .i64 l[j].x) ∧ w.cell? ⟨b, o + j * 2 + 1, none⟩ = some (.int .i64 l[j].y) := by
  obtain ⟨b, o, hA, hB, hc⟩ := Sl.at h Pt.enc_len (by omega) hn
  exact ⟨b, o, hA, hB, fun j hj => ⟨hc j hj 0 _ rfl, hc j hj 1 _ rfl⟩⟩
def goodAll (l : List Pt) : Bool := l.all fun p => decide p.good
theorem goodAll_no {l : List Pt} {k : Nat} (hk : k < l.length) (h : ¬ l[k].good) : goodAll l = false := by
  unfold goodAll; rw [List.all_eq_false]; exact ⟨l[k], List.getElem_mem hk, by simpa using h⟩
theorem goodAll_yes {l : List Pt} (h : ∀ i (hi : i < l.length), l[i].good) : goodAll l = true := by
  unfold goodAll; rw [List.all_eq_true]; intro p hp
  obtain ⟨i, hi, rfl⟩ := List.getElem_of_mem hp
  simpa using h i hi

set_option maxRecDepth 100000 in
set_option maxHeartbeats 1000000 in
theorem good_any (l : List Pt) (A : Option Addr) (n c : Nat) (w : World) (hr : PR w w.heap.size A n l) (hn : n ≤ 4611686018427387904) :
    Calls Try.prog 16 #[.slice A n c] w fun e w' => e = .returned (.bool (goodAll l)) ∧ Below w.heap.size w w' := by
  go_enter Try.func16, Try.ntmps16
  go_wp2
  go_loopw [7] (fun i wr => ∃ k : Nat, k ≤ n ∧ i = .int .i64 k ∧ (∀ i (hi : i < l.length), i < k → l[i].good) ∧ Below w.heap.size w wr) (fun i _ => n - (intOf i).toNat)
  case atStart => exact ⟨0, Nat.zero_le _, rfl, fun i h => by omega, Below.refl _ _⟩
  case round =>
    obtain ⟨k, hk, rfl, hok, hb⟩ := hrel
    have HB := hide hb
    have HOK := hide hok
    have hl := hr.len
    by_cases hlt : k < n
    · obtain ⟨b, o, rfl, hbl, hc⟩ := PR.at (hr.below hb) (by omega)
      have hkl : k < l.length := by omega
      obtain ⟨c0, c1⟩ := hc k hkl
      have hbl2 : b < wr.heap.size := by have := hb.size; omega
      have HBE := hide (btr hb (bal (Below.refl wr.heap.size wr) (pblk l[k].x l[k].y)))
      have HST : Hid (l[k].good → ∀ i (hi : i < l.length), i < k + 1 → l[i].good) := fun h i hi h1 => by
        rcases Nat.lt_succ_iff_lt_or_eq.1 h1 with h2 | rfl
        · exact hok i hi h2
        · exact h
      have HNO := hide (goodAll_no hkl)
      have HL := hide hl
      clear hc hb hok hl
      go_wp2
      all_goals first
        | (go_ret; exact ⟨ret_bool (by rw [HNO.out (by unfold Pt.good; omega)]), HBE.out⟩)
        | (go_roundw
           case rel => exact ⟨k + 1, by omega, by go_num, HST.out (by unfold Pt.good; omega), HBE.out⟩
           case measure => simp [intOf]; omega)
    · clear hb hok
      go_wp2
      go_ret
      exact ⟨ret_bool (by rw [goodAll_yes (fun i hi => HOK.out i hi (by omega))]), HB.out⟩

set_option maxRecDepth 100000 in
set_option maxHeartbeats 1000000 in
theorem rgood_any (l : List Pt) (A : Option Addr) (n c : Nat) (w : World) (hr : PR w w.heap.size A n l) (hn : n ≤ 4611686018427387904) :
    Calls Try.prog 11 #[.slice A n c] w fun e w' => e = .returned (.bool (goodAll l)) ∧ Below w.heap.size w w' := by
  go_enter Try.func11, Try.ntmps11
  go_wp2
  go_loopw [3] (fun i wr => ∃ k : Nat, k ≤ n ∧ i = .int .i64 k ∧ (∀ i (hi : i < l.length), i < k → l[i].good) ∧ Below w.heap.size w wr) (fun i _ => n - (intOf i).toNat)
  case atStart => exact ⟨0, Nat.zero_le _, rfl, fun i h => by omega, Below.refl _ _⟩
  case round =>
    obtain ⟨k, hk, rfl, hok, hb⟩ := hrel
    have HB := hide hb
    have HOK := hide hok
    have hl := hr.len
    by_cases hlt : k < n
    · obtain ⟨b, o, rfl, hbl, hc⟩ := PR.at (hr.below hb) (by omega)
      have hkl : k < l.length := by omega
      obtain ⟨c0, c1⟩ := hc k hkl
      have hbl2 : b < wr.heap.size := by have := hb.size; omega
      have HBE := hide (btr hb (bal (Below.refl wr.heap.size wr) (pblk l[k].x l[k].y)))
      have HST : Hid (l[k].good → ∀ i (hi : i < l.length), i < k + 1 → l[i].good) := fun h i hi h1 => by
        rcases Nat.lt_succ_iff_lt_or_eq.1 h1 with h2 | rfl
        · exact hok i hi h2
        · exact h
      have HNO := hide (goodAll_no hkl)
      have HL := hide hl
      clear hc hb hok hl
      go_wp2
      all_goals first
        | (go_ret; exact ⟨ret_bool (by rw [HNO.out (by unfold Pt.good; omega)]), HBE.out⟩)
        | (go_roundw
           case rel => exact ⟨k + 1, by omega, by go_num, HST.out (by unfold Pt.good; omega), HBE.out⟩
           case measure => simp [intOf]; omega)
    · clear hb hok
      go_wp2
      go_ret
      exact ⟨ret_bool (by rw [goodAll_yes (fun i hi => HOK.out i hi (by omega))]), HB.out⟩

set_option maxHeartbeats 400000 in
theorem rturn_any (a b c : Pt) (w : World) (ha : a.good) (hb : b.good) (hc : c.good) :
    Calls Try.prog 28 #[.agg #[.int .i64 a.x, .int .i64 a.y], .agg #[.int .i64 b.x, .int .i64 b.y], .agg #[.int .i64 c.x, .int .i64 c.y]] w fun e w' => e = .returned (.int .i64 (turnV a b c)) ∧ Below w.heap.size w w' := by
  have h1 := cross_bound ha hb hc
  obtain ⟨⟨p1, p2⟩, p3, p4⟩ := prod_bound ha hb hc
  have HT : Hid (∀ n : Int, crossV a b c = n → turnV a b c = if n < 0 then -1 else if 0 < n then 1 else 0) := fun n h => by unfold turnV cmpOf; rw [h]
  unfold crossV at h1 HT
  obtain ⟨⟨a1, a2⟩, a3, a4⟩ := ha
  obtain ⟨⟨b1, b2⟩, b3, b4⟩ := hb
  obtain ⟨⟨c1, c2⟩, c3, c4⟩ := hc
  obtain ⟨q1, q2⟩ := h1
  go_enter Try.func28, Try.ntmps28
  go_wp2
  all_goals go_ret
  all_goals exact ⟨ret_int (by rw [HT.out _ rfl]; (repeat' split) <;> omega), bel3 _ _ _ _⟩
def betweenV (a b n : Int) : Bool := (decide (a ≤ n) && decide (n ≤ b)) || (decide (b ≤ n) && decide (n ≤ a))
set_option maxHeartbeats 400000 in
theorem between_any (a b n : Int) (w : World) :
    Calls Try.prog 29 #[.int .i64 a, .int .i64 b, .int .i64 n] w fun e w' => e = .returned (.bool (betweenV a b n)) ∧ w = w' := by
  go_enter Try.func29, Try.ntmps29
  go_wp2
  all_goals go_ret
  all_goals exact ⟨ret_bool (by rw [Bool.eq_iff_iff]; simp [betweenV]; omega), rfl⟩
end Go.Proofs.Yticmoijngfpeeaa
