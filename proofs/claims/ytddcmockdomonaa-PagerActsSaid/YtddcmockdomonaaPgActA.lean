/- PagerActs: lists of pages. -/
import Derived.Test.YtddcmockdomonaaPgRoomC
namespace Go.Proofs.Ytddcmockdomonaa
set_option linter.unusedSimpArgs false
set_option linter.unusedVariables false
open Go.RowKit
abbrev PgL : Type := List (Nat × Cn)
abbrev TG : TypeId := 54
abbrev TGS : TypeId := 47
def pgE (p : Nat × Cn) : List Value := [.int .i64 (p.1 : Int), bstr p.2]
theorem pgE_len (p : Nat × Cn) : (pgE p).length = 2 := rfl
theorem pgE_one (l : PgL) : ∀ u ∈ l.flatMap pgE, u.oneCell' = true := by
  intro u hu
  obtain ⟨p, _, hu⟩ := List.mem_flatMap.1 hu
  simp only [pgE, List.mem_cons, List.not_mem_nil, or_false] at hu
  rcases hu with rfl | rfl <;> rfl
abbrev PL (w : World) (B : Nat) (A : Option Addr) (n : Nat) (l : PgL) : Prop := Sl 2 pgE w B A n l
def hasP (l : PgL) (a : Nat) : Bool := l.any (fun p => p.1 == a)
theorem has_iff (l : PgL) (a : Nat) : hasP l a = true ↔ a ∈ l.map Prod.fst := by
  unfold hasP
  rw [List.any_eq_true, List.mem_map]
  simp
theorem PL.at_ {w : World} {B : Nat} {A : Option Addr} {n : Nat} {l : PgL} (h : PL w B A n l) {j : Nat} (hj : j < n) :
    ∃ b o, A = some ⟨b, o, none⟩ ∧ b < B ∧ ∃ h : j < l.length, w.cell? ⟨b, o + j * 2, none⟩ = some (.int .i64 (l[j].1 : Int)) ∧ w.cell? ⟨b, o + j * 2 + 1, none⟩ = some (bstr l[j].2) := by
  obtain ⟨b, o, e, hb, hc⟩ := Sl.at h pgE_len (by omega) (by omega)
  have hl := h.len
  exact ⟨b, o, e, hb, by omega, hc j (by omega) 0 _ rfl, hc j (by omega) 1 _ rfl⟩
set_option maxRecDepth 100000 in
theorem find_any (A : Option Addr) (n c : Nat) (l : PgL) (a : Nat) (w : World) (hr : PL w w.heap.size A n l) (hn : n ≤ 100000) :
    Calls Try.prog 18 #[.slice A n c, .int .i64 (a : Int)] w fun e w' => (∃ x : Int, e = .returned (.int .i64 x) ∧ decide (0 ≤ x) = hasP l a) ∧ Below w.heap.size w w' := by
  have HR := hide hr
  have HL := hide hr.len
  clear hr
  go_enter Try.func18, Try.ntmps18
  go_wp2_with fail
  have HI0 := hide (Below.refl w.heap.size w)
  go_loopw [5] (fun iv wr => ∃ j : Nat, j ≤ n ∧ iv = .int .i64 j ∧ Hid (Below w.heap.size w wr) ∧ Hid (∀ i, ∀ _ : i < l.length, i < j → l[i].1 ≠ a)) (fun iv _ => n - (intOf iv).toNat)
  case atStart => exact ⟨0, by omega, rfl, HI0, hide (fun i _ h => by omega)⟩
  case round =>
    obtain ⟨j, hj, rfl, HB, HA⟩ := hrel
    by_cases hlt : j < n
    · obtain ⟨b, o, rfl, hb, hjl, c0, c1⟩ := PL.at_ (HR.out.below HB.out) hlt
      obtain ⟨x, hx⟩ : ∃ x, l[j].1 = x := ⟨_, rfl⟩
      rw [hx] at c0
      have hbw : b < wr.heap.size := Nat.lt_of_lt_of_le hb HB.out.size
      have HX := hide (show ∃ h : j < l.length, l[j].1 = x from ⟨hjl, hx⟩)
      clear hx c1 hjl hb
      cases hd : (x == a)
      · have d1 : ((x : Int) == (a : Int)) = false := by simp at hd ⊢; omega
        go_wp2
        go_roundw
        case rel => exact ⟨j + 1, by omega, by go_num, HB, hide (fun i hi h => by
          rcases Nat.lt_succ_iff_lt_or_eq.1 h with h | rfl
          · exact HA.out i hi h
          · obtain ⟨_, e⟩ := HX.out
            rw [e]
            simpa using hd)⟩
        case measure => simp [intOf]; omega
      · have d1 : ((x : Int) == (a : Int)) = true := by simp at hd ⊢; omega
        go_wp2
        go_ret
        refine ⟨⟨_, rfl, ?_⟩, HB.out⟩
        have : hasP l a = true := by
          obtain ⟨h, e⟩ := HX.out
          exact (has_iff _ _).2 (List.mem_map.2 ⟨l[j], List.getElem_mem h, by rw [e]; simpa using hd⟩)
        rw [this]
        simp
    · go_wp2
      go_ret
      refine ⟨⟨_, rfl, ?_⟩, HB.out⟩
      have : hasP l a = false := by
        rw [Bool.eq_false_iff]
        intro h
        obtain ⟨p, hp, e⟩ := List.mem_map.1 ((has_iff _ _).1 h)
        obtain ⟨i, hi, rfl⟩ := List.getElem_of_mem hp
        exact HA.out i hi (by have := HL.out; omega) e
      rw [this]
      decide
theorem page_info : (Try.prog.info? TG).map (fun i => (i.zero, i.size, i.bytes)) = some (some (.agg #[.int .i64 0, .string ⟨#[]⟩]), 2, 24) := by kernel_rfl
end Go.Proofs.Ytddcmockdomonaa
