/- Versions: what the tests of a list of versions come to (version.Check, the reference's Check). -/
import Derived.Test.YtldlaojcbgckjaaLib
namespace Go.Proofs.Ytldlaojcbgckjaa
set_option linter.unusedSimpArgs false
set_option linter.unusedVariables false
open Go.RowKit
structure Ver where
  s : Int
  t : Int
  r : Int
def Ver.enc (v : Ver) : List Value := [.int .i64 v.s, .int .i64 v.t, .int .i64 v.r]
theorem Ver.enc_len (v : Ver) : v.enc.length = 3 := rfl
abbrev VR (w : World) (B : Nat) (A : Option Addr) (n : Nat) (l : List Ver) : Prop := Sl 3 Ver.enc w B A n l
theorem VR.at {w : World} {B : Nat} {A : Option Addr} {n : Nat} {l : List Ver} (h : VR w B A n l) (hn : 0 < n) :
    ∃ b o, A = some ⟨b, o, none⟩ ∧ b < B ∧ ∀ j (hj : j < l.length), w.cell? ⟨b, o + j * 3, none⟩ = some (.int .i64 l[j].s) ∧ w.cell? ⟨b, o + j * 3 + 1, none⟩ = some (.int .i64 l[j].t) ∧ w.cell? ⟨b, o + j * 3 + 2, none⟩ = some (.int .i64 l[j].r) := by
  obtain ⟨b, o, hA, hB, hc⟩ := Sl.at h Ver.enc_len (by omega) hn
  exact ⟨b, o, hA, hB, fun j hj => ⟨hc j hj 0 _ rfl, hc j hj 1 _ rfl, hc j hj 2 _ rfl⟩⟩
def soundV (v : Ver) : Bool := decide (1 ≤ v.s) && (decide (0 ≤ v.t) && (decide (v.t ≤ 1099511627776) && decide (2 ≤ v.r)))
def okAt (l : List Ver) (i : Nat) : Bool := (l[i]?).any fun v => soundV v && (i == 0 || ((l[i-1]?).any fun u => decide (u.s < v.s) && decide (u.t ≤ v.t)))
def okTo (l : List Ver) (k : Nat) : Prop := ∀ i, i < k → okAt l i = true
def checkV (l : List Ver) : Bool := (List.range l.length).all (okAt l) && decide (l.length ≤ 64)

theorem okTo_succ {l : List Ver} {k : Nat} (h : okTo l k) (hk : k < l.length) (ho : okAt l k = true) : okTo l (k+1) := fun i hi => by
  rcases Nat.lt_succ_iff_lt_or_eq.1 hi with h1 | rfl
  · exact h i h1
  · exact ho
theorem checkV_no {l : List Ver} {k : Nat} (hk : k < l.length) (ho : okAt l k = false ∨ 64 ≤ k) : checkV l = false := by
  unfold checkV
  rw [Bool.and_eq_false_iff]
  rcases ho with h | h
  · exact .inl (by rw [List.all_eq_false]; exact ⟨k, by simpa using hk, by simp [h]⟩)
  · exact .inr (by simp; omega)
theorem checkV_yes {l : List Ver} (h : okTo l l.length) (hk : l.length ≤ 64) : checkV l = true := by
  unfold checkV
  simp only [Bool.and_eq_true, List.all_eq_true, List.mem_range, decide_eq_true_eq]
  exact ⟨h, hk⟩
def chkRes (l : List Ver) : Int := if checkV l then 0 else 2
theorem sound_later (v : Ver) (w : World) :
    Calls Try.prog 21 #[.agg #[.int .i64 v.s, .int .i64 v.t, .int .i64 v.r]] w fun e w' => e = .returned (.bool (soundV v)) ∧ Below w.heap.size w w' := by
  go_enter Try.func21, Try.ntmps21
  go_wp2
  all_goals go_ret
  all_goals exact ⟨ret_bool (by rw [Bool.eq_iff_iff]; simp [soundV]; omega), (Below.refl _ _).alloc (Nat.le_refl _) _⟩
theorem okAt_eq {l : List Ver} {k : Nat} (hk : k < l.length) : okAt l k = (soundV l[k] && (decide (k = 0) || ((l[k-1]?).any fun u => decide (u.s < l[k].s) && decide (u.t ≤ l[k].t)))) := by
  unfold okAt
  rw [List.getElem?_eq_getElem hk]
  rfl
/-- The six ways through the test of Check. -/
theorem check_ways {l : List Ver} {k : Nat} (hk : k < l.length) (hk1 : k - 1 < l.length) :
    (soundV l[k] = false ∧ okAt l k = false) ∨
    (soundV l[k] = true ∧ decide ((64 : Int) ≤ k) = true ∧ 64 ≤ k) ∨
    (soundV l[k] = true ∧ decide ((64 : Int) ≤ k) = false ∧ k < 64 ∧ decide (0 < k) = false ∧ okAt l k = true) ∨
    (soundV l[k] = true ∧ decide ((64 : Int) ≤ k) = false ∧ decide (0 < k) = true ∧ decide (l[k].s ≤ l[k-1].s) = true ∧ okAt l k = false) ∨
    (soundV l[k] = true ∧ decide ((64 : Int) ≤ k) = false ∧ decide (0 < k) = true ∧ decide (l[k].s ≤ l[k-1].s) = false ∧ decide (l[k].t < l[k-1].t) = true ∧ okAt l k = false) ∨
    (soundV l[k] = true ∧ decide ((64 : Int) ≤ k) = false ∧ k < 64 ∧ decide (0 < k) = true ∧ decide (l[k].s ≤ l[k-1].s) = false ∧ decide (l[k].t < l[k-1].t) = false ∧ okAt l k = true) := by
  rw [okAt_eq hk, List.getElem?_eq_getElem hk1]
  cases hs : soundV l[k]
  · simp
  · by_cases h1 : 64 ≤ k
    · exact .inr (.inl ⟨rfl, by simp; omega, h1⟩)
    · by_cases h2 : k = 0
      · exact .inr (.inr (.inl ⟨rfl, by simp; omega, by omega, by simp; omega, by simp [h2]⟩))
      · by_cases h3 : l[k].s ≤ l[k-1].s
        · exact .inr (.inr (.inr (.inl ⟨rfl, by simp; omega, by simp; omega, by simp [h3], by simp [h2]; omega⟩)))
        · by_cases h4 : l[k].t < l[k-1].t
          · exact .inr (.inr (.inr (.inr (.inl ⟨rfl, by simp; omega, by simp; omega, by simp; omega, by simp [h4], by simp [h2]; omega⟩))))
          · exact .inr (.inr (.inr (.inr (.inr ⟨rfl, by simp; omega, by omega, by simp; omega, by simp; omega, by simp; omega, by simp [h2]; omega⟩))))

set_option maxRecDepth 100000 in
set_option maxHeartbeats 1000000 in
theorem check_any (l : List Ver) (A : Option Addr) (n c : Nat) (w : World) (hr : VR w w.heap.size A n l) (hn : n ≤ 9223372036854775807) :
    Calls Try.prog 15 #[.slice A n c] w fun e w' => e = .returned (.int .i64 (chkRes l)) ∧ Below w.heap.size w w' := by
  go_enter Try.func15, Try.ntmps15
  go_wp2
  go_loopw [7] (fun i wr => ∃ k : Nat, k ≤ n ∧ i = .int .i64 k ∧ okTo l k ∧ k ≤ 64 ∧ Below w.heap.size w wr) (fun i _ => n - (intOf i).toNat)
  case atStart => exact ⟨0, Nat.zero_le _, rfl, fun i h => by omega, by omega, Below.refl _ _⟩
  case round =>
    obtain ⟨k, hk, rfl, hok, h64, hb⟩ := hrel
    by_cases hlt : k < n
    · have hl := hr.len
      obtain ⟨b, o, rfl, hbl, hc⟩ := VR.at (hr.below hb) (by omega)
      obtain ⟨c0, c1, c2⟩ := hc k (by omega)
      obtain ⟨d0, d1, d2⟩ := hc (k-1) (by omega)
      have hbl1 : b < wr.heap.size + 1 := by have := hb.size; omega
      have hbl2 : b < wr.heap.size := by have := hb.size; omega
      have hsz := hb.size
      have HST := Lib.hid (okTo_succ (l := l) (k := k) hok (by omega))
      have HNO := Lib.hid (checkV_no (l := l) (k := k) (by omega))
      have ei : (((k : Int) - 1).toNat) = k - 1 := by omega
      have HBE := Lib.hid (hb.alloc hb.size (Obj.cells #[Value.int IntKind.i64 l[k].s, Value.int IntKind.i64 l[k].t, Value.int IntKind.i64 l[k].r] 24))
      have HW := check_ways (l := l) (k := k) (by omega) (by omega)
      clear hc hr hok hb
      rcases HW with ⟨h1, h2⟩ | ⟨h1, h2, h3⟩ | ⟨h1, h2, h3, h4, h5⟩ | ⟨h1, h2, h3, h4, h5⟩ | ⟨h1, h2, h3, h4, h5, h6⟩ | ⟨h1, h2, h3, h4, h5, h6, h7⟩
      all_goals
        (try have q1 : (1 : Int) ≤ k := by first | (have := h3; simp at this; omega) | (have := h4; simp at this; omega))
        (try have q2 : (k : Int) - 1 < n := by omega)
        go_wp2
        refine wp_region_later (by kernel_rfl) (by kernel_rfl) ?_
        repeat (first | go_big_quiet_step ((go_at_call 21; exact Calls.later (sound_later _ _))) | quiet_step ((go_at_call 21; exact Calls.later (sound_later _ _))))
        refine wpQuiet_nil ?_; intro _ hw'; obtain ⟨L, hL⟩ := hw'; subst hL
        go_wp2
        have HB := HBE.out.trans (L.h.mono (by first | omega | (simp; omega)))
        first
          | (go_ret; exact ⟨ret_int (by unfold chkRes; rw [HNO.out (by first | exact .inl (by assumption) | exact .inr (by assumption))]; rfl), HB⟩)
          | (go_roundw
             case rel => exact ⟨k + 1, by omega, by go_num, HST.out (by assumption), by omega, HB⟩
             case measure => simp [intOf]; omega)
    · go_wp2
      go_ret
      have hkn : k = l.length := by have := hr.1; omega
      subst hkn
      exact ⟨ret_int (by unfold chkRes; rw [checkV_yes hok h64]; rfl), hb⟩
theorem okV_any (v : Ver) (w : World) :
    Calls Try.prog 19 #[.agg #[.int .i64 v.s, .int .i64 v.t, .int .i64 v.r]] w fun e w' => e = .returned (.bool (soundV v)) ∧ Below w.heap.size w w' := by
  go_enter Try.func19, Try.ntmps19
  go_wp2
  all_goals go_ret
  all_goals exact ⟨ret_bool (by rw [Bool.eq_iff_iff]; simp [soundV]; omega), (Below.refl _ _).alloc (Nat.le_refl _) _⟩

theorem rcheck_ways {l : List Ver} {k : Nat} (hk : k < l.length) (hk1 : k - 1 < l.length) :
    (soundV l[k] = false ∧ okAt l k = false) ∨
    (soundV l[k] = true ∧ decide (0 < k) = false ∧ okAt l k = true) ∨
    (soundV l[k] = true ∧ decide (0 < k) = true ∧ decide (l[k].s ≤ l[k-1].s) = true ∧ okAt l k = false) ∨
    (soundV l[k] = true ∧ decide (0 < k) = true ∧ decide (l[k].s ≤ l[k-1].s) = false ∧ decide (l[k].t < l[k-1].t) = true ∧ okAt l k = false) ∨
    (soundV l[k] = true ∧ decide (0 < k) = true ∧ decide (l[k].s ≤ l[k-1].s) = false ∧ decide (l[k].t < l[k-1].t) = false ∧ okAt l k = true) := by
  rw [okAt_eq hk, List.getElem?_eq_getElem hk1]
  cases hs : soundV l[k]
  · simp
  · by_cases h2 : k = 0
    · exact .inr (.inl ⟨rfl, by simp; omega, by simp [h2]⟩)
    · by_cases h3 : l[k].s ≤ l[k-1].s
      · exact .inr (.inr (.inl ⟨rfl, by simp; omega, by simp [h3], by simp [h2]; omega⟩))
      · by_cases h4 : l[k].t < l[k-1].t
        · exact .inr (.inr (.inr (.inl ⟨rfl, by simp; omega, by simp; omega, by simp [h4], by simp [h2]; omega⟩)))
        · exact .inr (.inr (.inr (.inr ⟨rfl, by simp; omega, by simp; omega, by simp; omega, by simp [h2]; omega⟩)))
theorem checkV_no1 {l : List Ver} {k : Nat} (hk : k < l.length) (ho : okAt l k = false) : checkV l = false := checkV_no hk (.inl ho)
theorem checkV_len {l : List Ver} (h : okTo l l.length) : checkV l = decide (l.length ≤ 64) := by
  unfold checkV
  have : (List.range l.length).all (okAt l) = true := by simp only [List.all_eq_true, List.mem_range]; exact h
  rw [this]; rfl

set_option maxRecDepth 100000 in
set_option maxHeartbeats 1000000 in
theorem rcheck_any (l : List Ver) (A : Option Addr) (n c : Nat) (w : World) (hr : VR w w.heap.size A n l) (hn : n ≤ 9223372036854775807) :
    Calls Try.prog 10 #[.slice A n c] w fun e w' => e = .returned (.bool (checkV l)) ∧ Below w.heap.size w w' := by
  go_enter Try.func10, Try.ntmps10
  go_wp2
  go_loopw [3] (fun i wr => ∃ k : Nat, k ≤ n ∧ i = .int .i64 k ∧ okTo l k ∧ Below w.heap.size w wr) (fun i _ => n - (intOf i).toNat)
  case atStart => exact ⟨0, Nat.zero_le _, rfl, fun i h => by omega, Below.refl _ _⟩
  case round =>
    obtain ⟨k, hk, rfl, hok, hb⟩ := hrel
    by_cases hlt : k < n
    · have hl := hr.len
      obtain ⟨b, o, rfl, hbl, hc⟩ := VR.at (hr.below hb) (by omega)
      obtain ⟨c0, c1, c2⟩ := hc k (by omega)
      obtain ⟨d0, d1, d2⟩ := hc (k-1) (by omega)
      have hbl2 : b < wr.heap.size := by have := hb.size; omega
      have hsz := hb.size
      have HST := Lib.hid (okTo_succ (l := l) (k := k) hok (by omega))
      have HNO := Lib.hid (checkV_no1 (l := l) (k := k) (by omega))
      have ei : (((k : Int) - 1).toNat) = k - 1 := by omega
      have HBE := Lib.hid hb
      have HW := rcheck_ways (l := l) (k := k) (by omega) (by omega)
      clear hc hr hok hb
      rcases HW with ⟨h1, h2⟩ | ⟨h1, h2, h3⟩ | ⟨h1, h2, h3, h4⟩ | ⟨h1, h2, h3, h4, h5⟩ | ⟨h1, h2, h3, h4, h5⟩
      all_goals
        (try have q1 : (1 : Int) ≤ k := by (have := h2; simp at this; omega))
        (try have q2 : (k : Int) - 1 < n := by omega)
        go_wp2
        refine wp_region_later (by kernel_rfl) (by kernel_rfl) ?_
        repeat (first | go_big_quiet_step ((go_at_call 19; exact Calls.later (okV_any _ _))) | quiet_step ((go_at_call 19; exact Calls.later (okV_any _ _))))
        refine wpQuiet_nil ?_; intro _ hw'; obtain ⟨L, hL⟩ := hw'; subst hL
        go_wp2
        have HB := HBE.out.trans (L.h.mono (by first | omega | (simp; omega)))
        first
          | (go_ret; exact ⟨ret_bool (by rw [HNO.out (by assumption)]), HB⟩)
          | (go_roundw
             case rel => exact ⟨k + 1, by omega, by go_num, HST.out (by assumption), HB⟩
             case measure => simp [intOf]; omega)
    · go_wp2
      go_ret
      have hkn : k = l.length := by have := hr.1; omega
      subst hkn
      exact ⟨ret_bool (by rw [checkV_len hok]; have := hr.1; rw [Bool.eq_iff_iff]; simp; omega), hb⟩
end Go.Proofs.Ytldlaojcbgckjaa
