/- The document's texts of two digits a byte. -/
import Derived.Test.YtcdhngppcpgojaaDoorScrRh
namespace Go.Proofs.YtcdhngppcpgojaaDoor
set_option linter.unusedSimpArgs false
set_option linter.unusedVariables false
open Go.RowKit
def UhP (o : Option (List UInt8)) (e : Ending) : Prop := ∃ (S : List UInt8) (ok : Bool), e = .returned (.tuple #[str S, .bool ok]) ∧ ok = o.isSome ∧ ∀ l, o = some l → S = l
theorem ixd_ref0 : ∀ n : Fin 256, ixd (UInt8.ofNat n.val) = if 48 ≤ n.val ∧ n.val ≤ 57 then (n.val : Int) - 48 else if 97 ≤ n.val ∧ n.val ≤ 102 then (n.val : Int) - 97 + 10 else -1 := by decide +kernel
theorem ixd_ref (c : UInt8) : ixd c = if 48 ≤ c.toNat ∧ c.toNat ≤ 57 then (c.toNat : Int) - 48 else if 97 ≤ c.toNat ∧ c.toNat ≤ 102 then (c.toNat : Int) - 97 + 10 else -1 := by
  have := ixd_ref0 ⟨c.toNat, c.toNat_lt⟩
  simpa using this
theorem un2_good : ∀ (k : Nat) (r : List UInt8), r.length = 2 * k → ((un2 r).2 = true ↔ ∀ c ∈ r, 0 ≤ ixd c)
  | 0, r, h => by
    have : r = [] := List.eq_nil_of_length_eq_zero (by omega)
    subst this
    simp [un2]
  | k + 1, a :: b :: r, h => by
    have := un2_good k r (by simp at h; omega)
    rw [un2]
    simp only [Bool.and_eq_true, this, List.mem_cons, forall_eq_or_imp, ok2, decide_eq_true_eq]
    exact ⟨fun h => ⟨h.1.1, h.1.2, h.2⟩, fun h => ⟨⟨h.1, h.2.1⟩, h.2.2⟩⟩
theorem unhex_even {x : List UInt8} (h : x.length % 2 = 0 ∨ x.head? ≠ some 120) : unhexO x = none := by
  unfold unhexO
  rw [if_neg]
  rintro ⟨h1, h2, _⟩
  rcases x with _ | ⟨a, r⟩
  · cases h1
  · have ha : a = 120 := by
      unfold Lib.hasPrefix at h1
      simp [List.isPrefixOf] at h1
      exact h1.symm
    subst ha
    unfold Lib.trimPrefix at h2
    rw [if_pos h1] at h2
    rcases h with h | h
    · simp at h h2; omega
    · exact h rfl
theorem unhex_x (r : List UInt8) (h : r.length % 2 = 0) : unhexO (120 :: r) = if (un2 r).2 = true then some (un2 r).1 else none := by
  have e : Lib.trimPrefix (120 :: r) [120] = r := by
    unfold Lib.trimPrefix
    rw [if_pos (by unfold Lib.hasPrefix; simp [List.isPrefixOf])]
    rfl
  have hp : Lib.hasPrefix (120 :: r) [120] = true := by unfold Lib.hasPrefix; simp [List.isPrefixOf]
  unfold unhexO
  rw [e]
  by_cases hg : (un2 r).2 = true
  · rw [if_pos ⟨hp, h, hg⟩, if_pos hg]
  · rw [if_neg (fun h => hg h.2.2), if_neg hg]
structure UhI (w wr : World) (r : List UInt8) (q : Nat) (ni : Int) (v : Value) (k : Nat) : Prop where
  b : Below w.heap.size w wr
  kk : k = (q - 1) / 2
  row : wr.ownsRow w.heap.size T8 1 v k (bc (un2 (r.take (2 * k))).1)
  g : ∀ c ∈ r.take (q - 1), 0 ≤ ixd c
  n0 : 0 ≤ ni ∧ ni < 256
  n1 : q % 2 = 0 → ∀ h : q - 2 < r.length, ni % 16 = ixd r[q - 2]
theorem UhI.bad {w wr : World} {r : List UInt8} {q : Nat} {ni : Int} {v : Value} {k : Nat} (h : UhI w wr r q ni v k) (hev : r.length % 2 = 0) (hq : q - 1 < r.length) (hd : ixd r[q - 1] < 0) : unhexO (120 :: r) = none := by
  rw [unhex_x r hev, if_neg]
  intro hg
  have := (un2_good (r.length / 2) r (by omega)).1 hg r[q - 1] (List.getElem_mem hq)
  omega
theorem UhI.good {w wr : World} {r : List UInt8} {q : Nat} {ni : Int} {v : Value} {k : Nat} (h : UhI w wr r q ni v k) (hev : r.length % 2 = 0) (hq : q = r.length + 1) : unhexO (120 :: r) = some (un2 r).1 ∧ wr.ownsRow w.heap.size T8 1 v k (bc (un2 r).1) ∧ k = (un2 r).1.length := by
  have hk := h.kk
  have hg := h.g
  rw [show q - 1 = r.length by omega, List.take_length] at hg
  have hr := h.row
  rw [show 2 * k = r.length by omega, List.take_length] at hr
  refine ⟨by rw [unhex_x r hev, if_pos ((un2_good (r.length / 2) r (by omega)).2 hg)], hr, ?_⟩
  have := hr.1
  rw [bc_len] at this
  omega
theorem UhI.odd {w wr : World} {r : List UInt8} {q : Nat} {ni : Int} {v : Value} {k : Nat} (h : UhI w wr r q ni v k) (hq : q - 1 < r.length) (hq1 : 1 ≤ q) (hd : 0 ≤ ixd r[q - 1]) (hm : q % 2 = 1) : UhI w wr r (q + 1) (ni % 16 * 16 + ixd r[q - 1]) v k := by
  have hk := h.kk
  have hc := ixd_cases r[q - 1]
  refine ⟨h.b, by omega, h.row, fun c hcm => ?_, ?_, fun _ hh => ?_⟩
  · rw [show q + 1 - 1 = (q - 1) + 1 by omega, List.take_succ_eq_append_getElem hq] at hcm
    rcases List.mem_append.1 hcm with e | e
    · exact h.g c e
    · simp at e; subst e; exact hd
  · omega
  · have : r[q + 1 - 2] = r[q - 1] := by congr 1
    rw [this]; omega
theorem UhI.even {w wr w' : World} {r : List UInt8} {q : Nat} {ni : Int} {v v' : Value} {k : Nat} {Y : Int} (h : UhI w wr r q ni v k) (hq : q - 1 < r.length) (hq1 : 2 ≤ q) (hd : 0 ≤ ixd r[q - 1]) (hm : q % 2 = 0) (hY : (ni % 16 * 16 + ixd r[q - 1]) % 256 = Y) (hb : Below w.heap.size w w') (ho : w'.ownsRow w.heap.size T8 1 v' (k + 1) (bc (un2 (r.take (2 * k))).1 ++ [.int .u8 Y])) : UhI w w' r (q + 1) (ni % 16 * 16 + ixd r[q - 1]) v' (k + 1) := by
  have hk := h.kk
  have hc := ixd_cases r[q - 1]
  have hn1 := h.n1 hm (by omega)
  have hp := h.g r[q - 2] (by
    rw [List.mem_iff_getElem]
    exact ⟨q - 2, by rw [List.length_take]; omega, by rw [List.getElem_take]⟩)
  have hcp := ixd_cases r[q - 2]
  refine ⟨hb, by omega, ?_, fun c hcm => ?_, ?_, fun hh => by omega⟩
  · have ht := un2_take r k (by omega)
    have e1 : r[2 * k] = r[q - 2] := by congr 1; omega
    have e2 : r[2 * k + 1] = r[q - 1] := by congr 1; omega
    rw [ht, e1, e2]
    have e3 : bc ((un2 (r.take (2 * k))).1 ++ [bOf r[q - 2] r[q - 1]]) = bc (un2 (r.take (2 * k))).1 ++ [.int .u8 Y] := by
      unfold bc
      rw [List.map_append]
      congr 1
      simp only [List.map_cons, List.map_nil]
      congr 2
      unfold bOf
      rw [UInt8.toNat_ofNat']
      omega
    rw [e3]
    exact ho
  · rw [show q + 1 - 1 = (q - 1) + 1 by omega, List.take_succ_eq_append_getElem hq] at hcm
    rcases List.mem_append.1 hcm with e | e
    · exact h.g c e
    · simp at e; subst e; exact hd
  · omega
set_option maxRecDepth 100000 in
set_option maxHeartbeats 1000000 in
theorem unhex_any (x : List UInt8) (w : World) (hl : x.length ≤ 600000000) :
    Calls Tryd.prog 43 #[str x] w fun e w' => UhP (unhexO x) e ∧ Below w.heap.size w w' := by
  by_cases hev : x.length % 2 = 0
  · have HE := hide (unhex_even (.inl hev))
    have hm : ((x.length : Int).tmod 2) = 0 := by rw [Int.tmod_eq_emod_of_nonneg (by omega)]; omega
    clear hev
    go_enter Tryd.func43, Tryd.ntmps43
    go_wp2_with fail
    refine bodyPost_ret (v := .tuple #[str [], .bool false]) (by simp [results, Tryd.results43, go_sem]) rfl ⟨⟨[], false, rfl, by rw [HE.out]; rfl, fun l h => by rw [HE.out] at h; cases h⟩, Below.refl _ _⟩
  · rcases x with _ | ⟨a, r⟩
    · exact absurd rfl hev
    · have hm : (((r.length : Int) + 1).tmod 2) = 1 := by rw [Int.tmod_eq_emod_of_nonneg (by omega)]; simp at hev; omega
      have hrl : r.length % 2 = 0 := by simp at hev; omega
      by_cases ha : a = 120
      · subst ha
        have hcb : ((⟨(120 :: r).toArray⟩ : ByteArray)[0]'(by rw [str_size]; simp)).toNat = 120 := rfl
        have HRL := hide hrl
        have hlr : r.length ≤ 599999999 := by simp at hl; omega
        clear hl
        obtain ⟨i0, hi0, hz0, hz1, hz2⟩ := info_parts u8_info
        have HI0 := hide hi0
        clear hev hrl hi0
        go_enter Tryd.func43, Tryd.ntmps43
        go_upto_region 5 with fail
        clear hm hcb
        go_wp2_with fail
        go_loopw [4, 5, 6] (fun v nn i wr => ∃ (q k : Nat) (ni : Int) (A' : Option Addr) (c' : Nat), (1 ≤ q ∧ q ≤ r.length + 1) ∧ i = .int .i64 q ∧ nn = .int .i64 ni ∧ v = .slice A' k c' ∧ Hid (UhI w wr r q ni v k)) (fun _ _ i _ => r.length + 1 - (intOf i).toNat)
        case atStart => exact ⟨1, 0, 0, none, 0, by omega, rfl, rfl, rfl, hide ⟨Below.refl _ _, rfl, by simpa [un2, bc] using World.ownsRow_nil _ _ _ _, by simp, by omega, fun h => by omega⟩⟩
        case round =>
          obtain ⟨q, k, ni, A', c', ⟨hq1, hq2⟩, rfl, rfl, rfl, HI⟩ := hrel
          by_cases hlt : q < r.length + 1
          · have hqr : q - 1 < r.length := by omega
            obtain ⟨c, hc⟩ : ∃ c : Nat, (r[q - 1]'hqr).toNat = c := ⟨_, rfl⟩
            have hc256 : c < 256 := by rw [← hc]; exact UInt8.toNat_lt _
            have hsz : q < (⟨(120 :: r).toArray⟩ : ByteArray).size := by rw [str_size, List.length_cons]; omega
            have hcb : ((⟨(120 :: r).toArray⟩ : ByteArray)[q]'hsz).toNat = c := by
              have e : (⟨(120 :: r).toArray⟩ : ByteArray)[q]'hsz = r[q - 1]'hqr := by
                show (120 :: r)[q]'(by simp; omega) = r[q - 1]'hqr
                rw [List.getElem_cons, dif_neg (by omega)]
              rw [e, hc]
            have hix := ixd_ref (r[q - 1]'hqr)
            rw [hc] at hix
            have hltI : (q : Int) < (r.length : Int) + 1 := by omega
            have hn0 := HI.out.n0
            obtain ⟨T, hT⟩ : ∃ T : Int, ni.tmod 16 = T := ⟨_, rfl⟩
            have hT2 : T = ni % 16 := by rw [← hT, Int.tmod_eq_emod_of_nonneg (by omega)]
            have HN0 := hide hn0
            have HT2 := hide hT2
            have hT3 : 0 ≤ T ∧ T < 16 := by omega
            have HCL := hide hc
            have HQ := hide hq1
            have HQ2 := hide hq2
            have HQR := hide hqr
            have HLT := hide hlt
            clear hn0 hT2 hc hq1 hq2 hlt
            by_cases hA : 48 ≤ c ∧ c ≤ 57
            · obtain ⟨D, hD⟩ : ∃ D : Int, (c : Int) - 48 = D := ⟨_, rfl⟩
              have hD2 : 0 ≤ D ∧ D ≤ 9 := by omega
              have hwd : IntKind.u8.wrap D = D := by rw [IntKind.wrap_u8]; omega
              have a1 : (48 : Int) ≤ c := by omega
              have a2 : (c : Int) ≤ 57 := by omega
              have a3 : ¬ (97 : Int) ≤ c := by omega
              rw [if_pos hA, hD] at hix
              have hdn : ¬ D < 0 := by omega
              have HIX := hide hix
              have HD2 := hide hD2
              obtain ⟨M, hM⟩ : ∃ M : Int, T * 16 + D = M := ⟨_, rfl⟩
              have hM2 : 0 ≤ M ∧ M < 256 := by omega
              have hMe : M = ni % 16 * 16 + ixd (r[q - 1]'hqr) := by rw [hix, ← hM, HT2.out]
              have HME := hide hMe
              clear hix hD2 hMe hA
              by_cases hpar : q % 2 = 1
              · have hp : (q : Int).tmod 2 = 1 := by rw [Int.tmod_eq_emod_of_nonneg (by omega)]; omega
                have HI2 := hide (HI.out.odd hqr HQ.out (by rw [HIX.out]; exact HD2.out.1) hpar)
                rw [← HME.out] at HI2
                clear hpar
                go_wp2_with fail
                go_roundw
                case rel => exact ⟨q + 1, k, M, A', c', by have := HLT.out; omega, by go_num, rfl, rfl, HI2⟩
                case measure => have := HLT.out; simp [intOf]; omega
              · have hp : (q : Int).tmod 2 = 0 := by rw [Int.tmod_eq_emod_of_nonneg (by omega)]; omega
                have hwm : IntKind.u8.wrap M = M := by rw [IntKind.wrap_u8]; omega
                have HEV := hide (fun v' w' hb ho => HI.out.even (w' := w') (v' := v') (Y := M) hqr (by have := HQ.out; omega) (by rw [HIX.out]; exact HD2.out.1) (by omega) (by rw [← HME.out]; omega) hb ho)
                rw [← HME.out] at HEV
                have hb7 : Below wr.heap.size wr (wr.alloc (Obj.cells #[.int .u8 M] T8)) := (Below.refl _ _).alloc (Nat.le_refl _) _
                have HA6 := hide (reads_one wr T8 (.int .u8 M))
                have HO7 := hide (own_later HI.out.row hb7)
                have HB7 := hide (HI.out.b.trans (hb7.mono HI.out.b.size))
                have HKB := hide (show k ≤ 600000000 by have := HI.out.kk; have := HQ2.out; omega)
                clear hpar hb7
                go_wp2_with (at_builtin; (refine wpList_append_any _ rfl (.tmp 64) (.tmp 67) _ rfl w.heap.size T8 i0 _ 1 1 Tryd.underlying69 HI0.out hz0 hz1 hz2 rfl (by omega) (.slice A' k c') k (bc (un2 (r.take (2 * k))).1) rfl HO7.out (wr.heap.size + 1) (some ⟨wr.heap.size, 0, none⟩) 1 1 [.int .u8 M] rfl HA6.out (by intro u hu; simp at hu; subst hu; rfl) (by have := HKB.out; unfold maxLen; omega) (by have := HKB.out; omega) HB7.out.size ?_); intro v' w8 ho hgr _; obtain ⟨A9, c9, rfl⟩ := row_form ho; have HR9 := hide (HEV.out _ _ (HB7.out.grown hgr HB7.out.size (fun g hg => (HO7.out.lt g hg).1)) ho); clear ho hgr)
                go_roundw
                case rel => exact ⟨q + 1, k + 1, M, A9, c9, by have := HLT.out; omega, by go_num, rfl, rfl, HR9⟩
                case measure => have := HLT.out; simp [intOf]; omega
            · rw [if_neg hA] at hix
              by_cases hB : 97 ≤ c ∧ c ≤ 102
              · obtain ⟨D1, hD1⟩ : ∃ D : Int, (c : Int) - 97 = D := ⟨_, rfl⟩
                have hD3 : 0 ≤ D1 ∧ D1 ≤ 5 := by omega
                have hwd : IntKind.u8.wrap D1 = D1 := by rw [IntKind.wrap_u8]; omega
                have a1 : (48 : Int) ≤ c := by omega
                have a2 : ¬ (c : Int) ≤ 57 := by omega
                have a3 : (97 : Int) ≤ c := by omega
                have a4 : (c : Int) ≤ 102 := by omega
                rw [if_pos hB, hD1] at hix
                obtain ⟨D, hD⟩ : ∃ D : Int, D1 + 10 = D := ⟨_, rfl⟩
                have hD2 : 0 ≤ D ∧ D ≤ 15 := by omega
                rw [hD] at hix
                have hdn : ¬ D < 0 := by omega
                have HIX := hide hix
                have HD2 := hide hD2
                obtain ⟨M, hM⟩ : ∃ M : Int, T * 16 + D = M := ⟨_, rfl⟩
                have hM2 : 0 ≤ M ∧ M < 256 := by omega
                have hMe : M = ni % 16 * 16 + ixd (r[q - 1]'hqr) := by rw [hix, ← hM, HT2.out]
                have HME := hide hMe
                clear hix hD2 hMe hA
                by_cases hpar : q % 2 = 1
                · have hp : (q : Int).tmod 2 = 1 := by rw [Int.tmod_eq_emod_of_nonneg (by omega)]; omega
                  have HI2 := hide (HI.out.odd hqr HQ.out (by rw [HIX.out]; exact HD2.out.1) hpar)
                  rw [← HME.out] at HI2
                  clear hpar
                  go_wp2_with fail
                  go_roundw
                  case rel => exact ⟨q + 1, k, M, A', c', by have := HLT.out; omega, by go_num, rfl, rfl, HI2⟩
                  case measure => have := HLT.out; simp [intOf]; omega
                · have hp : (q : Int).tmod 2 = 0 := by rw [Int.tmod_eq_emod_of_nonneg (by omega)]; omega
                  have hwm : IntKind.u8.wrap M = M := by rw [IntKind.wrap_u8]; omega
                  have HEV := hide (fun v' w' hb ho => HI.out.even (w' := w') (v' := v') (Y := M) hqr (by have := HQ.out; omega) (by rw [HIX.out]; exact HD2.out.1) (by omega) (by rw [← HME.out]; omega) hb ho)
                  rw [← HME.out] at HEV
                  have hb7 : Below wr.heap.size wr (wr.alloc (Obj.cells #[.int .u8 M] T8)) := (Below.refl _ _).alloc (Nat.le_refl _) _
                  have HA6 := hide (reads_one wr T8 (.int .u8 M))
                  have HO7 := hide (own_later HI.out.row hb7)
                  have HB7 := hide (HI.out.b.trans (hb7.mono HI.out.b.size))
                  have HKB := hide (show k ≤ 600000000 by have := HI.out.kk; have := HQ2.out; omega)
                  clear hpar hb7
                  go_wp2_with (at_builtin; (refine wpList_append_any _ rfl (.tmp 64) (.tmp 67) _ rfl w.heap.size T8 i0 _ 1 1 Tryd.underlying69 HI0.out hz0 hz1 hz2 rfl (by omega) (.slice A' k c') k (bc (un2 (r.take (2 * k))).1) rfl HO7.out (wr.heap.size + 1) (some ⟨wr.heap.size, 0, none⟩) 1 1 [.int .u8 M] rfl HA6.out (by intro u hu; simp at hu; subst hu; rfl) (by have := HKB.out; unfold maxLen; omega) (by have := HKB.out; omega) HB7.out.size ?_); intro v' w8 ho hgr _; obtain ⟨A9, c9, rfl⟩ := row_form ho; have HR9 := hide (HEV.out _ _ (HB7.out.grown hgr HB7.out.size (fun g hg => (HO7.out.lt g hg).1)) ho); clear ho hgr)
                  go_roundw
                  case rel => exact ⟨q + 1, k + 1, M, A9, c9, by have := HLT.out; omega, by go_num, rfl, rfl, HR9⟩
                  case measure => have := HLT.out; simp [intOf]; omega
              · rw [if_neg hB] at hix
                have HE := hide (HI.out.bad HRL.out hqr (by omega))
                have hcs : (¬ (48 : Int) ≤ c ∧ ¬ (97 : Int) ≤ c) ∨ ((48 : Int) ≤ c ∧ ¬ (c : Int) ≤ 57 ∧ ¬ (97 : Int) ≤ c) ∨ ((48 : Int) ≤ c ∧ ¬ (c : Int) ≤ 57 ∧ (97 : Int) ≤ c ∧ ¬ (c : Int) ≤ 102) := by omega
                clear hA hB hix
                rcases hcs with ⟨a1, a2⟩ | ⟨a1, a2, a3⟩ | ⟨a1, a2, a3, a4⟩
                all_goals
                  go_wp2_with fail
                  refine bodyPost_ret (v := .tuple #[str [], .bool false]) (by simp [results, Tryd.results43, go_sem]) rfl ⟨⟨[], false, rfl, by rw [HE.out]; rfl, fun l h => by rw [HE.out] at h; cases h⟩, HI.out.b⟩
          · obtain ⟨g1, g2, g3⟩ := HI.out.good HRL.out (by omega)
            have HG1 := hide g1
            have hcv := bc_string g2 g3
            have hltI : ¬ (q : Int) < (r.length : Int) + 1 := by omega
            clear g1 g2 g3 hq1 hq2 hlt
            go_wp2_with fail
            refine bodyPost_ret (v := .tuple #[str (un2 r).1, .bool true]) (by simp [results, Tryd.results43, go_sem]) rfl ⟨⟨(un2 r).1, true, rfl, by rw [HG1.out]; rfl, fun l h => by rw [HG1.out] at h; injection h⟩, HI.out.b⟩
      · have HE := hide (unhex_even (x := a :: r) (.inr (by simpa using ha)))
        have hcb : ((⟨(a :: r).toArray⟩ : ByteArray)[0]'(by rw [str_size]; simp)).toNat = a.toNat := rfl
        have ha2 : ¬ (a.toNat : Int) = 120 := fun e => ha (UInt8.toNat_inj.1 (show a.toNat = 120 by omega))
        clear hev hrl ha
        go_enter Tryd.func43, Tryd.ntmps43
        go_wp2_with fail
        refine bodyPost_ret (v := .tuple #[str [], .bool false]) (by simp [results, Tryd.results43, go_sem]) rfl ⟨⟨[], false, rfl, by rw [HE.out]; rfl, fun l h => by rw [HE.out] at h; cases h⟩, Below.refl _ _⟩
end Go.Proofs.YtcdhngppcpgojaaDoor
