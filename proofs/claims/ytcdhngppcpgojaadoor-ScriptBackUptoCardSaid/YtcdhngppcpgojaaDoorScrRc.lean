/- The scripts' reader: the mask. -/
import Derived.Test.YtcdhngppcpgojaaDoorScrRb
import Derived.Lib.ParseIntBCases
namespace Go.Proofs.YtcdhngppcpgojaaDoor
set_option linter.unusedSimpArgs false
set_option linter.unusedVariables false
open Go.RowKit
def numU (x : List UInt8) : Option Nat := match Lib.parseUintB 64 x with
  | .ok v => if Lib.decDigits v = x then some v else none
  | _ => none
def valU (x : List UInt8) : Nat := match Lib.parseUintB 64 x with
  | .ok v => v
  | .range => 18446744073709551615
  | _ => 0
theorem numU_val {x : List UInt8} {v : Nat} (h : numU x = some v) : valU x = v := by
  unfold numU at h
  unfold valU
  rcases hu : Lib.parseUintB 64 x with u | _ | _
  · skip
    rw [hu] at h
    simp only at h ⊢
    split at h
    · injection h
    · cases h
  · rw [hu] at h; cases h
  · rw [hu] at h; cases h
theorem numU_ok {x : List UInt8} {v : Nat} (h : Lib.parseUintB 64 x = .ok v) : valU x = v ∧ (numU x).isNone = !decide (Lib.decDigits v = x) := by
  unfold valU numU
  rw [h]
  refine ⟨rfl, ?_⟩
  by_cases e : Lib.decDigits v = x
  · simp [e]
  · simp [e]
theorem pu_bound {x : List UInt8} {v : Nat} (h : Lib.parseUintB 64 x = .ok v) : v < 18446744073709551616 := Nat.lt_of_le_of_lt (Lib.parseUintB_le h) (by decide)
theorem pu_call (w : World) (base : Nat) (ht : Wt base w) (x : List UInt8) (hl : x.length ≤ 600000000) :
    Calls Tryd.prog 55 #[str x] w fun e w' => ∃ er, e = .returned (.tuple #[.int .u64 (valU x), er]) ∧ ((∃ v, Lib.parseUintB 64 x = .ok v ∧ er = .nilIface) ∨ (numU x = none ∧ ∃ q, er = .iface 135 q)) ∧ Below w.heap.size w w' := by
  have hx : (⟨x.toArray⟩ : ByteArray).data.toList = x := by simp
  have hs : (⟨x.toArray⟩ : ByteArray).size = x.length := str_size x
  rcases h : Lib.parseUintB 64 x with v | _ | _
  · skip
    have HC := hide (Tryd.strconv_ParseUint_10_at64_ok ⟨x.toArray⟩ (by rw [hs]; omega) v (by rw [hx]; exact h) w)
    have HV := hide (numU_ok h).1
    clear h
    go_enter Tryd.func55, Tryd.ntmps55
    go_wp2_with (go_at_call 56; (refine HC.out.mono ?_); rintro e w1 ⟨rfl, hw⟩; have HB := hide (below_bytes (s := ⟨#[]⟩) (hw.imp id (fun h => ⟨_, h⟩))); clear hw)
    refine bodyPost_ret (v := .tuple #[.int .u64 v, .nilIface]) (by simp [results, Tryd.results55, go_sem]) rfl ⟨.nilIface, by rw [HV.out], .inl ⟨v, rfl, rfl⟩, HB.out⟩
  · skip
    obtain ⟨tp, p, hv⟩ := ht.e1
    have HC := hide (Tryd.strconv_ParseUint_10_at64_syntax_var ⟨x.toArray⟩ (by rw [hs]; omega) (by rw [hx]; exact h) tp p w hv)
    have HV := hide (show valU x = 0 by unfold valU; rw [h])
    have HQ := hide (show numU x = none by unfold numU; rw [h])
    clear h
    go_enter Tryd.func55, Tryd.ntmps55
    go_wp2_with (go_at_call 56; (refine HC.out.mono ?_); rintro e w1 ⟨N, rfl, _, _, hb⟩; have HB := hide hb; clear hb)
    refine bodyPost_ret (v := .tuple #[.int .u64 0, .iface 135 (.pointer (some ⟨N, 0, none⟩))]) (by simp [results, Tryd.results55, go_sem]) rfl ⟨_, by rw [HV.out]; rfl, .inr ⟨HQ.out, _, rfl⟩, HB.out⟩
  · skip
    obtain ⟨tp, p, hv⟩ := ht.e2
    have HC := hide (Tryd.strconv_ParseUint_10_at64_range_var ⟨x.toArray⟩ (by rw [hs]; omega) (by rw [hx]; exact h) tp p w hv)
    have HV := hide (show valU x = 18446744073709551615 by unfold valU; rw [h])
    have HQ := hide (show numU x = none by unfold numU; rw [h])
    clear h
    go_enter Tryd.func55, Tryd.ntmps55
    go_wp2_with (go_at_call 56; (refine HC.out.mono ?_); rintro e w1 ⟨N, rfl, _, _, hb⟩; have HB := hide hb; clear hb)
    refine bodyPost_ret (v := .tuple #[.int .u64 18446744073709551615, .iface 135 (.pointer (some ⟨N, 0, none⟩))]) (by simp [results, Tryd.results55, go_sem]) rfl ⟨_, by rw [HV.out]; rfl, .inr ⟨HQ.out, _, rfl⟩, HB.out⟩
theorem fmt_call (v : Nat) (w : World) (hv : v < 18446744073709551616) (ht : Tab w) :
    Calls Tryd.prog 57 #[.int .u64 v] w fun e w' => e = .returned (str (Lib.decDigits v)) ∧ Below w.heap.size w w' := by
  have HC := hide (fmtu_any v w hv ht)
  clear hv ht
  go_enter Tryd.func57, Tryd.ntmps57
  go_wp2_with (go_at_call 30; (refine HC.out.mono ?_); rintro e w1 ⟨rfl, hb⟩; have HB := hide hb; clear hb)
  go_ret
  exact ⟨rfl, HB.out⟩
set_option maxRecDepth 100000 in
set_option maxHeartbeats 1000000 in
theorem number_u (w : World) (base b : Nat) (ws : List (List UInt8)) (bad : Bool) (h : Rd w b ws bad) (ht : Wt base w) (hb : base ≤ b) (hl : (ws.headD []).length ≤ 600000000) :
    Calls Tryd.prog 54 #[.pointer (some ⟨b, 0, none⟩), .func (Fn.func 55) #[] #[], .func (Fn.func 57) #[] #[]] w fun e w' => e = .returned (.int .u64 (valU (ws.headD []))) ∧ NxP w b ws.tail (bad || (numU (ws.headD [])).isNone) w' := by
  have HN := hide (next_any w b ws bad h)
  obtain ⟨x, hx⟩ : ∃ x, ws.headD [] = x := ⟨_, rfl⟩
  have hem : ∀ v, Lib.parseUintB 64 x = .ok v → ws.isEmpty = false := fun v hv => by
    cases ws with
    | nil => rw [show x = [] from hx.symm] at hv; cases hv
    | cons y ws => rfl
  rw [hx] at HN hl ⊢
  have HT := hide ht
  have HEM := hide hem
  obtain ⟨b1, hb1⟩ : ∃ b1, (bad || ws.isEmpty) = b1 := ⟨_, rfl⟩
  rw [hb1] at HN
  have HB1 := hide hb1
  clear h ht hem hb1
  go_enter Tryd.func54, Tryd.ntmps54
  go_upto_region 2 with (go_at_call 35; (refine HN.out.mono ?_); rintro e w1 ⟨rfl, hn⟩; have HN1 := hide hn; have HT1 := hide (HT.out.below (gb_base hn.2 hb HT.out.bw)); clear hn)
  go_upto_region 3 with (go_at_call 55; (refine (pu_call w1 base HT1.out x hl).mono ?_); rintro e w2 ⟨er, rfl, hq, hb2⟩; have HQ := hide hq; have HN2 := hide (HN1.out.below hb2); have HT2 := hide (HT1.out.below (hb2.mono HT1.out.bw)); clear hb2 hq)
  obtain ⟨A, c, k2, q2, z2⟩ := HN2.out.cells
  rcases HQ.out with ⟨v, hv, rfl⟩ | ⟨hq, q, rfl⟩
  · have hbe : b1 = bad := by rw [← HB1.out, HEM.out v hv, Bool.or_false]
    subst hbe
    have HV := hide (numU_ok hv)
    have HBd := hide (pu_bound hv)
    rw [HV.out.1]
    clear hv
    cases b1
    · have HI := hide (fmt_call v w2 HBd.out HT2.out.t)
      obtain ⟨Y, hY⟩ : ∃ Y, Lib.decDigits v = Y := ⟨_, rfl⟩
      rw [hY] at HI HV
      clear hY
      go_wp2_with (go_at_call 57; (refine HI.out.mono ?_); rintro e w3 ⟨rfl, hb3⟩; have HN3 := hide (HN2.out.below hb3); clear hb3 k2 q2 z2; obtain ⟨A, c, k3, q3, z3⟩ := HN3.out.cells)
      go_ret
      refine ⟨by rw [HV.out.1]; rfl, ?_⟩
      have e : (false || (numU x).isNone) = !(Y == x) := by
        rw [HV.out.2, Bool.false_or]
        by_cases hyx : Y = x
        · simp [hyx]
        · simp [hyx]
      rw [e]
      exact HN3.out.set _
    · go_wp2
      go_ret
      refine ⟨by rw [HV.out.1]; rfl, ?_⟩
      exact HN2.out.set true
  · cases b1
    · go_wp2
      go_ret
      refine ⟨rfl, ?_⟩
      have := HN2.out.set true
      rw [show (bad || (numU x).isNone) = true by rw [hq]; simp]
      exact this
    · go_wp2
      go_ret
      refine ⟨rfl, ?_⟩
      have := HN2.out.set true
      rw [show (bad || (numU x).isNone) = true by rw [hq]; simp]
      exact this
set_option maxRecDepth 100000 in
set_option maxHeartbeats 1000000 in
theorem mask_any (w : World) (base b : Nat) (ws : List (List UInt8)) (bad : Bool) (h : Rd w b ws bad) (ht : Wt base w) (hb : base ≤ b) (hl : (ws.headD []).length ≤ 600000000) :
    Calls Tryd.prog 37 #[.pointer (some ⟨b, 0, none⟩)] w fun e w' => e = .returned (.int .u64 (valU (ws.headD []))) ∧ NxP w b ws.tail (bad || (numU (ws.headD [])).isNone) w' := by
  have HN := hide (number_u w base b ws bad h ht hb hl)
  obtain ⟨x, hx⟩ : ∃ x, ws.headD [] = x := ⟨_, rfl⟩
  rw [hx] at HN ⊢
  clear h ht hl hx
  go_enter Tryd.func37, Tryd.ntmps37
  go_wp2_with (go_at_call 54; (refine HN.out.mono ?_); rintro e w1 ⟨rfl, hn⟩; have HN2 := hide hn; clear hn)
  go_ret
  exact ⟨rfl, HN2.out⟩
end Go.Proofs.YtcdhngppcpgojaaDoor
